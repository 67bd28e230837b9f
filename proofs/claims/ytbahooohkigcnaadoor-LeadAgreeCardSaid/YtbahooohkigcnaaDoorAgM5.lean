/- The walk of LeadAgree. Conditions: what lies, lies below; the tables lie. (Printed by gen_agree.py.) -/
import Derived.Test.YtbahooohkigcnaaDoorAgM3
import Derived.Test.YtbahooohkigcnaaDoorAgM4
namespace Go.Proofs.YtbahooohkigcnaaDoor
set_option maxRecDepth 20000
open Go.RowKit T Ag
set_option linter.unusedSimpArgs false
set_option linter.unusedVariables false

set_option maxHeartbeats 6400000 in
theorem clearn2 (B gc n i k : Nat) (A : Nat → Ac) (H : Nat → Nat) (L : Nat → Ld) (S : Nat → Value) (X : Nat → List Cm) (x : Cm) (w : World) (h : CrewAt w B gc n A H L S X k) (hi : i < 5) (hfa : flatC (A i).c) (hlen : (X i).length ≤ 1000) (hT : ∀ z, Below B w z → Tabs z) (hls : (A i).learns (A i).sl = true) :
    Calls Tryd.prog 60 #[.pointer (some ⟨gc, 0, none⟩), .int .i64 (i : Int), .agg x.cells.toArray] w fun e w' => e = .returned (.bool true) ∧ (∃ v, CrewAt w' B gc n (Px.upd A i ((A i).learn (A i).sl)) H L (updF S i v) (updF X i (X i ++ [x])) k) ∧ Below B w w' ∧ OgF w w' (fun b => b = gc ∨ (S i).ownBlock = some b) := by
  obtain ⟨i1, hi1, hz10, hz11, hz12⟩ := info_parts infoCm3
  have HT := Lib.hid hT
  have HF := Lib.hid hfa
  have HC := Lib.hid h
  have hlg : gc < w.heap.size := (Array.getElem?_eq_some_iff.1 h.blk).1
  have hBg : B ≤ gc := h.gB
  have hB : B ≤ w.heap.size := by omega
  have hux := h.xs i hi
  obtain ⟨A0, c0, hS, hc0, _, _⟩ := ownShape hux
  rw [hS] at hux
  have HS := Lib.hid hS
  have HMV : Hid (∀ (w' : World) (v : Value) (y : List Cm) (A' : Nat → Ac), OgF w w' (fun b => b = gc ∨ (Value.slice A0 (X i).length c0).ownBlock = some b) → w'.heap[gc]? = some (.cells (crC n A' (fun j => pv (H j)) (updF S i v) k).toArray 122 (0, 0)) → w'.ownsRow B 37 10 v y.length (flat Cm.cells y) → (∀ g, v.ownBlock = some g → (Value.slice A0 (X i).length c0).ownBlock = some g ∨ w.heap.size ≤ g) → CrewAt w' B gc n A' H L (updF S i v) (updF X i y) k) := fun w' v y A' f b x1 x2 => h.moveX hi (by rw [hS]; exact f) b x1 (by rw [hS]; exact x2)
  have HLC := Lib.hid (fun z (hz : Below B w z) => c_learn (A i) (A i).sl z z.heap.size (Nat.le_refl _) (okFlat HF.out) (HT.out z hz))
  rw [hls] at HLC
  have Zc0 := h.blk
  have hPU : ∀ a : Ac, Hid (putAt (crC n A (fun j => pv (H j)) S k) (1 + i * 16) a.cells = crC n (Px.upd A i a) (fun j => pv (H j)) S k) := fun a => crPutA n A _ S k i hi a
  have HRA := Lib.hid (crA n A (fun j => pv (H j)) S k i hi)
  clear hT hfa h hls hS
  generalize hAi : A i = a at HLC HRA HF ⊢
  clear hAi
  generalize hXi : X i = xi at hux hlen HMV HS ⊢
  clear hXi
  obtain ⟨w0, hw0⟩ : ∃ w0, w0 = w.alloc (.cells x.cells.toArray 37) := ⟨_, rfl⟩
  have ff : OgF w w0 (fun b => b = gc ∨ (Value.slice A0 xi.length c0).ownBlock = some b) := by rw [hw0]; exact ogAlloc (OgF.refl _ _) _
  have ee : Below B w w0 := by rw [hw0]; exact ((Below.refl _ _).alloc (Nat.le_refl _) _).mono hB
  have Zc : w0.heap[gc]? = some (.cells (crC n A (fun j => pv (H j)) S k).toArray 122) := by rw [hw0]; exact hpA Zc0 _
  have Zx : w0.heap[w.heap.size]? = some (.cells x.cells.toArray 37) := by rw [hw0]; exact hpN _ _ rfl
  have hu : w0.ownsRow B 37 10 (.slice A0 xi.length c0) xi.length (flat Cm.cells xi) := by rw [hw0]; exact hux.alloc _
  have hi0 : (0 : Int) ≤ (i : Int) := by omega
  have hi5 : (i : Int) < 5 := by omega
  have hnex : (Value.slice A0 xi.length c0).ownBlock ≠ some w.heap.size := fun e_ => by have := (hux.lt _ e_).2; omega
  clear hux
  go_enter Tryd.func60, Tryd.ntmps60
  go_upto_region 1 with fail
  change Code.wp _ _ _ _ (w.alloc (.cells x.cells.toArray 37))
  rw [← hw0]
  clear hw0 Zc0
  have ne_hu_Zx := hnex
  have Zc : w0.drew.heap[gc]? = some (.cells (crC n A (fun j => pv (H j)) S k).toArray 122) := Zc
  have Zx : w0.drew.heap[w.heap.size]? = some (.cells x.cells.toArray 37) := Zx
  have hu := World.ownsRow.drew hu
  have ee := belowDrewS ee
  have ff := ogDrew ff
  refine wp_region_held_drew (S := fun z' => z'.rangeAt gc (1 + i * 16) a.cells) (by kernel_rfl) (rowMid Zc (1 + i * 16) HRA.out) (fun hH => ?_)
  clear hH
  generalize w0.drew = z1 at Zc Zx hu ee ff ⊢
  refine wpAnyH_take (i := 0) (v := .pointer (some ⟨gc, 0, none⟩)) rfl (by kernel_rfl) (by kernel_rfl) (by kernel_rfl) (fun _ _ _ h => h) (Or.inl ⟨by rfl, fun w_ hS_ => by (first | (go_simp; done) | (go_simp; rfl))⟩) (rowMid Zc (1 + i * 16) HRA.out) ?_
  try simp only [Act.put, List.getElem_toArray, List.getElem_cons_zero, List.getElem_cons_succ, List.setIfInBounds_toArray, List.set_cons_zero, List.set_cons_succ]
  refine wpAnyH_take (i := 1) (v := .int .i64 (i : Int)) rfl (by kernel_rfl) (by kernel_rfl) (by kernel_rfl) (fun _ _ _ h => h) (Or.inl ⟨by rfl, fun w_ hS_ => by (first | (go_simp; done) | (go_simp; rfl))⟩) (rowMid Zc (1 + i * 16) HRA.out) ?_
  try simp only [Act.put, List.getElem_toArray, List.getElem_cons_zero, List.getElem_cons_succ, List.setIfInBounds_toArray, List.set_cons_zero, List.set_cons_succ]
  refine wpAnyH_take (i := 2) (v := .pointer (some ⟨gc, 0, none⟩)) rfl (by kernel_rfl) (by kernel_rfl) (by kernel_rfl) (fun _ _ _ h => h) (Or.inl ⟨by rfl, fun w_ hS_ => by (first | (go_simp; done) | (go_simp; rfl))⟩) (rowMid Zc (1 + i * 16) HRA.out) ?_
  try simp only [Act.put, List.getElem_toArray, List.getElem_cons_zero, List.getElem_cons_succ, List.setIfInBounds_toArray, List.set_cons_zero, List.set_cons_succ]
  refine wpAnyH_take (i := 3) (v := .pointer (some ⟨gc, 1, none⟩)) rfl (by kernel_rfl) (by kernel_rfl) (by kernel_rfl) (fun _ _ _ h => h) (Or.inl ⟨by rfl, fun w_ hS_ => by (first | (go_simp; done) | (go_simp; rfl))⟩) (rowMid Zc (1 + i * 16) HRA.out) ?_
  try simp only [Act.put, List.getElem_toArray, List.getElem_cons_zero, List.getElem_cons_succ, List.setIfInBounds_toArray, List.set_cons_zero, List.set_cons_succ]
  refine wpAnyH_take (i := 4) (v := .pointer (some ⟨gc, 1 + i * 16, none⟩)) rfl (by kernel_rfl) (by kernel_rfl) (by kernel_rfl) (fun _ _ _ h => h) (Or.inl ⟨by rfl, fun w_ hS_ => by (first | (go_simp; done) | (go_simp; rfl))⟩) (rowMid Zc (1 + i * 16) HRA.out) ?_
  try simp only [Act.put, List.getElem_toArray, List.getElem_cons_zero, List.getElem_cons_succ, List.setIfInBounds_toArray, List.set_cons_zero, List.set_cons_succ]
  refine wpAnyH_take (i := 5) (v := .agg (a.cells).toArray) rfl (by kernel_rfl) (by kernel_rfl) (by kernel_rfl) (fun _ _ _ h => h) (yieldsIf_load_mid (by rfl) 39 _ rfl (gc) (1 + i * 16) rfl (a.cells) _ (fun _ h => h) Tryd.underlying39 rfl sizeAc) (rowMid Zc (1 + i * 16) HRA.out) ?_
  try simp only [Act.put, List.getElem_toArray, List.getElem_cons_zero, List.getElem_cons_succ, List.setIfInBounds_toArray, List.set_cons_zero, List.set_cons_succ]
  refine wpAnyH_take (i := 6) (v := .pointer (some ⟨gc, 0, none⟩)) rfl (by kernel_rfl) (by kernel_rfl) (by kernel_rfl) (fun _ _ _ h => h) (Or.inl ⟨by rfl, fun w_ hS_ => by (first | (go_simp; done) | (go_simp; rfl))⟩) (rowMid Zc (1 + i * 16) HRA.out) ?_
  try simp only [Act.put, List.getElem_toArray, List.getElem_cons_zero, List.getElem_cons_succ, List.setIfInBounds_toArray, List.set_cons_zero, List.set_cons_succ]
  refine wpAnyH_take (i := 7) (v := .int .i64 (i : Int)) rfl (by kernel_rfl) (by kernel_rfl) (by kernel_rfl) (fun _ _ _ h => h) (Or.inl ⟨by rfl, fun w_ hS_ => by (first | (go_simp; done) | (go_simp; rfl))⟩) (rowMid Zc (1 + i * 16) HRA.out) ?_
  try simp only [Act.put, List.getElem_toArray, List.getElem_cons_zero, List.getElem_cons_succ, List.setIfInBounds_toArray, List.set_cons_zero, List.set_cons_succ]
  refine wpAnyH_take (i := 8) (v := .pointer (some ⟨gc, 0, none⟩)) rfl (by kernel_rfl) (by kernel_rfl) (by kernel_rfl) (fun _ _ _ h => h) (Or.inl ⟨by rfl, fun w_ hS_ => by (first | (go_simp; done) | (go_simp; rfl))⟩) (rowMid Zc (1 + i * 16) HRA.out) ?_
  try simp only [Act.put, List.getElem_toArray, List.getElem_cons_zero, List.getElem_cons_succ, List.setIfInBounds_toArray, List.set_cons_zero, List.set_cons_succ]
  refine wpAnyH_take (i := 9) (v := .pointer (some ⟨gc, 1, none⟩)) rfl (by kernel_rfl) (by kernel_rfl) (by kernel_rfl) (fun _ _ _ h => h) (Or.inl ⟨by rfl, fun w_ hS_ => by (first | (go_simp; done) | (go_simp; rfl))⟩) (rowMid Zc (1 + i * 16) HRA.out) ?_
  try simp only [Act.put, List.getElem_toArray, List.getElem_cons_zero, List.getElem_cons_succ, List.setIfInBounds_toArray, List.set_cons_zero, List.set_cons_succ]
  refine wpAnyH_take (i := 10) (v := .pointer (some ⟨gc, 1 + i * 16, none⟩)) rfl (by kernel_rfl) (by kernel_rfl) (by kernel_rfl) (fun _ _ _ h => h) (Or.inl ⟨by rfl, fun w_ hS_ => by (first | (go_simp; done) | (go_simp; rfl))⟩) (rowMid Zc (1 + i * 16) HRA.out) ?_
  try simp only [Act.put, List.getElem_toArray, List.getElem_cons_zero, List.getElem_cons_succ, List.setIfInBounds_toArray, List.set_cons_zero, List.set_cons_succ]
  refine wpAnyH_take (i := 11) (v := .pointer (some ⟨gc, 1 + i * 16 + 2, none⟩)) rfl (by kernel_rfl) (by kernel_rfl) (by kernel_rfl) (fun _ _ _ h => h) (Or.inl ⟨by rfl, fun w_ hS_ => by (first | (go_simp; done) | (go_simp; rfl))⟩) (rowMid Zc (1 + i * 16) HRA.out) ?_
  try simp only [Act.put, List.getElem_toArray, List.getElem_cons_zero, List.getElem_cons_succ, List.setIfInBounds_toArray, List.set_cons_zero, List.set_cons_succ]
  refine wpAnyH_take (i := 12) (v := .int .i64 a.sl) rfl (by kernel_rfl) (by kernel_rfl) (by kernel_rfl) (fun _ _ _ h => h) (Or.inl ⟨by rfl, fun w_ hS_ => by (have c_ := rangeCell hS_ 2 (v := .int .i64 a.sl) rfl; first | (go_simp; done) | (go_simp; rfl))⟩) (rowMid Zc (1 + i * 16) HRA.out) ?_
  try simp only [Act.put, List.getElem_toArray, List.getElem_cons_zero, List.getElem_cons_succ, List.setIfInBounds_toArray, List.set_cons_zero, List.set_cons_succ]
  refine wpAnyH_ready (rs := [13, 17]) (by kernel_rfl) (by simp) ?_
  refine AllReadyH.cons rfl (fun K hK => ?_) (AllReadyH.cons rfl (fun K hK => ?_) AllReadyH.nil)
  · rw [if_pos (by rfl)]
    go_simp
    go_wp2_with (go_at_call 68; refine (HLC.out z1 ee).mono ?_; rintro e z2 ⟨rfl, t⟩)
    have Zc := hpB Zc t
    have Zx := hpB Zx t
    have hu := ownBelow hu t
    have ee := ee.trans (t.mono (Nat.le_trans hB ee.size))
    have ff := ogBelow ff t
    clear t
    refine hK.out _ _ (rowMid Zc (1 + i * 16) HRA.out) (fun hH => ?_)
    clear hK K hH
    try simp only [Act.put, List.getElem_toArray, List.getElem_cons_zero, List.getElem_cons_succ, List.setIfInBounds_toArray, List.set_cons_zero, List.set_cons_succ]
    refine wpAnyH_take (i := 14) (v := .tuple #[.agg (a.learn a.sl).cells.toArray, .bool true]) rfl (by kernel_rfl) (by kernel_rfl) (by kernel_rfl) (fun _ _ _ h => h) (Or.inl ⟨by rfl, fun w_ hS_ => by (first | (go_simp; done) | (go_simp; rfl))⟩) (rowMid Zc (1 + i * 16) HRA.out) ?_
    try simp only [Act.put, List.getElem_toArray, List.getElem_cons_zero, List.getElem_cons_succ, List.setIfInBounds_toArray, List.set_cons_zero, List.set_cons_succ]
    refine wpAnyH_take (i := 15) (v := .agg (a.learn a.sl).cells.toArray) rfl (by kernel_rfl) (by kernel_rfl) (by kernel_rfl) (fun _ _ _ h => h) (Or.inl ⟨by rfl, fun w_ hS_ => by (first | (go_simp; done) | (go_simp; rfl))⟩) (rowMid Zc (1 + i * 16) HRA.out) ?_
    try simp only [Act.put, List.getElem_toArray, List.getElem_cons_zero, List.getElem_cons_succ, List.setIfInBounds_toArray, List.set_cons_zero, List.set_cons_succ]
    refine wpAnyH_take (i := 16) (v := .bool true) rfl (by kernel_rfl) (by kernel_rfl) (by kernel_rfl) (fun _ _ _ h => h) (Or.inl ⟨by rfl, fun w_ hS_ => by (first | (go_simp; done) | (go_simp; rfl))⟩) (rowMid Zc (1 + i * 16) HRA.out) ?_
    try simp only [Act.put, List.getElem_toArray, List.getElem_cons_zero, List.getElem_cons_succ, List.setIfInBounds_toArray, List.set_cons_zero, List.set_cons_succ]
    refine wpAnyH_ready (rs := [17]) (by kernel_rfl) (by simp) ?_
    refine AllReadyH.cons rfl (fun K hK => ?_) AllReadyH.nil
    rw [if_pos (by rfl)]
    go_simp
    have lZc := (Array.getElem?_eq_some_iff.1 Zc).1
    have lZx := (Array.getElem?_eq_some_iff.1 Zx).1
    have sz_ := ff.size
    have Zc := hpA Zc (.cells #[.int .u32 0, .int .i64 0, .int .i64 0, .bool false, .int .u32 0, .int .i64 0, .int .i64 0, .int .i64 0, .int .i64 0, .slice none 0 0, .slice none 0 0, .int .i64 0, .int .i64 0, .int .i64 0, .int .u64 0, .bool false] 39)
    have Zx := hpA Zx (.cells #[.int .u32 0, .int .i64 0, .int .i64 0, .bool false, .int .u32 0, .int .i64 0, .int .i64 0, .int .i64 0, .int .i64 0, .slice none 0 0, .slice none 0 0, .int .i64 0, .int .i64 0, .int .i64 0, .int .u64 0, .bool false] 39)
    have hu := hu.alloc (.cells #[.int .u32 0, .int .i64 0, .int .i64 0, .bool false, .int .u32 0, .int .i64 0, .int .i64 0, .int .i64 0, .int .i64 0, .slice none 0 0, .slice none 0 0, .int .i64 0, .int .i64 0, .int .i64 0, .int .u64 0, .bool false] 39)
    have ee := ee.alloc (Nat.le_trans hB ee.size) (.cells #[.int .u32 0, .int .i64 0, .int .i64 0, .bool false, .int .u32 0, .int .i64 0, .int .i64 0, .int .i64 0, .int .i64 0, .slice none 0 0, .slice none 0 0, .int .i64 0, .int .i64 0, .int .i64 0, .int .u64 0, .bool false] 39)
    have ff := ogAlloc ff (.cells #[.int .u32 0, .int .i64 0, .int .i64 0, .bool false, .int .u32 0, .int .i64 0, .int .i64 0, .int .i64 0, .int .i64 0, .slice none 0 0, .slice none 0 0, .int .i64 0, .int .i64 0, .int .i64 0, .int .u64 0, .bool false] 39)
    have Zn := hpN z2 (.cells #[.int .u32 0, .int .i64 0, .int .i64 0, .bool false, .int .u32 0, .int .i64 0, .int .i64 0, .int .i64 0, .int .i64 0, .slice none 0 0, .slice none 0 0, .int .i64 0, .int .i64 0, .int .i64 0, .int .u64 0, .bool false] 39) rfl
    generalize z2.alloc (.cells #[.int .u32 0, .int .i64 0, .int .i64 0, .bool false, .int .u32 0, .int .i64 0, .int .i64 0, .int .i64 0, .int .i64 0, .slice none 0 0, .slice none 0 0, .int .i64 0, .int .i64 0, .int .i64 0, .int .u64 0, .bool false] 39) = z3 at Zc Zx Zn hu ee ff ⊢
    refine hK.out _ _ (rowMid Zc (1 + i * 16) HRA.out) (fun hH => ?_)
    clear hK K hH
    try simp only [Act.put, List.getElem_toArray, List.getElem_cons_zero, List.getElem_cons_succ, List.setIfInBounds_toArray, List.set_cons_zero, List.set_cons_succ]
    refine wpAnyH_ready (rs := [18]) (by kernel_rfl) (by simp) ?_
    refine AllReadyH.cons rfl (fun K hK => ?_) AllReadyH.nil
    rw [if_pos (by rfl)]
    refine wp_store_row 39 _ _ rfl (z2.heap.size) ((a.learn a.sl).cells).toArray rfl rfl 39 _ Zn sizeAc (by rfl) (Ac.one _) ?_
    have N_ := setRow_heap z3 (z2.heap.size) _ ((a.learn a.sl).cells).toArray _ _ Zn
    have hu := ogOwnR (cs := ((a.learn a.sl).cells).toArray) hu (ogKind hu Zn (by decide))
    have ee := belowSet (cs := ((a.learn a.sl).cells).toArray) ee Zn (by omega)
    have ff := ogRow (cs := ((a.learn a.sl).cells).toArray) (by first | (right; omega) | (left; left; rfl)) Zn ff
    have Zc := hpR Zc (g' := z2.heap.size) (by omega) ((a.learn a.sl).cells).toArray
    have Zx := hpR Zx (g' := z2.heap.size) (by omega) ((a.learn a.sl).cells).toArray
    clear Zn
    have Zn := N_
    clear N_
    generalize z3.setRow (z2.heap.size) ((a.learn a.sl).cells).toArray = z4 at Zc Zx Zn hu ee ff ⊢
    refine hK.out _ _ (rowMid Zc (1 + i * 16) HRA.out) (fun hH => ?_)
    clear hK K hH
    try simp only [Act.put, List.getElem_toArray, List.getElem_cons_zero, List.getElem_cons_succ, List.setIfInBounds_toArray, List.set_cons_zero, List.set_cons_succ]
    refine wpAnyH_take (i := 19) (v := .bool true) rfl (by kernel_rfl) (by kernel_rfl) (by kernel_rfl) (fun _ _ _ h => h) (Or.inl ⟨by rfl, fun w_ hS_ => by (first | (go_simp; done) | (go_simp; rfl))⟩) (rowMid Zc (1 + i * 16) HRA.out) ?_
    try simp only [Act.put, List.getElem_toArray, List.getElem_cons_zero, List.getElem_cons_succ, List.setIfInBounds_toArray, List.set_cons_zero, List.set_cons_succ]
    refine wpAnyH_done (by kernel_rfl) ?_ _
    go_upto_region 2 with fail
    have Zc : z4.drew.heap[gc]? = some (.cells (crC n A (fun j => pv (H j)) S k).toArray 122) := Zc
    have Zx : z4.drew.heap[w.heap.size]? = some (.cells x.cells.toArray 37) := Zx
    have Zn : z4.drew.heap[z2.heap.size]? = some (.cells ((a.learn a.sl).cells).toArray 39) := Zn
    have hu := World.ownsRow.drew hu
    have ee := belowDrewS ee
    have ff := ogDrew ff
    refine wp_region_held_drew (S := fun z' => z'.rangeAt (z2.heap.size) 0 (a.learn a.sl).cells) (by kernel_rfl) (rowAt Zn) (fun hH => ?_)
    clear hH
    generalize z4.drew = z5 at Zc Zx Zn hu ee ff ⊢
    refine wpAnyH_take (i := 0) (v := .pointer (some ⟨gc, 0, none⟩)) rfl (by kernel_rfl) (by kernel_rfl) (by kernel_rfl) (fun _ _ _ h => h) (Or.inl ⟨by rfl, fun w_ hS_ => by (first | (go_simp; done) | (go_simp; rfl))⟩) (rowAt Zn) ?_
    try simp only [Act.put, List.getElem_toArray, List.getElem_cons_zero, List.getElem_cons_succ, List.setIfInBounds_toArray, List.set_cons_zero, List.set_cons_succ]
    refine wpAnyH_take (i := 1) (v := .int .i64 (i : Int)) rfl (by kernel_rfl) (by kernel_rfl) (by kernel_rfl) (fun _ _ _ h => h) (Or.inl ⟨by rfl, fun w_ hS_ => by (first | (go_simp; done) | (go_simp; rfl))⟩) (rowAt Zn) ?_
    try simp only [Act.put, List.getElem_toArray, List.getElem_cons_zero, List.getElem_cons_succ, List.setIfInBounds_toArray, List.set_cons_zero, List.set_cons_succ]
    refine wpAnyH_take (i := 2) (v := .agg (((a.learn a.sl).cells)).toArray) rfl (by kernel_rfl) (by kernel_rfl) (by kernel_rfl) (fun _ _ _ h => h) (yieldsIf_load_mid (by rfl) 39 _ rfl (z2.heap.size) (0) rfl (((a.learn a.sl).cells)) _ (fun _ h => h) Tryd.underlying39 rfl sizeAc) (rowAt Zn) ?_
    try simp only [Act.put, List.getElem_toArray, List.getElem_cons_zero, List.getElem_cons_succ, List.setIfInBounds_toArray, List.set_cons_zero, List.set_cons_succ]
    refine wpAnyH_take (i := 3) (v := .pointer (some ⟨gc, 0, none⟩)) rfl (by kernel_rfl) (by kernel_rfl) (by kernel_rfl) (fun _ _ _ h => h) (Or.inl ⟨by rfl, fun w_ hS_ => by (first | (go_simp; done) | (go_simp; rfl))⟩) (rowAt Zn) ?_
    try simp only [Act.put, List.getElem_toArray, List.getElem_cons_zero, List.getElem_cons_succ, List.setIfInBounds_toArray, List.set_cons_zero, List.set_cons_succ]
    refine wpAnyH_take (i := 4) (v := .pointer (some ⟨gc, 1, none⟩)) rfl (by kernel_rfl) (by kernel_rfl) (by kernel_rfl) (fun _ _ _ h => h) (Or.inl ⟨by rfl, fun w_ hS_ => by (first | (go_simp; done) | (go_simp; rfl))⟩) (rowAt Zn) ?_
    try simp only [Act.put, List.getElem_toArray, List.getElem_cons_zero, List.getElem_cons_succ, List.setIfInBounds_toArray, List.set_cons_zero, List.set_cons_succ]
    refine wpAnyH_take (i := 5) (v := .pointer (some ⟨gc, 1 + i * 16, none⟩)) rfl (by kernel_rfl) (by kernel_rfl) (by kernel_rfl) (fun _ _ _ h => h) (Or.inl ⟨by rfl, fun w_ hS_ => by (first | (go_simp; done) | (go_simp; rfl))⟩) (rowAt Zn) ?_
    try simp only [Act.put, List.getElem_toArray, List.getElem_cons_zero, List.getElem_cons_succ, List.setIfInBounds_toArray, List.set_cons_zero, List.set_cons_succ]
    refine wpAnyH_ready (rs := [6]) (by kernel_rfl) (by simp) ?_
    refine AllReadyH.cons rfl (fun K hK => ?_) AllReadyH.nil
    rw [if_pos (by rfl)]
    refine wp_store_mid 39 _ _ rfl (gc) (1 + i * 16) ((a.learn a.sl).cells).toArray rfl rfl (crThere Zc hi) sizeAc (Ac.one _) ?_
    have N_ : (z5.setCells (gc) (1 + i * 16) ((a.learn a.sl).cells)).heap[gc]? = some (.cells (crC n (Px.upd A i (a.learn a.sl)) (fun j => pv (H j)) S k).toArray 122) := (by rw [← (hPU (a.learn a.sl)).out]; exact hpC _ _ _ _ Zc)
    have hu := ogOwnC hu (ogKind hu Zc (by decide)) ((a.learn a.sl).cells) (1 + i * 16)
    have ee := belowC (g := gc) (by omega) ((a.learn a.sl).cells) (1 + i * 16) z5 ee
    have ff := ogCells (k := gc) (by first | (right; omega) | (left; left; rfl)) ((a.learn a.sl).cells) (1 + i * 16) z5 ff
    have Zx := hpCo (g' := gc) (by omega) ((a.learn a.sl).cells) (1 + i * 16) z5 Zx
    have Zn := hpCo (g' := gc) (by omega) ((a.learn a.sl).cells) (1 + i * 16) z5 Zn
    clear Zc
    have Zc := N_
    clear N_
    change K _ (z5.setCells (gc) (1 + i * 16) ((a.learn a.sl).cells))
    generalize z5.setCells (gc) (1 + i * 16) ((a.learn a.sl).cells) = z6 at Zc Zx Zn hu ee ff ⊢
    refine hK.out _ _ (rowAt Zn) (fun hH => ?_)
    clear hK K hH
    try simp only [Act.put, List.getElem_toArray, List.getElem_cons_zero, List.getElem_cons_succ, List.setIfInBounds_toArray, List.set_cons_zero, List.set_cons_succ]
    refine wpAnyH_done (by kernel_rfl) ?_ _
    clear Zn
    go_upto_region 3 with fail
    have Zc : z6.drew.heap[gc]? = some (.cells (crC n (Px.upd A i (a.learn a.sl)) (fun j => pv (H j)) S k).toArray 122) := Zc
    have Zx : z6.drew.heap[w.heap.size]? = some (.cells x.cells.toArray 37) := Zx
    have hu := World.ownsRow.drew hu
    have ee := belowDrewS ee
    have ff := ogDrew ff
    refine wp_region_held_drew (S := fun z' => z'.rangeAt w.heap.size 0 x.cells) (by kernel_rfl) (rowAt Zx) (fun hH => ?_)
    clear hH
    generalize z6.drew = z7 at Zc Zx hu ee ff ⊢
    refine wpAnyH_take (i := 0) (v := .pointer (some ⟨gc, 0, none⟩)) rfl (by kernel_rfl) (by kernel_rfl) (by kernel_rfl) (fun _ _ _ h => h) (Or.inl ⟨by rfl, fun w_ hS_ => by (first | (go_simp; done) | (go_simp; rfl))⟩) (rowAt Zx) ?_
    try simp only [Act.put, List.getElem_toArray, List.getElem_cons_zero, List.getElem_cons_succ, List.setIfInBounds_toArray, List.set_cons_zero, List.set_cons_succ]
    refine wpAnyH_take (i := 1) (v := .int .i64 (i : Int)) rfl (by kernel_rfl) (by kernel_rfl) (by kernel_rfl) (fun _ _ _ h => h) (Or.inl ⟨by rfl, fun w_ hS_ => by (first | (go_simp; done) | (go_simp; rfl))⟩) (rowAt Zx) ?_
    try simp only [Act.put, List.getElem_toArray, List.getElem_cons_zero, List.getElem_cons_succ, List.setIfInBounds_toArray, List.set_cons_zero, List.set_cons_succ]
    refine wpAnyH_take (i := 2) (v := .pointer (some ⟨gc, 0, none⟩)) rfl (by kernel_rfl) (by kernel_rfl) (by kernel_rfl) (fun _ _ _ h => h) (Or.inl ⟨by rfl, fun w_ hS_ => by (first | (go_simp; done) | (go_simp; rfl))⟩) (rowAt Zx) ?_
    try simp only [Act.put, List.getElem_toArray, List.getElem_cons_zero, List.getElem_cons_succ, List.setIfInBounds_toArray, List.set_cons_zero, List.set_cons_succ]
    refine wpAnyH_take (i := 3) (v := .int .i64 (i : Int)) rfl (by kernel_rfl) (by kernel_rfl) (by kernel_rfl) (fun _ _ _ h => h) (Or.inl ⟨by rfl, fun w_ hS_ => by (first | (go_simp; done) | (go_simp; rfl))⟩) (rowAt Zx) ?_
    try simp only [Act.put, List.getElem_toArray, List.getElem_cons_zero, List.getElem_cons_succ, List.setIfInBounds_toArray, List.set_cons_zero, List.set_cons_succ]
    refine wpAnyH_take (i := 4) (v := .pointer (some ⟨gc, 0, none⟩)) rfl (by kernel_rfl) (by kernel_rfl) (by kernel_rfl) (fun _ _ _ h => h) (Or.inl ⟨by rfl, fun w_ hS_ => by (first | (go_simp; done) | (go_simp; rfl))⟩) (rowAt Zx) ?_
    try simp only [Act.put, List.getElem_toArray, List.getElem_cons_zero, List.getElem_cons_succ, List.setIfInBounds_toArray, List.set_cons_zero, List.set_cons_succ]
    refine wpAnyH_take (i := 5) (v := .pointer (some ⟨gc, 86, none⟩)) rfl (by kernel_rfl) (by kernel_rfl) (by kernel_rfl) (fun _ _ _ h => h) (Or.inl ⟨by rfl, fun w_ hS_ => by (first | (go_simp; done) | (go_simp; rfl))⟩) (rowAt Zx) ?_
    try simp only [Act.put, List.getElem_toArray, List.getElem_cons_zero, List.getElem_cons_succ, List.setIfInBounds_toArray, List.set_cons_zero, List.set_cons_succ]
    refine wpAnyH_take (i := 6) (v := .pointer (some ⟨gc, 86 + i, none⟩)) rfl (by kernel_rfl) (by kernel_rfl) (by kernel_rfl) (fun _ _ _ h => h) (Or.inl ⟨by rfl, fun w_ hS_ => by (first | (go_simp; done) | (go_simp; rfl))⟩) (rowAt Zx) ?_
    try simp only [Act.put, List.getElem_toArray, List.getElem_cons_zero, List.getElem_cons_succ, List.setIfInBounds_toArray, List.set_cons_zero, List.set_cons_succ]
    refine wpAnyH_take (i := 8) (v := .agg (x.cells).toArray) rfl (by kernel_rfl) (by kernel_rfl) (by kernel_rfl) (fun _ _ _ h => h) (yieldsIf_load_mid (by rfl) 37 _ rfl (w.heap.size) (0) rfl (x.cells) _ (fun _ h => h) Tryd.underlying37 rfl sizeCm) (rowAt Zx) ?_
    try simp only [Act.put, List.getElem_toArray, List.getElem_cons_zero, List.getElem_cons_succ, List.setIfInBounds_toArray, List.set_cons_zero, List.set_cons_succ]
    refine wpAnyH_take (i := 11) (v := .pointer (some ⟨gc, 0, none⟩)) rfl (by kernel_rfl) (by kernel_rfl) (by kernel_rfl) (fun _ _ _ h => h) (Or.inl ⟨by rfl, fun w_ hS_ => by (first | (go_simp; done) | (go_simp; rfl))⟩) (rowAt Zx) ?_
    try simp only [Act.put, List.getElem_toArray, List.getElem_cons_zero, List.getElem_cons_succ, List.setIfInBounds_toArray, List.set_cons_zero, List.set_cons_succ]
    refine wpAnyH_take (i := 12) (v := .pointer (some ⟨gc, 86, none⟩)) rfl (by kernel_rfl) (by kernel_rfl) (by kernel_rfl) (fun _ _ _ h => h) (Or.inl ⟨by rfl, fun w_ hS_ => by (first | (go_simp; done) | (go_simp; rfl))⟩) (rowAt Zx) ?_
    try simp only [Act.put, List.getElem_toArray, List.getElem_cons_zero, List.getElem_cons_succ, List.setIfInBounds_toArray, List.set_cons_zero, List.set_cons_succ]
    refine wpAnyH_ready (rs := [7, 9]) (by kernel_rfl) (by simp) ?_
    refine AllReadyH.cons rfl (fun K hK => ?_) (AllReadyH.cons rfl (fun K hK => ?_) AllReadyH.nil)
    · rw [if_pos (by rfl)]
      have c_ := rowCell Zc (86 + i) (crS n _ _ S k i hi)
      rw [HS.out] at c_
      go_simp
      clear c_
      refine hK.out _ _ (rowAt Zx) (fun hH => ?_)
      clear hK K hH
      try simp only [Act.put, List.getElem_toArray, List.getElem_cons_zero, List.getElem_cons_succ, List.setIfInBounds_toArray, List.set_cons_zero, List.set_cons_succ]
      refine wpAnyH_ready (rs := [9]) (by kernel_rfl) (by simp) ?_
      refine AllReadyH.cons rfl (fun K hK => ?_) AllReadyH.nil
      rw [if_pos (by rfl)]
      refine wp_buildSlice 119 37 1 #[(0, .tmp 40)] rfl (x.cells).toArray i1 (.agg #[.int .i64 0, .int .i64 0, .int .i64 0, .slice none 0 0, .slice none 0 0, .int .i64 0, .int .i64 0, .int .i64 0, .int .u64 0, .bool false]) Tryd.underlying119 hi1 hz10 (by rw [hz11]; decide) (by rw [hz11]; decide) (by rw [hz11]; simp only [List.map_toArray, List.map_cons, List.map_nil]; exact ogFill (by omega) _ (Cm.cells_len _) _ (by simp)) ?_
      have lZc := (Array.getElem?_eq_some_iff.1 Zc).1
      have lZx := (Array.getElem?_eq_some_iff.1 Zx).1
      have sz_ := ff.size
      have ne_hu_Zm : (Value.slice A0 xi.length c0).ownBlock ≠ some (z7.heap.size) := fun hb_ => by have hh_ := (hu.lt _ hb_).2; omega
      have Zc := hpA Zc (.cells (x.cells).toArray 37)
      have Zx := hpA Zx (.cells (x.cells).toArray 37)
      have hu := hu.alloc (.cells (x.cells).toArray 37)
      have ee := ee.alloc (Nat.le_trans hB ee.size) (.cells (x.cells).toArray 37)
      have ff := ogAlloc ff (.cells (x.cells).toArray 37)
      have Zm := hpN z7 (.cells (x.cells).toArray 37) rfl
      generalize z7.alloc (.cells (x.cells).toArray 37) = z8 at Zc Zx Zm hu ee ff ⊢
      refine hK.out _ _ (rowAt Zx) (fun hH => ?_)
      clear hK K hH
      try simp only [Act.put, List.getElem_toArray, List.getElem_cons_zero, List.getElem_cons_succ, List.setIfInBounds_toArray, List.set_cons_zero, List.set_cons_succ]
      refine wpAnyH_ready (rs := [10]) (by kernel_rfl) (by simp) ?_
      refine AllReadyH.cons rfl (fun K hK => ?_) AllReadyH.nil
      rw [if_pos (by rfl)]
      refine wp_append_ownW _ (.tmp 39) (.tmp 41) 119 rfl B 37 i1 (.agg #[.int .i64 0, .int .i64 0, .int .i64 0, .slice none 0 0, .slice none 0 0, .int .i64 0, .int .i64 0, .int .i64 0, .int .u64 0, .bool false]) 10 112 Tryd.underlying119 hi1 hz10 hz11 hz12 rfl (by decide) _ _ _ rfl hu ⟨z7.heap.size, 0, none⟩ 1 1 (x.cells) rfl rfl (ogRowAdd Zm) (oneCm3 _) (by unfold maxLen; omega) (by omega) (Nat.le_trans hB ff.size) ?_
      intro u_ z9 ho_ hg_ hw_
      have hw_ : ∀ g_, u_.ownBlock = some g_ → (Value.slice A0 xi.length c0).ownBlock = some g_ ∨ w.heap.size ≤ g_ := fun g_ e_ => by
        rcases hw_ with h_ | h_ | h_
        · rw [h_] at e_; cases e_
        · have h2_ : u_.ownBlock = (Value.slice A0 xi.length c0).ownBlock := h_
          left; rw [← h2_]; exact e_
        · right; rw [h_] at e_; injection e_ with e_; have := ff.size; omega
      clear Zm
      have Zc := ogHeap Zc hu (by decide) hg_
      have Zx := ogHeapB Zx hnex hg_
      have ee := ee.grown hg_ (Nat.le_trans hB ee.size) (fun g_ hg2_ => by have hh_ := (hu.lt g_ hg2_).1; omega)
      have ff := ogOwnE ff hg_ (fun i_ hi_ => by have hh_ := (hu.lt i_ hi_).1; first | exact Or.inl (Or.inr hi_) | (right; omega) | (left; first | rfl | omega))
      clear hg_ hu
      obtain ⟨A9, c9, hu9, hc9, _, _⟩ := ownShape ho_
      subst hu9
      have hu := ho_
      clear ho_
      refine hK.out _ _ (rowAt Zx) (fun hH => ?_)
      clear hK K hH
      try simp only [Act.put, List.getElem_toArray, List.getElem_cons_zero, List.getElem_cons_succ, List.setIfInBounds_toArray, List.set_cons_zero, List.set_cons_succ]
      refine wpAnyH_take (i := 13) (v := .pointer (some ⟨gc, 86 + i, none⟩)) rfl (by kernel_rfl) (by kernel_rfl) (by kernel_rfl) (fun _ _ _ h => h) (Or.inl ⟨by rfl, fun w_ hS_ => by (first | (go_simp; done) | (go_simp; rfl))⟩) (rowAt Zx) ?_
      try simp only [Act.put, List.getElem_toArray, List.getElem_cons_zero, List.getElem_cons_succ, List.setIfInBounds_toArray, List.set_cons_zero, List.set_cons_succ]
      refine wpAnyH_ready (rs := [14]) (by kernel_rfl) (by simp) ?_
      refine AllReadyH.cons rfl (fun K hK => ?_) AllReadyH.nil
      rw [if_pos (by rfl)]
      have f_ : z9.frozen? ⟨gc, 86 + i, none⟩ = false := freeAt Zc (86 + i)
      have c_ := rowCell Zc (86 + i) (crS n _ _ S k i hi)
      go_simp
      clear f_ c_
      have N_ : (z9.setCells (gc) (86 + i) ([.slice A9 (xi.length + 1) c9])).heap[gc]? = some (.cells (crC n (Px.upd A i (a.learn a.sl)) (fun j => pv (H j)) (updF S i (.slice A9 (xi.length + 1) c9)) k).toArray 122) := (by rw [← crPutS n _ _ S k i hi]; exact hpC _ _ _ _ Zc)
      have hu := ogOwnC hu (ogKind hu Zc (by decide)) ([.slice A9 (xi.length + 1) c9]) (86 + i)
      have ee := belowC (g := gc) (by omega) ([.slice A9 (xi.length + 1) c9]) (86 + i) z9 ee
      have ff := ogCells (k := gc) (by first | (right; omega) | (left; left; rfl)) ([.slice A9 (xi.length + 1) c9]) (86 + i) z9 ff
      have Zx := hpCo (g' := gc) (by omega) ([.slice A9 (xi.length + 1) c9]) (86 + i) z9 Zx
      clear Zc
      have Zc := N_
      clear N_
      change K _ (z9.setCells (gc) (86 + i) ([.slice A9 (xi.length + 1) c9]))
      generalize z9.setCells (gc) (86 + i) ([.slice A9 (xi.length + 1) c9]) = z10 at Zc Zx hu ee ff ⊢
      refine hK.out _ _ (rowAt Zx) (fun hH => ?_)
      clear hK K hH
      try simp only [Act.put, List.getElem_toArray, List.getElem_cons_zero, List.getElem_cons_succ, List.setIfInBounds_toArray, List.set_cons_zero, List.set_cons_succ]
      refine wpAnyH_done (by kernel_rfl) ?_ _
      clear hi0 hi5
      go_wp2_with fail
      go_ret
      refine ⟨rfl, ⟨_, HMV.out _ _ (xi ++ [x]) _ ff Zc ?_ hw_⟩, ee, by rw [HS.out]; exact ff⟩
      rw [List.length_append, List.length_singleton, flat_snoc]
      exact hu
    · rw [if_pos (by rfl)]
      refine wp_buildSlice 119 37 1 #[(0, .tmp 40)] rfl (x.cells).toArray i1 (.agg #[.int .i64 0, .int .i64 0, .int .i64 0, .slice none 0 0, .slice none 0 0, .int .i64 0, .int .i64 0, .int .i64 0, .int .u64 0, .bool false]) Tryd.underlying119 hi1 hz10 (by rw [hz11]; decide) (by rw [hz11]; decide) (by rw [hz11]; simp only [List.map_toArray, List.map_cons, List.map_nil]; exact ogFill (by omega) _ (Cm.cells_len _) _ (by simp)) ?_
      have lZc := (Array.getElem?_eq_some_iff.1 Zc).1
      have lZx := (Array.getElem?_eq_some_iff.1 Zx).1
      have sz_ := ff.size
      have ne_hu_Zm : (Value.slice A0 xi.length c0).ownBlock ≠ some (z7.heap.size) := fun hb_ => by have hh_ := (hu.lt _ hb_).2; omega
      have Zc := hpA Zc (.cells (x.cells).toArray 37)
      have Zx := hpA Zx (.cells (x.cells).toArray 37)
      have hu := hu.alloc (.cells (x.cells).toArray 37)
      have ee := ee.alloc (Nat.le_trans hB ee.size) (.cells (x.cells).toArray 37)
      have ff := ogAlloc ff (.cells (x.cells).toArray 37)
      have Zm := hpN z7 (.cells (x.cells).toArray 37) rfl
      generalize z7.alloc (.cells (x.cells).toArray 37) = z8 at Zc Zx Zm hu ee ff ⊢
      refine hK.out _ _ (rowAt Zx) (fun hH => ?_)
      clear hK K hH
      try simp only [Act.put, List.getElem_toArray, List.getElem_cons_zero, List.getElem_cons_succ, List.setIfInBounds_toArray, List.set_cons_zero, List.set_cons_succ]
      refine wpAnyH_ready (rs := [7]) (by kernel_rfl) (by simp) ?_
      refine AllReadyH.cons rfl (fun K hK => ?_) AllReadyH.nil
      rw [if_pos (by rfl)]
      have c_ := rowCell Zc (86 + i) (crS n _ _ S k i hi)
      rw [HS.out] at c_
      go_simp
      clear c_
      refine hK.out _ _ (rowAt Zx) (fun hH => ?_)
      clear hK K hH
      try simp only [Act.put, List.getElem_toArray, List.getElem_cons_zero, List.getElem_cons_succ, List.setIfInBounds_toArray, List.set_cons_zero, List.set_cons_succ]
      refine wpAnyH_ready (rs := [10]) (by kernel_rfl) (by simp) ?_
      refine AllReadyH.cons rfl (fun K hK => ?_) AllReadyH.nil
      rw [if_pos (by rfl)]
      refine wp_append_ownW _ (.tmp 39) (.tmp 41) 119 rfl B 37 i1 (.agg #[.int .i64 0, .int .i64 0, .int .i64 0, .slice none 0 0, .slice none 0 0, .int .i64 0, .int .i64 0, .int .i64 0, .int .u64 0, .bool false]) 10 112 Tryd.underlying119 hi1 hz10 hz11 hz12 rfl (by decide) _ _ _ rfl hu ⟨z7.heap.size, 0, none⟩ 1 1 (x.cells) rfl rfl (ogRowAdd Zm) (oneCm3 _) (by unfold maxLen; omega) (by omega) (Nat.le_trans hB ff.size) ?_
      intro u_ z9 ho_ hg_ hw_
      have hw_ : ∀ g_, u_.ownBlock = some g_ → (Value.slice A0 xi.length c0).ownBlock = some g_ ∨ w.heap.size ≤ g_ := fun g_ e_ => by
        rcases hw_ with h_ | h_ | h_
        · rw [h_] at e_; cases e_
        · have h2_ : u_.ownBlock = (Value.slice A0 xi.length c0).ownBlock := h_
          left; rw [← h2_]; exact e_
        · right; rw [h_] at e_; injection e_ with e_; have := ff.size; omega
      clear Zm
      have Zc := ogHeap Zc hu (by decide) hg_
      have Zx := ogHeapB Zx hnex hg_
      have ee := ee.grown hg_ (Nat.le_trans hB ee.size) (fun g_ hg2_ => by have hh_ := (hu.lt g_ hg2_).1; omega)
      have ff := ogOwnE ff hg_ (fun i_ hi_ => by have hh_ := (hu.lt i_ hi_).1; first | exact Or.inl (Or.inr hi_) | (right; omega) | (left; first | rfl | omega))
      clear hg_ hu
      obtain ⟨A9, c9, hu9, hc9, _, _⟩ := ownShape ho_
      subst hu9
      have hu := ho_
      clear ho_
      refine hK.out _ _ (rowAt Zx) (fun hH => ?_)
      clear hK K hH
      try simp only [Act.put, List.getElem_toArray, List.getElem_cons_zero, List.getElem_cons_succ, List.setIfInBounds_toArray, List.set_cons_zero, List.set_cons_succ]
      refine wpAnyH_take (i := 13) (v := .pointer (some ⟨gc, 86 + i, none⟩)) rfl (by kernel_rfl) (by kernel_rfl) (by kernel_rfl) (fun _ _ _ h => h) (Or.inl ⟨by rfl, fun w_ hS_ => by (first | (go_simp; done) | (go_simp; rfl))⟩) (rowAt Zx) ?_
      try simp only [Act.put, List.getElem_toArray, List.getElem_cons_zero, List.getElem_cons_succ, List.setIfInBounds_toArray, List.set_cons_zero, List.set_cons_succ]
      refine wpAnyH_ready (rs := [14]) (by kernel_rfl) (by simp) ?_
      refine AllReadyH.cons rfl (fun K hK => ?_) AllReadyH.nil
      rw [if_pos (by rfl)]
      have f_ : z9.frozen? ⟨gc, 86 + i, none⟩ = false := freeAt Zc (86 + i)
      have c_ := rowCell Zc (86 + i) (crS n _ _ S k i hi)
      go_simp
      clear f_ c_
      have N_ : (z9.setCells (gc) (86 + i) ([.slice A9 (xi.length + 1) c9])).heap[gc]? = some (.cells (crC n (Px.upd A i (a.learn a.sl)) (fun j => pv (H j)) (updF S i (.slice A9 (xi.length + 1) c9)) k).toArray 122) := (by rw [← crPutS n _ _ S k i hi]; exact hpC _ _ _ _ Zc)
      have hu := ogOwnC hu (ogKind hu Zc (by decide)) ([.slice A9 (xi.length + 1) c9]) (86 + i)
      have ee := belowC (g := gc) (by omega) ([.slice A9 (xi.length + 1) c9]) (86 + i) z9 ee
      have ff := ogCells (k := gc) (by first | (right; omega) | (left; left; rfl)) ([.slice A9 (xi.length + 1) c9]) (86 + i) z9 ff
      have Zx := hpCo (g' := gc) (by omega) ([.slice A9 (xi.length + 1) c9]) (86 + i) z9 Zx
      clear Zc
      have Zc := N_
      clear N_
      change K _ (z9.setCells (gc) (86 + i) ([.slice A9 (xi.length + 1) c9]))
      generalize z9.setCells (gc) (86 + i) ([.slice A9 (xi.length + 1) c9]) = z10 at Zc Zx hu ee ff ⊢
      refine hK.out _ _ (rowAt Zx) (fun hH => ?_)
      clear hK K hH
      try simp only [Act.put, List.getElem_toArray, List.getElem_cons_zero, List.getElem_cons_succ, List.setIfInBounds_toArray, List.set_cons_zero, List.set_cons_succ]
      refine wpAnyH_done (by kernel_rfl) ?_ _
      clear hi0 hi5
      go_wp2_with fail
      go_ret
      refine ⟨rfl, ⟨_, HMV.out _ _ (xi ++ [x]) _ ff Zc ?_ hw_⟩, ee, by rw [HS.out]; exact ff⟩
      rw [List.length_append, List.length_singleton, flat_snoc]
      exact hu
  · rw [if_pos (by rfl)]
    go_simp
    have lZc := (Array.getElem?_eq_some_iff.1 Zc).1
    have lZx := (Array.getElem?_eq_some_iff.1 Zx).1
    have sz_ := ff.size
    have Zc := hpA Zc (.cells #[.int .u32 0, .int .i64 0, .int .i64 0, .bool false, .int .u32 0, .int .i64 0, .int .i64 0, .int .i64 0, .int .i64 0, .slice none 0 0, .slice none 0 0, .int .i64 0, .int .i64 0, .int .i64 0, .int .u64 0, .bool false] 39)
    have Zx := hpA Zx (.cells #[.int .u32 0, .int .i64 0, .int .i64 0, .bool false, .int .u32 0, .int .i64 0, .int .i64 0, .int .i64 0, .int .i64 0, .slice none 0 0, .slice none 0 0, .int .i64 0, .int .i64 0, .int .i64 0, .int .u64 0, .bool false] 39)
    have hu := hu.alloc (.cells #[.int .u32 0, .int .i64 0, .int .i64 0, .bool false, .int .u32 0, .int .i64 0, .int .i64 0, .int .i64 0, .int .i64 0, .slice none 0 0, .slice none 0 0, .int .i64 0, .int .i64 0, .int .i64 0, .int .u64 0, .bool false] 39)
    have ee := ee.alloc (Nat.le_trans hB ee.size) (.cells #[.int .u32 0, .int .i64 0, .int .i64 0, .bool false, .int .u32 0, .int .i64 0, .int .i64 0, .int .i64 0, .int .i64 0, .slice none 0 0, .slice none 0 0, .int .i64 0, .int .i64 0, .int .i64 0, .int .u64 0, .bool false] 39)
    have ff := ogAlloc ff (.cells #[.int .u32 0, .int .i64 0, .int .i64 0, .bool false, .int .u32 0, .int .i64 0, .int .i64 0, .int .i64 0, .int .i64 0, .slice none 0 0, .slice none 0 0, .int .i64 0, .int .i64 0, .int .i64 0, .int .u64 0, .bool false] 39)
    have Zn := hpN z1 (.cells #[.int .u32 0, .int .i64 0, .int .i64 0, .bool false, .int .u32 0, .int .i64 0, .int .i64 0, .int .i64 0, .int .i64 0, .slice none 0 0, .slice none 0 0, .int .i64 0, .int .i64 0, .int .i64 0, .int .u64 0, .bool false] 39) rfl
    generalize z1.alloc (.cells #[.int .u32 0, .int .i64 0, .int .i64 0, .bool false, .int .u32 0, .int .i64 0, .int .i64 0, .int .i64 0, .int .i64 0, .slice none 0 0, .slice none 0 0, .int .i64 0, .int .i64 0, .int .i64 0, .int .u64 0, .bool false] 39) = z2 at Zc Zx Zn hu ee ff ⊢
    refine hK.out _ _ (rowMid Zc (1 + i * 16) HRA.out) (fun hH => ?_)
    clear hK K hH
    try simp only [Act.put, List.getElem_toArray, List.getElem_cons_zero, List.getElem_cons_succ, List.setIfInBounds_toArray, List.set_cons_zero, List.set_cons_succ]
    refine wpAnyH_ready (rs := [13]) (by kernel_rfl) (by simp) ?_
    refine AllReadyH.cons rfl (fun K hK => ?_) AllReadyH.nil
    rw [if_pos (by rfl)]
    go_simp
    go_wp2_with (go_at_call 68; refine (HLC.out z2 ee).mono ?_; rintro e z3 ⟨rfl, t⟩)
    have Zc := hpB Zc t
    have Zx := hpB Zx t
    have Zn := hpB Zn t
    have hu := ownBelow hu t
    have ee := ee.trans (t.mono (Nat.le_trans hB ee.size))
    have ff := ogBelow ff t
    clear t
    refine hK.out _ _ (rowMid Zc (1 + i * 16) HRA.out) (fun hH => ?_)
    clear hK K hH
    try simp only [Act.put, List.getElem_toArray, List.getElem_cons_zero, List.getElem_cons_succ, List.setIfInBounds_toArray, List.set_cons_zero, List.set_cons_succ]
    refine wpAnyH_take (i := 14) (v := .tuple #[.agg (a.learn a.sl).cells.toArray, .bool true]) rfl (by kernel_rfl) (by kernel_rfl) (by kernel_rfl) (fun _ _ _ h => h) (Or.inl ⟨by rfl, fun w_ hS_ => by (first | (go_simp; done) | (go_simp; rfl))⟩) (rowMid Zc (1 + i * 16) HRA.out) ?_
    try simp only [Act.put, List.getElem_toArray, List.getElem_cons_zero, List.getElem_cons_succ, List.setIfInBounds_toArray, List.set_cons_zero, List.set_cons_succ]
    refine wpAnyH_take (i := 15) (v := .agg (a.learn a.sl).cells.toArray) rfl (by kernel_rfl) (by kernel_rfl) (by kernel_rfl) (fun _ _ _ h => h) (Or.inl ⟨by rfl, fun w_ hS_ => by (first | (go_simp; done) | (go_simp; rfl))⟩) (rowMid Zc (1 + i * 16) HRA.out) ?_
    try simp only [Act.put, List.getElem_toArray, List.getElem_cons_zero, List.getElem_cons_succ, List.setIfInBounds_toArray, List.set_cons_zero, List.set_cons_succ]
    refine wpAnyH_take (i := 16) (v := .bool true) rfl (by kernel_rfl) (by kernel_rfl) (by kernel_rfl) (fun _ _ _ h => h) (Or.inl ⟨by rfl, fun w_ hS_ => by (first | (go_simp; done) | (go_simp; rfl))⟩) (rowMid Zc (1 + i * 16) HRA.out) ?_
    try simp only [Act.put, List.getElem_toArray, List.getElem_cons_zero, List.getElem_cons_succ, List.setIfInBounds_toArray, List.set_cons_zero, List.set_cons_succ]
    refine wpAnyH_ready (rs := [18]) (by kernel_rfl) (by simp) ?_
    refine AllReadyH.cons rfl (fun K hK => ?_) AllReadyH.nil
    rw [if_pos (by rfl)]
    refine wp_store_row 39 _ _ rfl (z1.heap.size) ((a.learn a.sl).cells).toArray rfl rfl 39 _ Zn sizeAc (by rfl) (Ac.one _) ?_
    have N_ := setRow_heap z3 (z1.heap.size) _ ((a.learn a.sl).cells).toArray _ _ Zn
    have hu := ogOwnR (cs := ((a.learn a.sl).cells).toArray) hu (ogKind hu Zn (by decide))
    have ee := belowSet (cs := ((a.learn a.sl).cells).toArray) ee Zn (by omega)
    have ff := ogRow (cs := ((a.learn a.sl).cells).toArray) (by first | (right; omega) | (left; left; rfl)) Zn ff
    have Zc := hpR Zc (g' := z1.heap.size) (by omega) ((a.learn a.sl).cells).toArray
    have Zx := hpR Zx (g' := z1.heap.size) (by omega) ((a.learn a.sl).cells).toArray
    clear Zn
    have Zn := N_
    clear N_
    generalize z3.setRow (z1.heap.size) ((a.learn a.sl).cells).toArray = z4 at Zc Zx Zn hu ee ff ⊢
    refine hK.out _ _ (rowMid Zc (1 + i * 16) HRA.out) (fun hH => ?_)
    clear hK K hH
    try simp only [Act.put, List.getElem_toArray, List.getElem_cons_zero, List.getElem_cons_succ, List.setIfInBounds_toArray, List.set_cons_zero, List.set_cons_succ]
    refine wpAnyH_take (i := 19) (v := .bool true) rfl (by kernel_rfl) (by kernel_rfl) (by kernel_rfl) (fun _ _ _ h => h) (Or.inl ⟨by rfl, fun w_ hS_ => by (first | (go_simp; done) | (go_simp; rfl))⟩) (rowMid Zc (1 + i * 16) HRA.out) ?_
    try simp only [Act.put, List.getElem_toArray, List.getElem_cons_zero, List.getElem_cons_succ, List.setIfInBounds_toArray, List.set_cons_zero, List.set_cons_succ]
    refine wpAnyH_done (by kernel_rfl) ?_ _
    go_upto_region 2 with fail
    have Zc : z4.drew.heap[gc]? = some (.cells (crC n A (fun j => pv (H j)) S k).toArray 122) := Zc
    have Zx : z4.drew.heap[w.heap.size]? = some (.cells x.cells.toArray 37) := Zx
    have Zn : z4.drew.heap[z1.heap.size]? = some (.cells ((a.learn a.sl).cells).toArray 39) := Zn
    have hu := World.ownsRow.drew hu
    have ee := belowDrewS ee
    have ff := ogDrew ff
    refine wp_region_held_drew (S := fun z' => z'.rangeAt (z1.heap.size) 0 (a.learn a.sl).cells) (by kernel_rfl) (rowAt Zn) (fun hH => ?_)
    clear hH
    generalize z4.drew = z5 at Zc Zx Zn hu ee ff ⊢
    refine wpAnyH_take (i := 0) (v := .pointer (some ⟨gc, 0, none⟩)) rfl (by kernel_rfl) (by kernel_rfl) (by kernel_rfl) (fun _ _ _ h => h) (Or.inl ⟨by rfl, fun w_ hS_ => by (first | (go_simp; done) | (go_simp; rfl))⟩) (rowAt Zn) ?_
    try simp only [Act.put, List.getElem_toArray, List.getElem_cons_zero, List.getElem_cons_succ, List.setIfInBounds_toArray, List.set_cons_zero, List.set_cons_succ]
    refine wpAnyH_take (i := 1) (v := .int .i64 (i : Int)) rfl (by kernel_rfl) (by kernel_rfl) (by kernel_rfl) (fun _ _ _ h => h) (Or.inl ⟨by rfl, fun w_ hS_ => by (first | (go_simp; done) | (go_simp; rfl))⟩) (rowAt Zn) ?_
    try simp only [Act.put, List.getElem_toArray, List.getElem_cons_zero, List.getElem_cons_succ, List.setIfInBounds_toArray, List.set_cons_zero, List.set_cons_succ]
    refine wpAnyH_take (i := 2) (v := .agg (((a.learn a.sl).cells)).toArray) rfl (by kernel_rfl) (by kernel_rfl) (by kernel_rfl) (fun _ _ _ h => h) (yieldsIf_load_mid (by rfl) 39 _ rfl (z1.heap.size) (0) rfl (((a.learn a.sl).cells)) _ (fun _ h => h) Tryd.underlying39 rfl sizeAc) (rowAt Zn) ?_
    try simp only [Act.put, List.getElem_toArray, List.getElem_cons_zero, List.getElem_cons_succ, List.setIfInBounds_toArray, List.set_cons_zero, List.set_cons_succ]
    refine wpAnyH_take (i := 3) (v := .pointer (some ⟨gc, 0, none⟩)) rfl (by kernel_rfl) (by kernel_rfl) (by kernel_rfl) (fun _ _ _ h => h) (Or.inl ⟨by rfl, fun w_ hS_ => by (first | (go_simp; done) | (go_simp; rfl))⟩) (rowAt Zn) ?_
    try simp only [Act.put, List.getElem_toArray, List.getElem_cons_zero, List.getElem_cons_succ, List.setIfInBounds_toArray, List.set_cons_zero, List.set_cons_succ]
    refine wpAnyH_take (i := 4) (v := .pointer (some ⟨gc, 1, none⟩)) rfl (by kernel_rfl) (by kernel_rfl) (by kernel_rfl) (fun _ _ _ h => h) (Or.inl ⟨by rfl, fun w_ hS_ => by (first | (go_simp; done) | (go_simp; rfl))⟩) (rowAt Zn) ?_
    try simp only [Act.put, List.getElem_toArray, List.getElem_cons_zero, List.getElem_cons_succ, List.setIfInBounds_toArray, List.set_cons_zero, List.set_cons_succ]
    refine wpAnyH_take (i := 5) (v := .pointer (some ⟨gc, 1 + i * 16, none⟩)) rfl (by kernel_rfl) (by kernel_rfl) (by kernel_rfl) (fun _ _ _ h => h) (Or.inl ⟨by rfl, fun w_ hS_ => by (first | (go_simp; done) | (go_simp; rfl))⟩) (rowAt Zn) ?_
    try simp only [Act.put, List.getElem_toArray, List.getElem_cons_zero, List.getElem_cons_succ, List.setIfInBounds_toArray, List.set_cons_zero, List.set_cons_succ]
    refine wpAnyH_ready (rs := [6]) (by kernel_rfl) (by simp) ?_
    refine AllReadyH.cons rfl (fun K hK => ?_) AllReadyH.nil
    rw [if_pos (by rfl)]
    refine wp_store_mid 39 _ _ rfl (gc) (1 + i * 16) ((a.learn a.sl).cells).toArray rfl rfl (crThere Zc hi) sizeAc (Ac.one _) ?_
    have N_ : (z5.setCells (gc) (1 + i * 16) ((a.learn a.sl).cells)).heap[gc]? = some (.cells (crC n (Px.upd A i (a.learn a.sl)) (fun j => pv (H j)) S k).toArray 122) := (by rw [← (hPU (a.learn a.sl)).out]; exact hpC _ _ _ _ Zc)
    have hu := ogOwnC hu (ogKind hu Zc (by decide)) ((a.learn a.sl).cells) (1 + i * 16)
    have ee := belowC (g := gc) (by omega) ((a.learn a.sl).cells) (1 + i * 16) z5 ee
    have ff := ogCells (k := gc) (by first | (right; omega) | (left; left; rfl)) ((a.learn a.sl).cells) (1 + i * 16) z5 ff
    have Zx := hpCo (g' := gc) (by omega) ((a.learn a.sl).cells) (1 + i * 16) z5 Zx
    have Zn := hpCo (g' := gc) (by omega) ((a.learn a.sl).cells) (1 + i * 16) z5 Zn
    clear Zc
    have Zc := N_
    clear N_
    change K _ (z5.setCells (gc) (1 + i * 16) ((a.learn a.sl).cells))
    generalize z5.setCells (gc) (1 + i * 16) ((a.learn a.sl).cells) = z6 at Zc Zx Zn hu ee ff ⊢
    refine hK.out _ _ (rowAt Zn) (fun hH => ?_)
    clear hK K hH
    try simp only [Act.put, List.getElem_toArray, List.getElem_cons_zero, List.getElem_cons_succ, List.setIfInBounds_toArray, List.set_cons_zero, List.set_cons_succ]
    refine wpAnyH_done (by kernel_rfl) ?_ _
    clear Zn
    go_upto_region 3 with fail
    have Zc : z6.drew.heap[gc]? = some (.cells (crC n (Px.upd A i (a.learn a.sl)) (fun j => pv (H j)) S k).toArray 122) := Zc
    have Zx : z6.drew.heap[w.heap.size]? = some (.cells x.cells.toArray 37) := Zx
    have hu := World.ownsRow.drew hu
    have ee := belowDrewS ee
    have ff := ogDrew ff
    refine wp_region_held_drew (S := fun z' => z'.rangeAt w.heap.size 0 x.cells) (by kernel_rfl) (rowAt Zx) (fun hH => ?_)
    clear hH
    generalize z6.drew = z7 at Zc Zx hu ee ff ⊢
    refine wpAnyH_take (i := 0) (v := .pointer (some ⟨gc, 0, none⟩)) rfl (by kernel_rfl) (by kernel_rfl) (by kernel_rfl) (fun _ _ _ h => h) (Or.inl ⟨by rfl, fun w_ hS_ => by (first | (go_simp; done) | (go_simp; rfl))⟩) (rowAt Zx) ?_
    try simp only [Act.put, List.getElem_toArray, List.getElem_cons_zero, List.getElem_cons_succ, List.setIfInBounds_toArray, List.set_cons_zero, List.set_cons_succ]
    refine wpAnyH_take (i := 1) (v := .int .i64 (i : Int)) rfl (by kernel_rfl) (by kernel_rfl) (by kernel_rfl) (fun _ _ _ h => h) (Or.inl ⟨by rfl, fun w_ hS_ => by (first | (go_simp; done) | (go_simp; rfl))⟩) (rowAt Zx) ?_
    try simp only [Act.put, List.getElem_toArray, List.getElem_cons_zero, List.getElem_cons_succ, List.setIfInBounds_toArray, List.set_cons_zero, List.set_cons_succ]
    refine wpAnyH_take (i := 2) (v := .pointer (some ⟨gc, 0, none⟩)) rfl (by kernel_rfl) (by kernel_rfl) (by kernel_rfl) (fun _ _ _ h => h) (Or.inl ⟨by rfl, fun w_ hS_ => by (first | (go_simp; done) | (go_simp; rfl))⟩) (rowAt Zx) ?_
    try simp only [Act.put, List.getElem_toArray, List.getElem_cons_zero, List.getElem_cons_succ, List.setIfInBounds_toArray, List.set_cons_zero, List.set_cons_succ]
    refine wpAnyH_take (i := 3) (v := .int .i64 (i : Int)) rfl (by kernel_rfl) (by kernel_rfl) (by kernel_rfl) (fun _ _ _ h => h) (Or.inl ⟨by rfl, fun w_ hS_ => by (first | (go_simp; done) | (go_simp; rfl))⟩) (rowAt Zx) ?_
    try simp only [Act.put, List.getElem_toArray, List.getElem_cons_zero, List.getElem_cons_succ, List.setIfInBounds_toArray, List.set_cons_zero, List.set_cons_succ]
    refine wpAnyH_take (i := 4) (v := .pointer (some ⟨gc, 0, none⟩)) rfl (by kernel_rfl) (by kernel_rfl) (by kernel_rfl) (fun _ _ _ h => h) (Or.inl ⟨by rfl, fun w_ hS_ => by (first | (go_simp; done) | (go_simp; rfl))⟩) (rowAt Zx) ?_
    try simp only [Act.put, List.getElem_toArray, List.getElem_cons_zero, List.getElem_cons_succ, List.setIfInBounds_toArray, List.set_cons_zero, List.set_cons_succ]
    refine wpAnyH_take (i := 5) (v := .pointer (some ⟨gc, 86, none⟩)) rfl (by kernel_rfl) (by kernel_rfl) (by kernel_rfl) (fun _ _ _ h => h) (Or.inl ⟨by rfl, fun w_ hS_ => by (first | (go_simp; done) | (go_simp; rfl))⟩) (rowAt Zx) ?_
    try simp only [Act.put, List.getElem_toArray, List.getElem_cons_zero, List.getElem_cons_succ, List.setIfInBounds_toArray, List.set_cons_zero, List.set_cons_succ]
    refine wpAnyH_take (i := 6) (v := .pointer (some ⟨gc, 86 + i, none⟩)) rfl (by kernel_rfl) (by kernel_rfl) (by kernel_rfl) (fun _ _ _ h => h) (Or.inl ⟨by rfl, fun w_ hS_ => by (first | (go_simp; done) | (go_simp; rfl))⟩) (rowAt Zx) ?_
    try simp only [Act.put, List.getElem_toArray, List.getElem_cons_zero, List.getElem_cons_succ, List.setIfInBounds_toArray, List.set_cons_zero, List.set_cons_succ]
    refine wpAnyH_take (i := 8) (v := .agg (x.cells).toArray) rfl (by kernel_rfl) (by kernel_rfl) (by kernel_rfl) (fun _ _ _ h => h) (yieldsIf_load_mid (by rfl) 37 _ rfl (w.heap.size) (0) rfl (x.cells) _ (fun _ h => h) Tryd.underlying37 rfl sizeCm) (rowAt Zx) ?_
    try simp only [Act.put, List.getElem_toArray, List.getElem_cons_zero, List.getElem_cons_succ, List.setIfInBounds_toArray, List.set_cons_zero, List.set_cons_succ]
    refine wpAnyH_take (i := 11) (v := .pointer (some ⟨gc, 0, none⟩)) rfl (by kernel_rfl) (by kernel_rfl) (by kernel_rfl) (fun _ _ _ h => h) (Or.inl ⟨by rfl, fun w_ hS_ => by (first | (go_simp; done) | (go_simp; rfl))⟩) (rowAt Zx) ?_
    try simp only [Act.put, List.getElem_toArray, List.getElem_cons_zero, List.getElem_cons_succ, List.setIfInBounds_toArray, List.set_cons_zero, List.set_cons_succ]
    refine wpAnyH_take (i := 12) (v := .pointer (some ⟨gc, 86, none⟩)) rfl (by kernel_rfl) (by kernel_rfl) (by kernel_rfl) (fun _ _ _ h => h) (Or.inl ⟨by rfl, fun w_ hS_ => by (first | (go_simp; done) | (go_simp; rfl))⟩) (rowAt Zx) ?_
    try simp only [Act.put, List.getElem_toArray, List.getElem_cons_zero, List.getElem_cons_succ, List.setIfInBounds_toArray, List.set_cons_zero, List.set_cons_succ]
    refine wpAnyH_ready (rs := [7, 9]) (by kernel_rfl) (by simp) ?_
    refine AllReadyH.cons rfl (fun K hK => ?_) (AllReadyH.cons rfl (fun K hK => ?_) AllReadyH.nil)
    · rw [if_pos (by rfl)]
      have c_ := rowCell Zc (86 + i) (crS n _ _ S k i hi)
      rw [HS.out] at c_
      go_simp
      clear c_
      refine hK.out _ _ (rowAt Zx) (fun hH => ?_)
      clear hK K hH
      try simp only [Act.put, List.getElem_toArray, List.getElem_cons_zero, List.getElem_cons_succ, List.setIfInBounds_toArray, List.set_cons_zero, List.set_cons_succ]
      refine wpAnyH_ready (rs := [9]) (by kernel_rfl) (by simp) ?_
      refine AllReadyH.cons rfl (fun K hK => ?_) AllReadyH.nil
      rw [if_pos (by rfl)]
      refine wp_buildSlice 119 37 1 #[(0, .tmp 40)] rfl (x.cells).toArray i1 (.agg #[.int .i64 0, .int .i64 0, .int .i64 0, .slice none 0 0, .slice none 0 0, .int .i64 0, .int .i64 0, .int .i64 0, .int .u64 0, .bool false]) Tryd.underlying119 hi1 hz10 (by rw [hz11]; decide) (by rw [hz11]; decide) (by rw [hz11]; simp only [List.map_toArray, List.map_cons, List.map_nil]; exact ogFill (by omega) _ (Cm.cells_len _) _ (by simp)) ?_
      have lZc := (Array.getElem?_eq_some_iff.1 Zc).1
      have lZx := (Array.getElem?_eq_some_iff.1 Zx).1
      have sz_ := ff.size
      have ne_hu_Zm : (Value.slice A0 xi.length c0).ownBlock ≠ some (z7.heap.size) := fun hb_ => by have hh_ := (hu.lt _ hb_).2; omega
      have Zc := hpA Zc (.cells (x.cells).toArray 37)
      have Zx := hpA Zx (.cells (x.cells).toArray 37)
      have hu := hu.alloc (.cells (x.cells).toArray 37)
      have ee := ee.alloc (Nat.le_trans hB ee.size) (.cells (x.cells).toArray 37)
      have ff := ogAlloc ff (.cells (x.cells).toArray 37)
      have Zm := hpN z7 (.cells (x.cells).toArray 37) rfl
      generalize z7.alloc (.cells (x.cells).toArray 37) = z8 at Zc Zx Zm hu ee ff ⊢
      refine hK.out _ _ (rowAt Zx) (fun hH => ?_)
      clear hK K hH
      try simp only [Act.put, List.getElem_toArray, List.getElem_cons_zero, List.getElem_cons_succ, List.setIfInBounds_toArray, List.set_cons_zero, List.set_cons_succ]
      refine wpAnyH_ready (rs := [10]) (by kernel_rfl) (by simp) ?_
      refine AllReadyH.cons rfl (fun K hK => ?_) AllReadyH.nil
      rw [if_pos (by rfl)]
      refine wp_append_ownW _ (.tmp 39) (.tmp 41) 119 rfl B 37 i1 (.agg #[.int .i64 0, .int .i64 0, .int .i64 0, .slice none 0 0, .slice none 0 0, .int .i64 0, .int .i64 0, .int .i64 0, .int .u64 0, .bool false]) 10 112 Tryd.underlying119 hi1 hz10 hz11 hz12 rfl (by decide) _ _ _ rfl hu ⟨z7.heap.size, 0, none⟩ 1 1 (x.cells) rfl rfl (ogRowAdd Zm) (oneCm3 _) (by unfold maxLen; omega) (by omega) (Nat.le_trans hB ff.size) ?_
      intro u_ z9 ho_ hg_ hw_
      have hw_ : ∀ g_, u_.ownBlock = some g_ → (Value.slice A0 xi.length c0).ownBlock = some g_ ∨ w.heap.size ≤ g_ := fun g_ e_ => by
        rcases hw_ with h_ | h_ | h_
        · rw [h_] at e_; cases e_
        · have h2_ : u_.ownBlock = (Value.slice A0 xi.length c0).ownBlock := h_
          left; rw [← h2_]; exact e_
        · right; rw [h_] at e_; injection e_ with e_; have := ff.size; omega
      clear Zm
      have Zc := ogHeap Zc hu (by decide) hg_
      have Zx := ogHeapB Zx hnex hg_
      have ee := ee.grown hg_ (Nat.le_trans hB ee.size) (fun g_ hg2_ => by have hh_ := (hu.lt g_ hg2_).1; omega)
      have ff := ogOwnE ff hg_ (fun i_ hi_ => by have hh_ := (hu.lt i_ hi_).1; first | exact Or.inl (Or.inr hi_) | (right; omega) | (left; first | rfl | omega))
      clear hg_ hu
      obtain ⟨A9, c9, hu9, hc9, _, _⟩ := ownShape ho_
      subst hu9
      have hu := ho_
      clear ho_
      refine hK.out _ _ (rowAt Zx) (fun hH => ?_)
      clear hK K hH
      try simp only [Act.put, List.getElem_toArray, List.getElem_cons_zero, List.getElem_cons_succ, List.setIfInBounds_toArray, List.set_cons_zero, List.set_cons_succ]
      refine wpAnyH_take (i := 13) (v := .pointer (some ⟨gc, 86 + i, none⟩)) rfl (by kernel_rfl) (by kernel_rfl) (by kernel_rfl) (fun _ _ _ h => h) (Or.inl ⟨by rfl, fun w_ hS_ => by (first | (go_simp; done) | (go_simp; rfl))⟩) (rowAt Zx) ?_
      try simp only [Act.put, List.getElem_toArray, List.getElem_cons_zero, List.getElem_cons_succ, List.setIfInBounds_toArray, List.set_cons_zero, List.set_cons_succ]
      refine wpAnyH_ready (rs := [14]) (by kernel_rfl) (by simp) ?_
      refine AllReadyH.cons rfl (fun K hK => ?_) AllReadyH.nil
      rw [if_pos (by rfl)]
      have f_ : z9.frozen? ⟨gc, 86 + i, none⟩ = false := freeAt Zc (86 + i)
      have c_ := rowCell Zc (86 + i) (crS n _ _ S k i hi)
      go_simp
      clear f_ c_
      have N_ : (z9.setCells (gc) (86 + i) ([.slice A9 (xi.length + 1) c9])).heap[gc]? = some (.cells (crC n (Px.upd A i (a.learn a.sl)) (fun j => pv (H j)) (updF S i (.slice A9 (xi.length + 1) c9)) k).toArray 122) := (by rw [← crPutS n _ _ S k i hi]; exact hpC _ _ _ _ Zc)
      have hu := ogOwnC hu (ogKind hu Zc (by decide)) ([.slice A9 (xi.length + 1) c9]) (86 + i)
      have ee := belowC (g := gc) (by omega) ([.slice A9 (xi.length + 1) c9]) (86 + i) z9 ee
      have ff := ogCells (k := gc) (by first | (right; omega) | (left; left; rfl)) ([.slice A9 (xi.length + 1) c9]) (86 + i) z9 ff
      have Zx := hpCo (g' := gc) (by omega) ([.slice A9 (xi.length + 1) c9]) (86 + i) z9 Zx
      clear Zc
      have Zc := N_
      clear N_
      change K _ (z9.setCells (gc) (86 + i) ([.slice A9 (xi.length + 1) c9]))
      generalize z9.setCells (gc) (86 + i) ([.slice A9 (xi.length + 1) c9]) = z10 at Zc Zx hu ee ff ⊢
      refine hK.out _ _ (rowAt Zx) (fun hH => ?_)
      clear hK K hH
      try simp only [Act.put, List.getElem_toArray, List.getElem_cons_zero, List.getElem_cons_succ, List.setIfInBounds_toArray, List.set_cons_zero, List.set_cons_succ]
      refine wpAnyH_done (by kernel_rfl) ?_ _
      clear hi0 hi5
      go_wp2_with fail
      go_ret
      refine ⟨rfl, ⟨_, HMV.out _ _ (xi ++ [x]) _ ff Zc ?_ hw_⟩, ee, by rw [HS.out]; exact ff⟩
      rw [List.length_append, List.length_singleton, flat_snoc]
      exact hu
    · rw [if_pos (by rfl)]
      refine wp_buildSlice 119 37 1 #[(0, .tmp 40)] rfl (x.cells).toArray i1 (.agg #[.int .i64 0, .int .i64 0, .int .i64 0, .slice none 0 0, .slice none 0 0, .int .i64 0, .int .i64 0, .int .i64 0, .int .u64 0, .bool false]) Tryd.underlying119 hi1 hz10 (by rw [hz11]; decide) (by rw [hz11]; decide) (by rw [hz11]; simp only [List.map_toArray, List.map_cons, List.map_nil]; exact ogFill (by omega) _ (Cm.cells_len _) _ (by simp)) ?_
      have lZc := (Array.getElem?_eq_some_iff.1 Zc).1
      have lZx := (Array.getElem?_eq_some_iff.1 Zx).1
      have sz_ := ff.size
      have ne_hu_Zm : (Value.slice A0 xi.length c0).ownBlock ≠ some (z7.heap.size) := fun hb_ => by have hh_ := (hu.lt _ hb_).2; omega
      have Zc := hpA Zc (.cells (x.cells).toArray 37)
      have Zx := hpA Zx (.cells (x.cells).toArray 37)
      have hu := hu.alloc (.cells (x.cells).toArray 37)
      have ee := ee.alloc (Nat.le_trans hB ee.size) (.cells (x.cells).toArray 37)
      have ff := ogAlloc ff (.cells (x.cells).toArray 37)
      have Zm := hpN z7 (.cells (x.cells).toArray 37) rfl
      generalize z7.alloc (.cells (x.cells).toArray 37) = z8 at Zc Zx Zm hu ee ff ⊢
      refine hK.out _ _ (rowAt Zx) (fun hH => ?_)
      clear hK K hH
      try simp only [Act.put, List.getElem_toArray, List.getElem_cons_zero, List.getElem_cons_succ, List.setIfInBounds_toArray, List.set_cons_zero, List.set_cons_succ]
      refine wpAnyH_ready (rs := [7]) (by kernel_rfl) (by simp) ?_
      refine AllReadyH.cons rfl (fun K hK => ?_) AllReadyH.nil
      rw [if_pos (by rfl)]
      have c_ := rowCell Zc (86 + i) (crS n _ _ S k i hi)
      rw [HS.out] at c_
      go_simp
      clear c_
      refine hK.out _ _ (rowAt Zx) (fun hH => ?_)
      clear hK K hH
      try simp only [Act.put, List.getElem_toArray, List.getElem_cons_zero, List.getElem_cons_succ, List.setIfInBounds_toArray, List.set_cons_zero, List.set_cons_succ]
      refine wpAnyH_ready (rs := [10]) (by kernel_rfl) (by simp) ?_
      refine AllReadyH.cons rfl (fun K hK => ?_) AllReadyH.nil
      rw [if_pos (by rfl)]
      refine wp_append_ownW _ (.tmp 39) (.tmp 41) 119 rfl B 37 i1 (.agg #[.int .i64 0, .int .i64 0, .int .i64 0, .slice none 0 0, .slice none 0 0, .int .i64 0, .int .i64 0, .int .i64 0, .int .u64 0, .bool false]) 10 112 Tryd.underlying119 hi1 hz10 hz11 hz12 rfl (by decide) _ _ _ rfl hu ⟨z7.heap.size, 0, none⟩ 1 1 (x.cells) rfl rfl (ogRowAdd Zm) (oneCm3 _) (by unfold maxLen; omega) (by omega) (Nat.le_trans hB ff.size) ?_
      intro u_ z9 ho_ hg_ hw_
      have hw_ : ∀ g_, u_.ownBlock = some g_ → (Value.slice A0 xi.length c0).ownBlock = some g_ ∨ w.heap.size ≤ g_ := fun g_ e_ => by
        rcases hw_ with h_ | h_ | h_
        · rw [h_] at e_; cases e_
        · have h2_ : u_.ownBlock = (Value.slice A0 xi.length c0).ownBlock := h_
          left; rw [← h2_]; exact e_
        · right; rw [h_] at e_; injection e_ with e_; have := ff.size; omega
      clear Zm
      have Zc := ogHeap Zc hu (by decide) hg_
      have Zx := ogHeapB Zx hnex hg_
      have ee := ee.grown hg_ (Nat.le_trans hB ee.size) (fun g_ hg2_ => by have hh_ := (hu.lt g_ hg2_).1; omega)
      have ff := ogOwnE ff hg_ (fun i_ hi_ => by have hh_ := (hu.lt i_ hi_).1; first | exact Or.inl (Or.inr hi_) | (right; omega) | (left; first | rfl | omega))
      clear hg_ hu
      obtain ⟨A9, c9, hu9, hc9, _, _⟩ := ownShape ho_
      subst hu9
      have hu := ho_
      clear ho_
      refine hK.out _ _ (rowAt Zx) (fun hH => ?_)
      clear hK K hH
      try simp only [Act.put, List.getElem_toArray, List.getElem_cons_zero, List.getElem_cons_succ, List.setIfInBounds_toArray, List.set_cons_zero, List.set_cons_succ]
      refine wpAnyH_take (i := 13) (v := .pointer (some ⟨gc, 86 + i, none⟩)) rfl (by kernel_rfl) (by kernel_rfl) (by kernel_rfl) (fun _ _ _ h => h) (Or.inl ⟨by rfl, fun w_ hS_ => by (first | (go_simp; done) | (go_simp; rfl))⟩) (rowAt Zx) ?_
      try simp only [Act.put, List.getElem_toArray, List.getElem_cons_zero, List.getElem_cons_succ, List.setIfInBounds_toArray, List.set_cons_zero, List.set_cons_succ]
      refine wpAnyH_ready (rs := [14]) (by kernel_rfl) (by simp) ?_
      refine AllReadyH.cons rfl (fun K hK => ?_) AllReadyH.nil
      rw [if_pos (by rfl)]
      have f_ : z9.frozen? ⟨gc, 86 + i, none⟩ = false := freeAt Zc (86 + i)
      have c_ := rowCell Zc (86 + i) (crS n _ _ S k i hi)
      go_simp
      clear f_ c_
      have N_ : (z9.setCells (gc) (86 + i) ([.slice A9 (xi.length + 1) c9])).heap[gc]? = some (.cells (crC n (Px.upd A i (a.learn a.sl)) (fun j => pv (H j)) (updF S i (.slice A9 (xi.length + 1) c9)) k).toArray 122) := (by rw [← crPutS n _ _ S k i hi]; exact hpC _ _ _ _ Zc)
      have hu := ogOwnC hu (ogKind hu Zc (by decide)) ([.slice A9 (xi.length + 1) c9]) (86 + i)
      have ee := belowC (g := gc) (by omega) ([.slice A9 (xi.length + 1) c9]) (86 + i) z9 ee
      have ff := ogCells (k := gc) (by first | (right; omega) | (left; left; rfl)) ([.slice A9 (xi.length + 1) c9]) (86 + i) z9 ff
      have Zx := hpCo (g' := gc) (by omega) ([.slice A9 (xi.length + 1) c9]) (86 + i) z9 Zx
      clear Zc
      have Zc := N_
      clear N_
      change K _ (z9.setCells (gc) (86 + i) ([.slice A9 (xi.length + 1) c9]))
      generalize z9.setCells (gc) (86 + i) ([.slice A9 (xi.length + 1) c9]) = z10 at Zc Zx hu ee ff ⊢
      refine hK.out _ _ (rowAt Zx) (fun hH => ?_)
      clear hK K hH
      try simp only [Act.put, List.getElem_toArray, List.getElem_cons_zero, List.getElem_cons_succ, List.setIfInBounds_toArray, List.set_cons_zero, List.set_cons_succ]
      refine wpAnyH_done (by kernel_rfl) ?_ _
      clear hi0 hi5
      go_wp2_with fail
      go_ret
      refine ⟨rfl, ⟨_, HMV.out _ _ (xi ++ [x]) _ ff Zc ?_ hw_⟩, ee, by rw [HS.out]; exact ff⟩
      rw [List.length_append, List.length_singleton, flat_snoc]
      exact hu
end Go.Proofs.YtbahooohkigcnaaDoor

namespace Go.Proofs.YtbahooohkigcnaaDoor
set_option maxRecDepth 20001
open Go.RowKit T Ag
set_option linter.unusedSimpArgs false
set_option linter.unusedVariables false

/-- a step of a crew -/
structure StepC where
  kd : Nat
  nd : Nat
  st : Nat
instance : Inhabited StepC := ⟨⟨0, 0, 0⟩⟩
def StepC.cells (s : StepC) : List Value := [.int .u8 (s.kd : Int), .int .u8 (s.nd : Int), .int .u8 (s.st : Int)]
theorem StepC.one (s : StepC) : s.cells.toArray.all (·.oneCell') = true := by simp [StepC.cells, Value.oneCell']
theorem sizeStC : (Tryd.prog.info? 124).map (·.size) = some 3 := by kernel_rfl
theorem Cel.stepC {W : World} {cs : List Value} (h : Cel W 124 cs) : ∃ s : StepC, cs = s.cells ∧ s.kd < 256 ∧ s.nd < 256 ∧ s.st < 256 := by
  have hl := h.len Tryd.underlying124
  rw [show Tryd.prog.cellsOf 124 = 3 from by kernel_rfl] at hl
  match cs, hl with
  | [a, b, c], _ =>
    obtain ⟨x, hx, x8⟩ := (h.field1 Tryd.underlying124 0 0 5 _ rfl rfl rfl (by kernel_rfl) a rfl).u8 Tryd.underlying5
    obtain ⟨y, hy, y8⟩ := (h.field1 Tryd.underlying124 1 1 5 _ rfl rfl rfl (by kernel_rfl) b rfl).u8 Tryd.underlying5
    obtain ⟨z, hz, z8⟩ := (h.field1 Tryd.underlying124 2 2 5 _ rfl rfl rfl (by kernel_rfl) c rfl).u8 Tryd.underlying5
    injection hx with hx
    injection hy with hy
    injection hz with hz
    subst hx hy hz
    exact ⟨⟨x, y, z⟩, rfl, x8, y8, z8⟩
theorem Arg.stepsC {W : World} {v : Value} (h : Arg W 116 v) : ∃ (A : Option Addr) (c : Nat) (ls : List StepC), v = .slice A ls.length c ∧ ls.length ≤ c ∧ c ≤ maxLen ∧ RowsAt W W.heap.size A 3 (ls.map StepC.cells) ∧ ∀ s ∈ ls, s.kd < 256 ∧ s.nd < 256 ∧ s.st < 256 := by
  obtain ⟨A, n, c, rfl, hc⟩ := h.slice Tryd.underlying116
  obtain ⟨ls, r1, r2, r3, r4, r5, r6⟩ := hc.rows StepC.cells (fun s => s.kd < 256 ∧ s.nd < 256 ∧ s.st < 256) Tryd.underlying116 (sz := 3) (by kernel_rfl) (by omega) (fun cs hcs => hcs.stepC)
  exact ⟨A, c, ls, by rw [r1], by omega, r3, r5, r6⟩
theorem Cinv.congr {n t : Nat} {A : Nat → Ac} {L L' : Nat → Ld} {X : Nat → List Cm} {P : List Px.Pr} {V : Px.Vt} (h : Cinv n t A L X P V) (e : ∀ i, i < n → L' i = L i) : Cinv n t A L' X P V := by
  refine ⟨h.core, h.ac, fun p hp => ?_, h.xl, fun i hi => by rw [e i hi]; exact h.ld i hi⟩
  obtain ⟨a1, a2, a3, a4, a5⟩ := h.ps p hp
  exact ⟨a1, a2, a3, a4, fun i hi => by rw [e i (by omega)]; exact a5 i hi⟩
def aIni (j : Nat) : Nat → Ac := fun i => if i < j then Ac.new else Ac.zero
def hIni (j : Nat) (Hv : Nat → Nat) : Nat → Value := fun i => if i < j then pv (Hv i) else .pointer none
def lIni (n : Nat) : Nat → Ld := fun i => Ld.new (if i < n then (n : Int) else 5) (i : Int)
def sIni : Nat → Value := fun _ => .slice none 0 0
theorem aIni_step (j : Nat) : Px.upd (aIni j) j Ac.new = aIni (j + 1) := funext fun i => by
  by_cases e : i = j
  · subst e; rw [Px.upd_same]; unfold aIni; rw [if_pos (by omega)]
  · rw [Px.upd_ne _ _ e]; unfold aIni
    by_cases h : i < j
    · rw [if_pos h, if_pos (by omega)]
    · rw [if_neg h, if_neg (by omega)]
theorem hIni_step (j g : Nat) (Hv : Nat → Nat) : updF (hIni j Hv) j (pv g) = hIni (j + 1) (updF Hv j g) := funext fun i => by
  by_cases e : i = j
  · subst e; rw [updF_same]; unfold hIni; rw [if_pos (by omega), updF_same]
  · rw [updF_ne _ _ e]; unfold hIni
    by_cases h : i < j
    · rw [if_pos h, if_pos (by omega), updF_ne _ _ e]
    · rw [if_neg h, if_neg (by omega)]
theorem updF_updF2 {α : Type} (f : Nat → α) (i : Nat) (a b : α) : updF (updF f i a) i b = updF f i b := updF_updF f i a b
theorem hIni_again (j g g' : Nat) (Hv : Nat → Nat) : updF (hIni (j + 1) (updF Hv j g)) j (pv g') = hIni (j + 1) (updF Hv j g') := by
  rw [← hIni_step, updF_updF, hIni_step]
/-- the leaders that are made -/
def LdsAt (w : World) (B n j : Nat) (Hv : Nat → Nat) : Prop := (∀ i, i < j → LdAt w (Hv i) (lIni n i) ∧ B ≤ Hv i) ∧ ∀ i k, i < j → k < j → i ≠ k → Hv i ≠ Hv k
theorem LdsAt.keep {w w' : World} {B n j : Nat} {Hv : Nat → Nat} (h : LdsAt w B n j Hv) (hk : ∀ i, i < j → w'.heap[Hv i]? = w.heap[Hv i]?) : LdsAt w' B n j Hv := ⟨fun i hi => ⟨(hk i hi).trans (h.1 i hi).1, (h.1 i hi).2⟩, h.2⟩
theorem LdsAt.below {w w' : World} {B n j : Nat} {Hv : Nat → Nat} (h : LdsAt w B n j Hv) (t : Below w.heap.size w w') : LdsAt w' B n j Hv := h.keep fun i hi => t.block _ (Array.getElem?_eq_some_iff.1 (h.1 i hi).1).1
theorem LdsAt.add {w : World} {B n j g : Nat} {Hv : Nat → Nat} (h : LdsAt w B n j Hv) (hg : LdAt w g (lIni n j)) (hB : B ≤ g) (hne : ∀ i, i < j → Hv i ≠ g) : LdsAt w B n (j + 1) (updF Hv j g) := by
  refine ⟨fun i hi => ?_, fun i k hi hk hik => ?_⟩
  · by_cases e : i = j
    · subst e; rw [updF_same]; exact ⟨hg, hB⟩
    · rw [updF_ne _ _ e]; exact h.1 i (by omega)
  · by_cases e : i = j
    · subst e; rw [updF_same, updF_ne _ _ (fun q => hik q.symm)]; exact fun q => hne k (by omega) q.symm
    · rw [updF_ne _ _ e]
      by_cases e2 : k = j
      · subst e2; rw [updF_same]; exact hne i (by omega)
      · rw [updF_ne _ _ e2]; exact h.2 i k (by omega) (by omega) hik
/-- the crew at the beginning -/
theorem crewFirst {w : World} {B gc n : Nat} {Hv : Nat → Nat} (h : LdsAt w B n 5 Hv) (hz : w.heap[gc]? = some (.cells (crC n (aIni 5) (hIni 5 Hv) sIni 0).toArray 122 (0, 0))) (hB : B ≤ gc) : CrewAt w B gc n (fun _ => Ac.new) Hv (lIni n) sIni (fun _ => []) 0 :=
  ⟨hz, hB, fun j hj => h.1 j hj, fun i j hi hj hij => h.2 i j hi hj hij, fun j _ => World.ownsRow_nil _ _ _ _, fun i j _ _ _ g hg => (by cases hg), fun j _ => World.ownsRow_nil _ _ _ _, fun i j _ _ _ g hg => (by cases hg)⟩
theorem cinvFirst (n : Nat) (h5 : n ≤ 5) : Cinv n 0 (fun _ => Ac.new) (lIni n) (fun _ => []) [] (fun _ _ _ _ => false) := Cinv.congr (Cinv.first n h5) fun i hi => by unfold lIni; rw [if_pos hi]
/-- what lies behind t steps -/
def StC (w : World) (B gc n t : Nat) : Prop := ∃ (A : Nat → Ac) (H : Nat → Nat) (L : Nat → Ld) (S : Nat → Value) (X : Nat → List Cm) (k : Nat) (P : List Px.Pr) (V : Px.Vt), k ≤ t ∧ CrewAt w B gc n A H L S X k ∧ Cinv n t A L X P V
set_option maxHeartbeats 25600000 in
theorem lagree_mid (AV : Option Addr) (cV : Nat) (l : List StepC) (m : Nat) (hm : m < 256) (w : World) (hc : l.length ≤ cV) (hcm : cV ≤ maxLen) (hA : RowsAt w w.heap.size AV 3 (l.map StepC.cells)) (hS : ∀ s ∈ l, s.kd < 256 ∧ s.nd < 256 ∧ s.st < 256) (hT : Tabs w) :
    Calls Tryd.prog 11 #[.int .u8 (m : Int), .slice AV l.length cV] w fun e w' => e = .returned (.bool true) ∧ Below w.heap.size w w' := by
  obtain ⟨sn, hn⟩ : ∃ n, n = l.length := ⟨_, rfl⟩
  have HN := Lib.hid hn
  have HRD := Lib.hid hA
  have HT := Lib.hid hT
  have HSB := Lib.hid hS
  rw [← hn] at hc ⊢
  clear hn hA hT hS
  unfold maxLen at hcm
  have ee : Below w.heap.size w w := Below.refl _ _
  go_enter Tryd.func11, Tryd.ntmps11
  go_wp2_with fail
  refine (awake19 w).mono ?_
  rintro e z1 ⟨rfl, t⟩
  have ee := ee.trans (t.mono ee.size)
  clear t
  by_cases hl : 100 < sn
  · have hl : decide (100 < (sn : Int)) = true := by simp; omega
    go_wp2_with fail
    refine (awake19 z1).mono ?_
    rintro e z2 ⟨rfl, t⟩
    have ee := ee.trans (t.mono ee.size)
    clear t
    go_wp2_with fail
    go_ret
    exact ⟨rfl, ee⟩
  · have hl60 : sn ≤ 100 := by omega
    have hl : decide (100 < (sn : Int)) = false := by simp; omega
    go_upto_region 3 with fail
    clear hl
    go_cut [5] (fun u5 wx => ∃ (n gc : Nat), u5 = .pointer (some ⟨gc, 0, none⟩) ∧ Hid (n = 1 ∨ n = 3 ∨ n = 5) ∧ Hid (w.heap.size ≤ gc) ∧ Hid (wx.heap[gc]? = some (.cells (crC n (aIni 0) (hIni 0 (fun _ => 0)) sIni 0).toArray 122 (0, 0))) ∧ Hid (Below w.heap.size w wx))
    case first =>
      have h3 : m % 3 = 0 ∨ m % 3 = 1 ∨ m % 3 = 2 := by omega
      rcases h3 with h3 | h3 | h3
      · have hr : (m : Int) % 3 = 0 := by omega
        clear h3
        go_wp2_with fail
        go_meet
        exact ⟨1, _, rfl, (by show _ ∨ _; omega), (by have := ee.size; show _ ≤ _; omega), hpN _ _ (by simp), (ee.alloc ee.size _).alloc (by have := ee.size; simp; omega) _⟩
      · have hr : (m : Int) % 3 = 1 := by omega
        clear h3
        go_wp2_with fail
        go_meet
        exact ⟨3, _, rfl, (by show _ ∨ _; omega), (by have := ee.size; show _ ≤ _; omega), hpN _ _ (by simp), (ee.alloc ee.size _).alloc (by have := ee.size; simp; omega) _⟩
      · have hr : (m : Int) % 3 = 2 := by omega
        clear h3
        go_wp2_with fail
        go_meet
        exact ⟨5, _, rfl, (by show _ ∨ _; omega), (by have := ee.size; show _ ≤ _; omega), hpN _ _ (by simp), (ee.alloc ee.size _).alloc (by have := ee.size; simp; omega) _⟩
    case rest =>
      obtain ⟨n, gc, rfl, HNN, hwg, Zc, ee⟩ := hcut
      have ee := ee.out
      have Zc := Zc.out
      have hwg := hwg.out
      have hs5 : n ≤ 5 := by have := HNN.out; omega
      have hs1 : 1 ≤ n := by have := HNN.out; omega
      have nm : ∀ z : World, Below w.heap.size w z → ∃ z', z' = z := fun z _ => ⟨z, rfl⟩
      obtain ⟨y0, hy0⟩ := nm _ ee
      subst hy0
      clear nm
      go_wp2_with fail
      go_loopw [6] (fun u wr => ∃ (j : Nat) (Hv : Nat → Nat), j ≤ 5 ∧ u = .int .i64 (j : Int) ∧ Hid (LdsAt wr w.heap.size n j Hv) ∧ Hid (wr.heap[gc]? = some (.cells (crC n (aIni j) (hIni j Hv) sIni 0).toArray 122 (0, 0))) ∧ Hid (Below w.heap.size w wr)) (fun u _ => 5 - (intOf u).toNat)
      case atStart => exact ⟨0, fun _ => 0, Nat.zero_le _, rfl, ⟨fun i hi => absurd hi (Nat.not_lt_zero _), fun i k hi => absurd hi (Nat.not_lt_zero _)⟩, Zc, ee⟩
      case round =>
        clear Zc ee
        obtain ⟨j, Hv, hj, rfl, hL, Zc, ee⟩ := hrel
        have hL := hL.out
        have Zc := Zc.out
        have ee := ee.out
        by_cases hlt : j < 5
        · have hj0 : (0 : Int) ≤ (j : Int) := by omega
          have hj5 : (j : Int) < 5 := by omega
          obtain ⟨wq, hwq⟩ : ∃ wq, wq = wr := ⟨_, rfl⟩
          have f3 : OgF wq wr (fun b => b = gc) := by rw [hwq]; exact OgF.refl _ _
          have sq := ee.size
          have HGQ := (show wq.heap[gc]? = wr.heap[gc]? by rw [hwq]).trans Zc
          rw [← hwq] at hL sq
          clear hwq
          go_upto_region 7 with fail
          have hgc_ne : ∀ i, i < j → ¬ (Hv i = gc) := fun i hi => by
            have h1 := (hL.1 i hi).1
            have h2 := f3.2 (Hv i) (Array.getElem?_eq_some_iff.1 h1).1
            intro e_
            rw [e_] at h1
            have h3 := HGQ
            rw [h1] at h3
            injection h3 with h3
            injection h3 with _ h4
            exact absurd h4 (by decide)
          have Zc : wr.drew.heap[gc]? = some (.cells (crC n (aIni j) (hIni j Hv) sIni 0).toArray 122) := Zc
          have ee := belowDrewS ee
          have f3 := ogDrew f3
          refine wp_region_held_drew (S := fun z' => True) (by kernel_rfl) trivial (fun hH => ?_)
          clear hH
          generalize wr.drew = v1 at Zc ee f3 ⊢
          refine wpAnyH_take (i := 0) (v := .pointer (some ⟨gc, 0, none⟩)) rfl (by kernel_rfl) (by kernel_rfl) (by kernel_rfl) (fun _ _ _ h => h) (Or.inl ⟨by rfl, fun w_ hS_ => by (first | (go_simp; done) | (go_simp; rfl))⟩) trivial ?_
          try simp only [Act.put, List.getElem_toArray, List.getElem_cons_zero, List.getElem_cons_succ, List.setIfInBounds_toArray, List.set_cons_zero, List.set_cons_succ]
          refine wpAnyH_take (i := 1) (v := .int .i64 ((j : Int))) rfl (by kernel_rfl) (by kernel_rfl) (by kernel_rfl) (fun _ _ _ h => h) (Or.inl ⟨by rfl, fun w_ hS_ => by (first | (go_simp; done) | (go_simp; rfl))⟩) trivial ?_
          try simp only [Act.put, List.getElem_toArray, List.getElem_cons_zero, List.getElem_cons_succ, List.setIfInBounds_toArray, List.set_cons_zero, List.set_cons_succ]
          refine wpAnyH_take (i := 3) (v := .pointer (some ⟨gc, 0, none⟩)) rfl (by kernel_rfl) (by kernel_rfl) (by kernel_rfl) (fun _ _ _ h => h) (Or.inl ⟨by rfl, fun w_ hS_ => by (first | (go_simp; done) | (go_simp; rfl))⟩) trivial ?_
          try simp only [Act.put, List.getElem_toArray, List.getElem_cons_zero, List.getElem_cons_succ, List.setIfInBounds_toArray, List.set_cons_zero, List.set_cons_succ]
          refine wpAnyH_take (i := 4) (v := .pointer (some ⟨gc, 1, none⟩)) rfl (by kernel_rfl) (by kernel_rfl) (by kernel_rfl) (fun _ _ _ h => h) (Or.inl ⟨by rfl, fun w_ hS_ => by (first | (go_simp; done) | (go_simp; rfl))⟩) trivial ?_
          try simp only [Act.put, List.getElem_toArray, List.getElem_cons_zero, List.getElem_cons_succ, List.setIfInBounds_toArray, List.set_cons_zero, List.set_cons_succ]
          refine wpAnyH_ready (rs := [2]) (by kernel_rfl) (by simp) ?_
          refine AllReadyH.cons rfl (fun K hK => ?_) AllReadyH.nil
          rw [if_pos (by rfl)]
          go_simp
          go_wp2_with (go_at_call 22; refine (c_new v1).mono ?_; rintro e v2 ⟨rfl, t⟩)
          have Zc := hpB Zc t
          have ee := ee.trans (t.mono ee.size)
          have f3 := ogBelow f3 t
          clear t
          refine hK.out _ _ trivial (fun hH => ?_)
          clear hK K hH
          try simp only [Act.put, List.getElem_toArray, List.getElem_cons_zero, List.getElem_cons_succ, List.setIfInBounds_toArray, List.set_cons_zero, List.set_cons_succ]
          refine wpAnyH_take (i := 5) (v := .pointer (some ⟨gc, 1 + j * 16, none⟩)) rfl (by kernel_rfl) (by kernel_rfl) (by kernel_rfl) (fun _ _ _ h => h) (Or.inl ⟨by rfl, fun w_ hS_ => by (first | (go_simp; done) | (go_simp; rfl))⟩) trivial ?_
          try simp only [Act.put, List.getElem_toArray, List.getElem_cons_zero, List.getElem_cons_succ, List.setIfInBounds_toArray, List.set_cons_zero, List.set_cons_succ]
          refine wpAnyH_ready (rs := [6]) (by kernel_rfl) (by simp) ?_
          refine AllReadyH.cons rfl (fun K hK => ?_) AllReadyH.nil
          rw [if_pos (by rfl)]
          refine wp_store_mid 39 _ _ rfl (gc) (1 + j * 16) (Ac.new.cells).toArray rfl rfl (crThere Zc (by omega)) sizeAc (Ac.one _) ?_
          have N_ : (v2.setCells (gc) (1 + j * 16) (Ac.new.cells)).heap[gc]? = some (.cells (crC n (aIni (j + 1)) (hIni j Hv) sIni 0).toArray 122) := (by rw [← aIni_step, ← crPutA n _ _ _ _ j (by omega)]; exact hpC _ _ _ _ Zc)
          have ee := belowC (g := gc) (by omega) (Ac.new.cells) (1 + j * 16) v2 ee
          have f3 := ogCells (k := gc) (by first | (right; have := f3.size; omega) | (left; rfl)) (Ac.new.cells) (1 + j * 16) v2 f3
          clear Zc
          have Zc := N_
          clear N_
          change K _ (v2.setCells (gc) (1 + j * 16) (Ac.new.cells))
          generalize v2.setCells (gc) (1 + j * 16) (Ac.new.cells) = v3 at Zc ee f3 ⊢
          refine hK.out _ _ trivial (fun hH => ?_)
          clear hK K hH
          try simp only [Act.put, List.getElem_toArray, List.getElem_cons_zero, List.getElem_cons_succ, List.setIfInBounds_toArray, List.set_cons_zero, List.set_cons_succ]
          refine wpAnyH_done (by kernel_rfl) ?_ _
          go_upto_region 8 with fail
          have Zc : v3.drew.heap[gc]? = some (.cells (crC n (aIni (j + 1)) (hIni j Hv) sIni 0).toArray 122) := Zc
          have ee := belowDrewS ee
          have f3 := ogDrew f3
          refine wp_region_held_drew (S := fun z' => True) (by kernel_rfl) trivial (fun hH => ?_)
          clear hH
          generalize v3.drew = v4 at Zc ee f3 ⊢
          refine wpAnyH_take (i := 0) (v := .pointer (some ⟨gc, 0, none⟩)) rfl (by kernel_rfl) (by kernel_rfl) (by kernel_rfl) (fun _ _ _ h => h) (Or.inl ⟨by rfl, fun w_ hS_ => by (first | (go_simp; done) | (go_simp; rfl))⟩) trivial ?_
          try simp only [Act.put, List.getElem_toArray, List.getElem_cons_zero, List.getElem_cons_succ, List.setIfInBounds_toArray, List.set_cons_zero, List.set_cons_succ]
          refine wpAnyH_take (i := 1) (v := .int .i64 ((j : Int))) rfl (by kernel_rfl) (by kernel_rfl) (by kernel_rfl) (fun _ _ _ h => h) (Or.inl ⟨by rfl, fun w_ hS_ => by (first | (go_simp; done) | (go_simp; rfl))⟩) trivial ?_
          try simp only [Act.put, List.getElem_toArray, List.getElem_cons_zero, List.getElem_cons_succ, List.setIfInBounds_toArray, List.set_cons_zero, List.set_cons_succ]
          refine wpAnyH_take (i := 2) (v := .int .i64 ((j : Int))) rfl (by kernel_rfl) (by kernel_rfl) (by kernel_rfl) (fun _ _ _ h => h) (Or.inl ⟨by rfl, fun w_ hS_ => by (first | (go_simp; done) | (go_simp; rfl))⟩) trivial ?_
          try simp only [Act.put, List.getElem_toArray, List.getElem_cons_zero, List.getElem_cons_succ, List.setIfInBounds_toArray, List.set_cons_zero, List.set_cons_succ]
          refine wpAnyH_take (i := 4) (v := .pointer (some ⟨gc, 0, none⟩)) rfl (by kernel_rfl) (by kernel_rfl) (by kernel_rfl) (fun _ _ _ h => h) (Or.inl ⟨by rfl, fun w_ hS_ => by (first | (go_simp; done) | (go_simp; rfl))⟩) trivial ?_
          try simp only [Act.put, List.getElem_toArray, List.getElem_cons_zero, List.getElem_cons_succ, List.setIfInBounds_toArray, List.set_cons_zero, List.set_cons_succ]
          refine wpAnyH_take (i := 5) (v := .pointer (some ⟨gc, 81, none⟩)) rfl (by kernel_rfl) (by kernel_rfl) (by kernel_rfl) (fun _ _ _ h => h) (Or.inl ⟨by rfl, fun w_ hS_ => by (first | (go_simp; done) | (go_simp; rfl))⟩) trivial ?_
          try simp only [Act.put, List.getElem_toArray, List.getElem_cons_zero, List.getElem_cons_succ, List.setIfInBounds_toArray, List.set_cons_zero, List.set_cons_succ]
          refine wpAnyH_ready (rs := [3]) (by kernel_rfl) (by simp) ?_
          refine AllReadyH.cons rfl (fun K hK => ?_) AllReadyH.nil
          rw [if_pos (by rfl)]
          go_simp
          go_wp2_with (go_at_call 34; refine (lnew_ok 5 (j : Int) v4 (decide_eq_true (by have := HNN.out; omega))).mono ?_; rintro e v5 ⟨rfl, hz_⟩; subst hz_)
          have lZc := (Array.getElem?_eq_some_iff.1 Zc).1
          have sz_ := f3.size
          have Zc := hpA Zc (.cells (Ld.new 5 (j : Int)).cells.toArray 144)
          have ee := ee.alloc ee.size (.cells (Ld.new 5 (j : Int)).cells.toArray 144)
          have f3 := ogAlloc f3 (.cells (Ld.new 5 (j : Int)).cells.toArray 144)
          have Zn := hpN v4 (.cells (Ld.new 5 (j : Int)).cells.toArray 144) rfl
          generalize v4.alloc (.cells (Ld.new 5 (j : Int)).cells.toArray 144) = v6 at Zc Zn ee f3 ⊢
          refine hK.out _ _ trivial (fun hH => ?_)
          clear hK K hH
          try simp only [Act.put, List.getElem_toArray, List.getElem_cons_zero, List.getElem_cons_succ, List.setIfInBounds_toArray, List.set_cons_zero, List.set_cons_succ]
          refine wpAnyH_take (i := 6) (v := .pointer (some ⟨gc, 81 + j, none⟩)) rfl (by kernel_rfl) (by kernel_rfl) (by kernel_rfl) (fun _ _ _ h => h) (Or.inl ⟨by rfl, fun w_ hS_ => by (first | (go_simp; done) | (go_simp; rfl))⟩) trivial ?_
          try simp only [Act.put, List.getElem_toArray, List.getElem_cons_zero, List.getElem_cons_succ, List.setIfInBounds_toArray, List.set_cons_zero, List.set_cons_succ]
          refine wpAnyH_ready (rs := [7]) (by kernel_rfl) (by simp) ?_
          refine AllReadyH.cons rfl (fun K hK => ?_) AllReadyH.nil
          rw [if_pos (by rfl)]
          have f_ : v6.frozen? ⟨gc, 81 + j, none⟩ = false := freeAt Zc (81 + j)
          have c_ := rowCell Zc (81 + j) (crH n _ _ _ _ j (by omega))
          go_simp
          clear f_ c_
          have N_ : (v6.setCells (gc) (81 + j) ([.pointer (some ⟨v4.heap.size, 0, none⟩)])).heap[gc]? = some (.cells (crC n (aIni (j + 1)) (hIni (j + 1) (updF Hv j (v4.heap.size))) sIni 0).toArray 122) := (by rw [← hIni_step, ← crPutH n _ _ _ _ j (by omega)]; exact hpC _ _ _ _ Zc)
          have ee := belowC (g := gc) (by omega) ([.pointer (some ⟨v4.heap.size, 0, none⟩)]) (81 + j) v6 ee
          have f3 := ogCells (k := gc) (by first | (right; have := f3.size; omega) | (left; rfl)) ([.pointer (some ⟨v4.heap.size, 0, none⟩)]) (81 + j) v6 f3
          have Zn := hpCo (g' := gc) (by omega) ([.pointer (some ⟨v4.heap.size, 0, none⟩)]) (81 + j) v6 Zn
          clear Zc
          have Zc := N_
          clear N_
          change K _ (v6.setCells (gc) (81 + j) ([.pointer (some ⟨v4.heap.size, 0, none⟩)]))
          generalize v6.setCells (gc) (81 + j) ([.pointer (some ⟨v4.heap.size, 0, none⟩)]) = v7 at Zc Zn ee f3 ⊢
          refine hK.out _ _ trivial (fun hH => ?_)
          clear hK K hH
          try simp only [Act.put, List.getElem_toArray, List.getElem_cons_zero, List.getElem_cons_succ, List.setIfInBounds_toArray, List.set_cons_zero, List.set_cons_succ]
          refine wpAnyH_done (by kernel_rfl) ?_ _
          have cn := rowCell Zc 0 (v := .int .i64 (n : Int)) rfl
          by_cases hn : j < n
          · go_upto_region 10 with fail
            clear cn
            clear Zn
            have Zc : v7.drew.heap[gc]? = some (.cells (crC n (aIni (j + 1)) (hIni (j + 1) (updF Hv j (v4.heap.size))) sIni 0).toArray 122) := Zc
            have ee := belowDrewS ee
            have f3 := ogDrew f3
            refine wp_region_held_drew (S := fun z' => z'.cell? ⟨gc, 0, none⟩ = some (.int .i64 ((n : Int)))) (by kernel_rfl) (rowCell Zc (0) rfl) (fun hH => ?_)
            clear hH
            generalize v7.drew = v8 at Zc ee f3 ⊢
            refine wpAnyH_take (i := 0) (v := .pointer (some ⟨gc, 0, none⟩)) rfl (by kernel_rfl) (by kernel_rfl) (by kernel_rfl) (fun _ _ _ h => h) (Or.inl ⟨by rfl, fun w_ hS_ => by (first | (go_simp; done) | (go_simp; rfl))⟩) (rowCell Zc (0) rfl) ?_
            try simp only [Act.put, List.getElem_toArray, List.getElem_cons_zero, List.getElem_cons_succ, List.setIfInBounds_toArray, List.set_cons_zero, List.set_cons_succ]
            refine wpAnyH_take (i := 1) (v := .int .i64 ((j : Int))) rfl (by kernel_rfl) (by kernel_rfl) (by kernel_rfl) (fun _ _ _ h => h) (Or.inl ⟨by rfl, fun w_ hS_ => by (first | (go_simp; done) | (go_simp; rfl))⟩) (rowCell Zc (0) rfl) ?_
            try simp only [Act.put, List.getElem_toArray, List.getElem_cons_zero, List.getElem_cons_succ, List.setIfInBounds_toArray, List.set_cons_zero, List.set_cons_succ]
            refine wpAnyH_take (i := 2) (v := .pointer (some ⟨gc, 0, none⟩)) rfl (by kernel_rfl) (by kernel_rfl) (by kernel_rfl) (fun _ _ _ h => h) (Or.inl ⟨by rfl, fun w_ hS_ => by (first | (go_simp; done) | (go_simp; rfl))⟩) (rowCell Zc (0) rfl) ?_
            try simp only [Act.put, List.getElem_toArray, List.getElem_cons_zero, List.getElem_cons_succ, List.setIfInBounds_toArray, List.set_cons_zero, List.set_cons_succ]
            refine wpAnyH_take (i := 3) (v := .pointer (some ⟨gc, 0, none⟩)) rfl (by kernel_rfl) (by kernel_rfl) (by kernel_rfl) (fun _ _ _ h => h) (Or.inl ⟨by rfl, fun w_ hS_ => by (first | (go_simp; done) | (go_simp; rfl))⟩) (rowCell Zc (0) rfl) ?_
            try simp only [Act.put, List.getElem_toArray, List.getElem_cons_zero, List.getElem_cons_succ, List.setIfInBounds_toArray, List.set_cons_zero, List.set_cons_succ]
            refine wpAnyH_take (i := 4) (v := .pointer (some ⟨gc, 0, none⟩)) rfl (by kernel_rfl) (by kernel_rfl) (by kernel_rfl) (fun _ _ _ h => h) (Or.inl ⟨by rfl, fun w_ hS_ => by (first | (go_simp; done) | (go_simp; rfl))⟩) (rowCell Zc (0) rfl) ?_
            try simp only [Act.put, List.getElem_toArray, List.getElem_cons_zero, List.getElem_cons_succ, List.setIfInBounds_toArray, List.set_cons_zero, List.set_cons_succ]
            refine wpAnyH_take (i := 5) (v := .int .i64 ((n : Int))) rfl (by kernel_rfl) (by kernel_rfl) (by kernel_rfl) (fun _ _ _ h => h) (Or.inl ⟨by rfl, fun w_ hS_ => by (have c_ := hS_; first | (go_simp; done) | (go_simp; rfl))⟩) (rowCell Zc (0) rfl) ?_
            try simp only [Act.put, List.getElem_toArray, List.getElem_cons_zero, List.getElem_cons_succ, List.setIfInBounds_toArray, List.set_cons_zero, List.set_cons_succ]
            refine wpAnyH_take (i := 6) (v := .int .i64 ((j : Int))) rfl (by kernel_rfl) (by kernel_rfl) (by kernel_rfl) (fun _ _ _ h => h) (Or.inl ⟨by rfl, fun w_ hS_ => by (first | (go_simp; done) | (go_simp; rfl))⟩) (rowCell Zc (0) rfl) ?_
            try simp only [Act.put, List.getElem_toArray, List.getElem_cons_zero, List.getElem_cons_succ, List.setIfInBounds_toArray, List.set_cons_zero, List.set_cons_succ]
            refine wpAnyH_take (i := 8) (v := .pointer (some ⟨gc, 0, none⟩)) rfl (by kernel_rfl) (by kernel_rfl) (by kernel_rfl) (fun _ _ _ h => h) (Or.inl ⟨by rfl, fun w_ hS_ => by (first | (go_simp; done) | (go_simp; rfl))⟩) (rowCell Zc (0) rfl) ?_
            try simp only [Act.put, List.getElem_toArray, List.getElem_cons_zero, List.getElem_cons_succ, List.setIfInBounds_toArray, List.set_cons_zero, List.set_cons_succ]
            refine wpAnyH_take (i := 9) (v := .pointer (some ⟨gc, 81, none⟩)) rfl (by kernel_rfl) (by kernel_rfl) (by kernel_rfl) (fun _ _ _ h => h) (Or.inl ⟨by rfl, fun w_ hS_ => by (first | (go_simp; done) | (go_simp; rfl))⟩) (rowCell Zc (0) rfl) ?_
            try simp only [Act.put, List.getElem_toArray, List.getElem_cons_zero, List.getElem_cons_succ, List.setIfInBounds_toArray, List.set_cons_zero, List.set_cons_succ]
            refine wpAnyH_ready (rs := [7]) (by kernel_rfl) (by simp) ?_
            refine AllReadyH.cons rfl (fun K hK => ?_) AllReadyH.nil
            rw [if_pos (by rfl)]
            go_simp
            go_wp2_with (go_at_call 34; refine (lnew_ok (n : Int) (j : Int) v8 (decide_eq_true (by have := HNN.out; omega))).mono ?_; rintro e v9 ⟨rfl, hz_⟩; subst hz_)
            have lZc := (Array.getElem?_eq_some_iff.1 Zc).1
            have sz_ := f3.size
            have Zc := hpA Zc (.cells (Ld.new (n : Int) (j : Int)).cells.toArray 144)
            have ee := ee.alloc ee.size (.cells (Ld.new (n : Int) (j : Int)).cells.toArray 144)
            have f3 := ogAlloc f3 (.cells (Ld.new (n : Int) (j : Int)).cells.toArray 144)
            have Zo := hpN v8 (.cells (Ld.new (n : Int) (j : Int)).cells.toArray 144) rfl
            generalize v8.alloc (.cells (Ld.new (n : Int) (j : Int)).cells.toArray 144) = v10 at Zc Zo ee f3 ⊢
            refine hK.out _ _ (rowCell Zc (0) rfl) (fun hH => ?_)
            clear hK K hH
            try simp only [Act.put, List.getElem_toArray, List.getElem_cons_zero, List.getElem_cons_succ, List.setIfInBounds_toArray, List.set_cons_zero, List.set_cons_succ]
            refine wpAnyH_take (i := 10) (v := .pointer (some ⟨gc, 81 + j, none⟩)) rfl (by kernel_rfl) (by kernel_rfl) (by kernel_rfl) (fun _ _ _ h => h) (Or.inl ⟨by rfl, fun w_ hS_ => by (first | (go_simp; done) | (go_simp; rfl))⟩) (rowCell Zc (0) rfl) ?_
            try simp only [Act.put, List.getElem_toArray, List.getElem_cons_zero, List.getElem_cons_succ, List.setIfInBounds_toArray, List.set_cons_zero, List.set_cons_succ]
            refine wpAnyH_ready (rs := [11]) (by kernel_rfl) (by simp) ?_
            refine AllReadyH.cons rfl (fun K hK => ?_) AllReadyH.nil
            rw [if_pos (by rfl)]
            have f_ : v10.frozen? ⟨gc, 81 + j, none⟩ = false := freeAt Zc (81 + j)
            have c_ := rowCell Zc (81 + j) (crH n _ _ _ _ j (by omega))
            go_simp
            clear f_ c_
            have N_ : (v10.setCells (gc) (81 + j) ([.pointer (some ⟨v8.heap.size, 0, none⟩)])).heap[gc]? = some (.cells (crC n (aIni (j + 1)) (hIni (j + 1) (updF Hv j (v8.heap.size))) sIni 0).toArray 122) := (by rw [← hIni_again, ← crPutH n _ _ _ _ j (by omega)]; exact hpC _ _ _ _ Zc)
            have ee := belowC (g := gc) (by omega) ([.pointer (some ⟨v8.heap.size, 0, none⟩)]) (81 + j) v10 ee
            have f3 := ogCells (k := gc) (by first | (right; have := f3.size; omega) | (left; rfl)) ([.pointer (some ⟨v8.heap.size, 0, none⟩)]) (81 + j) v10 f3
            have Zo := hpCo (g' := gc) (by omega) ([.pointer (some ⟨v8.heap.size, 0, none⟩)]) (81 + j) v10 Zo
            clear Zc
            have Zc := N_
            clear N_
            change K _ (v10.setCells (gc) (81 + j) ([.pointer (some ⟨v8.heap.size, 0, none⟩)]))
            generalize v10.setCells (gc) (81 + j) ([.pointer (some ⟨v8.heap.size, 0, none⟩)]) = v11 at Zc Zo ee f3 ⊢
            refine hK.out _ _ (rowCell Zc (0) rfl) (fun hH => ?_)
            clear hK K hH
            try simp only [Act.put, List.getElem_toArray, List.getElem_cons_zero, List.getElem_cons_succ, List.setIfInBounds_toArray, List.set_cons_zero, List.set_cons_succ]
            refine wpAnyH_done (by kernel_rfl) ?_ _
            have hL2 : LdsAt v11 w.heap.size n (j + 1) (updF Hv j (v8.heap.size)) := by
              have hlt2 := fun i hi => (Array.getElem?_eq_some_iff.1 (hL.1 i hi).1).1
              have hgo := hgc_ne
              have h0 : LdsAt v11 w.heap.size n j Hv := hL.keep fun i hi => f3.2 _ (hlt2 i hi) (hgo i hi)
              refine h0.add ?_ (by have := f3.size; omega) (fun i hi => by have := hlt2 i hi; have := f3.size; omega)
              unfold lIni
              first | (rw [if_pos hn]; exact Zo) | (rw [if_neg hn]; exact Zo)
            go_wp2_with fail
            go_roundw
            case rel => exact ⟨j + 1, updF Hv j (v8.heap.size), by omega, by go_num, hL2, Zc, ee⟩
            case measure => simp [intOf]; omega
          · have hL2 : LdsAt v7 w.heap.size n (j + 1) (updF Hv j (v4.heap.size)) := by
              have hlt2 := fun i hi => (Array.getElem?_eq_some_iff.1 (hL.1 i hi).1).1
              have hgo := hgc_ne
              have h0 : LdsAt v7 w.heap.size n j Hv := hL.keep fun i hi => f3.2 _ (hlt2 i hi) (hgo i hi)
              refine h0.add ?_ (by have := f3.size; omega) (fun i hi => by have := hlt2 i hi; have := f3.size; omega)
              unfold lIni
              first | (rw [if_pos hn]; exact Zn) | (rw [if_neg hn]; exact Zn)
            go_wp2_with fail
            go_roundw
            case rel => exact ⟨j + 1, updF Hv j (v4.heap.size), by omega, by go_num, hL2, Zc, ee⟩
            case measure => simp [intOf]; omega
        · have hj5 : j = 5 := by omega
          have hd5 : decide ((j : Int) < 5) = false := decide_eq_false (by omega)
          have hL5 : LdsAt wr w.heap.size n 5 Hv := by rw [← hj5]; exact hL
          have hZ5 : wr.heap[gc]? = some (.cells (crC n (aIni 5) (hIni 5 Hv) sIni 0).toArray 122 (0, 0)) := by rw [← hj5]; exact Zc
          clear hlt hj hj5
          have hcr := crewFirst hL5 hZ5 hwg
          have HST : Hid (StC wr w.heap.size gc n 0) := ⟨_, Hv, _, _, _, 0, [], _, Nat.le_refl _, hcr, cinvFirst n hs5⟩
          clear hcr hL Zc hL5 hZ5
          go_wp2_with fail
          clear hd5
          go_loopw [7] (fun u wr => ∃ t : Nat, t ≤ sn ∧ u = .int .i64 (t : Int) ∧ Hid (StC wr w.heap.size gc n t) ∧ Hid (Below w.heap.size w wr)) (fun u _ => sn - (intOf u).toNat)
          case atStart => exact ⟨0, Nat.zero_le _, rfl, HST, ee⟩
          case round =>
            clear HST ee
            obtain ⟨t, ht, rfl, HST, ee⟩ := hrel
            have ee := ee.out
            by_cases hlt : t < sn
            · have hkl : t < l.length := by rw [← HN.out]; exact hlt
              obtain ⟨bo, off, rfl, hbo, hr⟩ := rowsGet HRD.out hkl
              have HSS := Lib.hid (HSB.out _ (List.getElem_mem hkl))
              generalize l[t] = s at hr HSS
              obtain ⟨A, H, L, S, X, k, P, V, hkt, hcr, hci⟩ := HST.out
              clear HST
              have HCI := Lib.hid hci
              have Zc : wr.heap[gc]? = some (.cells (crC n A (fun j => pv (H j)) S k).toArray 122) := hcr.blk
              obtain ⟨wq, hwq⟩ : ∃ wq, wq = wr := ⟨_, rfl⟩
              have e2 : Below wq.heap.size wq wr := by rw [hwq]; exact Below.refl _ _
              rw [← hwq] at hcr
              have sq : w.heap.size ≤ wq.heap.size := by rw [hwq]; exact ee.size
              have HCR := Lib.hid hcr
              clear hcr hci hwq
              have hk0 : (0 : Int) ≤ (t : Int) := by omega
              have hk1 : (t : Int) < (sn : Int) := by omega
              go_upto_region 14 with fail
              refine wp_region_lit ?_
              iterate 27 (first | with_reducible refine isLoad (ty := 124) rfl ?_ | go_step)
              refine wpList_load_mid rfl 124 _ rfl (bo) (off + t * 3) rfl (s.cells) _ (rangeB hr ee hbo) Tryd.underlying124 rfl sizeStC ?_
              iterate 3 go_step
              have s2_ := e2.size
              have lZc := (Array.getElem?_eq_some_iff.1 Zc).1
              have sz_ := ee.size
              have Zc := hpA Zc (.cells #[.int .u8 0, .int .u8 0, .int .u8 0] 124)
              have ee := ee.alloc ee.size (.cells #[.int .u8 0, .int .u8 0, .int .u8 0] 124)
              have e2 := e2.alloc e2.size (.cells #[.int .u8 0, .int .u8 0, .int .u8 0] 124)
              have Zs := hpN wr (.cells #[.int .u8 0, .int .u8 0, .int .u8 0] 124) rfl
              generalize wr.alloc (.cells #[.int .u8 0, .int .u8 0, .int .u8 0] 124) = u1 at Zc Zs ee e2 ⊢
              obtain ⟨gs, hg_gs⟩ : ∃ g_, g_ = wr.heap.size := ⟨_, rfl⟩
              have hwgs : wq.heap.size ≤ gs := by omega
              have hggs : gc < gs := by have := (Array.getElem?_eq_some_iff.1 HCR.out.blk).1; omega
              rw [← hg_gs] at Zs ⊢
              clear hg_gs
              iterate 27 (first | with_reducible refine isStore (ty := 124) rfl ?_ | go_step)
              refine wpList_store_row rfl 124 _ _ rfl (gs) (s.cells).toArray rfl rfl 124 _ Zs sizeStC (by rfl) (StepC.one _) ?_
              have N_ := setRow_heap u1 (gs) _ (s.cells).toArray _ _ Zs
              have ee := belowSet (cs := (s.cells).toArray) ee Zs (by omega)
              have e2 := belowSet (cs := (s.cells).toArray) e2 Zs (by omega)
              have Zc := hpR Zc (g' := gs) (by omega) (s.cells).toArray
              clear Zs
              have Zs := N_
              clear N_
              generalize u1.setRow (gs) (s.cells).toArray = u2 at Zc Zs ee e2 ⊢
              obtain ⟨q, hq⟩ : ∃ q, q = s.nd % n := ⟨_, rfl⟩
              have hqn : q < n := by have := Nat.mod_lt s.nd (show 0 < n by omega); omega
              have HBN : Hid ((s.nd : Int) % (n : Int) = (q : Int)) := by show _ = _; rw [hq]; simp
              clear hq
              have hn0 : ¬ n = 0 := by omega
              have hu3 : (s.nd : Int).tmod (n : Int) = (q : Int) := by rw [Int.tmod_eq_emod_of_nonneg (by omega)]; exact HBN.out
              have hs82 : s.nd < 256 := HSS.out.2.1
              have hu4 : IntKind.i64.wrap (s.nd : Int) = (s.nd : Int) := by rw [IntKind.wrap_i64]; omega
              go_upto_region 15 with fail
              have Zc : u2.drew.heap[gc]? = some (.cells (crC n A (fun j => pv (H j)) S k).toArray 122) := Zc
              have Zs : u2.drew.heap[gs]? = some (.cells (s.cells).toArray 124) := Zs
              have ee := belowDrewS ee
              have e2 := belowDrewS e2
              refine wp_region_held_drew (S := fun z' => z'.cell? ⟨gs, 1, none⟩ = some (.int .u8 ((s.nd : Int))) ∧ z'.cell? ⟨gc, 0, none⟩ = some (.int .i64 ((n : Int)))) (by kernel_rfl) ⟨(rowCell Zs (1) rfl), (rowCell Zc (0) rfl)⟩ (fun hH => ?_)
              clear hH
              generalize u2.drew = u3 at Zc Zs ee e2 ⊢
              refine wpAnyH_take (i := 0) (v := .pointer (some ⟨gs, 1, none⟩)) rfl (by kernel_rfl) (by kernel_rfl) (by kernel_rfl) (fun _ _ _ h => h) (Or.inl ⟨by rfl, fun w_ hS_ => by (first | (go_simp; done) | (go_simp; rfl))⟩) ⟨(rowCell Zs (1) rfl), (rowCell Zc (0) rfl)⟩ ?_
              try simp only [Act.put, List.getElem_toArray, List.getElem_cons_zero, List.getElem_cons_succ, List.setIfInBounds_toArray, List.set_cons_zero, List.set_cons_succ]
              refine wpAnyH_take (i := 1) (v := .int .u8 ((s.nd : Int))) rfl (by kernel_rfl) (by kernel_rfl) (by kernel_rfl) (fun _ _ _ h => h) (Or.inl ⟨by rfl, fun w_ hS_ => by (have c_ := hS_.1; first | (go_simp; done) | (go_simp; rfl))⟩) ⟨(rowCell Zs (1) rfl), (rowCell Zc (0) rfl)⟩ ?_
              try simp only [Act.put, List.getElem_toArray, List.getElem_cons_zero, List.getElem_cons_succ, List.setIfInBounds_toArray, List.set_cons_zero, List.set_cons_succ]
              refine wpAnyH_take (i := 2) (v := .int .i64 ((s.nd : Int))) rfl (by kernel_rfl) (by kernel_rfl) (by kernel_rfl) (fun _ _ _ h => h) (Or.inl ⟨by rfl, fun w_ hS_ => by (first | (go_simp; done) | (go_simp; rfl))⟩) ⟨(rowCell Zs (1) rfl), (rowCell Zc (0) rfl)⟩ ?_
              try simp only [Act.put, List.getElem_toArray, List.getElem_cons_zero, List.getElem_cons_succ, List.setIfInBounds_toArray, List.set_cons_zero, List.set_cons_succ]
              refine wpAnyH_take (i := 3) (v := .pointer (some ⟨gc, 0, none⟩)) rfl (by kernel_rfl) (by kernel_rfl) (by kernel_rfl) (fun _ _ _ h => h) (Or.inl ⟨by rfl, fun w_ hS_ => by (first | (go_simp; done) | (go_simp; rfl))⟩) ⟨(rowCell Zs (1) rfl), (rowCell Zc (0) rfl)⟩ ?_
              try simp only [Act.put, List.getElem_toArray, List.getElem_cons_zero, List.getElem_cons_succ, List.setIfInBounds_toArray, List.set_cons_zero, List.set_cons_succ]
              refine wpAnyH_take (i := 4) (v := .pointer (some ⟨gc, 0, none⟩)) rfl (by kernel_rfl) (by kernel_rfl) (by kernel_rfl) (fun _ _ _ h => h) (Or.inl ⟨by rfl, fun w_ hS_ => by (first | (go_simp; done) | (go_simp; rfl))⟩) ⟨(rowCell Zs (1) rfl), (rowCell Zc (0) rfl)⟩ ?_
              try simp only [Act.put, List.getElem_toArray, List.getElem_cons_zero, List.getElem_cons_succ, List.setIfInBounds_toArray, List.set_cons_zero, List.set_cons_succ]
              refine wpAnyH_take (i := 5) (v := .pointer (some ⟨gc, 0, none⟩)) rfl (by kernel_rfl) (by kernel_rfl) (by kernel_rfl) (fun _ _ _ h => h) (Or.inl ⟨by rfl, fun w_ hS_ => by (first | (go_simp; done) | (go_simp; rfl))⟩) ⟨(rowCell Zs (1) rfl), (rowCell Zc (0) rfl)⟩ ?_
              try simp only [Act.put, List.getElem_toArray, List.getElem_cons_zero, List.getElem_cons_succ, List.setIfInBounds_toArray, List.set_cons_zero, List.set_cons_succ]
              refine wpAnyH_take (i := 6) (v := .int .i64 ((n : Int))) rfl (by kernel_rfl) (by kernel_rfl) (by kernel_rfl) (fun _ _ _ h => h) (Or.inl ⟨by rfl, fun w_ hS_ => by (have c_ := hS_.2; first | (go_simp; done) | (go_simp; rfl))⟩) ⟨(rowCell Zs (1) rfl), (rowCell Zc (0) rfl)⟩ ?_
              try simp only [Act.put, List.getElem_toArray, List.getElem_cons_zero, List.getElem_cons_succ, List.setIfInBounds_toArray, List.set_cons_zero, List.set_cons_succ]
              refine wpAnyH_take (i := 7) (v := .int .i64 ((q : Int))) rfl (by kernel_rfl) (by kernel_rfl) (by kernel_rfl) (fun _ _ _ h => h) (Or.inl ⟨by rfl, fun w_ hS_ => by (first | (go_simp; done) | (go_simp; rfl))⟩) ⟨(rowCell Zs (1) rfl), (rowCell Zc (0) rfl)⟩ ?_
              try simp only [Act.put, List.getElem_toArray, List.getElem_cons_zero, List.getElem_cons_succ, List.setIfInBounds_toArray, List.set_cons_zero, List.set_cons_succ]
              refine wpAnyH_take (i := 8) (v := .int .i64 ((q : Int))) rfl (by kernel_rfl) (by kernel_rfl) (by kernel_rfl) (fun _ _ _ h => h) (Or.inl ⟨by rfl, fun w_ hS_ => by (first | (go_simp; done) | (go_simp; rfl))⟩) ⟨(rowCell Zs (1) rfl), (rowCell Zc (0) rfl)⟩ ?_
              try simp only [Act.put, List.getElem_toArray, List.getElem_cons_zero, List.getElem_cons_succ, List.setIfInBounds_toArray, List.set_cons_zero, List.set_cons_succ]
              refine wpAnyH_done (by kernel_rfl) ?_ _
              clear hn0 hu3 hs82 hu4 HBN
              have c0 := rowCell Zs 0 (v := .int .u8 (s.kd : Int)) rfl
              have c2 := rowCell Zs 2 (v := .int .u8 (s.st : Int)) rfl
              have h3 : s.kd % 3 = 0 ∨ s.kd % 3 = 1 ∨ s.kd % 3 = 2 := by omega
              rcases h3 with h3 | h3 | h3
              · have hr3 : (s.kd : Int) % 3 = 0 := by omega
                clear h3
                have hcr1 := HCR.out.below e2
                go_wp2_with fail
                refine (cbegin w.heap.size gc n q k t s.st A H L S X P V u3 hcr1 HCI.out hqn hs5 (by omega) HSS.out.2.2 (fun z hz => HT.out.below (ee.trans hz))).mono ?_
                rintro e u4 ⟨rfl, ⟨A9, l9, hcr9, hci9⟩, t9⟩
                have ee := ee.trans t9
                clear hcr1 c0 c2 Zc Zs e2
                try dsimp only
                rename_i hK
                refine hK _ _ ?_
                clear hK
                have HE9 := Lib.hid (hci9)
                have HC9 := Lib.hid (hcr9)
                go_wp2_with fail
                refine (cagree w.heap.size gc n _ _ _ _ _ _ u4 HC9.out hs5 (fun j hj => by have := (HE9.out.xl j hj).1; have := (HE9.out.ac j hj).2.1; omega) (fun a b c x y ha hb hx hy => HE9.out.agree ha hb hx hy)).mono ?_
                rintro e u5 ⟨rfl, t9⟩
                have ee := ee.trans (t9.mono ee.size)
                try dsimp only
                rename_i hK
                refine hK _ _ ?_
                clear hK
                go_wp2_with fail
                go_roundw
                case rel => exact ⟨t + 1, by omega, by go_num, ⟨_, _, _, _, _, _, _, _, (by omega), HC9.out.below t9, HE9.out⟩, ee⟩
                case measure => simp [intOf]; omega
              · have hr3 : (s.kd : Int) % 3 = 1 := by omega
                clear h3
                have hcr1 := HCR.out.below e2
                go_wp2_with fail
                refine (cpropose w.heap.size gc n q k t s.st A H L S X P V u3 hcr1 HCI.out hqn hs5 (by omega) (by omega) HSS.out.2.2 (fun j hj => by have := (HCI.out.xl j hj).1; have := (HCI.out.ac j hj).2.1; omega) (fun z hz => HT.out.below (ee.trans hz))).mono ?_
                rintro e u4 ⟨rfl, ⟨A9, L9, S9, X9, P9, V9, hcr9, hci9⟩, t9⟩
                have ee := ee.trans t9
                clear hcr1 c0 c2 Zc Zs e2
                try dsimp only
                rename_i hK
                refine hK _ _ ?_
                clear hK
                have HE9 := Lib.hid (hci9)
                have HC9 := Lib.hid (hcr9)
                go_wp2_with fail
                refine (cagree w.heap.size gc n _ _ _ _ _ _ u4 HC9.out hs5 (fun j hj => by have := (HE9.out.xl j hj).1; have := (HE9.out.ac j hj).2.1; omega) (fun a b c x y ha hb hx hy => HE9.out.agree ha hb hx hy)).mono ?_
                rintro e u5 ⟨rfl, t9⟩
                have ee := ee.trans (t9.mono ee.size)
                try dsimp only
                rename_i hK
                refine hK _ _ ?_
                clear hK
                go_wp2_with fail
                go_roundw
                case rel => exact ⟨t + 1, by omega, by go_num, ⟨_, _, _, _, _, _, _, _, (by omega), HC9.out.below t9, HE9.out⟩, ee⟩
                case measure => simp [intOf]; omega
              · have hr3 : (s.kd : Int) % 3 = 2 := by omega
                clear h3
                go_wp2_with fail
                have hcr1 := HCR.out.below e2
                clear c0 c2 Zc e2 hr3
                go_loopw [11, 10] (fun u11 u10 wr => ∃ (j : Nat) (A' : Nat → Ac) (S' : Nat → Value) (X' : Nat → List Cm), j ≤ n ∧ u11 = .int .i64 (j : Int) ∧ u10 = .bool true ∧ Hid (CrewAt wr w.heap.size gc n A' H L S' X' k) ∧ Hid (Cinv n (t + 1) A' L X' P V) ∧ Hid (∀ q, j ≤ q → q < n → (A' q).sl ≤ (t : Int) + 1) ∧ Hid (wr.heap[gs]? = some (.cells s.cells.toArray 124 (0, 0))) ∧ Hid (Below w.heap.size w wr)) (fun u _ _ => n - (intOf u).toNat)
                case atStart => exact ⟨0, A, S, X, Nat.zero_le _, rfl, rfl, hcr1, HCI.out.more, fun q _ hq => (HCI.out.ac q hq).2.1, Zs, ee⟩
                case round =>
                  clear hcr1 Zs ee
                  obtain ⟨j, A', S', X', hj, rfl, rfl, HCR, HCJ, HSL, Zs, ee⟩ := hrel
                  have Zs := Zs.out
                  have ee := ee.out
                  have Zc : wr.heap[gc]? = some (.cells (crC n A' (fun j => pv (H j)) S' k).toArray 122) := HCR.out.blk
                  have cn := rowCell Zc 0 (v := .int .i64 (n : Int)) rfl
                  by_cases hltj : j < n
                  · have hj0 : (0 : Int) ≤ (j : Int) := by omega
                    have hj5 : (j : Int) < 5 := by omega
                    have hq0 : (0 : Int) ≤ (q : Int) := by omega
                    have hq5 : (q : Int) < 5 := by omega
                    have HBT := Lib.hid (bit8one s.st j HSS.out.2.2)
                    have hs8 : s.st < 256 := HSS.out.2.2
                    obtain ⟨wq2, hwq2⟩ : ∃ wq2, wq2 = wr := ⟨_, rfl⟩
                    have e2 : Below wq2.heap.size wq2 wr := by rw [hwq2]; exact Below.refl _ _
                    have ZSQ : wq2.heap[gs]? = some (.cells s.cells.toArray 124 (0, 0)) := by rw [hwq2]; exact Zs
                    rw [← hwq2] at HCR
                    obtain ⟨D1, d1, c1, HR1⟩ := HCR.out.list (j := j) (by omega)
                    obtain ⟨D2, d2, c2, HR2⟩ := HCR.out.list (j := q) (by omega)
                    have hcq1 := Lib.hid c1
                    have hcq2 := Lib.hid c2
                    have HR2 := Lib.hid HR2
                    have hgq : gc < wq2.heap.size := World.block_lt_of_cell? wq2 _ c1
                    have HLJ := Lib.hid (And.intro (HCJ.out.xl j hltj).1 (And.intro (HCJ.out.ac j hltj).2.1 (And.intro (HCJ.out.xl q hqn).1 (HCJ.out.ac q hqn).2.1)))
                    go_upto_region 26 with fail
                    clear cn c1 c2 HR1 hwq2
                    have hu5 : IntKind.u64.wrap (j : Int) = (j : Int) := by rw [IntKind.wrap_u64]; omega
                    cases hb : tb3 s.st j with
                    | false =>
                      have hx : (bits BinOp.and IntKind.u8 ((s.st : Int) / 2 ^ j) 1 == 1) = false := by rw [HBT.out]; exact hb
                      clear hb HBT
                      have Zs : wr.drew.heap[gs]? = some (.cells s.cells.toArray 124) := Zs
                      have Zc : wr.drew.heap[gc]? = some (.cells (crC n A' (fun j => pv (H j)) S' k).toArray 122) := Zc
                      have ee := belowDrewS ee
                      have e2 := belowDrewS e2
                      refine wp_region_held_drew (S := fun z' => z'.cell? ⟨gs, 2, none⟩ = some (.int .u8 ((s.st : Int)))) (by kernel_rfl) (rowCell Zs (2) rfl) (fun hH => ?_)
                      clear hH
                      generalize wr.drew = y1 at Zs Zc ee e2 ⊢
                      refine wpAnyH_take (i := 0) (v := .pointer (some ⟨gs, 2, none⟩)) rfl (by kernel_rfl) (by kernel_rfl) (by kernel_rfl) (fun _ _ _ h => h) (Or.inl ⟨by rfl, fun w_ hS_ => by (first | (go_simp; done) | (go_simp; rfl))⟩) (rowCell Zs (2) rfl) ?_
                      try simp only [Act.put, List.getElem_toArray, List.getElem_cons_zero, List.getElem_cons_succ, List.setIfInBounds_toArray, List.set_cons_zero, List.set_cons_succ]
                      refine wpAnyH_take (i := 1) (v := .int .u8 ((s.st : Int))) rfl (by kernel_rfl) (by kernel_rfl) (by kernel_rfl) (fun _ _ _ h => h) (Or.inl ⟨by rfl, fun w_ hS_ => by (have c_ := hS_; first | (go_simp; done) | (go_simp; rfl))⟩) (rowCell Zs (2) rfl) ?_
                      try simp only [Act.put, List.getElem_toArray, List.getElem_cons_zero, List.getElem_cons_succ, List.setIfInBounds_toArray, List.set_cons_zero, List.set_cons_succ]
                      refine wpAnyH_take (i := 2) (v := .int .i64 ((j : Int))) rfl (by kernel_rfl) (by kernel_rfl) (by kernel_rfl) (fun _ _ _ h => h) (Or.inl ⟨by rfl, fun w_ hS_ => by (first | (go_simp; done) | (go_simp; rfl))⟩) (rowCell Zs (2) rfl) ?_
                      try simp only [Act.put, List.getElem_toArray, List.getElem_cons_zero, List.getElem_cons_succ, List.setIfInBounds_toArray, List.set_cons_zero, List.set_cons_succ]
                      refine wpAnyH_take (i := 3) (v := .int .u64 ((j : Int))) rfl (by kernel_rfl) (by kernel_rfl) (by kernel_rfl) (fun _ _ _ h => h) (Or.inl ⟨by rfl, fun w_ hS_ => by (first | (go_simp; done) | (go_simp; rfl))⟩) (rowCell Zs (2) rfl) ?_
                      try simp only [Act.put, List.getElem_toArray, List.getElem_cons_zero, List.getElem_cons_succ, List.setIfInBounds_toArray, List.set_cons_zero, List.set_cons_succ]
                      refine wpAnyH_take (i := 4) (v := .int .u8 ((s.st : Int) / 2 ^ j)) rfl (by kernel_rfl) (by kernel_rfl) (by kernel_rfl) (fun _ _ _ h => h) (Or.inl ⟨by rfl, fun w_ hS_ => by (first | (go_simp; done) | (go_simp; rfl))⟩) (rowCell Zs (2) rfl) ?_
                      try simp only [Act.put, List.getElem_toArray, List.getElem_cons_zero, List.getElem_cons_succ, List.setIfInBounds_toArray, List.set_cons_zero, List.set_cons_succ]
                      refine wpAnyH_take (i := 5) (v := .int .u8 (bits BinOp.and IntKind.u8 ((s.st : Int) / 2 ^ j) 1)) rfl (by kernel_rfl) (by kernel_rfl) (by kernel_rfl) (fun _ _ _ h => h) (Or.inl ⟨by rfl, fun w_ hS_ => by (first | (go_simp; done) | (go_simp; rfl))⟩) (rowCell Zs (2) rfl) ?_
                      try simp only [Act.put, List.getElem_toArray, List.getElem_cons_zero, List.getElem_cons_succ, List.setIfInBounds_toArray, List.set_cons_zero, List.set_cons_succ]
                      refine wpAnyH_take (i := 6) (v := .bool false) rfl (by kernel_rfl) (by kernel_rfl) (by kernel_rfl) (fun _ _ _ h => h) (Or.inl ⟨by rfl, fun w_ hS_ => by (first | (go_simp; done) | (go_simp; rfl))⟩) (rowCell Zs (2) rfl) ?_
                      try simp only [Act.put, List.getElem_toArray, List.getElem_cons_zero, List.getElem_cons_succ, List.setIfInBounds_toArray, List.set_cons_zero, List.set_cons_succ]
                      refine wpAnyH_take (i := 7) (v := .bool false) rfl (by kernel_rfl) (by kernel_rfl) (by kernel_rfl) (fun _ _ _ h => h) (Or.inl ⟨by rfl, fun w_ hS_ => by (first | (go_simp; done) | (go_simp; rfl))⟩) (rowCell Zs (2) rfl) ?_
                      try simp only [Act.put, List.getElem_toArray, List.getElem_cons_zero, List.getElem_cons_succ, List.setIfInBounds_toArray, List.set_cons_zero, List.set_cons_succ]
                      refine wpAnyH_take (i := 8) (v := undef) rfl (by kernel_rfl) (by kernel_rfl) (by kernel_rfl) (fun _ _ _ h => h) (Or.inr ⟨by rfl, rfl⟩) (rowCell Zs (2) rfl) ?_
                      try simp only [Act.put, List.getElem_toArray, List.getElem_cons_zero, List.getElem_cons_succ, List.setIfInBounds_toArray, List.set_cons_zero, List.set_cons_succ]
                      refine wpAnyH_take (i := 9) (v := undef) rfl (by kernel_rfl) (by kernel_rfl) (by kernel_rfl) (fun _ _ _ h => h) (Or.inr ⟨by rfl, rfl⟩) (rowCell Zs (2) rfl) ?_
                      try simp only [Act.put, List.getElem_toArray, List.getElem_cons_zero, List.getElem_cons_succ, List.setIfInBounds_toArray, List.set_cons_zero, List.set_cons_succ]
                      refine wpAnyH_take (i := 10) (v := undef) rfl (by kernel_rfl) (by kernel_rfl) (by kernel_rfl) (fun _ _ _ h => h) (Or.inr ⟨by rfl, rfl⟩) (rowCell Zs (2) rfl) ?_
                      try simp only [Act.put, List.getElem_toArray, List.getElem_cons_zero, List.getElem_cons_succ, List.setIfInBounds_toArray, List.set_cons_zero, List.set_cons_succ]
                      refine wpAnyH_take (i := 11) (v := undef) rfl (by kernel_rfl) (by kernel_rfl) (by kernel_rfl) (fun _ _ _ h => h) (Or.inr ⟨by rfl, rfl⟩) (rowCell Zs (2) rfl) ?_
                      try simp only [Act.put, List.getElem_toArray, List.getElem_cons_zero, List.getElem_cons_succ, List.setIfInBounds_toArray, List.set_cons_zero, List.set_cons_succ]
                      refine wpAnyH_take (i := 12) (v := undef) rfl (by kernel_rfl) (by kernel_rfl) (by kernel_rfl) (fun _ _ _ h => h) (Or.inr ⟨by rfl, rfl⟩) (rowCell Zs (2) rfl) ?_
                      try simp only [Act.put, List.getElem_toArray, List.getElem_cons_zero, List.getElem_cons_succ, List.setIfInBounds_toArray, List.set_cons_zero, List.set_cons_succ]
                      refine wpAnyH_take (i := 13) (v := undef) rfl (by kernel_rfl) (by kernel_rfl) (by kernel_rfl) (fun _ _ _ h => h) (Or.inr ⟨by rfl, rfl⟩) (rowCell Zs (2) rfl) ?_
                      try simp only [Act.put, List.getElem_toArray, List.getElem_cons_zero, List.getElem_cons_succ, List.setIfInBounds_toArray, List.set_cons_zero, List.set_cons_succ]
                      refine wpAnyH_take (i := 14) (v := undef) rfl (by kernel_rfl) (by kernel_rfl) (by kernel_rfl) (fun _ _ _ h => h) (Or.inr ⟨by rfl, rfl⟩) (rowCell Zs (2) rfl) ?_
                      try simp only [Act.put, List.getElem_toArray, List.getElem_cons_zero, List.getElem_cons_succ, List.setIfInBounds_toArray, List.set_cons_zero, List.set_cons_succ]
                      refine wpAnyH_take (i := 15) (v := undef) rfl (by kernel_rfl) (by kernel_rfl) (by kernel_rfl) (fun _ _ _ h => h) (Or.inr ⟨by rfl, rfl⟩) (rowCell Zs (2) rfl) ?_
                      try simp only [Act.put, List.getElem_toArray, List.getElem_cons_zero, List.getElem_cons_succ, List.setIfInBounds_toArray, List.set_cons_zero, List.set_cons_succ]
                      refine wpAnyH_take (i := 16) (v := undef) rfl (by kernel_rfl) (by kernel_rfl) (by kernel_rfl) (fun _ _ _ h => h) (Or.inr ⟨by rfl, rfl⟩) (rowCell Zs (2) rfl) ?_
                      try simp only [Act.put, List.getElem_toArray, List.getElem_cons_zero, List.getElem_cons_succ, List.setIfInBounds_toArray, List.set_cons_zero, List.set_cons_succ]
                      refine wpAnyH_take (i := 17) (v := undef) rfl (by kernel_rfl) (by kernel_rfl) (by kernel_rfl) (fun _ _ _ h => h) (Or.inr ⟨by rfl, rfl⟩) (rowCell Zs (2) rfl) ?_
                      try simp only [Act.put, List.getElem_toArray, List.getElem_cons_zero, List.getElem_cons_succ, List.setIfInBounds_toArray, List.set_cons_zero, List.set_cons_succ]
                      refine wpAnyH_take (i := 18) (v := undef) rfl (by kernel_rfl) (by kernel_rfl) (by kernel_rfl) (fun _ _ _ h => h) (Or.inr ⟨by rfl, rfl⟩) (rowCell Zs (2) rfl) ?_
                      try simp only [Act.put, List.getElem_toArray, List.getElem_cons_zero, List.getElem_cons_succ, List.setIfInBounds_toArray, List.set_cons_zero, List.set_cons_succ]
                      refine wpAnyH_take (i := 19) (v := undef) rfl (by kernel_rfl) (by kernel_rfl) (by kernel_rfl) (fun _ _ _ h => h) (Or.inr ⟨by rfl, rfl⟩) (rowCell Zs (2) rfl) ?_
                      try simp only [Act.put, List.getElem_toArray, List.getElem_cons_zero, List.getElem_cons_succ, List.setIfInBounds_toArray, List.set_cons_zero, List.set_cons_succ]
                      refine wpAnyH_take (i := 20) (v := undef) rfl (by kernel_rfl) (by kernel_rfl) (by kernel_rfl) (fun _ _ _ h => h) (Or.inr ⟨by rfl, rfl⟩) (rowCell Zs (2) rfl) ?_
                      try simp only [Act.put, List.getElem_toArray, List.getElem_cons_zero, List.getElem_cons_succ, List.setIfInBounds_toArray, List.set_cons_zero, List.set_cons_succ]
                      refine wpAnyH_take (i := 21) (v := undef) rfl (by kernel_rfl) (by kernel_rfl) (by kernel_rfl) (fun _ _ _ h => h) (Or.inr ⟨by rfl, rfl⟩) (rowCell Zs (2) rfl) ?_
                      try simp only [Act.put, List.getElem_toArray, List.getElem_cons_zero, List.getElem_cons_succ, List.setIfInBounds_toArray, List.set_cons_zero, List.set_cons_succ]
                      refine wpAnyH_take (i := 22) (v := undef) rfl (by kernel_rfl) (by kernel_rfl) (by kernel_rfl) (fun _ _ _ h => h) (Or.inr ⟨by rfl, rfl⟩) (rowCell Zs (2) rfl) ?_
                      try simp only [Act.put, List.getElem_toArray, List.getElem_cons_zero, List.getElem_cons_succ, List.setIfInBounds_toArray, List.set_cons_zero, List.set_cons_succ]
                      refine wpAnyH_take (i := 23) (v := .bool false) rfl (by kernel_rfl) (by kernel_rfl) (by kernel_rfl) (fun _ _ _ h => h) (Or.inl ⟨by rfl, fun w_ hS_ => by (first | (go_simp; done) | (go_simp; rfl))⟩) (rowCell Zs (2) rfl) ?_
                      try simp only [Act.put, List.getElem_toArray, List.getElem_cons_zero, List.getElem_cons_succ, List.setIfInBounds_toArray, List.set_cons_zero, List.set_cons_succ]
                      refine wpAnyH_done (by kernel_rfl) ?_ _
                      go_wp2_with fail
                      go_roundw
                      case rel => exact ⟨j + 1, A', S', X', by omega, by go_num, rfl, HCR.out.below e2, HCJ.out, fun a ha hn => HSL.out a (by omega) hn, Zs, ee⟩
                      case measure => simp [intOf]; omega
                    | true =>
                      have hx : (bits BinOp.and IntKind.u8 ((s.st : Int) / 2 ^ j) 1 == 1) = true := by rw [HBT.out]; exact hb
                      clear hb HBT
                      by_cases hlen : (X' j).length < (X' q).length
                      · have hll : decide (((X' j).length : Int) < ((X' q).length : Int)) = true := by simp; omega
                        have Zs : wr.drew.heap[gs]? = some (.cells s.cells.toArray 124) := Zs
                        have Zc : wr.drew.heap[gc]? = some (.cells (crC n A' (fun j => pv (H j)) S' k).toArray 122) := Zc
                        have ee := belowDrewS ee
                        have e2 := belowDrewS e2
                        refine wp_region_held_drew (S := fun z' => z'.cell? ⟨gs, 2, none⟩ = some (.int .u8 ((s.st : Int))) ∧ z'.cell? ⟨gc, 86 + j, none⟩ = some ((.slice D1 (X' j).length d1)) ∧ z'.cell? ⟨gc, 86 + q, none⟩ = some ((.slice D2 (X' q).length d2))) (by kernel_rfl) ⟨(rowCell Zs (2) rfl), ((e2.cell (p := ⟨gc, 86 + j, none⟩) hgq).trans hcq1.out), ((e2.cell (p := ⟨gc, 86 + q, none⟩) hgq).trans hcq2.out)⟩ (fun hH => ?_)
                        clear hH
                        generalize wr.drew = y1 at Zs Zc ee e2 ⊢
                        refine wpAnyH_take (i := 0) (v := .pointer (some ⟨gs, 2, none⟩)) rfl (by kernel_rfl) (by kernel_rfl) (by kernel_rfl) (fun _ _ _ h => h) (Or.inl ⟨by rfl, fun w_ hS_ => by (first | (go_simp; done) | (go_simp; rfl))⟩) ⟨(rowCell Zs (2) rfl), ((e2.cell (p := ⟨gc, 86 + j, none⟩) hgq).trans hcq1.out), ((e2.cell (p := ⟨gc, 86 + q, none⟩) hgq).trans hcq2.out)⟩ ?_
                        try simp only [Act.put, List.getElem_toArray, List.getElem_cons_zero, List.getElem_cons_succ, List.setIfInBounds_toArray, List.set_cons_zero, List.set_cons_succ]
                        refine wpAnyH_take (i := 1) (v := .int .u8 ((s.st : Int))) rfl (by kernel_rfl) (by kernel_rfl) (by kernel_rfl) (fun _ _ _ h => h) (Or.inl ⟨by rfl, fun w_ hS_ => by (have c_ := hS_.1; first | (go_simp; done) | (go_simp; rfl))⟩) ⟨(rowCell Zs (2) rfl), ((e2.cell (p := ⟨gc, 86 + j, none⟩) hgq).trans hcq1.out), ((e2.cell (p := ⟨gc, 86 + q, none⟩) hgq).trans hcq2.out)⟩ ?_
                        try simp only [Act.put, List.getElem_toArray, List.getElem_cons_zero, List.getElem_cons_succ, List.setIfInBounds_toArray, List.set_cons_zero, List.set_cons_succ]
                        refine wpAnyH_take (i := 2) (v := .int .i64 ((j : Int))) rfl (by kernel_rfl) (by kernel_rfl) (by kernel_rfl) (fun _ _ _ h => h) (Or.inl ⟨by rfl, fun w_ hS_ => by (first | (go_simp; done) | (go_simp; rfl))⟩) ⟨(rowCell Zs (2) rfl), ((e2.cell (p := ⟨gc, 86 + j, none⟩) hgq).trans hcq1.out), ((e2.cell (p := ⟨gc, 86 + q, none⟩) hgq).trans hcq2.out)⟩ ?_
                        try simp only [Act.put, List.getElem_toArray, List.getElem_cons_zero, List.getElem_cons_succ, List.setIfInBounds_toArray, List.set_cons_zero, List.set_cons_succ]
                        refine wpAnyH_take (i := 3) (v := .int .u64 ((j : Int))) rfl (by kernel_rfl) (by kernel_rfl) (by kernel_rfl) (fun _ _ _ h => h) (Or.inl ⟨by rfl, fun w_ hS_ => by (first | (go_simp; done) | (go_simp; rfl))⟩) ⟨(rowCell Zs (2) rfl), ((e2.cell (p := ⟨gc, 86 + j, none⟩) hgq).trans hcq1.out), ((e2.cell (p := ⟨gc, 86 + q, none⟩) hgq).trans hcq2.out)⟩ ?_
                        try simp only [Act.put, List.getElem_toArray, List.getElem_cons_zero, List.getElem_cons_succ, List.setIfInBounds_toArray, List.set_cons_zero, List.set_cons_succ]
                        refine wpAnyH_take (i := 4) (v := .int .u8 ((s.st : Int) / 2 ^ j)) rfl (by kernel_rfl) (by kernel_rfl) (by kernel_rfl) (fun _ _ _ h => h) (Or.inl ⟨by rfl, fun w_ hS_ => by (first | (go_simp; done) | (go_simp; rfl))⟩) ⟨(rowCell Zs (2) rfl), ((e2.cell (p := ⟨gc, 86 + j, none⟩) hgq).trans hcq1.out), ((e2.cell (p := ⟨gc, 86 + q, none⟩) hgq).trans hcq2.out)⟩ ?_
                        try simp only [Act.put, List.getElem_toArray, List.getElem_cons_zero, List.getElem_cons_succ, List.setIfInBounds_toArray, List.set_cons_zero, List.set_cons_succ]
                        refine wpAnyH_take (i := 5) (v := .int .u8 (bits BinOp.and IntKind.u8 ((s.st : Int) / 2 ^ j) 1)) rfl (by kernel_rfl) (by kernel_rfl) (by kernel_rfl) (fun _ _ _ h => h) (Or.inl ⟨by rfl, fun w_ hS_ => by (first | (go_simp; done) | (go_simp; rfl))⟩) ⟨(rowCell Zs (2) rfl), ((e2.cell (p := ⟨gc, 86 + j, none⟩) hgq).trans hcq1.out), ((e2.cell (p := ⟨gc, 86 + q, none⟩) hgq).trans hcq2.out)⟩ ?_
                        try simp only [Act.put, List.getElem_toArray, List.getElem_cons_zero, List.getElem_cons_succ, List.setIfInBounds_toArray, List.set_cons_zero, List.set_cons_succ]
                        refine wpAnyH_take (i := 6) (v := .bool true) rfl (by kernel_rfl) (by kernel_rfl) (by kernel_rfl) (fun _ _ _ h => h) (Or.inl ⟨by rfl, fun w_ hS_ => by (first | (go_simp; done) | (go_simp; rfl))⟩) ⟨(rowCell Zs (2) rfl), ((e2.cell (p := ⟨gc, 86 + j, none⟩) hgq).trans hcq1.out), ((e2.cell (p := ⟨gc, 86 + q, none⟩) hgq).trans hcq2.out)⟩ ?_
                        try simp only [Act.put, List.getElem_toArray, List.getElem_cons_zero, List.getElem_cons_succ, List.setIfInBounds_toArray, List.set_cons_zero, List.set_cons_succ]
                        refine wpAnyH_take (i := 7) (v := .bool true) rfl (by kernel_rfl) (by kernel_rfl) (by kernel_rfl) (fun _ _ _ h => h) (Or.inl ⟨by rfl, fun w_ hS_ => by (first | (go_simp; done) | (go_simp; rfl))⟩) ⟨(rowCell Zs (2) rfl), ((e2.cell (p := ⟨gc, 86 + j, none⟩) hgq).trans hcq1.out), ((e2.cell (p := ⟨gc, 86 + q, none⟩) hgq).trans hcq2.out)⟩ ?_
                        try simp only [Act.put, List.getElem_toArray, List.getElem_cons_zero, List.getElem_cons_succ, List.setIfInBounds_toArray, List.set_cons_zero, List.set_cons_succ]
                        refine wpAnyH_take (i := 8) (v := .pointer (some ⟨gc, 0, none⟩)) rfl (by kernel_rfl) (by kernel_rfl) (by kernel_rfl) (fun _ _ _ h => h) (Or.inl ⟨by rfl, fun w_ hS_ => by (first | (go_simp; done) | (go_simp; rfl))⟩) ⟨(rowCell Zs (2) rfl), ((e2.cell (p := ⟨gc, 86 + j, none⟩) hgq).trans hcq1.out), ((e2.cell (p := ⟨gc, 86 + q, none⟩) hgq).trans hcq2.out)⟩ ?_
                        try simp only [Act.put, List.getElem_toArray, List.getElem_cons_zero, List.getElem_cons_succ, List.setIfInBounds_toArray, List.set_cons_zero, List.set_cons_succ]
                        refine wpAnyH_take (i := 9) (v := .int .i64 ((j : Int))) rfl (by kernel_rfl) (by kernel_rfl) (by kernel_rfl) (fun _ _ _ h => h) (Or.inl ⟨by rfl, fun w_ hS_ => by (first | (go_simp; done) | (go_simp; rfl))⟩) ⟨(rowCell Zs (2) rfl), ((e2.cell (p := ⟨gc, 86 + j, none⟩) hgq).trans hcq1.out), ((e2.cell (p := ⟨gc, 86 + q, none⟩) hgq).trans hcq2.out)⟩ ?_
                        try simp only [Act.put, List.getElem_toArray, List.getElem_cons_zero, List.getElem_cons_succ, List.setIfInBounds_toArray, List.set_cons_zero, List.set_cons_succ]
                        refine wpAnyH_take (i := 10) (v := .pointer (some ⟨gc, 0, none⟩)) rfl (by kernel_rfl) (by kernel_rfl) (by kernel_rfl) (fun _ _ _ h => h) (Or.inl ⟨by rfl, fun w_ hS_ => by (first | (go_simp; done) | (go_simp; rfl))⟩) ⟨(rowCell Zs (2) rfl), ((e2.cell (p := ⟨gc, 86 + j, none⟩) hgq).trans hcq1.out), ((e2.cell (p := ⟨gc, 86 + q, none⟩) hgq).trans hcq2.out)⟩ ?_
                        try simp only [Act.put, List.getElem_toArray, List.getElem_cons_zero, List.getElem_cons_succ, List.setIfInBounds_toArray, List.set_cons_zero, List.set_cons_succ]
                        refine wpAnyH_take (i := 11) (v := .pointer (some ⟨gc, 86, none⟩)) rfl (by kernel_rfl) (by kernel_rfl) (by kernel_rfl) (fun _ _ _ h => h) (Or.inl ⟨by rfl, fun w_ hS_ => by (first | (go_simp; done) | (go_simp; rfl))⟩) ⟨(rowCell Zs (2) rfl), ((e2.cell (p := ⟨gc, 86 + j, none⟩) hgq).trans hcq1.out), ((e2.cell (p := ⟨gc, 86 + q, none⟩) hgq).trans hcq2.out)⟩ ?_
                        try simp only [Act.put, List.getElem_toArray, List.getElem_cons_zero, List.getElem_cons_succ, List.setIfInBounds_toArray, List.set_cons_zero, List.set_cons_succ]
                        refine wpAnyH_take (i := 12) (v := .pointer (some ⟨gc, 86 + j, none⟩)) rfl (by kernel_rfl) (by kernel_rfl) (by kernel_rfl) (fun _ _ _ h => h) (Or.inl ⟨by rfl, fun w_ hS_ => by (first | (go_simp; done) | (go_simp; rfl))⟩) ⟨(rowCell Zs (2) rfl), ((e2.cell (p := ⟨gc, 86 + j, none⟩) hgq).trans hcq1.out), ((e2.cell (p := ⟨gc, 86 + q, none⟩) hgq).trans hcq2.out)⟩ ?_
                        try simp only [Act.put, List.getElem_toArray, List.getElem_cons_zero, List.getElem_cons_succ, List.setIfInBounds_toArray, List.set_cons_zero, List.set_cons_succ]
                        refine wpAnyH_take (i := 13) (v := (.slice D1 (X' j).length d1)) rfl (by kernel_rfl) (by kernel_rfl) (by kernel_rfl) (fun _ _ _ h => h) (Or.inl ⟨by rfl, fun w_ hS_ => by (have c_ := hS_.2.1; first | (go_simp; done) | (go_simp; rfl))⟩) ⟨(rowCell Zs (2) rfl), ((e2.cell (p := ⟨gc, 86 + j, none⟩) hgq).trans hcq1.out), ((e2.cell (p := ⟨gc, 86 + q, none⟩) hgq).trans hcq2.out)⟩ ?_
                        try simp only [Act.put, List.getElem_toArray, List.getElem_cons_zero, List.getElem_cons_succ, List.setIfInBounds_toArray, List.set_cons_zero, List.set_cons_succ]
                        refine wpAnyH_take (i := 14) (v := .int .i64 (((X' j).length : Int))) rfl (by kernel_rfl) (by kernel_rfl) (by kernel_rfl) (fun _ _ _ h => h) (Or.inl ⟨by rfl, fun w_ hS_ => by (first | (go_simp; done) | (go_simp; rfl))⟩) ⟨(rowCell Zs (2) rfl), ((e2.cell (p := ⟨gc, 86 + j, none⟩) hgq).trans hcq1.out), ((e2.cell (p := ⟨gc, 86 + q, none⟩) hgq).trans hcq2.out)⟩ ?_
                        try simp only [Act.put, List.getElem_toArray, List.getElem_cons_zero, List.getElem_cons_succ, List.setIfInBounds_toArray, List.set_cons_zero, List.set_cons_succ]
                        refine wpAnyH_take (i := 15) (v := .pointer (some ⟨gc, 0, none⟩)) rfl (by kernel_rfl) (by kernel_rfl) (by kernel_rfl) (fun _ _ _ h => h) (Or.inl ⟨by rfl, fun w_ hS_ => by (first | (go_simp; done) | (go_simp; rfl))⟩) ⟨(rowCell Zs (2) rfl), ((e2.cell (p := ⟨gc, 86 + j, none⟩) hgq).trans hcq1.out), ((e2.cell (p := ⟨gc, 86 + q, none⟩) hgq).trans hcq2.out)⟩ ?_
                        try simp only [Act.put, List.getElem_toArray, List.getElem_cons_zero, List.getElem_cons_succ, List.setIfInBounds_toArray, List.set_cons_zero, List.set_cons_succ]
                        refine wpAnyH_take (i := 16) (v := .int .i64 ((q : Int))) rfl (by kernel_rfl) (by kernel_rfl) (by kernel_rfl) (fun _ _ _ h => h) (Or.inl ⟨by rfl, fun w_ hS_ => by (first | (go_simp; done) | (go_simp; rfl))⟩) ⟨(rowCell Zs (2) rfl), ((e2.cell (p := ⟨gc, 86 + j, none⟩) hgq).trans hcq1.out), ((e2.cell (p := ⟨gc, 86 + q, none⟩) hgq).trans hcq2.out)⟩ ?_
                        try simp only [Act.put, List.getElem_toArray, List.getElem_cons_zero, List.getElem_cons_succ, List.setIfInBounds_toArray, List.set_cons_zero, List.set_cons_succ]
                        refine wpAnyH_take (i := 17) (v := .pointer (some ⟨gc, 0, none⟩)) rfl (by kernel_rfl) (by kernel_rfl) (by kernel_rfl) (fun _ _ _ h => h) (Or.inl ⟨by rfl, fun w_ hS_ => by (first | (go_simp; done) | (go_simp; rfl))⟩) ⟨(rowCell Zs (2) rfl), ((e2.cell (p := ⟨gc, 86 + j, none⟩) hgq).trans hcq1.out), ((e2.cell (p := ⟨gc, 86 + q, none⟩) hgq).trans hcq2.out)⟩ ?_
                        try simp only [Act.put, List.getElem_toArray, List.getElem_cons_zero, List.getElem_cons_succ, List.setIfInBounds_toArray, List.set_cons_zero, List.set_cons_succ]
                        refine wpAnyH_take (i := 18) (v := .pointer (some ⟨gc, 86, none⟩)) rfl (by kernel_rfl) (by kernel_rfl) (by kernel_rfl) (fun _ _ _ h => h) (Or.inl ⟨by rfl, fun w_ hS_ => by (first | (go_simp; done) | (go_simp; rfl))⟩) ⟨(rowCell Zs (2) rfl), ((e2.cell (p := ⟨gc, 86 + j, none⟩) hgq).trans hcq1.out), ((e2.cell (p := ⟨gc, 86 + q, none⟩) hgq).trans hcq2.out)⟩ ?_
                        try simp only [Act.put, List.getElem_toArray, List.getElem_cons_zero, List.getElem_cons_succ, List.setIfInBounds_toArray, List.set_cons_zero, List.set_cons_succ]
                        refine wpAnyH_take (i := 19) (v := .pointer (some ⟨gc, 86 + q, none⟩)) rfl (by kernel_rfl) (by kernel_rfl) (by kernel_rfl) (fun _ _ _ h => h) (Or.inl ⟨by rfl, fun w_ hS_ => by (first | (go_simp; done) | (go_simp; rfl))⟩) ⟨(rowCell Zs (2) rfl), ((e2.cell (p := ⟨gc, 86 + j, none⟩) hgq).trans hcq1.out), ((e2.cell (p := ⟨gc, 86 + q, none⟩) hgq).trans hcq2.out)⟩ ?_
                        try simp only [Act.put, List.getElem_toArray, List.getElem_cons_zero, List.getElem_cons_succ, List.setIfInBounds_toArray, List.set_cons_zero, List.set_cons_succ]
                        refine wpAnyH_take (i := 20) (v := (.slice D2 (X' q).length d2)) rfl (by kernel_rfl) (by kernel_rfl) (by kernel_rfl) (fun _ _ _ h => h) (Or.inl ⟨by rfl, fun w_ hS_ => by (have c_ := hS_.2.2; first | (go_simp; done) | (go_simp; rfl))⟩) ⟨(rowCell Zs (2) rfl), ((e2.cell (p := ⟨gc, 86 + j, none⟩) hgq).trans hcq1.out), ((e2.cell (p := ⟨gc, 86 + q, none⟩) hgq).trans hcq2.out)⟩ ?_
                        try simp only [Act.put, List.getElem_toArray, List.getElem_cons_zero, List.getElem_cons_succ, List.setIfInBounds_toArray, List.set_cons_zero, List.set_cons_succ]
                        refine wpAnyH_take (i := 21) (v := .int .i64 (((X' q).length : Int))) rfl (by kernel_rfl) (by kernel_rfl) (by kernel_rfl) (fun _ _ _ h => h) (Or.inl ⟨by rfl, fun w_ hS_ => by (first | (go_simp; done) | (go_simp; rfl))⟩) ⟨(rowCell Zs (2) rfl), ((e2.cell (p := ⟨gc, 86 + j, none⟩) hgq).trans hcq1.out), ((e2.cell (p := ⟨gc, 86 + q, none⟩) hgq).trans hcq2.out)⟩ ?_
                        try simp only [Act.put, List.getElem_toArray, List.getElem_cons_zero, List.getElem_cons_succ, List.setIfInBounds_toArray, List.set_cons_zero, List.set_cons_succ]
                        refine wpAnyH_take (i := 22) (v := .bool true) rfl (by kernel_rfl) (by kernel_rfl) (by kernel_rfl) (fun _ _ _ h => h) (Or.inl ⟨by rfl, fun w_ hS_ => by (first | (go_simp; done) | (go_simp; rfl))⟩) ⟨(rowCell Zs (2) rfl), ((e2.cell (p := ⟨gc, 86 + j, none⟩) hgq).trans hcq1.out), ((e2.cell (p := ⟨gc, 86 + q, none⟩) hgq).trans hcq2.out)⟩ ?_
                        try simp only [Act.put, List.getElem_toArray, List.getElem_cons_zero, List.getElem_cons_succ, List.setIfInBounds_toArray, List.set_cons_zero, List.set_cons_succ]
                        refine wpAnyH_take (i := 23) (v := .bool true) rfl (by kernel_rfl) (by kernel_rfl) (by kernel_rfl) (fun _ _ _ h => h) (Or.inl ⟨by rfl, fun w_ hS_ => by (first | (go_simp; done) | (go_simp; rfl))⟩) ⟨(rowCell Zs (2) rfl), ((e2.cell (p := ⟨gc, 86 + j, none⟩) hgq).trans hcq1.out), ((e2.cell (p := ⟨gc, 86 + q, none⟩) hgq).trans hcq2.out)⟩ ?_
                        try simp only [Act.put, List.getElem_toArray, List.getElem_cons_zero, List.getElem_cons_succ, List.setIfInBounds_toArray, List.set_cons_zero, List.set_cons_succ]
                        refine wpAnyH_done (by kernel_rfl) ?_ _
                        obtain ⟨x, hx9⟩ : ∃ x, (X' q)[(X' j).length]? = some x := ⟨_, List.getElem?_eq_getElem hlen⟩
                        obtain ⟨gx, rfl, hgx, hrx⟩ := HR2.out _ _ hx9
                        obtain ⟨hfx, p9, hp9, hp1, hp2, hp3⟩ := (HCJ.out.xl q hqn).2 _ _ hx9
                        have hlr := HCJ.out.learn hltj (by have := HSL.out j (Nat.le_refl _) hltj; omega) (by omega) hfx ⟨p9, hp9, by have := HLJ.out; omega, hp2, hp3⟩
                        have HLR := Lib.hid hlr
                        have HCL := Lib.hid (fun z (hz : CrewAt z w.heap.size gc n A' H L S' X' k) (he : Below w.heap.size w z) => clearn2 w.heap.size gc n j k A' H L S' X' x z hz (by omega) (HCJ.out.ac j hltj).1 (by have := HLJ.out; omega) (fun z' hz' => HT.out.below (he.trans hz')) hlr.1)
                        have hla : (0 : Int) ≤ ((X' j).length : Int) := by omega
                        have hlb : ((X' j).length : Int) < ((X' q).length : Int) := by omega
                        clear hx hll hlr hx9 hfx hp9 hp1 hp2 hp3 hu5
                        go_upto_region 27 with fail
                        have Zs : y1.drew.heap[gs]? = some (.cells s.cells.toArray 124) := Zs
                        have Zc : y1.drew.heap[gc]? = some (.cells (crC n A' (fun j => pv (H j)) S' k).toArray 122) := Zc
                        have ee := belowDrewS ee
                        have e2 := belowDrewS e2
                        refine wp_region_held_drew (S := fun z' => True) (by kernel_rfl) trivial (fun hH => ?_)
                        clear hH
                        generalize y1.drew = y2 at Zs Zc ee e2 ⊢
                        refine wpAnyH_take (i := 0) (v := .pointer (some ⟨gc, 0, none⟩)) rfl (by kernel_rfl) (by kernel_rfl) (by kernel_rfl) (fun _ _ _ h => h) (Or.inl ⟨by rfl, fun w_ hS_ => by (first | (go_simp; done) | (go_simp; rfl))⟩) trivial ?_
                        try simp only [Act.put, List.getElem_toArray, List.getElem_cons_zero, List.getElem_cons_succ, List.setIfInBounds_toArray, List.set_cons_zero, List.set_cons_succ]
                        refine wpAnyH_take (i := 1) (v := .int .i64 ((j : Int))) rfl (by kernel_rfl) (by kernel_rfl) (by kernel_rfl) (fun _ _ _ h => h) (Or.inl ⟨by rfl, fun w_ hS_ => by (first | (go_simp; done) | (go_simp; rfl))⟩) trivial ?_
                        try simp only [Act.put, List.getElem_toArray, List.getElem_cons_zero, List.getElem_cons_succ, List.setIfInBounds_toArray, List.set_cons_zero, List.set_cons_succ]
                        refine wpAnyH_take (i := 2) (v := .pointer (some ⟨gc, 0, none⟩)) rfl (by kernel_rfl) (by kernel_rfl) (by kernel_rfl) (fun _ _ _ h => h) (Or.inl ⟨by rfl, fun w_ hS_ => by (first | (go_simp; done) | (go_simp; rfl))⟩) trivial ?_
                        try simp only [Act.put, List.getElem_toArray, List.getElem_cons_zero, List.getElem_cons_succ, List.setIfInBounds_toArray, List.set_cons_zero, List.set_cons_succ]
                        refine wpAnyH_take (i := 3) (v := .int .i64 ((q : Int))) rfl (by kernel_rfl) (by kernel_rfl) (by kernel_rfl) (fun _ _ _ h => h) (Or.inl ⟨by rfl, fun w_ hS_ => by (first | (go_simp; done) | (go_simp; rfl))⟩) trivial ?_
                        try simp only [Act.put, List.getElem_toArray, List.getElem_cons_zero, List.getElem_cons_succ, List.setIfInBounds_toArray, List.set_cons_zero, List.set_cons_succ]
                        refine wpAnyH_take (i := 4) (v := .pointer (some ⟨gc, 0, none⟩)) rfl (by kernel_rfl) (by kernel_rfl) (by kernel_rfl) (fun _ _ _ h => h) (Or.inl ⟨by rfl, fun w_ hS_ => by (first | (go_simp; done) | (go_simp; rfl))⟩) trivial ?_
                        try simp only [Act.put, List.getElem_toArray, List.getElem_cons_zero, List.getElem_cons_succ, List.setIfInBounds_toArray, List.set_cons_zero, List.set_cons_succ]
                        refine wpAnyH_take (i := 5) (v := .pointer (some ⟨gc, 86, none⟩)) rfl (by kernel_rfl) (by kernel_rfl) (by kernel_rfl) (fun _ _ _ h => h) (Or.inl ⟨by rfl, fun w_ hS_ => by (first | (go_simp; done) | (go_simp; rfl))⟩) trivial ?_
                        try simp only [Act.put, List.getElem_toArray, List.getElem_cons_zero, List.getElem_cons_succ, List.setIfInBounds_toArray, List.set_cons_zero, List.set_cons_succ]
                        refine wpAnyH_take (i := 6) (v := .pointer (some ⟨gc, 86 + q, none⟩)) rfl (by kernel_rfl) (by kernel_rfl) (by kernel_rfl) (fun _ _ _ h => h) (Or.inl ⟨by rfl, fun w_ hS_ => by (first | (go_simp; done) | (go_simp; rfl))⟩) trivial ?_
                        try simp only [Act.put, List.getElem_toArray, List.getElem_cons_zero, List.getElem_cons_succ, List.setIfInBounds_toArray, List.set_cons_zero, List.set_cons_succ]
                        refine wpAnyH_take (i := 8) (v := .pointer (some ⟨gc, 0, none⟩)) rfl (by kernel_rfl) (by kernel_rfl) (by kernel_rfl) (fun _ _ _ h => h) (Or.inl ⟨by rfl, fun w_ hS_ => by (first | (go_simp; done) | (go_simp; rfl))⟩) trivial ?_
                        try simp only [Act.put, List.getElem_toArray, List.getElem_cons_zero, List.getElem_cons_succ, List.setIfInBounds_toArray, List.set_cons_zero, List.set_cons_succ]
                        refine wpAnyH_take (i := 9) (v := .int .i64 ((j : Int))) rfl (by kernel_rfl) (by kernel_rfl) (by kernel_rfl) (fun _ _ _ h => h) (Or.inl ⟨by rfl, fun w_ hS_ => by (first | (go_simp; done) | (go_simp; rfl))⟩) trivial ?_
                        try simp only [Act.put, List.getElem_toArray, List.getElem_cons_zero, List.getElem_cons_succ, List.setIfInBounds_toArray, List.set_cons_zero, List.set_cons_succ]
                        refine wpAnyH_take (i := 10) (v := .pointer (some ⟨gc, 0, none⟩)) rfl (by kernel_rfl) (by kernel_rfl) (by kernel_rfl) (fun _ _ _ h => h) (Or.inl ⟨by rfl, fun w_ hS_ => by (first | (go_simp; done) | (go_simp; rfl))⟩) trivial ?_
                        try simp only [Act.put, List.getElem_toArray, List.getElem_cons_zero, List.getElem_cons_succ, List.setIfInBounds_toArray, List.set_cons_zero, List.set_cons_succ]
                        refine wpAnyH_take (i := 11) (v := .pointer (some ⟨gc, 86, none⟩)) rfl (by kernel_rfl) (by kernel_rfl) (by kernel_rfl) (fun _ _ _ h => h) (Or.inl ⟨by rfl, fun w_ hS_ => by (first | (go_simp; done) | (go_simp; rfl))⟩) trivial ?_
                        try simp only [Act.put, List.getElem_toArray, List.getElem_cons_zero, List.getElem_cons_succ, List.setIfInBounds_toArray, List.set_cons_zero, List.set_cons_succ]
                        refine wpAnyH_take (i := 12) (v := .pointer (some ⟨gc, 86 + j, none⟩)) rfl (by kernel_rfl) (by kernel_rfl) (by kernel_rfl) (fun _ _ _ h => h) (Or.inl ⟨by rfl, fun w_ hS_ => by (first | (go_simp; done) | (go_simp; rfl))⟩) trivial ?_
                        try simp only [Act.put, List.getElem_toArray, List.getElem_cons_zero, List.getElem_cons_succ, List.setIfInBounds_toArray, List.set_cons_zero, List.set_cons_succ]
                        refine wpAnyH_ready (rs := [7, 13]) (by kernel_rfl) (by simp) ?_
                        refine AllReadyH.cons rfl (fun K hK => ?_) (AllReadyH.cons rfl (fun K hK => ?_) AllReadyH.nil)
                        · rw [if_pos (by rfl)]
                          have c_ : y2.cell? ⟨gc, 86 + q, none⟩ = some (.slice (some ⟨gx, 0, none⟩) (X' q).length d2) := (e2.cell (p := ⟨gc, 86 + q, none⟩) hgq).trans hcq2.out
                          go_simp
                          clear c_
                          refine hK.out _ _ trivial (fun hH => ?_)
                          clear hK K hH
                          try simp only [Act.put, List.getElem_toArray, List.getElem_cons_zero, List.getElem_cons_succ, List.setIfInBounds_toArray, List.set_cons_zero, List.set_cons_succ]
                          refine wpAnyH_ready (rs := [13]) (by kernel_rfl) (by simp) ?_
                          refine AllReadyH.cons rfl (fun K hK => ?_) AllReadyH.nil
                          rw [if_pos (by rfl)]
                          have c_ : y2.cell? ⟨gc, 86 + j, none⟩ = some (.slice D1 (X' j).length d1) := (e2.cell (p := ⟨gc, 86 + j, none⟩) hgq).trans hcq1.out
                          go_simp
                          clear c_
                          refine hK.out _ _ trivial (fun hH => ?_)
                          clear hK K hH
                          try simp only [Act.put, List.getElem_toArray, List.getElem_cons_zero, List.getElem_cons_succ, List.setIfInBounds_toArray, List.set_cons_zero, List.set_cons_succ]
                          refine wpAnyH_take (i := 14) (v := .int .i64 (((X' j).length : Int))) rfl (by kernel_rfl) (by kernel_rfl) (by kernel_rfl) (fun _ _ _ h => h) (Or.inl ⟨by rfl, fun w_ hS_ => by (first | (go_simp; done) | (go_simp; rfl))⟩) trivial ?_
                          try simp only [Act.put, List.getElem_toArray, List.getElem_cons_zero, List.getElem_cons_succ, List.setIfInBounds_toArray, List.set_cons_zero, List.set_cons_succ]
                          refine wpAnyH_take (i := 15) (v := .pointer (some ⟨gx, (X' j).length * 10, none⟩)) rfl (by kernel_rfl) (by kernel_rfl) (by kernel_rfl) (fun _ _ _ h => h) (Or.inl ⟨by rfl, fun w_ hS_ => by (first | (go_simp; done) | (go_simp; rfl))⟩) trivial ?_
                          try simp only [Act.put, List.getElem_toArray, List.getElem_cons_zero, List.getElem_cons_succ, List.setIfInBounds_toArray, List.set_cons_zero, List.set_cons_succ]
                          refine wpAnyH_ready (rs := [16]) (by kernel_rfl) (by simp) ?_
                          refine AllReadyH.cons rfl (fun K hK => ?_) AllReadyH.nil
                          rw [if_pos (by rfl)]
                          refine wp_load_mid 37 _ rfl (gx) ((X' j).length * 10) rfl (x.cells) _ (rangeB hrx e2 hgx) Tryd.underlying37 rfl sizeCm ?_
                          refine hK.out _ _ trivial (fun hH => ?_)
                          clear hK K hH
                          try simp only [Act.put, List.getElem_toArray, List.getElem_cons_zero, List.getElem_cons_succ, List.setIfInBounds_toArray, List.set_cons_zero, List.set_cons_succ]
                          refine wpAnyH_ready (rs := [17]) (by kernel_rfl) (by simp) ?_
                          refine AllReadyH.cons rfl (fun K hK => ?_) AllReadyH.nil
                          rw [if_pos (by rfl)]
                          go_simp
                          go_wp2_with (go_at_call 60; refine (HCL.out y2 (HCR.out.below e2) ee).mono ?_; rintro e y3 ⟨rfl, ⟨v9, hcr9⟩, t_, f_⟩)
                          have Zs := f_.heap Zs (fun e_ => e_.elim (fun q_ => by omega) (fun q_ => lgKind (HCR.out.xs j (by omega)) ZSQ (by decide) q_))
                          have ee := ee.trans t_
                          clear Zc e2 t_ f_
                          refine hK.out _ _ trivial (fun hH => ?_)
                          clear hK K hH
                          try simp only [Act.put, List.getElem_toArray, List.getElem_cons_zero, List.getElem_cons_succ, List.setIfInBounds_toArray, List.set_cons_zero, List.set_cons_succ]
                          refine wpAnyH_take (i := 18) (v := .bool true) rfl (by kernel_rfl) (by kernel_rfl) (by kernel_rfl) (fun _ _ _ h => h) (Or.inl ⟨by rfl, fun w_ hS_ => by (first | (go_simp; done) | (go_simp; rfl))⟩) trivial ?_
                          try simp only [Act.put, List.getElem_toArray, List.getElem_cons_zero, List.getElem_cons_succ, List.setIfInBounds_toArray, List.set_cons_zero, List.set_cons_succ]
                          refine wpAnyH_done (by kernel_rfl) ?_ _
                          go_wp2_with fail
                          go_roundw
                          case rel => exact ⟨j + 1, (Px.upd A' j ((A' j).learn (A' j).sl)), (updF S' j v9), (updF X' j (X' j ++ [x])), by omega, by go_num, rfl, hcr9, HLR.out.2, fun a ha hn => by rw [Px.upd_ne _ _ (by omega)]; exact HSL.out a (by omega) hn, Zs, ee⟩
                          case measure => simp [intOf]; omega
                        · rw [if_pos (by rfl)]
                          have c_ : y2.cell? ⟨gc, 86 + j, none⟩ = some (.slice D1 (X' j).length d1) := (e2.cell (p := ⟨gc, 86 + j, none⟩) hgq).trans hcq1.out
                          go_simp
                          clear c_
                          refine hK.out _ _ trivial (fun hH => ?_)
                          clear hK K hH
                          try simp only [Act.put, List.getElem_toArray, List.getElem_cons_zero, List.getElem_cons_succ, List.setIfInBounds_toArray, List.set_cons_zero, List.set_cons_succ]
                          refine wpAnyH_take (i := 14) (v := .int .i64 (((X' j).length : Int))) rfl (by kernel_rfl) (by kernel_rfl) (by kernel_rfl) (fun _ _ _ h => h) (Or.inl ⟨by rfl, fun w_ hS_ => by (first | (go_simp; done) | (go_simp; rfl))⟩) trivial ?_
                          try simp only [Act.put, List.getElem_toArray, List.getElem_cons_zero, List.getElem_cons_succ, List.setIfInBounds_toArray, List.set_cons_zero, List.set_cons_succ]
                          refine wpAnyH_ready (rs := [7]) (by kernel_rfl) (by simp) ?_
                          refine AllReadyH.cons rfl (fun K hK => ?_) AllReadyH.nil
                          rw [if_pos (by rfl)]
                          have c_ : y2.cell? ⟨gc, 86 + q, none⟩ = some (.slice (some ⟨gx, 0, none⟩) (X' q).length d2) := (e2.cell (p := ⟨gc, 86 + q, none⟩) hgq).trans hcq2.out
                          go_simp
                          clear c_
                          refine hK.out _ _ trivial (fun hH => ?_)
                          clear hK K hH
                          try simp only [Act.put, List.getElem_toArray, List.getElem_cons_zero, List.getElem_cons_succ, List.setIfInBounds_toArray, List.set_cons_zero, List.set_cons_succ]
                          refine wpAnyH_take (i := 15) (v := .pointer (some ⟨gx, (X' j).length * 10, none⟩)) rfl (by kernel_rfl) (by kernel_rfl) (by kernel_rfl) (fun _ _ _ h => h) (Or.inl ⟨by rfl, fun w_ hS_ => by (first | (go_simp; done) | (go_simp; rfl))⟩) trivial ?_
                          try simp only [Act.put, List.getElem_toArray, List.getElem_cons_zero, List.getElem_cons_succ, List.setIfInBounds_toArray, List.set_cons_zero, List.set_cons_succ]
                          refine wpAnyH_ready (rs := [16]) (by kernel_rfl) (by simp) ?_
                          refine AllReadyH.cons rfl (fun K hK => ?_) AllReadyH.nil
                          rw [if_pos (by rfl)]
                          refine wp_load_mid 37 _ rfl (gx) ((X' j).length * 10) rfl (x.cells) _ (rangeB hrx e2 hgx) Tryd.underlying37 rfl sizeCm ?_
                          refine hK.out _ _ trivial (fun hH => ?_)
                          clear hK K hH
                          try simp only [Act.put, List.getElem_toArray, List.getElem_cons_zero, List.getElem_cons_succ, List.setIfInBounds_toArray, List.set_cons_zero, List.set_cons_succ]
                          refine wpAnyH_ready (rs := [17]) (by kernel_rfl) (by simp) ?_
                          refine AllReadyH.cons rfl (fun K hK => ?_) AllReadyH.nil
                          rw [if_pos (by rfl)]
                          go_simp
                          go_wp2_with (go_at_call 60; refine (HCL.out y2 (HCR.out.below e2) ee).mono ?_; rintro e y3 ⟨rfl, ⟨v9, hcr9⟩, t_, f_⟩)
                          have Zs := f_.heap Zs (fun e_ => e_.elim (fun q_ => by omega) (fun q_ => lgKind (HCR.out.xs j (by omega)) ZSQ (by decide) q_))
                          have ee := ee.trans t_
                          clear Zc e2 t_ f_
                          refine hK.out _ _ trivial (fun hH => ?_)
                          clear hK K hH
                          try simp only [Act.put, List.getElem_toArray, List.getElem_cons_zero, List.getElem_cons_succ, List.setIfInBounds_toArray, List.set_cons_zero, List.set_cons_succ]
                          refine wpAnyH_take (i := 18) (v := .bool true) rfl (by kernel_rfl) (by kernel_rfl) (by kernel_rfl) (fun _ _ _ h => h) (Or.inl ⟨by rfl, fun w_ hS_ => by (first | (go_simp; done) | (go_simp; rfl))⟩) trivial ?_
                          try simp only [Act.put, List.getElem_toArray, List.getElem_cons_zero, List.getElem_cons_succ, List.setIfInBounds_toArray, List.set_cons_zero, List.set_cons_succ]
                          refine wpAnyH_done (by kernel_rfl) ?_ _
                          go_wp2_with fail
                          go_roundw
                          case rel => exact ⟨j + 1, (Px.upd A' j ((A' j).learn (A' j).sl)), (updF S' j v9), (updF X' j (X' j ++ [x])), by omega, by go_num, rfl, hcr9, HLR.out.2, fun a ha hn => by rw [Px.upd_ne _ _ (by omega)]; exact HSL.out a (by omega) hn, Zs, ee⟩
                          case measure => simp [intOf]; omega
                      · have hll : decide (((X' j).length : Int) < ((X' q).length : Int)) = false := by simp; omega
                        have Zs : wr.drew.heap[gs]? = some (.cells s.cells.toArray 124) := Zs
                        have Zc : wr.drew.heap[gc]? = some (.cells (crC n A' (fun j => pv (H j)) S' k).toArray 122) := Zc
                        have ee := belowDrewS ee
                        have e2 := belowDrewS e2
                        refine wp_region_held_drew (S := fun z' => z'.cell? ⟨gs, 2, none⟩ = some (.int .u8 ((s.st : Int))) ∧ z'.cell? ⟨gc, 86 + j, none⟩ = some ((.slice D1 (X' j).length d1)) ∧ z'.cell? ⟨gc, 86 + q, none⟩ = some ((.slice D2 (X' q).length d2))) (by kernel_rfl) ⟨(rowCell Zs (2) rfl), ((e2.cell (p := ⟨gc, 86 + j, none⟩) hgq).trans hcq1.out), ((e2.cell (p := ⟨gc, 86 + q, none⟩) hgq).trans hcq2.out)⟩ (fun hH => ?_)
                        clear hH
                        generalize wr.drew = y1 at Zs Zc ee e2 ⊢
                        refine wpAnyH_take (i := 0) (v := .pointer (some ⟨gs, 2, none⟩)) rfl (by kernel_rfl) (by kernel_rfl) (by kernel_rfl) (fun _ _ _ h => h) (Or.inl ⟨by rfl, fun w_ hS_ => by (first | (go_simp; done) | (go_simp; rfl))⟩) ⟨(rowCell Zs (2) rfl), ((e2.cell (p := ⟨gc, 86 + j, none⟩) hgq).trans hcq1.out), ((e2.cell (p := ⟨gc, 86 + q, none⟩) hgq).trans hcq2.out)⟩ ?_
                        try simp only [Act.put, List.getElem_toArray, List.getElem_cons_zero, List.getElem_cons_succ, List.setIfInBounds_toArray, List.set_cons_zero, List.set_cons_succ]
                        refine wpAnyH_take (i := 1) (v := .int .u8 ((s.st : Int))) rfl (by kernel_rfl) (by kernel_rfl) (by kernel_rfl) (fun _ _ _ h => h) (Or.inl ⟨by rfl, fun w_ hS_ => by (have c_ := hS_.1; first | (go_simp; done) | (go_simp; rfl))⟩) ⟨(rowCell Zs (2) rfl), ((e2.cell (p := ⟨gc, 86 + j, none⟩) hgq).trans hcq1.out), ((e2.cell (p := ⟨gc, 86 + q, none⟩) hgq).trans hcq2.out)⟩ ?_
                        try simp only [Act.put, List.getElem_toArray, List.getElem_cons_zero, List.getElem_cons_succ, List.setIfInBounds_toArray, List.set_cons_zero, List.set_cons_succ]
                        refine wpAnyH_take (i := 2) (v := .int .i64 ((j : Int))) rfl (by kernel_rfl) (by kernel_rfl) (by kernel_rfl) (fun _ _ _ h => h) (Or.inl ⟨by rfl, fun w_ hS_ => by (first | (go_simp; done) | (go_simp; rfl))⟩) ⟨(rowCell Zs (2) rfl), ((e2.cell (p := ⟨gc, 86 + j, none⟩) hgq).trans hcq1.out), ((e2.cell (p := ⟨gc, 86 + q, none⟩) hgq).trans hcq2.out)⟩ ?_
                        try simp only [Act.put, List.getElem_toArray, List.getElem_cons_zero, List.getElem_cons_succ, List.setIfInBounds_toArray, List.set_cons_zero, List.set_cons_succ]
                        refine wpAnyH_take (i := 3) (v := .int .u64 ((j : Int))) rfl (by kernel_rfl) (by kernel_rfl) (by kernel_rfl) (fun _ _ _ h => h) (Or.inl ⟨by rfl, fun w_ hS_ => by (first | (go_simp; done) | (go_simp; rfl))⟩) ⟨(rowCell Zs (2) rfl), ((e2.cell (p := ⟨gc, 86 + j, none⟩) hgq).trans hcq1.out), ((e2.cell (p := ⟨gc, 86 + q, none⟩) hgq).trans hcq2.out)⟩ ?_
                        try simp only [Act.put, List.getElem_toArray, List.getElem_cons_zero, List.getElem_cons_succ, List.setIfInBounds_toArray, List.set_cons_zero, List.set_cons_succ]
                        refine wpAnyH_take (i := 4) (v := .int .u8 ((s.st : Int) / 2 ^ j)) rfl (by kernel_rfl) (by kernel_rfl) (by kernel_rfl) (fun _ _ _ h => h) (Or.inl ⟨by rfl, fun w_ hS_ => by (first | (go_simp; done) | (go_simp; rfl))⟩) ⟨(rowCell Zs (2) rfl), ((e2.cell (p := ⟨gc, 86 + j, none⟩) hgq).trans hcq1.out), ((e2.cell (p := ⟨gc, 86 + q, none⟩) hgq).trans hcq2.out)⟩ ?_
                        try simp only [Act.put, List.getElem_toArray, List.getElem_cons_zero, List.getElem_cons_succ, List.setIfInBounds_toArray, List.set_cons_zero, List.set_cons_succ]
                        refine wpAnyH_take (i := 5) (v := .int .u8 (bits BinOp.and IntKind.u8 ((s.st : Int) / 2 ^ j) 1)) rfl (by kernel_rfl) (by kernel_rfl) (by kernel_rfl) (fun _ _ _ h => h) (Or.inl ⟨by rfl, fun w_ hS_ => by (first | (go_simp; done) | (go_simp; rfl))⟩) ⟨(rowCell Zs (2) rfl), ((e2.cell (p := ⟨gc, 86 + j, none⟩) hgq).trans hcq1.out), ((e2.cell (p := ⟨gc, 86 + q, none⟩) hgq).trans hcq2.out)⟩ ?_
                        try simp only [Act.put, List.getElem_toArray, List.getElem_cons_zero, List.getElem_cons_succ, List.setIfInBounds_toArray, List.set_cons_zero, List.set_cons_succ]
                        refine wpAnyH_take (i := 6) (v := .bool true) rfl (by kernel_rfl) (by kernel_rfl) (by kernel_rfl) (fun _ _ _ h => h) (Or.inl ⟨by rfl, fun w_ hS_ => by (first | (go_simp; done) | (go_simp; rfl))⟩) ⟨(rowCell Zs (2) rfl), ((e2.cell (p := ⟨gc, 86 + j, none⟩) hgq).trans hcq1.out), ((e2.cell (p := ⟨gc, 86 + q, none⟩) hgq).trans hcq2.out)⟩ ?_
                        try simp only [Act.put, List.getElem_toArray, List.getElem_cons_zero, List.getElem_cons_succ, List.setIfInBounds_toArray, List.set_cons_zero, List.set_cons_succ]
                        refine wpAnyH_take (i := 7) (v := .bool true) rfl (by kernel_rfl) (by kernel_rfl) (by kernel_rfl) (fun _ _ _ h => h) (Or.inl ⟨by rfl, fun w_ hS_ => by (first | (go_simp; done) | (go_simp; rfl))⟩) ⟨(rowCell Zs (2) rfl), ((e2.cell (p := ⟨gc, 86 + j, none⟩) hgq).trans hcq1.out), ((e2.cell (p := ⟨gc, 86 + q, none⟩) hgq).trans hcq2.out)⟩ ?_
                        try simp only [Act.put, List.getElem_toArray, List.getElem_cons_zero, List.getElem_cons_succ, List.setIfInBounds_toArray, List.set_cons_zero, List.set_cons_succ]
                        refine wpAnyH_take (i := 8) (v := .pointer (some ⟨gc, 0, none⟩)) rfl (by kernel_rfl) (by kernel_rfl) (by kernel_rfl) (fun _ _ _ h => h) (Or.inl ⟨by rfl, fun w_ hS_ => by (first | (go_simp; done) | (go_simp; rfl))⟩) ⟨(rowCell Zs (2) rfl), ((e2.cell (p := ⟨gc, 86 + j, none⟩) hgq).trans hcq1.out), ((e2.cell (p := ⟨gc, 86 + q, none⟩) hgq).trans hcq2.out)⟩ ?_
                        try simp only [Act.put, List.getElem_toArray, List.getElem_cons_zero, List.getElem_cons_succ, List.setIfInBounds_toArray, List.set_cons_zero, List.set_cons_succ]
                        refine wpAnyH_take (i := 9) (v := .int .i64 ((j : Int))) rfl (by kernel_rfl) (by kernel_rfl) (by kernel_rfl) (fun _ _ _ h => h) (Or.inl ⟨by rfl, fun w_ hS_ => by (first | (go_simp; done) | (go_simp; rfl))⟩) ⟨(rowCell Zs (2) rfl), ((e2.cell (p := ⟨gc, 86 + j, none⟩) hgq).trans hcq1.out), ((e2.cell (p := ⟨gc, 86 + q, none⟩) hgq).trans hcq2.out)⟩ ?_
                        try simp only [Act.put, List.getElem_toArray, List.getElem_cons_zero, List.getElem_cons_succ, List.setIfInBounds_toArray, List.set_cons_zero, List.set_cons_succ]
                        refine wpAnyH_take (i := 10) (v := .pointer (some ⟨gc, 0, none⟩)) rfl (by kernel_rfl) (by kernel_rfl) (by kernel_rfl) (fun _ _ _ h => h) (Or.inl ⟨by rfl, fun w_ hS_ => by (first | (go_simp; done) | (go_simp; rfl))⟩) ⟨(rowCell Zs (2) rfl), ((e2.cell (p := ⟨gc, 86 + j, none⟩) hgq).trans hcq1.out), ((e2.cell (p := ⟨gc, 86 + q, none⟩) hgq).trans hcq2.out)⟩ ?_
                        try simp only [Act.put, List.getElem_toArray, List.getElem_cons_zero, List.getElem_cons_succ, List.setIfInBounds_toArray, List.set_cons_zero, List.set_cons_succ]
                        refine wpAnyH_take (i := 11) (v := .pointer (some ⟨gc, 86, none⟩)) rfl (by kernel_rfl) (by kernel_rfl) (by kernel_rfl) (fun _ _ _ h => h) (Or.inl ⟨by rfl, fun w_ hS_ => by (first | (go_simp; done) | (go_simp; rfl))⟩) ⟨(rowCell Zs (2) rfl), ((e2.cell (p := ⟨gc, 86 + j, none⟩) hgq).trans hcq1.out), ((e2.cell (p := ⟨gc, 86 + q, none⟩) hgq).trans hcq2.out)⟩ ?_
                        try simp only [Act.put, List.getElem_toArray, List.getElem_cons_zero, List.getElem_cons_succ, List.setIfInBounds_toArray, List.set_cons_zero, List.set_cons_succ]
                        refine wpAnyH_take (i := 12) (v := .pointer (some ⟨gc, 86 + j, none⟩)) rfl (by kernel_rfl) (by kernel_rfl) (by kernel_rfl) (fun _ _ _ h => h) (Or.inl ⟨by rfl, fun w_ hS_ => by (first | (go_simp; done) | (go_simp; rfl))⟩) ⟨(rowCell Zs (2) rfl), ((e2.cell (p := ⟨gc, 86 + j, none⟩) hgq).trans hcq1.out), ((e2.cell (p := ⟨gc, 86 + q, none⟩) hgq).trans hcq2.out)⟩ ?_
                        try simp only [Act.put, List.getElem_toArray, List.getElem_cons_zero, List.getElem_cons_succ, List.setIfInBounds_toArray, List.set_cons_zero, List.set_cons_succ]
                        refine wpAnyH_take (i := 13) (v := (.slice D1 (X' j).length d1)) rfl (by kernel_rfl) (by kernel_rfl) (by kernel_rfl) (fun _ _ _ h => h) (Or.inl ⟨by rfl, fun w_ hS_ => by (have c_ := hS_.2.1; first | (go_simp; done) | (go_simp; rfl))⟩) ⟨(rowCell Zs (2) rfl), ((e2.cell (p := ⟨gc, 86 + j, none⟩) hgq).trans hcq1.out), ((e2.cell (p := ⟨gc, 86 + q, none⟩) hgq).trans hcq2.out)⟩ ?_
                        try simp only [Act.put, List.getElem_toArray, List.getElem_cons_zero, List.getElem_cons_succ, List.setIfInBounds_toArray, List.set_cons_zero, List.set_cons_succ]
                        refine wpAnyH_take (i := 14) (v := .int .i64 (((X' j).length : Int))) rfl (by kernel_rfl) (by kernel_rfl) (by kernel_rfl) (fun _ _ _ h => h) (Or.inl ⟨by rfl, fun w_ hS_ => by (first | (go_simp; done) | (go_simp; rfl))⟩) ⟨(rowCell Zs (2) rfl), ((e2.cell (p := ⟨gc, 86 + j, none⟩) hgq).trans hcq1.out), ((e2.cell (p := ⟨gc, 86 + q, none⟩) hgq).trans hcq2.out)⟩ ?_
                        try simp only [Act.put, List.getElem_toArray, List.getElem_cons_zero, List.getElem_cons_succ, List.setIfInBounds_toArray, List.set_cons_zero, List.set_cons_succ]
                        refine wpAnyH_take (i := 15) (v := .pointer (some ⟨gc, 0, none⟩)) rfl (by kernel_rfl) (by kernel_rfl) (by kernel_rfl) (fun _ _ _ h => h) (Or.inl ⟨by rfl, fun w_ hS_ => by (first | (go_simp; done) | (go_simp; rfl))⟩) ⟨(rowCell Zs (2) rfl), ((e2.cell (p := ⟨gc, 86 + j, none⟩) hgq).trans hcq1.out), ((e2.cell (p := ⟨gc, 86 + q, none⟩) hgq).trans hcq2.out)⟩ ?_
                        try simp only [Act.put, List.getElem_toArray, List.getElem_cons_zero, List.getElem_cons_succ, List.setIfInBounds_toArray, List.set_cons_zero, List.set_cons_succ]
                        refine wpAnyH_take (i := 16) (v := .int .i64 ((q : Int))) rfl (by kernel_rfl) (by kernel_rfl) (by kernel_rfl) (fun _ _ _ h => h) (Or.inl ⟨by rfl, fun w_ hS_ => by (first | (go_simp; done) | (go_simp; rfl))⟩) ⟨(rowCell Zs (2) rfl), ((e2.cell (p := ⟨gc, 86 + j, none⟩) hgq).trans hcq1.out), ((e2.cell (p := ⟨gc, 86 + q, none⟩) hgq).trans hcq2.out)⟩ ?_
                        try simp only [Act.put, List.getElem_toArray, List.getElem_cons_zero, List.getElem_cons_succ, List.setIfInBounds_toArray, List.set_cons_zero, List.set_cons_succ]
                        refine wpAnyH_take (i := 17) (v := .pointer (some ⟨gc, 0, none⟩)) rfl (by kernel_rfl) (by kernel_rfl) (by kernel_rfl) (fun _ _ _ h => h) (Or.inl ⟨by rfl, fun w_ hS_ => by (first | (go_simp; done) | (go_simp; rfl))⟩) ⟨(rowCell Zs (2) rfl), ((e2.cell (p := ⟨gc, 86 + j, none⟩) hgq).trans hcq1.out), ((e2.cell (p := ⟨gc, 86 + q, none⟩) hgq).trans hcq2.out)⟩ ?_
                        try simp only [Act.put, List.getElem_toArray, List.getElem_cons_zero, List.getElem_cons_succ, List.setIfInBounds_toArray, List.set_cons_zero, List.set_cons_succ]
                        refine wpAnyH_take (i := 18) (v := .pointer (some ⟨gc, 86, none⟩)) rfl (by kernel_rfl) (by kernel_rfl) (by kernel_rfl) (fun _ _ _ h => h) (Or.inl ⟨by rfl, fun w_ hS_ => by (first | (go_simp; done) | (go_simp; rfl))⟩) ⟨(rowCell Zs (2) rfl), ((e2.cell (p := ⟨gc, 86 + j, none⟩) hgq).trans hcq1.out), ((e2.cell (p := ⟨gc, 86 + q, none⟩) hgq).trans hcq2.out)⟩ ?_
                        try simp only [Act.put, List.getElem_toArray, List.getElem_cons_zero, List.getElem_cons_succ, List.setIfInBounds_toArray, List.set_cons_zero, List.set_cons_succ]
                        refine wpAnyH_take (i := 19) (v := .pointer (some ⟨gc, 86 + q, none⟩)) rfl (by kernel_rfl) (by kernel_rfl) (by kernel_rfl) (fun _ _ _ h => h) (Or.inl ⟨by rfl, fun w_ hS_ => by (first | (go_simp; done) | (go_simp; rfl))⟩) ⟨(rowCell Zs (2) rfl), ((e2.cell (p := ⟨gc, 86 + j, none⟩) hgq).trans hcq1.out), ((e2.cell (p := ⟨gc, 86 + q, none⟩) hgq).trans hcq2.out)⟩ ?_
                        try simp only [Act.put, List.getElem_toArray, List.getElem_cons_zero, List.getElem_cons_succ, List.setIfInBounds_toArray, List.set_cons_zero, List.set_cons_succ]
                        refine wpAnyH_take (i := 20) (v := (.slice D2 (X' q).length d2)) rfl (by kernel_rfl) (by kernel_rfl) (by kernel_rfl) (fun _ _ _ h => h) (Or.inl ⟨by rfl, fun w_ hS_ => by (have c_ := hS_.2.2; first | (go_simp; done) | (go_simp; rfl))⟩) ⟨(rowCell Zs (2) rfl), ((e2.cell (p := ⟨gc, 86 + j, none⟩) hgq).trans hcq1.out), ((e2.cell (p := ⟨gc, 86 + q, none⟩) hgq).trans hcq2.out)⟩ ?_
                        try simp only [Act.put, List.getElem_toArray, List.getElem_cons_zero, List.getElem_cons_succ, List.setIfInBounds_toArray, List.set_cons_zero, List.set_cons_succ]
                        refine wpAnyH_take (i := 21) (v := .int .i64 (((X' q).length : Int))) rfl (by kernel_rfl) (by kernel_rfl) (by kernel_rfl) (fun _ _ _ h => h) (Or.inl ⟨by rfl, fun w_ hS_ => by (first | (go_simp; done) | (go_simp; rfl))⟩) ⟨(rowCell Zs (2) rfl), ((e2.cell (p := ⟨gc, 86 + j, none⟩) hgq).trans hcq1.out), ((e2.cell (p := ⟨gc, 86 + q, none⟩) hgq).trans hcq2.out)⟩ ?_
                        try simp only [Act.put, List.getElem_toArray, List.getElem_cons_zero, List.getElem_cons_succ, List.setIfInBounds_toArray, List.set_cons_zero, List.set_cons_succ]
                        refine wpAnyH_take (i := 22) (v := .bool false) rfl (by kernel_rfl) (by kernel_rfl) (by kernel_rfl) (fun _ _ _ h => h) (Or.inl ⟨by rfl, fun w_ hS_ => by (first | (go_simp; done) | (go_simp; rfl))⟩) ⟨(rowCell Zs (2) rfl), ((e2.cell (p := ⟨gc, 86 + j, none⟩) hgq).trans hcq1.out), ((e2.cell (p := ⟨gc, 86 + q, none⟩) hgq).trans hcq2.out)⟩ ?_
                        try simp only [Act.put, List.getElem_toArray, List.getElem_cons_zero, List.getElem_cons_succ, List.setIfInBounds_toArray, List.set_cons_zero, List.set_cons_succ]
                        refine wpAnyH_take (i := 23) (v := .bool false) rfl (by kernel_rfl) (by kernel_rfl) (by kernel_rfl) (fun _ _ _ h => h) (Or.inl ⟨by rfl, fun w_ hS_ => by (first | (go_simp; done) | (go_simp; rfl))⟩) ⟨(rowCell Zs (2) rfl), ((e2.cell (p := ⟨gc, 86 + j, none⟩) hgq).trans hcq1.out), ((e2.cell (p := ⟨gc, 86 + q, none⟩) hgq).trans hcq2.out)⟩ ?_
                        try simp only [Act.put, List.getElem_toArray, List.getElem_cons_zero, List.getElem_cons_succ, List.setIfInBounds_toArray, List.set_cons_zero, List.set_cons_succ]
                        refine wpAnyH_done (by kernel_rfl) ?_ _
                        go_wp2_with fail
                        go_roundw
                        case rel => exact ⟨j + 1, A', S', X', by omega, by go_num, rfl, HCR.out.below e2, HCJ.out, fun a ha hn => HSL.out a (by omega) hn, Zs, ee⟩
                        case measure => simp [intOf]; omega
                  · go_wp2_with fail
                    have HE9 := HCJ
                    have HC9 := HCR
                    refine (cagree w.heap.size gc n _ _ _ _ _ _ wr HC9.out hs5 (fun j hj => by have := (HE9.out.xl j hj).1; have := (HE9.out.ac j hj).2.1; omega) (fun a b c x y ha hb hx hy => HE9.out.agree ha hb hx hy)).mono ?_
                    rintro e y1 ⟨rfl, t9⟩
                    have ee := ee.trans (t9.mono ee.size)
                    try dsimp only
                    rename_i hK
                    refine hK _ _ ?_
                    clear hK
                    go_wp2_with fail
                    go_roundw
                    case rel => exact ⟨t + 1, by omega, by go_num, ⟨_, _, _, _, _, _, _, _, (by omega), HC9.out.below t9, HE9.out⟩, ee⟩
                    case measure => simp [intOf]; omega
            · go_wp2_with fail
              go_ret
              exact ⟨rfl, ee⟩
theorem leadAgree_walk (W : World) (hT : Tabs W) (v0 v1 : Value) (h0 : Arg W 5 v0) (h1 : Arg W 116 v1) :
    Calls Tryd.prog 11 #[v0, v1] W fun e W' => e = .returned (.bool true) ∧ Below W.heap.size W W' := by
  obtain ⟨m, rfl, hm8⟩ := h0.u8 Tryd.underlying5
  obtain ⟨A, c, ls, rfl, hc, hm, hA, hS⟩ := h1.stepsC
  exact lagree_mid A c ls m hm8 W hc hm hA hS hT
end Go.Proofs.YtbahooohkigcnaaDoor
