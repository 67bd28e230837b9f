/- What starts a leader, and what parishlaw19 asks first. Conditions: what lies, lies below; the tables lie. (Printed by gen_lead.py.) -/
import Derived.Test.YtbahooohkigcnaaDoorLeadS
import Derived.Test.YtbahooohkigcnaaDoorAccArg
import Derived.Test.YtbahooohkigcnaaDoorAccG
import Derived.Test.YtbahooohkigcnaaDoorTxnG
import Derived.StillTailTactics
import Derived.Great.BuildSlice
namespace Go.Proofs.YtbahooohkigcnaaDoor
set_option maxRecDepth 20000
open Go.RowKit T
set_option linter.unusedSimpArgs false
set_option linter.unusedVariables false

section
variable {w z a b c : World} {h k : Nat} {old cs : Array Value} {t : TypeId}
theorem lgTrans {r : Option Nat} (p : a.grownBy b r) (q : b.grownBy c r) : a.grownBy c r :=
  ⟨q.os.trans p.os, q.tape.trans p.tape, q.output.trans p.output, Nat.le_trans p.size q.size, fun i hi hne => (q.block i (Nat.lt_of_lt_of_le hi p.size) hne).trans (p.block i hi hne)⟩
theorem lgRefl (w : World) (h : Nat) : w.grownBy w (some h) := ⟨rfl, rfl, rfl, Nat.le_refl _, fun _ _ _ => rfl⟩
theorem lgB2 {B : Nat} (p : Below B a b) (hB : a.heap.size ≤ B) : a.grownBy b (some h) := ⟨p.os, p.tape, p.output, p.size, fun i hi _ => p.block i (by omega)⟩
theorem lgBelow (p : w.grownBy z (some h)) (q : Below z.heap.size z c) : w.grownBy c (some h) := lgTrans p ⟨q.os, q.tape, q.output, q.size, fun i hi _ => q.block i hi⟩
theorem lgAlloc (p : w.grownBy z (some h)) (o : Obj) : w.grownBy (z.alloc o) (some h) := lgTrans p (World.grownBy_alloc z o (some h))
theorem lgDrew (p : w.grownBy z (some h)) : w.grownBy z.drew (some h) := ⟨p.os, p.tape, p.output, p.size, p.block⟩
theorem lgDrewN (p : w.grownBy z (some h)) (n : Nat) : w.grownBy (z.drewN n) (some h) := ⟨p.os, p.tape, p.output, p.size, p.block⟩
theorem lgRow (hk : k = h ∨ w.heap.size ≤ k) (hz : z.heap[k]? = some (.cells old t (0, 0))) (p : w.grownBy z (some h)) : w.grownBy (z.setRow k cs) (some h) :=
  ⟨p.os, p.tape, p.output, by rw [setRow_size]; exact p.size, fun i hi hne => (setRow_other z k i cs (fun e => by
    rcases hk with hk | hk
    · exact hne (by rw [e, hk])
    · omega)).trans (p.block i hi hne)⟩
theorem lgCells (hk : k = h ∨ w.heap.size ≤ k) : ∀ (vs : List Value) (i : Nat) (z : World), w.grownBy z (some h) → w.grownBy (z.setCells k i vs) (some h)
  | [], _, _, p => p
  | v :: r, i, z, p => lgCells hk r (i + 1) (z.setCell ⟨k, i, none⟩ v) ⟨p.os, p.tape, p.output, (show w.heap.size ≤ (z.setCell ⟨k, i, none⟩ v).heap.size by simpa using p.size), fun j hj hne => (Below.heap_setCell z ⟨k, i, none⟩ v j (fun e => by
    rcases hk with hk | hk
    · exact hne (by rw [e]; show some k = some h; rw [hk])
    · have e2 : j = k := e
      omega)).trans (p.block j hj hne)⟩
theorem rangeCell0 {b : Nat} {cs : List Value} (h : w.rangeAt b 0 cs) (j : Nat) {v : Value} (hv : cs[j]? = some v) : w.cell? ⟨b, j, none⟩ = some v := by
  have := h j v hv
  rwa [Nat.zero_add] at this
/-- two ballots side by side -/
theorem balsAt2 {b r1 r2 : Nat} {n1 n2 : Int} (hz : z.heap[b]? = some (.cells [.int .u32 (r1 : Int), .int .i64 n1, .int .u32 (r2 : Int), .int .i64 n2].toArray t (0, 0))) : BalsAt z (b + 1) (some ⟨b, 0, none⟩) [(r1, n1), (r2, n2)] := fun i f hf => by
  match i, hf with
  | 0, hf => cases hf; exact ⟨b, 0, rfl, by omega, rowCell hz 0 rfl, rowCell hz 1 rfl⟩
  | 1, hf => cases hf; exact ⟨b, 0, rfl, by omega, rowCell hz 2 rfl, rowCell hz 3 rfl⟩
  | i + 2, hf => simp at hf
end
theorem B.next_err (r : Nat) (n k : Int) (h : (B.next r n k).2.2 ≠ 0) : (B.next r n k).1 = 0 ∧ (B.next r n k).2.1 = 0 := by
  unfold B.next at h ⊢
  split
  · exact ⟨rfl, rfl⟩
  · split
    · exact ⟨rfl, rfl⟩
    · rename_i h1 h2
      rw [if_neg h1, if_neg h2] at h
      exact absurd rfl h
theorem B.next_lt {r : Nat} {n k : Int} (hr : r < 4294967296) : (B.next r n k).1 < 4294967296 := by
  unfold B.next
  split
  · simp
  · split
    · simp
    · simp; omega
theorem B.most2_lt {r1 r2 : Nat} {n1 n2 : Int} (h1 : r1 < 4294967296) (h2 : r2 < 4294967296) : (B.most [(r1, n1), (r2, n2)]).1 < 4294967296 := by
  have := B.most_mem [(r1, n1), (r2, n2)] (by simp)
  simp only [List.mem_cons, List.not_mem_nil, or_false] at this
  rcases this with h | h <;> rw [h] <;> assumption
namespace T
def Ld.nx (L : Ld) (r : Nat) (n : Int) : Nat × Int × Int := B.next (B.most [(r, n), (L.br, L.bn)]).1 (B.most [(r, n), (L.br, L.bn)]).2 L.nd
def Ld.start (L : Ld) (r : Nat) (n : Int) : Ld := bif decide ((L.nx r n).2.2 = 0) then ⟨L.n, L.nd, (L.nx r n).1, (L.nx r n).2.1, 0, [], none, 0, 0, 0, Cm.zero, 0⟩ else L
end T
theorem info_bal9 : (Tryd.prog.info? 28).map (fun i => (i.zero, i.size, i.bytes)) = some (some (.agg #[.int .u32 0, .int .i64 0]), 2, 16) := by kernel_rfl
theorem fillB2 (r1 r2 : Nat) (n1 n2 : Int) (cells : Array Value) (hn : cells.size = 4) : Instr.fill (fun i => some (i * 2, 2)) cells [(0, .agg [.int .u32 (r1 : Int), .int .i64 n1].toArray), (1, .agg [.int .u32 (r2 : Int), .int .i64 n2].toArray)] = some [.int .u32 (r1 : Int), .int .i64 n1, .int .u32 (r2 : Int), .int .i64 n2].toArray := by
  have := Great.fill_whole (s := 2) (by omega) [Value.agg [.int .u32 (r1 : Int), .int .i64 n1].toArray, Value.agg [.int .u32 (r2 : Int), .int .i64 n2].toArray] cells (by intro v hv; simp at hv; rcases hv with rfl | rfl <;> rfl) (by simp [hn])
  simpa [Value.cells] using this
set_option maxHeartbeats 3200000 in
theorem lstart (w : World) (h : Nat) (L : Ld) (r : Nat) (n : Int) (hr : r < 4294967296) (hb : L.br < 4294967296) (hL : LdAt w h L) :
    Calls Tryd.prog 35 #[.pointer (some ⟨h, 0, none⟩), bal r n] w fun e w' => e = .returned (.tuple #[bal (L.nx r n).1 (L.nx r n).2.1, .int .i64 (L.nx r n).2.2]) ∧ LdAt w' h (L.start r n) ∧ w.grownBy w' (some h) := by
  obtain ⟨i1, hi1, hz10, hz11, hz12⟩ := info_parts info_bal9
  have HM := Lib.hid (fun (z : World) (b : Nat) (hb : b + 1 ≤ z.heap.size) (hz : z.heap[b]? = some (.cells [.int .u32 (r : Int), .int .i64 n, .int .u32 (L.br : Int), .int .i64 L.bn].toArray 28 (0, 0))) => most_any (some ⟨b, 0, none⟩) 2 [(r, n), (L.br, L.bn)] z (b + 1) (by simp) (by simp) (balsAt2 hz) hb)
  have HX := Lib.hid (fun z => next_any (B.most [(r, n), (L.br, L.bn)]).1 (B.most [(r, n), (L.br, L.bn)]).2 L.nd z (B.most2_lt hr hb))
  have HE := Lib.hid (B.next_err (B.most [(r, n), (L.br, L.bn)]).1 (B.most [(r, n), (L.br, L.bn)]).2 L.nd)
  have HS : Hid (L.start r n = bif decide ((L.nx r n).2.2 = 0) then ⟨L.n, L.nd, (L.nx r n).1, (L.nx r n).2.1, 0, [], none, 0, 0, 0, Cm.zero, 0⟩ else L) := rfl
  obtain ⟨X, hX⟩ : ∃ X, X = L.nx r n := ⟨_, rfl⟩
  rw [← hX] at HS ⊢
  rw [show B.next (B.most [(r, n), (L.br, L.bn)]).1 (B.most [(r, n), (L.br, L.bn)]).2 L.nd = X from hX.symm] at HX HE
  clear hX hr hb
  generalize B.most [(r, n), (L.br, L.bn)] = mm at HM HX
  obtain ⟨mr, mn⟩ := mm
  obtain ⟨xr, xn, xe⟩ := X
  simp only at HS HE HX HM
  have hlt : h < w.heap.size := (Array.getElem?_eq_some_iff.1 hL).1
  obtain ⟨w0, hw0⟩ : ∃ w0, w0 = (w.alloc (.cells [.int .u32 (r : Int), .int .i64 n].toArray 28)).alloc (.cells #[.int .u32 0, .int .i64 0] 28) := ⟨_, rfl⟩
  have ee : w.grownBy w0 (some h) := by rw [hw0]; exact lgAlloc (lgAlloc (lgRefl _ _) _) _
  have Zl : w0.heap[h]? = some (.cells L.cells.toArray 144) := by rw [hw0]; exact hpA (hpA hL _) _
  have Zs : w0.heap[w.heap.size]? = some (.cells [.int .u32 (r : Int), .int .i64 n].toArray 28) := by rw [hw0]; exact hpA (hpN _ _ rfl) _
  have Zr : w0.heap[w.heap.size + 1]? = some (.cells #[.int .u32 0, .int .i64 0] 28) := by rw [hw0]; exact hpN _ _ (by simp)
  go_enter Tryd.func35, Tryd.ntmps35
  go_upto_region 3 with fail
  change Code.wp _ _ _ _ ((w.alloc (.cells [.int .u32 (r : Int), .int .i64 n].toArray 28)).alloc (.cells #[.int .u32 0, .int .i64 0] 28))
  rw [← hw0]
  clear hw0 hL
  go_cut [6, 7] (fun u6 u7 wx => ∃ g : Nat, u6 = .pointer (some ⟨g, 0, none⟩) ∧ u7 = .int .i64 xe ∧ Hid (w.heap.size + 1 < g) ∧ Hid (wx.heap[h]? = some (.cells L.cells.toArray 144)) ∧ Hid (wx.heap[w.heap.size + 1]? = some (.cells #[.int .u32 0, .int .i64 0] 28)) ∧ Hid (wx.heap[g]? = some (.cells [.int .u32 (xr : Int), .int .i64 xn].toArray 28)) ∧ Hid (w.grownBy wx (some h)))
  case first =>
    have l0 := (Array.getElem?_eq_some_iff.1 Zr).1
    have Zl : w0.drew.heap[h]? = some (.cells L.cells.toArray 144) := Zl
    have Zs : w0.drew.heap[w.heap.size]? = some (.cells [.int .u32 (r : Int), .int .i64 n].toArray 28) := Zs
    have Zr : w0.drew.heap[w.heap.size + 1]? = some (.cells #[.int .u32 0, .int .i64 0] 28) := Zr
    have ee := lgDrew ee
    refine wp_region_held_drew (S := fun z' => z'.rangeAt w.heap.size 0 [.int .u32 (r : Int), .int .i64 n] ∧ z'.rangeAt h 0 L.cells ∧ z'.rangeAt h 2 [.int .u32 (L.br : Int), .int .i64 L.bn]) (by kernel_rfl) ⟨rowAt Zs, rowAt Zl, rowMid Zl 2 (Ld.ballot L)⟩ (fun hH => ?_)
    clear hH
    generalize w0.drew = z1 at Zl Zs Zr  ee ⊢
    refine wpAnyH_take (i := 0) (v := .agg ([.int .u32 (r : Int), .int .i64 n]).toArray) rfl (by kernel_rfl) (by kernel_rfl) (by kernel_rfl) (fun _ _ _ h => h) (yieldsIf_load_mid (by rfl) 28 _ rfl (w.heap.size) 0 rfl ([.int .u32 (r : Int), .int .i64 n]) _ (fun _ h => h.1) Tryd.underlying28 rfl sizeBal) ⟨rowAt Zs, rowAt Zl, rowMid Zl 2 (Ld.ballot L)⟩ ?_
    try simp only [Act.put, List.getElem_toArray, List.getElem_cons_zero, List.getElem_cons_succ, List.setIfInBounds_toArray, List.set_cons_zero, List.set_cons_succ]
    refine wpAnyH_take (i := 1) (v := .pointer (some ⟨h, 0, none⟩)) rfl (by kernel_rfl) (by kernel_rfl) (by kernel_rfl) (fun _ _ _ h => h) (Or.inl ⟨by rfl, fun w_ hS_ => by (first | (go_simp; done) | (go_simp; rfl))⟩) ⟨rowAt Zs, rowAt Zl, rowMid Zl 2 (Ld.ballot L)⟩ ?_
    try simp only [Act.put, List.getElem_toArray, List.getElem_cons_zero, List.getElem_cons_succ, List.setIfInBounds_toArray, List.set_cons_zero, List.set_cons_succ]
    refine wpAnyH_take (i := 2) (v := .pointer (some ⟨h, 0, none⟩)) rfl (by kernel_rfl) (by kernel_rfl) (by kernel_rfl) (fun _ _ _ h => h) (Or.inl ⟨by rfl, fun w_ hS_ => by (first | (go_simp; done) | (go_simp; rfl))⟩) ⟨rowAt Zs, rowAt Zl, rowMid Zl 2 (Ld.ballot L)⟩ ?_
    try simp only [Act.put, List.getElem_toArray, List.getElem_cons_zero, List.getElem_cons_succ, List.setIfInBounds_toArray, List.set_cons_zero, List.set_cons_succ]
    refine wpAnyH_take (i := 3) (v := .pointer (some ⟨h, 2, none⟩)) rfl (by kernel_rfl) (by kernel_rfl) (by kernel_rfl) (fun _ _ _ h => h) (Or.inl ⟨by rfl, fun w_ hS_ => by (first | (go_simp; done) | (go_simp; rfl))⟩) ⟨rowAt Zs, rowAt Zl, rowMid Zl 2 (Ld.ballot L)⟩ ?_
    try simp only [Act.put, List.getElem_toArray, List.getElem_cons_zero, List.getElem_cons_succ, List.setIfInBounds_toArray, List.set_cons_zero, List.set_cons_succ]
    refine wpAnyH_take (i := 4) (v := .agg ([.int .u32 (L.br : Int), .int .i64 L.bn]).toArray) rfl (by kernel_rfl) (by kernel_rfl) (by kernel_rfl) (fun _ _ _ h => h) (yieldsIf_load_mid (by rfl) 28 _ rfl (h) (2) rfl ([.int .u32 (L.br : Int), .int .i64 L.bn]) _ (fun _ h => h.2.2) Tryd.underlying28 rfl sizeBal) ⟨rowAt Zs, rowAt Zl, rowMid Zl 2 (Ld.ballot L)⟩ ?_
    try simp only [Act.put, List.getElem_toArray, List.getElem_cons_zero, List.getElem_cons_succ, List.setIfInBounds_toArray, List.set_cons_zero, List.set_cons_succ]
    refine wpAnyH_take (i := 7) (v := .pointer (some ⟨h, 0, none⟩)) rfl (by kernel_rfl) (by kernel_rfl) (by kernel_rfl) (fun _ _ _ h => h) (Or.inl ⟨by rfl, fun w_ hS_ => by (first | (go_simp; done) | (go_simp; rfl))⟩) ⟨rowAt Zs, rowAt Zl, rowMid Zl 2 (Ld.ballot L)⟩ ?_
    try simp only [Act.put, List.getElem_toArray, List.getElem_cons_zero, List.getElem_cons_succ, List.setIfInBounds_toArray, List.set_cons_zero, List.set_cons_succ]
    refine wpAnyH_take (i := 8) (v := .pointer (some ⟨h, 0, none⟩)) rfl (by kernel_rfl) (by kernel_rfl) (by kernel_rfl) (fun _ _ _ h => h) (Or.inl ⟨by rfl, fun w_ hS_ => by (first | (go_simp; done) | (go_simp; rfl))⟩) ⟨rowAt Zs, rowAt Zl, rowMid Zl 2 (Ld.ballot L)⟩ ?_
    try simp only [Act.put, List.getElem_toArray, List.getElem_cons_zero, List.getElem_cons_succ, List.setIfInBounds_toArray, List.set_cons_zero, List.set_cons_succ]
    refine wpAnyH_take (i := 9) (v := .pointer (some ⟨h, 1, none⟩)) rfl (by kernel_rfl) (by kernel_rfl) (by kernel_rfl) (fun _ _ _ h => h) (Or.inl ⟨by rfl, fun w_ hS_ => by (first | (go_simp; done) | (go_simp; rfl))⟩) ⟨rowAt Zs, rowAt Zl, rowMid Zl 2 (Ld.ballot L)⟩ ?_
    try simp only [Act.put, List.getElem_toArray, List.getElem_cons_zero, List.getElem_cons_succ, List.setIfInBounds_toArray, List.set_cons_zero, List.set_cons_succ]
    refine wpAnyH_take (i := 10) (v := .int .i64 L.nd) rfl (by kernel_rfl) (by kernel_rfl) (by kernel_rfl) (fun _ _ _ h => h) (Or.inl ⟨by rfl, fun w_ hS_ => by (have c_ := rangeCell0 hS_.2.1 1 rfl; go_simp)⟩) ⟨rowAt Zs, rowAt Zl, rowMid Zl 2 (Ld.ballot L)⟩ ?_
    try simp only [Act.put, List.getElem_toArray, List.getElem_cons_zero, List.getElem_cons_succ, List.setIfInBounds_toArray, List.set_cons_zero, List.set_cons_succ]
    refine wpAnyH_ready (rs := [5, 15]) (by kernel_rfl) (by simp) ?_
    refine AllReadyH.cons rfl (fun K hK => ?_) (AllReadyH.cons rfl (fun K hK => ?_) AllReadyH.nil)
    · rw [if_pos (by rfl)]
      refine wp_buildSlice 183 28 2 #[(0, .tmp 12), (1, .tmp 16)] rfl [.int .u32 (r : Int), .int .i64 n, .int .u32 (L.br : Int), .int .i64 L.bn].toArray i1 (.agg #[.int .u32 0, .int .i64 0]) Tryd.underlying183 hi1 hz10 (by rw [hz11]; decide) (by rw [hz11]; decide) (by rw [hz11]; simp only [List.map_toArray, List.map_cons, List.map_nil]; exact fillB2 _ _ _ _ _ (by simp)) ?_
      have lZl := (Array.getElem?_eq_some_iff.1 Zl).1
      have lZs := (Array.getElem?_eq_some_iff.1 Zs).1
      have lZr := (Array.getElem?_eq_some_iff.1 Zr).1
      have Zl := hpA Zl (.cells [.int .u32 (r : Int), .int .i64 n, .int .u32 (L.br : Int), .int .i64 L.bn].toArray 28)
      have Zs := hpA Zs (.cells [.int .u32 (r : Int), .int .i64 n, .int .u32 (L.br : Int), .int .i64 L.bn].toArray 28)
      have Zr := hpA Zr (.cells [.int .u32 (r : Int), .int .i64 n, .int .u32 (L.br : Int), .int .i64 L.bn].toArray 28)
      have ee := lgAlloc ee (.cells [.int .u32 (r : Int), .int .i64 n, .int .u32 (L.br : Int), .int .i64 L.bn].toArray 28)
      have Zm := hpN z1 (.cells [.int .u32 (r : Int), .int .i64 n, .int .u32 (L.br : Int), .int .i64 L.bn].toArray 28) rfl
      generalize z1.alloc (.cells [.int .u32 (r : Int), .int .i64 n, .int .u32 (L.br : Int), .int .i64 L.bn].toArray 28) = z2 at Zl Zs Zr Zm ee ⊢
      refine hK.out _ _ ⟨rowAt Zs, rowAt Zl, rowMid Zl 2 (Ld.ballot L)⟩ (fun hH => ?_)
      clear hK K hH
      try simp only [Act.put, List.getElem_toArray, List.getElem_cons_zero, List.getElem_cons_succ, List.setIfInBounds_toArray, List.set_cons_zero, List.set_cons_succ]
      refine wpAnyH_ready (rs := [6, 15]) (by kernel_rfl) (by simp) ?_
      refine AllReadyH.cons rfl (fun K hK => ?_) (AllReadyH.cons rfl (fun K hK => ?_) AllReadyH.nil)
      · rw [if_pos (by rfl)]
        go_simp
        go_wp2_with (go_at_call 79; refine (HM.out z2 _ (by have := (Array.getElem?_eq_some_iff.1 Zm).1; omega) Zm).mono ?_; rintro e z3 ⟨rfl, t⟩)
        have Zl := hpB Zl t
        have Zs := hpB Zs t
        have Zr := hpB Zr t
        have Zm := hpB Zm t
        have ee := lgBelow ee t
        clear t
        refine hK.out _ _ ⟨rowAt Zs, rowAt Zl, rowMid Zl 2 (Ld.ballot L)⟩ (fun hH => ?_)
        clear hK K hH
        try simp only [Act.put, List.getElem_toArray, List.getElem_cons_zero, List.getElem_cons_succ, List.setIfInBounds_toArray, List.set_cons_zero, List.set_cons_succ]
        refine wpAnyH_ready (rs := [11, 15]) (by kernel_rfl) (by simp) ?_
        refine AllReadyH.cons rfl (fun K hK => ?_) (AllReadyH.cons rfl (fun K hK => ?_) AllReadyH.nil)
        · rw [if_pos (by rfl)]
          go_simp
          go_wp2_with (go_at_call 78; refine (HX.out z3).mono ?_; rintro e z4 ⟨rfl, t⟩)
          have Zl := hpB Zl t
          have Zs := hpB Zs t
          have Zr := hpB Zr t
          have Zm := hpB Zm t
          have ee := lgBelow ee t
          clear t
          refine hK.out _ _ ⟨rowAt Zs, rowAt Zl, rowMid Zl 2 (Ld.ballot L)⟩ (fun hH => ?_)
          clear hK K hH
          try simp only [Act.put, List.getElem_toArray, List.getElem_cons_zero, List.getElem_cons_succ, List.setIfInBounds_toArray, List.set_cons_zero, List.set_cons_succ]
          refine wpAnyH_take (i := 12) (v := .tuple #[.agg #[.int .u32 (xr : Int), .int .i64 xn], .int .i64 xe]) rfl (by kernel_rfl) (by kernel_rfl) (by kernel_rfl) (fun _ _ _ h => h) (Or.inl ⟨by rfl, fun w_ hS_ => by (first | (go_simp; done) | (go_simp; rfl))⟩) ⟨rowAt Zs, rowAt Zl, rowMid Zl 2 (Ld.ballot L)⟩ ?_
          try simp only [Act.put, List.getElem_toArray, List.getElem_cons_zero, List.getElem_cons_succ, List.setIfInBounds_toArray, List.set_cons_zero, List.set_cons_succ]
          refine wpAnyH_take (i := 13) (v := .agg #[.int .u32 (xr : Int), .int .i64 xn]) rfl (by kernel_rfl) (by kernel_rfl) (by kernel_rfl) (fun _ _ _ h => h) (Or.inl ⟨by rfl, fun w_ hS_ => by (first | (go_simp; done) | (go_simp; rfl))⟩) ⟨rowAt Zs, rowAt Zl, rowMid Zl 2 (Ld.ballot L)⟩ ?_
          try simp only [Act.put, List.getElem_toArray, List.getElem_cons_zero, List.getElem_cons_succ, List.setIfInBounds_toArray, List.set_cons_zero, List.set_cons_succ]
          refine wpAnyH_take (i := 14) (v := .int .i64 xe) rfl (by kernel_rfl) (by kernel_rfl) (by kernel_rfl) (fun _ _ _ h => h) (Or.inl ⟨by rfl, fun w_ hS_ => by (first | (go_simp; done) | (go_simp; rfl))⟩) ⟨rowAt Zs, rowAt Zl, rowMid Zl 2 (Ld.ballot L)⟩ ?_
          try simp only [Act.put, List.getElem_toArray, List.getElem_cons_zero, List.getElem_cons_succ, List.setIfInBounds_toArray, List.set_cons_zero, List.set_cons_succ]
          refine wpAnyH_ready (rs := [15]) (by kernel_rfl) (by simp) ?_
          refine AllReadyH.cons rfl (fun K hK => ?_) AllReadyH.nil
          rw [if_pos (by rfl)]
          go_simp
          have lZl := (Array.getElem?_eq_some_iff.1 Zl).1
          have lZs := (Array.getElem?_eq_some_iff.1 Zs).1
          have lZr := (Array.getElem?_eq_some_iff.1 Zr).1
          have lZm := (Array.getElem?_eq_some_iff.1 Zm).1
          have Zl := hpA Zl (.cells #[.int .u32 0, .int .i64 0] 28)
          have Zs := hpA Zs (.cells #[.int .u32 0, .int .i64 0] 28)
          have Zr := hpA Zr (.cells #[.int .u32 0, .int .i64 0] 28)
          have Zm := hpA Zm (.cells #[.int .u32 0, .int .i64 0] 28)
          have ee := lgAlloc ee (.cells #[.int .u32 0, .int .i64 0] 28)
          have Zn := hpN z4 (.cells #[.int .u32 0, .int .i64 0] 28) rfl
          generalize z4.alloc (.cells #[.int .u32 0, .int .i64 0] 28) = z5 at Zl Zs Zr Zm Zn  ee ⊢
          refine hK.out _ _ ⟨rowAt Zs, rowAt Zl, rowMid Zl 2 (Ld.ballot L)⟩ (fun hH => ?_)
          clear hK K hH
          try simp only [Act.put, List.getElem_toArray, List.getElem_cons_zero, List.getElem_cons_succ, List.setIfInBounds_toArray, List.set_cons_zero, List.set_cons_succ]
          refine wpAnyH_ready (rs := [16]) (by kernel_rfl) (by simp) ?_
          refine AllReadyH.cons rfl (fun K hK => ?_) AllReadyH.nil
          rw [if_pos (by rfl)]
          refine wp_store_row 28 _ _ rfl (z4.heap.size) ([.int .u32 (xr : Int), .int .i64 xn]).toArray rfl rfl 28 _ Zn sizeBal (by rfl) (by simp [Value.oneCell']) ?_
          have N_ := setRow_heap z5 (z4.heap.size) _ ([.int .u32 (xr : Int), .int .i64 xn]).toArray _ _ Zn
          have ee := lgRow (cs := ([.int .u32 (xr : Int), .int .i64 xn]).toArray) (by omega) Zn ee
          have Zl := hpR Zl (g' := z4.heap.size) (by omega) ([.int .u32 (xr : Int), .int .i64 xn]).toArray
          have Zs := hpR Zs (g' := z4.heap.size) (by omega) ([.int .u32 (xr : Int), .int .i64 xn]).toArray
          have Zr := hpR Zr (g' := z4.heap.size) (by omega) ([.int .u32 (xr : Int), .int .i64 xn]).toArray
          have Zm := hpR Zm (g' := z4.heap.size) (by omega) ([.int .u32 (xr : Int), .int .i64 xn]).toArray
          clear Zn
          have Zn := N_
          clear N_
          generalize z5.setRow (z4.heap.size) ([.int .u32 (xr : Int), .int .i64 xn]).toArray = z6 at Zl Zs Zr Zm Zn ee ⊢
          refine hK.out _ _ ⟨rowAt Zs, rowAt Zl, rowMid Zl 2 (Ld.ballot L)⟩ (fun hH => ?_)
          clear hK K hH
          try simp only [Act.put, List.getElem_toArray, List.getElem_cons_zero, List.getElem_cons_succ, List.setIfInBounds_toArray, List.set_cons_zero, List.set_cons_succ]
          refine wpAnyH_take (i := 17) (v := .int .i64 xe) rfl (by kernel_rfl) (by kernel_rfl) (by kernel_rfl) (fun _ _ _ h => h) (Or.inl ⟨by rfl, fun w_ hS_ => by (first | (go_simp; done) | (go_simp; rfl))⟩) ⟨rowAt Zs, rowAt Zl, rowMid Zl 2 (Ld.ballot L)⟩ ?_
          try simp only [Act.put, List.getElem_toArray, List.getElem_cons_zero, List.getElem_cons_succ, List.setIfInBounds_toArray, List.set_cons_zero, List.set_cons_succ]
          refine wpAnyH_done (by kernel_rfl) ?_ _
          go_wp2_with fail
          go_meet
          exact ⟨_, rfl, rfl, by show _ < _; omega, Zl, Zr, Zn, ee⟩
        · rw [if_pos (by rfl)]
          go_simp
          have lZl := (Array.getElem?_eq_some_iff.1 Zl).1
          have lZs := (Array.getElem?_eq_some_iff.1 Zs).1
          have lZr := (Array.getElem?_eq_some_iff.1 Zr).1
          have lZm := (Array.getElem?_eq_some_iff.1 Zm).1
          have Zl := hpA Zl (.cells #[.int .u32 0, .int .i64 0] 28)
          have Zs := hpA Zs (.cells #[.int .u32 0, .int .i64 0] 28)
          have Zr := hpA Zr (.cells #[.int .u32 0, .int .i64 0] 28)
          have Zm := hpA Zm (.cells #[.int .u32 0, .int .i64 0] 28)
          have ee := lgAlloc ee (.cells #[.int .u32 0, .int .i64 0] 28)
          have Zn := hpN z3 (.cells #[.int .u32 0, .int .i64 0] 28) rfl
          generalize z3.alloc (.cells #[.int .u32 0, .int .i64 0] 28) = z4 at Zl Zs Zr Zm Zn  ee ⊢
          refine hK.out _ _ ⟨rowAt Zs, rowAt Zl, rowMid Zl 2 (Ld.ballot L)⟩ (fun hH => ?_)
          clear hK K hH
          try simp only [Act.put, List.getElem_toArray, List.getElem_cons_zero, List.getElem_cons_succ, List.setIfInBounds_toArray, List.set_cons_zero, List.set_cons_succ]
          refine wpAnyH_ready (rs := [11]) (by kernel_rfl) (by simp) ?_
          refine AllReadyH.cons rfl (fun K hK => ?_) AllReadyH.nil
          rw [if_pos (by rfl)]
          go_simp
          go_wp2_with (go_at_call 78; refine (HX.out z4).mono ?_; rintro e z5 ⟨rfl, t⟩)
          have Zl := hpB Zl t
          have Zs := hpB Zs t
          have Zr := hpB Zr t
          have Zm := hpB Zm t
          have Zn := hpB Zn t
          have ee := lgBelow ee t
          clear t
          refine hK.out _ _ ⟨rowAt Zs, rowAt Zl, rowMid Zl 2 (Ld.ballot L)⟩ (fun hH => ?_)
          clear hK K hH
          try simp only [Act.put, List.getElem_toArray, List.getElem_cons_zero, List.getElem_cons_succ, List.setIfInBounds_toArray, List.set_cons_zero, List.set_cons_succ]
          refine wpAnyH_take (i := 12) (v := .tuple #[.agg #[.int .u32 (xr : Int), .int .i64 xn], .int .i64 xe]) rfl (by kernel_rfl) (by kernel_rfl) (by kernel_rfl) (fun _ _ _ h => h) (Or.inl ⟨by rfl, fun w_ hS_ => by (first | (go_simp; done) | (go_simp; rfl))⟩) ⟨rowAt Zs, rowAt Zl, rowMid Zl 2 (Ld.ballot L)⟩ ?_
          try simp only [Act.put, List.getElem_toArray, List.getElem_cons_zero, List.getElem_cons_succ, List.setIfInBounds_toArray, List.set_cons_zero, List.set_cons_succ]
          refine wpAnyH_take (i := 13) (v := .agg #[.int .u32 (xr : Int), .int .i64 xn]) rfl (by kernel_rfl) (by kernel_rfl) (by kernel_rfl) (fun _ _ _ h => h) (Or.inl ⟨by rfl, fun w_ hS_ => by (first | (go_simp; done) | (go_simp; rfl))⟩) ⟨rowAt Zs, rowAt Zl, rowMid Zl 2 (Ld.ballot L)⟩ ?_
          try simp only [Act.put, List.getElem_toArray, List.getElem_cons_zero, List.getElem_cons_succ, List.setIfInBounds_toArray, List.set_cons_zero, List.set_cons_succ]
          refine wpAnyH_take (i := 14) (v := .int .i64 xe) rfl (by kernel_rfl) (by kernel_rfl) (by kernel_rfl) (fun _ _ _ h => h) (Or.inl ⟨by rfl, fun w_ hS_ => by (first | (go_simp; done) | (go_simp; rfl))⟩) ⟨rowAt Zs, rowAt Zl, rowMid Zl 2 (Ld.ballot L)⟩ ?_
          try simp only [Act.put, List.getElem_toArray, List.getElem_cons_zero, List.getElem_cons_succ, List.setIfInBounds_toArray, List.set_cons_zero, List.set_cons_succ]
          refine wpAnyH_ready (rs := [16]) (by kernel_rfl) (by simp) ?_
          refine AllReadyH.cons rfl (fun K hK => ?_) AllReadyH.nil
          rw [if_pos (by rfl)]
          refine wp_store_row 28 _ _ rfl (z3.heap.size) ([.int .u32 (xr : Int), .int .i64 xn]).toArray rfl rfl 28 _ Zn sizeBal (by rfl) (by simp [Value.oneCell']) ?_
          have N_ := setRow_heap z5 (z3.heap.size) _ ([.int .u32 (xr : Int), .int .i64 xn]).toArray _ _ Zn
          have ee := lgRow (cs := ([.int .u32 (xr : Int), .int .i64 xn]).toArray) (by omega) Zn ee
          have Zl := hpR Zl (g' := z3.heap.size) (by omega) ([.int .u32 (xr : Int), .int .i64 xn]).toArray
          have Zs := hpR Zs (g' := z3.heap.size) (by omega) ([.int .u32 (xr : Int), .int .i64 xn]).toArray
          have Zr := hpR Zr (g' := z3.heap.size) (by omega) ([.int .u32 (xr : Int), .int .i64 xn]).toArray
          have Zm := hpR Zm (g' := z3.heap.size) (by omega) ([.int .u32 (xr : Int), .int .i64 xn]).toArray
          clear Zn
          have Zn := N_
          clear N_
          generalize z5.setRow (z3.heap.size) ([.int .u32 (xr : Int), .int .i64 xn]).toArray = z6 at Zl Zs Zr Zm Zn ee ⊢
          refine hK.out _ _ ⟨rowAt Zs, rowAt Zl, rowMid Zl 2 (Ld.ballot L)⟩ (fun hH => ?_)
          clear hK K hH
          try simp only [Act.put, List.getElem_toArray, List.getElem_cons_zero, List.getElem_cons_succ, List.setIfInBounds_toArray, List.set_cons_zero, List.set_cons_succ]
          refine wpAnyH_take (i := 17) (v := .int .i64 xe) rfl (by kernel_rfl) (by kernel_rfl) (by kernel_rfl) (fun _ _ _ h => h) (Or.inl ⟨by rfl, fun w_ hS_ => by (first | (go_simp; done) | (go_simp; rfl))⟩) ⟨rowAt Zs, rowAt Zl, rowMid Zl 2 (Ld.ballot L)⟩ ?_
          try simp only [Act.put, List.getElem_toArray, List.getElem_cons_zero, List.getElem_cons_succ, List.setIfInBounds_toArray, List.set_cons_zero, List.set_cons_succ]
          refine wpAnyH_done (by kernel_rfl) ?_ _
          go_wp2_with fail
          go_meet
          exact ⟨_, rfl, rfl, by show _ < _; omega, Zl, Zr, Zn, ee⟩
      · rw [if_pos (by rfl)]
        go_simp
        have lZl := (Array.getElem?_eq_some_iff.1 Zl).1
        have lZs := (Array.getElem?_eq_some_iff.1 Zs).1
        have lZr := (Array.getElem?_eq_some_iff.1 Zr).1
        have lZm := (Array.getElem?_eq_some_iff.1 Zm).1
        have Zl := hpA Zl (.cells #[.int .u32 0, .int .i64 0] 28)
        have Zs := hpA Zs (.cells #[.int .u32 0, .int .i64 0] 28)
        have Zr := hpA Zr (.cells #[.int .u32 0, .int .i64 0] 28)
        have Zm := hpA Zm (.cells #[.int .u32 0, .int .i64 0] 28)
        have ee := lgAlloc ee (.cells #[.int .u32 0, .int .i64 0] 28)
        have Zn := hpN z2 (.cells #[.int .u32 0, .int .i64 0] 28) rfl
        generalize z2.alloc (.cells #[.int .u32 0, .int .i64 0] 28) = z3 at Zl Zs Zr Zm Zn  ee ⊢
        refine hK.out _ _ ⟨rowAt Zs, rowAt Zl, rowMid Zl 2 (Ld.ballot L)⟩ (fun hH => ?_)
        clear hK K hH
        try simp only [Act.put, List.getElem_toArray, List.getElem_cons_zero, List.getElem_cons_succ, List.setIfInBounds_toArray, List.set_cons_zero, List.set_cons_succ]
        refine wpAnyH_ready (rs := [6]) (by kernel_rfl) (by simp) ?_
        refine AllReadyH.cons rfl (fun K hK => ?_) AllReadyH.nil
        rw [if_pos (by rfl)]
        go_simp
        go_wp2_with (go_at_call 79; refine (HM.out z3 _ (by have := (Array.getElem?_eq_some_iff.1 Zm).1; omega) Zm).mono ?_; rintro e z4 ⟨rfl, t⟩)
        have Zl := hpB Zl t
        have Zs := hpB Zs t
        have Zr := hpB Zr t
        have Zm := hpB Zm t
        have Zn := hpB Zn t
        have ee := lgBelow ee t
        clear t
        refine hK.out _ _ ⟨rowAt Zs, rowAt Zl, rowMid Zl 2 (Ld.ballot L)⟩ (fun hH => ?_)
        clear hK K hH
        try simp only [Act.put, List.getElem_toArray, List.getElem_cons_zero, List.getElem_cons_succ, List.setIfInBounds_toArray, List.set_cons_zero, List.set_cons_succ]
        refine wpAnyH_ready (rs := [11]) (by kernel_rfl) (by simp) ?_
        refine AllReadyH.cons rfl (fun K hK => ?_) AllReadyH.nil
        rw [if_pos (by rfl)]
        go_simp
        go_wp2_with (go_at_call 78; refine (HX.out z4).mono ?_; rintro e z5 ⟨rfl, t⟩)
        have Zl := hpB Zl t
        have Zs := hpB Zs t
        have Zr := hpB Zr t
        have Zm := hpB Zm t
        have Zn := hpB Zn t
        have ee := lgBelow ee t
        clear t
        refine hK.out _ _ ⟨rowAt Zs, rowAt Zl, rowMid Zl 2 (Ld.ballot L)⟩ (fun hH => ?_)
        clear hK K hH
        try simp only [Act.put, List.getElem_toArray, List.getElem_cons_zero, List.getElem_cons_succ, List.setIfInBounds_toArray, List.set_cons_zero, List.set_cons_succ]
        refine wpAnyH_take (i := 12) (v := .tuple #[.agg #[.int .u32 (xr : Int), .int .i64 xn], .int .i64 xe]) rfl (by kernel_rfl) (by kernel_rfl) (by kernel_rfl) (fun _ _ _ h => h) (Or.inl ⟨by rfl, fun w_ hS_ => by (first | (go_simp; done) | (go_simp; rfl))⟩) ⟨rowAt Zs, rowAt Zl, rowMid Zl 2 (Ld.ballot L)⟩ ?_
        try simp only [Act.put, List.getElem_toArray, List.getElem_cons_zero, List.getElem_cons_succ, List.setIfInBounds_toArray, List.set_cons_zero, List.set_cons_succ]
        refine wpAnyH_take (i := 13) (v := .agg #[.int .u32 (xr : Int), .int .i64 xn]) rfl (by kernel_rfl) (by kernel_rfl) (by kernel_rfl) (fun _ _ _ h => h) (Or.inl ⟨by rfl, fun w_ hS_ => by (first | (go_simp; done) | (go_simp; rfl))⟩) ⟨rowAt Zs, rowAt Zl, rowMid Zl 2 (Ld.ballot L)⟩ ?_
        try simp only [Act.put, List.getElem_toArray, List.getElem_cons_zero, List.getElem_cons_succ, List.setIfInBounds_toArray, List.set_cons_zero, List.set_cons_succ]
        refine wpAnyH_take (i := 14) (v := .int .i64 xe) rfl (by kernel_rfl) (by kernel_rfl) (by kernel_rfl) (fun _ _ _ h => h) (Or.inl ⟨by rfl, fun w_ hS_ => by (first | (go_simp; done) | (go_simp; rfl))⟩) ⟨rowAt Zs, rowAt Zl, rowMid Zl 2 (Ld.ballot L)⟩ ?_
        try simp only [Act.put, List.getElem_toArray, List.getElem_cons_zero, List.getElem_cons_succ, List.setIfInBounds_toArray, List.set_cons_zero, List.set_cons_succ]
        refine wpAnyH_ready (rs := [16]) (by kernel_rfl) (by simp) ?_
        refine AllReadyH.cons rfl (fun K hK => ?_) AllReadyH.nil
        rw [if_pos (by rfl)]
        refine wp_store_row 28 _ _ rfl (z2.heap.size) ([.int .u32 (xr : Int), .int .i64 xn]).toArray rfl rfl 28 _ Zn sizeBal (by rfl) (by simp [Value.oneCell']) ?_
        have N_ := setRow_heap z5 (z2.heap.size) _ ([.int .u32 (xr : Int), .int .i64 xn]).toArray _ _ Zn
        have ee := lgRow (cs := ([.int .u32 (xr : Int), .int .i64 xn]).toArray) (by omega) Zn ee
        have Zl := hpR Zl (g' := z2.heap.size) (by omega) ([.int .u32 (xr : Int), .int .i64 xn]).toArray
        have Zs := hpR Zs (g' := z2.heap.size) (by omega) ([.int .u32 (xr : Int), .int .i64 xn]).toArray
        have Zr := hpR Zr (g' := z2.heap.size) (by omega) ([.int .u32 (xr : Int), .int .i64 xn]).toArray
        have Zm := hpR Zm (g' := z2.heap.size) (by omega) ([.int .u32 (xr : Int), .int .i64 xn]).toArray
        clear Zn
        have Zn := N_
        clear N_
        generalize z5.setRow (z2.heap.size) ([.int .u32 (xr : Int), .int .i64 xn]).toArray = z6 at Zl Zs Zr Zm Zn ee ⊢
        refine hK.out _ _ ⟨rowAt Zs, rowAt Zl, rowMid Zl 2 (Ld.ballot L)⟩ (fun hH => ?_)
        clear hK K hH
        try simp only [Act.put, List.getElem_toArray, List.getElem_cons_zero, List.getElem_cons_succ, List.setIfInBounds_toArray, List.set_cons_zero, List.set_cons_succ]
        refine wpAnyH_take (i := 17) (v := .int .i64 xe) rfl (by kernel_rfl) (by kernel_rfl) (by kernel_rfl) (fun _ _ _ h => h) (Or.inl ⟨by rfl, fun w_ hS_ => by (first | (go_simp; done) | (go_simp; rfl))⟩) ⟨rowAt Zs, rowAt Zl, rowMid Zl 2 (Ld.ballot L)⟩ ?_
        try simp only [Act.put, List.getElem_toArray, List.getElem_cons_zero, List.getElem_cons_succ, List.setIfInBounds_toArray, List.set_cons_zero, List.set_cons_succ]
        refine wpAnyH_done (by kernel_rfl) ?_ _
        go_wp2_with fail
        go_meet
        exact ⟨_, rfl, rfl, by show _ < _; omega, Zl, Zr, Zn, ee⟩
    · rw [if_pos (by rfl)]
      go_simp
      have lZl := (Array.getElem?_eq_some_iff.1 Zl).1
      have lZs := (Array.getElem?_eq_some_iff.1 Zs).1
      have lZr := (Array.getElem?_eq_some_iff.1 Zr).1
      have Zl := hpA Zl (.cells #[.int .u32 0, .int .i64 0] 28)
      have Zs := hpA Zs (.cells #[.int .u32 0, .int .i64 0] 28)
      have Zr := hpA Zr (.cells #[.int .u32 0, .int .i64 0] 28)
      have ee := lgAlloc ee (.cells #[.int .u32 0, .int .i64 0] 28)
      have Zn := hpN z1 (.cells #[.int .u32 0, .int .i64 0] 28) rfl
      generalize z1.alloc (.cells #[.int .u32 0, .int .i64 0] 28) = z2 at Zl Zs Zr Zn  ee ⊢
      refine hK.out _ _ ⟨rowAt Zs, rowAt Zl, rowMid Zl 2 (Ld.ballot L)⟩ (fun hH => ?_)
      clear hK K hH
      try simp only [Act.put, List.getElem_toArray, List.getElem_cons_zero, List.getElem_cons_succ, List.setIfInBounds_toArray, List.set_cons_zero, List.set_cons_succ]
      refine wpAnyH_ready (rs := [5]) (by kernel_rfl) (by simp) ?_
      refine AllReadyH.cons rfl (fun K hK => ?_) AllReadyH.nil
      rw [if_pos (by rfl)]
      refine wp_buildSlice 183 28 2 #[(0, .tmp 12), (1, .tmp 16)] rfl [.int .u32 (r : Int), .int .i64 n, .int .u32 (L.br : Int), .int .i64 L.bn].toArray i1 (.agg #[.int .u32 0, .int .i64 0]) Tryd.underlying183 hi1 hz10 (by rw [hz11]; decide) (by rw [hz11]; decide) (by rw [hz11]; simp only [List.map_toArray, List.map_cons, List.map_nil]; exact fillB2 _ _ _ _ _ (by simp)) ?_
      have lZl := (Array.getElem?_eq_some_iff.1 Zl).1
      have lZs := (Array.getElem?_eq_some_iff.1 Zs).1
      have lZr := (Array.getElem?_eq_some_iff.1 Zr).1
      have lZn := (Array.getElem?_eq_some_iff.1 Zn).1
      have Zl := hpA Zl (.cells [.int .u32 (r : Int), .int .i64 n, .int .u32 (L.br : Int), .int .i64 L.bn].toArray 28)
      have Zs := hpA Zs (.cells [.int .u32 (r : Int), .int .i64 n, .int .u32 (L.br : Int), .int .i64 L.bn].toArray 28)
      have Zr := hpA Zr (.cells [.int .u32 (r : Int), .int .i64 n, .int .u32 (L.br : Int), .int .i64 L.bn].toArray 28)
      have Zn := hpA Zn (.cells [.int .u32 (r : Int), .int .i64 n, .int .u32 (L.br : Int), .int .i64 L.bn].toArray 28)
      have ee := lgAlloc ee (.cells [.int .u32 (r : Int), .int .i64 n, .int .u32 (L.br : Int), .int .i64 L.bn].toArray 28)
      have Zm := hpN z2 (.cells [.int .u32 (r : Int), .int .i64 n, .int .u32 (L.br : Int), .int .i64 L.bn].toArray 28) rfl
      generalize z2.alloc (.cells [.int .u32 (r : Int), .int .i64 n, .int .u32 (L.br : Int), .int .i64 L.bn].toArray 28) = z3 at Zl Zs Zr Zn Zm ee ⊢
      refine hK.out _ _ ⟨rowAt Zs, rowAt Zl, rowMid Zl 2 (Ld.ballot L)⟩ (fun hH => ?_)
      clear hK K hH
      try simp only [Act.put, List.getElem_toArray, List.getElem_cons_zero, List.getElem_cons_succ, List.setIfInBounds_toArray, List.set_cons_zero, List.set_cons_succ]
      refine wpAnyH_ready (rs := [6]) (by kernel_rfl) (by simp) ?_
      refine AllReadyH.cons rfl (fun K hK => ?_) AllReadyH.nil
      rw [if_pos (by rfl)]
      go_simp
      go_wp2_with (go_at_call 79; refine (HM.out z3 _ (by have := (Array.getElem?_eq_some_iff.1 Zm).1; omega) Zm).mono ?_; rintro e z4 ⟨rfl, t⟩)
      have Zl := hpB Zl t
      have Zs := hpB Zs t
      have Zr := hpB Zr t
      have Zn := hpB Zn t
      have Zm := hpB Zm t
      have ee := lgBelow ee t
      clear t
      refine hK.out _ _ ⟨rowAt Zs, rowAt Zl, rowMid Zl 2 (Ld.ballot L)⟩ (fun hH => ?_)
      clear hK K hH
      try simp only [Act.put, List.getElem_toArray, List.getElem_cons_zero, List.getElem_cons_succ, List.setIfInBounds_toArray, List.set_cons_zero, List.set_cons_succ]
      refine wpAnyH_ready (rs := [11]) (by kernel_rfl) (by simp) ?_
      refine AllReadyH.cons rfl (fun K hK => ?_) AllReadyH.nil
      rw [if_pos (by rfl)]
      go_simp
      go_wp2_with (go_at_call 78; refine (HX.out z4).mono ?_; rintro e z5 ⟨rfl, t⟩)
      have Zl := hpB Zl t
      have Zs := hpB Zs t
      have Zr := hpB Zr t
      have Zn := hpB Zn t
      have Zm := hpB Zm t
      have ee := lgBelow ee t
      clear t
      refine hK.out _ _ ⟨rowAt Zs, rowAt Zl, rowMid Zl 2 (Ld.ballot L)⟩ (fun hH => ?_)
      clear hK K hH
      try simp only [Act.put, List.getElem_toArray, List.getElem_cons_zero, List.getElem_cons_succ, List.setIfInBounds_toArray, List.set_cons_zero, List.set_cons_succ]
      refine wpAnyH_take (i := 12) (v := .tuple #[.agg #[.int .u32 (xr : Int), .int .i64 xn], .int .i64 xe]) rfl (by kernel_rfl) (by kernel_rfl) (by kernel_rfl) (fun _ _ _ h => h) (Or.inl ⟨by rfl, fun w_ hS_ => by (first | (go_simp; done) | (go_simp; rfl))⟩) ⟨rowAt Zs, rowAt Zl, rowMid Zl 2 (Ld.ballot L)⟩ ?_
      try simp only [Act.put, List.getElem_toArray, List.getElem_cons_zero, List.getElem_cons_succ, List.setIfInBounds_toArray, List.set_cons_zero, List.set_cons_succ]
      refine wpAnyH_take (i := 13) (v := .agg #[.int .u32 (xr : Int), .int .i64 xn]) rfl (by kernel_rfl) (by kernel_rfl) (by kernel_rfl) (fun _ _ _ h => h) (Or.inl ⟨by rfl, fun w_ hS_ => by (first | (go_simp; done) | (go_simp; rfl))⟩) ⟨rowAt Zs, rowAt Zl, rowMid Zl 2 (Ld.ballot L)⟩ ?_
      try simp only [Act.put, List.getElem_toArray, List.getElem_cons_zero, List.getElem_cons_succ, List.setIfInBounds_toArray, List.set_cons_zero, List.set_cons_succ]
      refine wpAnyH_take (i := 14) (v := .int .i64 xe) rfl (by kernel_rfl) (by kernel_rfl) (by kernel_rfl) (fun _ _ _ h => h) (Or.inl ⟨by rfl, fun w_ hS_ => by (first | (go_simp; done) | (go_simp; rfl))⟩) ⟨rowAt Zs, rowAt Zl, rowMid Zl 2 (Ld.ballot L)⟩ ?_
      try simp only [Act.put, List.getElem_toArray, List.getElem_cons_zero, List.getElem_cons_succ, List.setIfInBounds_toArray, List.set_cons_zero, List.set_cons_succ]
      refine wpAnyH_ready (rs := [16]) (by kernel_rfl) (by simp) ?_
      refine AllReadyH.cons rfl (fun K hK => ?_) AllReadyH.nil
      rw [if_pos (by rfl)]
      refine wp_store_row 28 _ _ rfl (z1.heap.size) ([.int .u32 (xr : Int), .int .i64 xn]).toArray rfl rfl 28 _ Zn sizeBal (by rfl) (by simp [Value.oneCell']) ?_
      have N_ := setRow_heap z5 (z1.heap.size) _ ([.int .u32 (xr : Int), .int .i64 xn]).toArray _ _ Zn
      have ee := lgRow (cs := ([.int .u32 (xr : Int), .int .i64 xn]).toArray) (by omega) Zn ee
      have Zl := hpR Zl (g' := z1.heap.size) (by omega) ([.int .u32 (xr : Int), .int .i64 xn]).toArray
      have Zs := hpR Zs (g' := z1.heap.size) (by omega) ([.int .u32 (xr : Int), .int .i64 xn]).toArray
      have Zr := hpR Zr (g' := z1.heap.size) (by omega) ([.int .u32 (xr : Int), .int .i64 xn]).toArray
      have Zm := hpR Zm (g' := z1.heap.size) (by omega) ([.int .u32 (xr : Int), .int .i64 xn]).toArray
      clear Zn
      have Zn := N_
      clear N_
      generalize z5.setRow (z1.heap.size) ([.int .u32 (xr : Int), .int .i64 xn]).toArray = z6 at Zl Zs Zr Zn Zm ee ⊢
      refine hK.out _ _ ⟨rowAt Zs, rowAt Zl, rowMid Zl 2 (Ld.ballot L)⟩ (fun hH => ?_)
      clear hK K hH
      try simp only [Act.put, List.getElem_toArray, List.getElem_cons_zero, List.getElem_cons_succ, List.setIfInBounds_toArray, List.set_cons_zero, List.set_cons_succ]
      refine wpAnyH_take (i := 17) (v := .int .i64 xe) rfl (by kernel_rfl) (by kernel_rfl) (by kernel_rfl) (fun _ _ _ h => h) (Or.inl ⟨by rfl, fun w_ hS_ => by (first | (go_simp; done) | (go_simp; rfl))⟩) ⟨rowAt Zs, rowAt Zl, rowMid Zl 2 (Ld.ballot L)⟩ ?_
      try simp only [Act.put, List.getElem_toArray, List.getElem_cons_zero, List.getElem_cons_succ, List.setIfInBounds_toArray, List.set_cons_zero, List.set_cons_succ]
      refine wpAnyH_done (by kernel_rfl) ?_ _
      go_wp2_with fail
      go_meet
      exact ⟨_, rfl, rfl, by show _ < _; omega, Zl, Zr, Zn, ee⟩
  case rest =>
    obtain ⟨g, rfl, rfl, hg, Zl, Zr, Zn, ee⟩ := hcut
    have hg := hg.out
    have Zl := Zl.out
    have Zr := Zr.out
    have Zn := Zn.out
    have ee := ee.out
    have nm : ∀ z : World, w.grownBy z (some h) → ∃ z', z' = z := fun z _ => ⟨z, rfl⟩
    obtain ⟨y0, hy0⟩ := nm _ ee
    subst hy0
    clear nm
    clear HM HX hi1 hz10 hz11 hz12
    by_cases hxe : xe = 0
    · subst hxe
      have HS2 : Hid (L.start r n = ⟨L.n, L.nd, xr, xn, 0, [], none, 0, 0, 0, Cm.zero, 0⟩) := HS.out
      clear HS HE
      have sz0 := ee.size
      go_upto_region 6 with fail
      have c0 := rowCell Zl 0 rfl
      have c1 := rowCell Zl 1 rfl
      have n0 := rowCell Zn 0 rfl
      have n1 := rowCell Zn 1 rfl
      go_still_tail 12, (by kernel_rfl)
      have Zl : y0.drew.heap[h]? = some (.cells L.cells.toArray 144) := Zl
      have Zr : y0.drew.heap[w.heap.size + 1]? = some (.cells #[.int .u32 0, .int .i64 0] 28) := Zr
      have Zn : y0.drew.heap[g]? = some (.cells [.int .u32 (xr : Int), .int .i64 xn].toArray 28) := Zn
      have ee := lgDrew ee
      change wpList _ _ _ _ _ y0.drew
      generalize y0.drew = z51 at Zl Zr Zn ee ⊢
      clear c0 c1 n0 n1
      iterate 27 (first | with_reducible refine isStore (ty := 144) rfl ?_ | go_step)
      refine wpList_store_row rfl 144 _ _ rfl (h) ([.int .i64 L.n, .int .i64 L.nd, .int .u32 (xr : Int), .int .i64 xn, .int .u64 0, .slice none 0 0, .int .i64 0, .int .i64 0, .int .i64 0, .int .i64 0, .int .i64 0, .slice none 0 0, .slice none 0 0, .int .i64 0, .int .i64 0, .int .i64 0, .int .u64 0, .bool false, .int .u64 0]).toArray rfl rfl 144 _ Zl sizeLd (by rfl) (by simp [Value.oneCell']) ?_
      have N_ := setRow_heap z51 (h) _ ([.int .i64 L.n, .int .i64 L.nd, .int .u32 (xr : Int), .int .i64 xn, .int .u64 0, .slice none 0 0, .int .i64 0, .int .i64 0, .int .i64 0, .int .i64 0, .int .i64 0, .slice none 0 0, .slice none 0 0, .int .i64 0, .int .i64 0, .int .i64 0, .int .u64 0, .bool false, .int .u64 0]).toArray _ _ Zl
      have ee := lgRow (cs := ([.int .i64 L.n, .int .i64 L.nd, .int .u32 (xr : Int), .int .i64 xn, .int .u64 0, .slice none 0 0, .int .i64 0, .int .i64 0, .int .i64 0, .int .i64 0, .int .i64 0, .slice none 0 0, .slice none 0 0, .int .i64 0, .int .i64 0, .int .i64 0, .int .u64 0, .bool false, .int .u64 0]).toArray) (by omega) Zl ee
      have Zr := hpR Zr (g' := h) (by omega) ([.int .i64 L.n, .int .i64 L.nd, .int .u32 (xr : Int), .int .i64 xn, .int .u64 0, .slice none 0 0, .int .i64 0, .int .i64 0, .int .i64 0, .int .i64 0, .int .i64 0, .slice none 0 0, .slice none 0 0, .int .i64 0, .int .i64 0, .int .i64 0, .int .u64 0, .bool false, .int .u64 0]).toArray
      have Zn := hpR Zn (g' := h) (by omega) ([.int .i64 L.n, .int .i64 L.nd, .int .u32 (xr : Int), .int .i64 xn, .int .u64 0, .slice none 0 0, .int .i64 0, .int .i64 0, .int .i64 0, .int .i64 0, .int .i64 0, .slice none 0 0, .slice none 0 0, .int .i64 0, .int .i64 0, .int .i64 0, .int .u64 0, .bool false, .int .u64 0]).toArray
      clear Zl
      have Zl := N_
      clear N_
      generalize z51.setRow (h) ([.int .i64 L.n, .int .i64 L.nd, .int .u32 (xr : Int), .int .i64 xn, .int .u64 0, .slice none 0 0, .int .i64 0, .int .i64 0, .int .i64 0, .int .i64 0, .int .i64 0, .slice none 0 0, .slice none 0 0, .int .i64 0, .int .i64 0, .int .i64 0, .int .u64 0, .bool false, .int .u64 0]).toArray = z52 at Zl Zr Zn ee ⊢
      go_upto_region 7 with fail
      refine wp_region_lit ?_
      iterate 27 (first | with_reducible refine isLoad (ty := 28) rfl ?_ | go_step)
      refine wpList_load_mid rfl 28 _ rfl (g) 0 rfl ([.int .u32 (xr : Int), .int .i64 xn]) _ (rowAt Zn) Tryd.underlying28 rfl sizeBal ?_
      iterate 27 (first | with_reducible refine isStore (ty := 28) rfl ?_ | go_step)
      refine wpList_store_row rfl 28 _ _ rfl (w.heap.size + 1) ([.int .u32 (xr : Int), .int .i64 xn]).toArray rfl rfl 28 _ Zr sizeBal (by rfl) (by simp [Value.oneCell']) ?_
      have N_ := setRow_heap z52 (w.heap.size + 1) _ ([.int .u32 (xr : Int), .int .i64 xn]).toArray _ _ Zr
      have ee := lgRow (cs := ([.int .u32 (xr : Int), .int .i64 xn]).toArray) (by omega) Zr ee
      have Zl := hpR Zl (g' := w.heap.size + 1) (by omega) ([.int .u32 (xr : Int), .int .i64 xn]).toArray
      have Zn := hpR Zn (g' := w.heap.size + 1) (by omega) ([.int .u32 (xr : Int), .int .i64 xn]).toArray
      clear Zr
      have Zr := N_
      clear N_
      generalize z52.setRow (w.heap.size + 1) ([.int .u32 (xr : Int), .int .i64 xn]).toArray = z53 at Zl Zr Zn ee ⊢
      go_wp2_with fail
      refine bodyPost_ret (v := .tuple #[.agg [.int .u32 (xr : Int), .int .i64 xn].toArray, .int .i64 0]) (res_ct rfl rfl rfl Zr Tryd.underlying28 rfl sizeBal) rfl ⟨rfl, ?_, ee⟩
      rw [HS2.out]
      exact Zl
    · have hxe2 : (xe != 0) = true := by simp; exact hxe
      obtain ⟨h1, h2⟩ := HE.out hxe
      subst h1; subst h2
      have HS2 : Hid (L.start r n = L) := by show _ = _; rw [HS.out, decide_eq_false hxe]; rfl
      clear HS HE hxe
      go_upto_region 5 with fail
      refine wp_region_lit ?_
      clear hxe2
      have sz0 := ee.size
      iterate 27 (first | with_reducible refine isStore (ty := 28) rfl ?_ | go_step)
      refine wpList_store_row rfl 28 _ _ rfl (w.heap.size + 1) ([.int .u32 0, .int .i64 0]).toArray rfl rfl 28 _ Zr sizeBal (by rfl) (by simp [Value.oneCell']) ?_
      have N_ := setRow_heap y0 (w.heap.size + 1) _ ([.int .u32 0, .int .i64 0]).toArray _ _ Zr
      have ee := lgRow (cs := ([.int .u32 0, .int .i64 0]).toArray) (by omega) Zr ee
      have Zl := hpR Zl (g' := w.heap.size + 1) (by omega) ([.int .u32 0, .int .i64 0]).toArray
      have Zn := hpR Zn (g' := w.heap.size + 1) (by omega) ([.int .u32 0, .int .i64 0]).toArray
      clear Zr
      have Zr := N_
      clear N_
      generalize y0.setRow (w.heap.size + 1) ([.int .u32 0, .int .i64 0]).toArray = z51 at Zl Zr Zn ee ⊢
      go_wp2_with fail
      refine bodyPost_ret (v := .tuple #[.agg [.int .u32 0, .int .i64 0].toArray, .int .i64 xe]) (res_ct rfl rfl rfl Zr Tryd.underlying28 rfl sizeBal) rfl ⟨rfl, ?_, ee⟩
      rw [HS2.out]
      exact Zl
theorem nx_first (n : Int) : (Ld.new n 0).nx 0 0 = (1, 0, 0) := by rfl
set_option maxHeartbeats 1600000 in
theorem awake19 (w : World) : Calls Tryd.prog 33 #[] w fun e w' => e = .returned (.bool true) ∧ Below w.heap.size w w' := by
  go_enter Tryd.func33, Tryd.ntmps33
  go_wp2_with fail
  refine (lnew_ok 1 0 w rfl).mono ?_
  rintro e w1 ⟨rfl, hw1⟩
  have ee : Below w.heap.size w w1 := by rw [hw1]; exact (Below.refl _ _).alloc (Nat.le_refl _) _
  have Zl : LdAt w1 w.heap.size (Ld.new 1 0) := by rw [hw1]; exact hpN _ _ rfl
  clear hw1
  have H := Lib.hid (lstart w1 w.heap.size (Ld.new 1 0) 0 0 (by omega) (by decide) Zl)
  rw [nx_first] at H
  go_wp2_with fail
  refine H.out.mono ?_
  rintro e w2 ⟨rfl, _, t⟩
  have ee := ee.grown t ee.size (fun q hq => by injection hq with hq; omega)
  clear H t Zl
  go_wp2_with fail
  go_ret
  exact ⟨rfl, by repeat first | exact ee | refine Below.setCell ?_ (by have := ee.size; simp; try omega) _ | refine Below.alloc ?_ (by have := ee.size; simp; try omega) _⟩
namespace T
/-- what is done with a leader -/
structure LOp where
  kd : Int
  nd : Int
  sl : Int
  br : Nat
  bn : Int
  own : Bool
  a : Ac
  x : Cm
def LOp.cells (o : LOp) : List Value := [.int .i64 o.kd, .int .i64 o.nd, .int .i64 o.sl, .int .u32 (o.br : Int), .int .i64 o.bn, .bool o.own] ++ (o.a.cells ++ o.x.cells)
end T
theorem LOp.cx (o : LOp) : ∀ j v, o.x.cells[j]? = some v → o.cells[22 + j]? = some v := fun j v h => by
  unfold LOp.cells
  rw [List.getElem?_append_right (by simp; omega), List.getElem?_append_right (by simp [Ac.cells_len]; omega)]
  simp only [List.length_cons, List.length_nil, Ac.cells_len]
  rw [show 22 + j - (0 + 1 + 1 + 1 + 1 + 1 + 1) - 16 = j by omega]
  exact h
theorem LOp.ca (o : LOp) : ∀ j v, o.a.cells[j]? = some v → o.cells[6 + j]? = some v := fun j v h => by
  have hj := (List.getElem?_eq_some_iff.1 h).1
  rw [Ac.cells_len] at hj
  unfold LOp.cells
  rw [List.getElem?_append_right (by simp), List.getElem?_append_left (by simp [Ac.cells_len]; omega)]
  simp only [List.length_cons, List.length_nil]
  rw [show 6 + j - (0 + 1 + 1 + 1 + 1 + 1 + 1) = j by omega]
  exact h
theorem LOp.cac (o : LOp) : ∀ j v, o.a.c.cells[j]? = some v → o.cells[12 + j]? = some v := fun j v h => by
  have := LOp.ca o (6 + j) v (Ac.part o.a j v h)
  rwa [show 6 + (6 + j) = 12 + j by omega] at this
theorem LOp.cb (o : LOp) : ∀ j v, ([.int .u32 (o.br : Int), .int .i64 o.bn] : List Value)[j]? = some v → o.cells[3 + j]? = some v := fun j v h => by
  match j, h with
  | 0, h => exact h
  | 1, h => exact h
  | j + 2, h => simp at h
theorem LOp.cells_len (o : LOp) : o.cells.length = 32 := rfl
theorem sizeLOp : (Tryd.prog.info? 99).map (·.size) = some 32 := by kernel_rfl
section
open Go.ChangeShapes Go.WideShapes Go.ChangeAt
variable {W : World} {cs : List Value} {v : Value}
theorem Cel.lop (h : Cel W 99 cs) : ∃ o : LOp, cs = o.cells ∧ CmOk W W.heap.size o.x ∧ CmOk W W.heap.size o.a.c ∧ o.br < 4294967296 := by
  have hl := h.len Tryd.underlying99
  rw [show Tryd.prog.cellsOf 99 = 32 by kernel_rfl] at hl
  match cs, hl with
  | [v0, v1, v2, v3, v4, v5, b0, b1, b2, b3, b4, b5, b6, b7, b8, b9, b10, b11, b12, b13, b14, b15, c0, c1, c2, c3, c4, c5, c6, c7, c8, c9], _ =>
    obtain ⟨kd, e0, _⟩ := (h.field1 Tryd.underlying99 0 0 3 _ rfl rfl rfl (by kernel_rfl) v0 rfl).i64 Tryd.underlying3
    obtain ⟨nd, e1, _⟩ := (h.field1 Tryd.underlying99 1 1 3 _ rfl rfl rfl (by kernel_rfl) v1 rfl).i64 Tryd.underlying3
    obtain ⟨sl, e2, _⟩ := (h.field1 Tryd.underlying99 2 2 3 _ rfl rfl rfl (by kernel_rfl) v2 rfl).i64 Tryd.underlying3
    have hp := h.field Tryd.underlying99 3 _ rfl
    rw [show Tryd.prog.cellsOf _ = 2 by kernel_rfl] at hp
    obtain ⟨own, e4⟩ := (h.field1 Tryd.underlying99 4 5 4 _ rfl rfl rfl (by kernel_rfl) v5 rfl).bool Tryd.underlying4
    have ha := h.field Tryd.underlying99 5 _ rfl
    rw [show Tryd.prog.cellsOf _ = 16 by kernel_rfl] at ha
    have hx := h.field Tryd.underlying99 6 _ rfl
    rw [show Tryd.prog.cellsOf _ = 10 by kernel_rfl] at hx
    obtain ⟨br, bn, e3, hbr, _⟩ := Cel.bal hp
    obtain ⟨a, e5, ra⟩ := Cel.ac ha
    obtain ⟨x, e6, rx⟩ := Cel.cm hx
    refine ⟨⟨kd, nd, sl, br, bn, own, a, x⟩, ?_, rx, ra, hbr⟩
    cases e0; cases e1; cases e2; cases e4
    have e3' : [v3, v4] = [.int .u32 (br : Int), .int .i64 bn] := e3
    have e5' : [b0, b1, b2, b3, b4, b5, b6, b7, b8, b9, b10, b11, b12, b13, b14, b15] = a.cells := e5
    have e6' : [c0, c1, c2, c3, c4, c5, c6, c7, c8, c9] = x.cells := e6
    show _ = [_, _, _, _, _, _] ++ (a.cells ++ x.cells)
    rw [← e5', ← e6']
    injection e3' with g1 g2
    injection g2 with g2 _
    rw [g1, g2]; rfl
theorem Arg.lop (h : Arg W 99 v) : ∃ o : LOp, v = .agg o.cells.toArray ∧ CmOk W W.heap.size o.x ∧ CmOk W W.heap.size o.a.c ∧ o.br < 4294967296 := by
  obtain ⟨⟨cs⟩, rfl, hc⟩ := h.struct Tryd.underlying99
  obtain ⟨x, hx, r⟩ := Cel.lop hc
  exact ⟨x, by rw [show cs = x.cells from hx], r⟩
end
theorem LOp.one (o : LOp) : o.cells.toArray.all (·.oneCell') = true := by simp [LOp.cells, Ac.cells, Cm.cells, Value.oneCell']
theorem cr_few (x : Cm) (w : World) (B0 : Nat) (hB : B0 ≤ w.heap.size) (ok : CmOk w B0 x) : Calls Tryd.prog 62 #[.agg x.cells.toArray] w fun e w' => (∃ r : Bool, e = .returned (.bool r)) ∧ Below w.heap.size w w' := rfew_any x.k x.s x.q x.rs x.ws x.A1 x.c1 x.A2 x.c2 x.i x.j x.g x.st x.y w B0 hB ok
set_option maxHeartbeats 3200000 in
theorem few19 (A : Option Addr) (c : Nat) (l : List LOp) (w : World) (B0 : Nat) (hB : B0 ≤ w.heap.size) (hc : l.length ≤ c) (hm : c ≤ maxLen) (hR : RowsAt w B0 A 32 (l.map LOp.cells)) (hL : ∀ o ∈ l, CmOk w B0 o.x ∧ CmOk w B0 o.a.c) :
    Calls Tryd.prog 40 #[.slice A l.length c] w fun e w' => (∃ r : Bool, e = .returned (.bool r)) ∧ Below w.heap.size w w' := by
  obtain ⟨n, hn⟩ : ∃ n, n = l.length := ⟨_, rfl⟩
  have HN := Lib.hid hn
  have HR := Lib.hid hR
  have HL := Lib.hid hL
  rw [← hn] at hc ⊢
  clear hn hR hL
  unfold maxLen at hm
  have ee : Below w.heap.size w w := Below.refl _ _
  go_enter Tryd.func40, Tryd.ntmps40
  go_wp2_with fail
  go_loopw [3] (fun i wr => ∃ k : Nat, k ≤ n ∧ i = .int .i64 (k : Int) ∧ Hid (Below w.heap.size w wr)) (fun i _ => n - (intOf i).toNat)
  case atStart => exact ⟨0, Nat.zero_le _, rfl, ee⟩
  case round =>
    clear ee
    obtain ⟨k, hk, rfl, ee⟩ := hrel
    have ee := ee.out
    by_cases hlt : k < n
    · by_cases h100 : k < 100
      · have hkl : k < l.length := by rw [← HN.out]; exact hlt
        obtain ⟨bo, off, rfl, hbo, hr⟩ := rowsGet HR.out hkl
        have HX := Lib.hid (HL.out _ (List.getElem_mem hkl))
        generalize l[k] = o at hr HX
        have hr2 := rangePart hr (LOp.cx o)
        have hr3 := rangePart hr (LOp.cac o)
        go_upto_region 4 with fail
        refine wp_region_lit ?_
        iterate 27 (first | with_reducible refine isLoad (ty := 37) rfl ?_ | go_step)
        refine wpList_load_mid rfl 37 _ rfl (bo) (off + k * 32 + 22) rfl (o.x.cells) _ (rangeB hr2 ee (Nat.lt_of_lt_of_le hbo hB)) Tryd.underlying37 rfl sizeCm ?_
        go_wp2_with fail
        refine (cr_few o.x wr B0 (Nat.le_trans hB ee.size) (HX.out.1.below ee hB)).mono ?_
        rintro e z1 ⟨⟨r, rfl⟩, t⟩
        have ee := ee.trans (t.mono ee.size)
        clear t
        cases r with
        | false =>
          dsimp only
          rename_i hK
          refine hK _ _ ?_
          clear hK
          go_wp2_with fail
          go_ret
          exact ⟨⟨_, rfl⟩, ee⟩
        | true =>
          dsimp only
          rename_i hK
          refine hK _ _ ?_
          clear hK
          iterate 36 (first | with_reducible refine isLoad (ty := 37) rfl ?_ | go_step)
          refine wpList_load_g (by rfl) 37 _ rfl (bo) (off + k * 32 + 12) rfl (o.a.c.cells) _ (rangeB hr3 ee (Nat.lt_of_lt_of_le hbo hB)) Tryd.underlying37 rfl sizeCm ?_
          go_wp2_with fail
          refine (cr_few o.a.c z1 B0 (Nat.le_trans hB ee.size) (HX.out.2.below ee hB)).mono ?_
          rintro e z2 ⟨⟨r, rfl⟩, t⟩
          have ee := ee.trans (t.mono ee.size)
          clear t
          cases r with
          | false =>
            dsimp only
            rename_i hK
            refine hK _ _ ?_
            clear hK
            go_wp2_with fail
            go_ret
            exact ⟨⟨_, rfl⟩, ee⟩
          | true =>
            dsimp only
            rename_i hK
            refine hK _ _ ?_
            clear hK
            go_wp2_with fail
            go_roundw
            case rel => exact ⟨k + 1, by omega, by go_num, ee⟩
            case measure => simp [intOf]; omega
      · go_wp2_with fail
        go_ret
        exact ⟨⟨_, rfl⟩, ee⟩
    · go_wp2_with fail
      go_ret
      exact ⟨⟨_, rfl⟩, ee⟩
end Go.Proofs.YtbahooohkigcnaaDoor
