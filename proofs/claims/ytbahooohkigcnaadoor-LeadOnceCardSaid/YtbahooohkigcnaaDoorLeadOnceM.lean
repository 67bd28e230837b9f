/- The walk of LeadOnce. Conditions: what lies, lies below; the tables lie. (Printed by gen_lead.py.) -/
import Derived.Test.YtbahooohkigcnaaDoorAccN
import Derived.Test.YtbahooohkigcnaaDoorCmArg
import Derived.Test.YtbahooohkigcnaaDoorLeadS
import Derived.Test.YtbahooohkigcnaaDoorAccG
import Derived.Test.YtbahooohkigcnaaDoorTxnG
import Derived.StillTailTactics
import Derived.Great.BuildSlice
import Derived.Test.YtbahooohkigcnaaDoorBytes
namespace Go.Proofs.YtbahooohkigcnaaDoor
set_option maxRecDepth 20000
open Go.RowKit Go.ChangeShapes Go.WideShapes Go.ChangeAt T
set_option linter.unusedSimpArgs false
set_option linter.unusedVariables false
section
variable {W : World} {cs : List Value} {v : Value}
theorem Cel.ac (h : Cel W 39 cs) : ∃ a : Ac, cs = a.cells ∧ CmOk W W.heap.size a.c := by
  have hl := h.len Tryd.underlying39
  rw [show Tryd.prog.cellsOf 39 = 16 by kernel_rfl] at hl
  match cs, hl with
  | [v0, v1, v2, v3, v4, v5, v6, v7, v8, v9, v10, v11, v12, v13, v14, v15], _ =>
    have hp := h.field Tryd.underlying39 0 _ rfl
    rw [show Tryd.prog.cellsOf _ = 2 by kernel_rfl] at hp
    obtain ⟨pr, pn, e, _⟩ := Cel.bal hp
    simp at e
    obtain ⟨rfl, rfl⟩ := e
    obtain ⟨sl, hsl, _⟩ := (h.field1 Tryd.underlying39 1 2 3 _ rfl rfl rfl (by kernel_rfl) v2 rfl).i64 Tryd.underlying3
    obtain ⟨ha, hha⟩ := (h.field1 Tryd.underlying39 2 3 4 _ rfl rfl rfl (by kernel_rfl) v3 rfl).bool Tryd.underlying4
    have hv := h.field Tryd.underlying39 3 _ rfl
    rw [show Tryd.prog.cellsOf _ = 2 by kernel_rfl] at hv
    obtain ⟨vr, vn, e, _⟩ := Cel.bal hv
    simp at e
    obtain ⟨rfl, rfl⟩ := e
    have hc := h.field Tryd.underlying39 4 _ rfl
    rw [show Tryd.prog.cellsOf _ = 10 by kernel_rfl] at hc
    obtain ⟨x, e, r⟩ := Cel.cm hc
    cases hsl; cases hha
    refine ⟨⟨pr, pn, sl, ha, vr, vn, x⟩, ?_, r⟩
    have e' : [v6, v7, v8, v9, v10, v11, v12, v13, v14, v15] = x.cells := e
    show _ = [_, _, _, _, _, _] ++ x.cells
    rw [← e']; rfl
theorem Arg.ac (h : Arg W 39 v) : ∃ a : Ac, v = .agg a.cells.toArray ∧ CmOk W W.heap.size a.c := by
  obtain ⟨⟨cs⟩, rfl, hc⟩ := h.struct Tryd.underlying39
  obtain ⟨x, hx, r⟩ := Cel.ac hc
  exact ⟨x, by rw [show cs = x.cells from hx], r⟩
theorem Cel.aop (h : Cel W 53 cs) : ∃ o : AOp, cs = o.cells ∧ CmOk W W.heap.size o.x := by
  have hl := h.len Tryd.underlying53
  rw [show Tryd.prog.cellsOf 53 = 14 by kernel_rfl] at hl
  match cs, hl with
  | [v0, v1, v2, v3, v4, v5, v6, v7, v8, v9, v10, v11, v12, v13], _ =>
    obtain ⟨k, hk, _⟩ := (h.field1 Tryd.underlying53 0 0 3 _ rfl rfl rfl (by kernel_rfl) v0 rfl).i64 Tryd.underlying3
    have hp := h.field Tryd.underlying53 1 _ rfl
    rw [show Tryd.prog.cellsOf _ = 2 by kernel_rfl] at hp
    obtain ⟨br, bn, e, _⟩ := Cel.bal hp
    simp at e
    obtain ⟨rfl, rfl⟩ := e
    obtain ⟨sn, hsn, _⟩ := (h.field1 Tryd.underlying53 2 3 3 _ rfl rfl rfl (by kernel_rfl) v3 rfl).i64 Tryd.underlying3
    have hc := h.field Tryd.underlying53 3 _ rfl
    rw [show Tryd.prog.cellsOf _ = 10 by kernel_rfl] at hc
    obtain ⟨x, e, r⟩ := Cel.cm hc
    cases hk; cases hsn
    refine ⟨⟨k, br, bn, sn, x⟩, ?_, r⟩
    have e' : [v4, v5, v6, v7, v8, v9, v10, v11, v12, v13] = x.cells := e
    show _ = [_, _, _, _] ++ x.cells
    rw [← e']; rfl
theorem Arg.aop (h : Arg W 53 v) : ∃ o : AOp, v = .agg o.cells.toArray ∧ CmOk W W.heap.size o.x := by
  obtain ⟨⟨cs⟩, rfl, hc⟩ := h.struct Tryd.underlying53
  obtain ⟨x, hx, r⟩ := Cel.aop hc
  exact ⟨x, by rw [show cs = x.cells from hx], r⟩
instance : Inhabited Ac := ⟨Ac.zero⟩
instance : Inhabited AOp := ⟨⟨0, 0, 0, 0, Cm.zero⟩⟩
/-- a script -/
theorem Arg.aops (h : Arg W 51 v) : ∃ (A : Option Addr) (c : Nat) (ls : List AOp), v = .slice A ls.length c ∧ ls.length ≤ c ∧ c ≤ maxLen ∧ RowsAt W W.heap.size A 14 (ls.map AOp.cells) ∧ ∀ o ∈ ls, CmOk W W.heap.size o.x := by
  obtain ⟨A, n, c, rfl, hc⟩ := h.slice Tryd.underlying51
  obtain ⟨ls, r1, r2, r3, r4, r5, r6⟩ := hc.rows AOp.cells (fun o => CmOk W W.heap.size o.x) Tryd.underlying51 (sz := 14) (by kernel_rfl) (by omega) (fun cs hc => Cel.aop hc)
  subst r1
  exact ⟨A, c, ls, rfl, r2, r3, r5, r6⟩
/-- acceptors -/
theorem Arg.acs (h : Arg W 22 v) : ∃ (A : Option Addr) (c : Nat) (ls : List Ac), v = .slice A ls.length c ∧ ls.length ≤ c ∧ c ≤ maxLen ∧ RowsAt W W.heap.size A 16 (ls.map Ac.cells) ∧ ∀ a ∈ ls, CmOk W W.heap.size a.c := by
  obtain ⟨A, n, c, rfl, hc⟩ := h.slice Tryd.underlying22
  obtain ⟨ls, r1, r2, r3, r4, r5, r6⟩ := hc.rows Ac.cells (fun a => CmOk W W.heap.size a.c) Tryd.underlying22 (sz := 16) (by kernel_rfl) (by omega) (fun cs hc => Cel.ac hc)
  subst r1
  exact ⟨A, c, ls, rfl, r2, r3, r5, r6⟩
end
end Go.Proofs.YtbahooohkigcnaaDoor

namespace Go.Proofs.YtbahooohkigcnaaDoor
set_option maxRecDepth 20001
open Go.RowKit T
set_option linter.unusedSimpArgs false
set_option linter.unusedVariables false

section
variable {w z a b c : World} {h k : Nat} {old cs : Array Value} {t : TypeId}
theorem lgTrans {r : Option Nat} (p : a.grownBy b r) (q : b.grownBy c r) : a.grownBy c r :=
  ⟨q.os.trans p.os, q.tape.trans p.tape, q.output.trans p.output, Nat.le_trans p.size q.size, fun i hi hne => (q.block i (Nat.lt_of_lt_of_le hi p.size) hne).trans (p.block i hi hne)⟩
theorem lgRefl (w : World) (h : Nat) : w.grownBy w (some h) := ⟨rfl, rfl, rfl, Nat.le_refl _, fun _ _ _ => rfl⟩
theorem lgB2 {B : Nat} (p : Below B a b) (hB : a.heap.size ≤ B) : a.grownBy b (some h) := ⟨p.os, p.tape, p.output, p.size, fun i hi _ => p.block i (by omega)⟩
theorem lgBelow (p : w.grownBy z (some h)) (q : Below z.heap.size z c) : w.grownBy c (some h) := lgTrans p ⟨q.os, q.tape, q.output, q.size, fun i hi _ => q.block i hi⟩
theorem lgAlloc (p : w.grownBy z (some h)) (o : Obj) : w.grownBy (z.alloc o) (some h) := lgTrans p (World.grownBy_alloc z o (some h))
theorem lgDrew (p : w.grownBy z (some h)) : w.grownBy z.drew (some h) := ⟨p.os, p.tape, p.output, p.size, p.block⟩
theorem lgDrewN (p : w.grownBy z (some h)) (n : Nat) : w.grownBy (z.drewN n) (some h) := ⟨p.os, p.tape, p.output, p.size, p.block⟩
theorem lgRow (hk : k = h ∨ w.heap.size ≤ k) (hz : z.heap[k]? = some (.cells old t (0, 0))) (p : w.grownBy z (some h)) : w.grownBy (z.setRow k cs) (some h) :=
  ⟨p.os, p.tape, p.output, by rw [setRow_size]; exact p.size, fun i hi hne => (setRow_other z k i cs (fun e => by
    rcases hk with hk | hk
    · exact hne (by rw [e, hk])
    · omega)).trans (p.block i hi hne)⟩
theorem lgCells (hk : k = h ∨ w.heap.size ≤ k) : ∀ (vs : List Value) (i : Nat) (z : World), w.grownBy z (some h) → w.grownBy (z.setCells k i vs) (some h)
  | [], _, _, p => p
  | v :: r, i, z, p => lgCells hk r (i + 1) (z.setCell ⟨k, i, none⟩ v) ⟨p.os, p.tape, p.output, (show w.heap.size ≤ (z.setCell ⟨k, i, none⟩ v).heap.size by simpa using p.size), fun j hj hne => (Below.heap_setCell z ⟨k, i, none⟩ v j (fun e => by
    rcases hk with hk | hk
    · exact hne (by rw [e]; show some k = some h; rw [hk])
    · have e2 : j = k := e
      omega)).trans (p.block j hj hne)⟩
theorem rangeCell0 {b : Nat} {cs : List Value} (h : w.rangeAt b 0 cs) (j : Nat) {v : Value} (hv : cs[j]? = some v) : w.cell? ⟨b, j, none⟩ = some v := by
  have := h j v hv
  rwa [Nat.zero_add] at this
/-- two ballots side by side -/
theorem balsAt2 {b r1 r2 : Nat} {n1 n2 : Int} (hz : z.heap[b]? = some (.cells [.int .u32 (r1 : Int), .int .i64 n1, .int .u32 (r2 : Int), .int .i64 n2].toArray t (0, 0))) : BalsAt z (b + 1) (some ⟨b, 0, none⟩) [(r1, n1), (r2, n2)] := fun i f hf => by
  match i, hf with
  | 0, hf => cases hf; exact ⟨b, 0, rfl, by omega, rowCell hz 0 rfl, rowCell hz 1 rfl⟩
  | 1, hf => cases hf; exact ⟨b, 0, rfl, by omega, rowCell hz 2 rfl, rowCell hz 3 rfl⟩
  | i + 2, hf => simp at hf
end
theorem B.next_err (r : Nat) (n k : Int) (h : (B.next r n k).2.2 ≠ 0) : (B.next r n k).1 = 0 ∧ (B.next r n k).2.1 = 0 := by
  unfold B.next at h ⊢
  split
  · exact ⟨rfl, rfl⟩
  · split
    · exact ⟨rfl, rfl⟩
    · rename_i h1 h2
      rw [if_neg h1, if_neg h2] at h
      exact absurd rfl h
theorem B.next_lt {r : Nat} {n k : Int} (hr : r < 4294967296) : (B.next r n k).1 < 4294967296 := by
  unfold B.next
  split
  · simp
  · split
    · simp
    · simp; omega
theorem B.most2_lt {r1 r2 : Nat} {n1 n2 : Int} (h1 : r1 < 4294967296) (h2 : r2 < 4294967296) : (B.most [(r1, n1), (r2, n2)]).1 < 4294967296 := by
  have := B.most_mem [(r1, n1), (r2, n2)] (by simp)
  simp only [List.mem_cons, List.not_mem_nil, or_false] at this
  rcases this with h | h <;> rw [h] <;> assumption
namespace T
def Ld.nx (L : Ld) (r : Nat) (n : Int) : Nat × Int × Int := B.next (B.most [(r, n), (L.br, L.bn)]).1 (B.most [(r, n), (L.br, L.bn)]).2 L.nd
def Ld.start (L : Ld) (r : Nat) (n : Int) : Ld := bif decide ((L.nx r n).2.2 = 0) then ⟨L.n, L.nd, (L.nx r n).1, (L.nx r n).2.1, 0, [], none, 0, 0, 0, Cm.zero, 0⟩ else L
end T
theorem info_bal9 : (Tryd.prog.info? 28).map (fun i => (i.zero, i.size, i.bytes)) = some (some (.agg #[.int .u32 0, .int .i64 0]), 2, 16) := by kernel_rfl
theorem fillB2 (r1 r2 : Nat) (n1 n2 : Int) (cells : Array Value) (hn : cells.size = 4) : Instr.fill (fun i => some (i * 2, 2)) cells [(0, .agg [.int .u32 (r1 : Int), .int .i64 n1].toArray), (1, .agg [.int .u32 (r2 : Int), .int .i64 n2].toArray)] = some [.int .u32 (r1 : Int), .int .i64 n1, .int .u32 (r2 : Int), .int .i64 n2].toArray := by
  have := Great.fill_whole (s := 2) (by omega) [Value.agg [.int .u32 (r1 : Int), .int .i64 n1].toArray, Value.agg [.int .u32 (r2 : Int), .int .i64 n2].toArray] cells (by intro v hv; simp at hv; rcases hv with rfl | rfl <;> rfl) (by simp [hn])
  simpa [Value.cells] using this
set_option maxHeartbeats 3200000 in
theorem lstart (w : World) (h : Nat) (L : Ld) (r : Nat) (n : Int) (hr : r < 4294967296) (hb : L.br < 4294967296) (hL : LdAt w h L) :
    Calls Tryd.prog 35 #[.pointer (some ⟨h, 0, none⟩), bal r n] w fun e w' => e = .returned (.tuple #[bal (L.nx r n).1 (L.nx r n).2.1, .int .i64 (L.nx r n).2.2]) ∧ LdAt w' h (L.start r n) ∧ w.grownBy w' (some h) := by
  obtain ⟨i1, hi1, hz10, hz11, hz12⟩ := info_parts info_bal9
  have HM := Lib.hid (fun (z : World) (b : Nat) (hb : b + 1 ≤ z.heap.size) (hz : z.heap[b]? = some (.cells [.int .u32 (r : Int), .int .i64 n, .int .u32 (L.br : Int), .int .i64 L.bn].toArray 28 (0, 0))) => most_any (some ⟨b, 0, none⟩) 2 [(r, n), (L.br, L.bn)] z (b + 1) (by simp) (by simp) (balsAt2 hz) hb)
  have HX := Lib.hid (fun z => next_any (B.most [(r, n), (L.br, L.bn)]).1 (B.most [(r, n), (L.br, L.bn)]).2 L.nd z (B.most2_lt hr hb))
  have HE := Lib.hid (B.next_err (B.most [(r, n), (L.br, L.bn)]).1 (B.most [(r, n), (L.br, L.bn)]).2 L.nd)
  have HS : Hid (L.start r n = bif decide ((L.nx r n).2.2 = 0) then ⟨L.n, L.nd, (L.nx r n).1, (L.nx r n).2.1, 0, [], none, 0, 0, 0, Cm.zero, 0⟩ else L) := rfl
  obtain ⟨X, hX⟩ : ∃ X, X = L.nx r n := ⟨_, rfl⟩
  rw [← hX] at HS ⊢
  rw [show B.next (B.most [(r, n), (L.br, L.bn)]).1 (B.most [(r, n), (L.br, L.bn)]).2 L.nd = X from hX.symm] at HX HE
  clear hX hr hb
  generalize B.most [(r, n), (L.br, L.bn)] = mm at HM HX
  obtain ⟨mr, mn⟩ := mm
  obtain ⟨xr, xn, xe⟩ := X
  simp only at HS HE HX HM
  have hlt : h < w.heap.size := (Array.getElem?_eq_some_iff.1 hL).1
  obtain ⟨w0, hw0⟩ : ∃ w0, w0 = (w.alloc (.cells [.int .u32 (r : Int), .int .i64 n].toArray 28)).alloc (.cells #[.int .u32 0, .int .i64 0] 28) := ⟨_, rfl⟩
  have ee : w.grownBy w0 (some h) := by rw [hw0]; exact lgAlloc (lgAlloc (lgRefl _ _) _) _
  have Zl : w0.heap[h]? = some (.cells L.cells.toArray 144) := by rw [hw0]; exact hpA (hpA hL _) _
  have Zs : w0.heap[w.heap.size]? = some (.cells [.int .u32 (r : Int), .int .i64 n].toArray 28) := by rw [hw0]; exact hpA (hpN _ _ rfl) _
  have Zr : w0.heap[w.heap.size + 1]? = some (.cells #[.int .u32 0, .int .i64 0] 28) := by rw [hw0]; exact hpN _ _ (by simp)
  go_enter Tryd.func35, Tryd.ntmps35
  go_upto_region 3 with fail
  change Code.wp _ _ _ _ ((w.alloc (.cells [.int .u32 (r : Int), .int .i64 n].toArray 28)).alloc (.cells #[.int .u32 0, .int .i64 0] 28))
  rw [← hw0]
  clear hw0 hL
  go_cut [6, 7] (fun u6 u7 wx => ∃ g : Nat, u6 = .pointer (some ⟨g, 0, none⟩) ∧ u7 = .int .i64 xe ∧ Hid (w.heap.size + 1 < g) ∧ Hid (wx.heap[h]? = some (.cells L.cells.toArray 144)) ∧ Hid (wx.heap[w.heap.size + 1]? = some (.cells #[.int .u32 0, .int .i64 0] 28)) ∧ Hid (wx.heap[g]? = some (.cells [.int .u32 (xr : Int), .int .i64 xn].toArray 28)) ∧ Hid (w.grownBy wx (some h)))
  case first =>
    have l0 := (Array.getElem?_eq_some_iff.1 Zr).1
    have Zl : w0.drew.heap[h]? = some (.cells L.cells.toArray 144) := Zl
    have Zs : w0.drew.heap[w.heap.size]? = some (.cells [.int .u32 (r : Int), .int .i64 n].toArray 28) := Zs
    have Zr : w0.drew.heap[w.heap.size + 1]? = some (.cells #[.int .u32 0, .int .i64 0] 28) := Zr
    have ee := lgDrew ee
    refine wp_region_held_drew (S := fun z' => z'.rangeAt w.heap.size 0 [.int .u32 (r : Int), .int .i64 n] ∧ z'.rangeAt h 0 L.cells ∧ z'.rangeAt h 2 [.int .u32 (L.br : Int), .int .i64 L.bn]) (by kernel_rfl) ⟨rowAt Zs, rowAt Zl, rowMid Zl 2 (Ld.ballot L)⟩ (fun hH => ?_)
    clear hH
    generalize w0.drew = z1 at Zl Zs Zr  ee ⊢
    refine wpAnyH_take (i := 0) (v := .agg ([.int .u32 (r : Int), .int .i64 n]).toArray) rfl (by kernel_rfl) (by kernel_rfl) (by kernel_rfl) (fun _ _ _ h => h) (yieldsIf_load_mid (by rfl) 28 _ rfl (w.heap.size) 0 rfl ([.int .u32 (r : Int), .int .i64 n]) _ (fun _ h => h.1) Tryd.underlying28 rfl sizeBal) ⟨rowAt Zs, rowAt Zl, rowMid Zl 2 (Ld.ballot L)⟩ ?_
    try simp only [Act.put, List.getElem_toArray, List.getElem_cons_zero, List.getElem_cons_succ, List.setIfInBounds_toArray, List.set_cons_zero, List.set_cons_succ]
    refine wpAnyH_take (i := 1) (v := .pointer (some ⟨h, 0, none⟩)) rfl (by kernel_rfl) (by kernel_rfl) (by kernel_rfl) (fun _ _ _ h => h) (Or.inl ⟨by rfl, fun w_ hS_ => by (first | (go_simp; done) | (go_simp; rfl))⟩) ⟨rowAt Zs, rowAt Zl, rowMid Zl 2 (Ld.ballot L)⟩ ?_
    try simp only [Act.put, List.getElem_toArray, List.getElem_cons_zero, List.getElem_cons_succ, List.setIfInBounds_toArray, List.set_cons_zero, List.set_cons_succ]
    refine wpAnyH_take (i := 2) (v := .pointer (some ⟨h, 0, none⟩)) rfl (by kernel_rfl) (by kernel_rfl) (by kernel_rfl) (fun _ _ _ h => h) (Or.inl ⟨by rfl, fun w_ hS_ => by (first | (go_simp; done) | (go_simp; rfl))⟩) ⟨rowAt Zs, rowAt Zl, rowMid Zl 2 (Ld.ballot L)⟩ ?_
    try simp only [Act.put, List.getElem_toArray, List.getElem_cons_zero, List.getElem_cons_succ, List.setIfInBounds_toArray, List.set_cons_zero, List.set_cons_succ]
    refine wpAnyH_take (i := 3) (v := .pointer (some ⟨h, 2, none⟩)) rfl (by kernel_rfl) (by kernel_rfl) (by kernel_rfl) (fun _ _ _ h => h) (Or.inl ⟨by rfl, fun w_ hS_ => by (first | (go_simp; done) | (go_simp; rfl))⟩) ⟨rowAt Zs, rowAt Zl, rowMid Zl 2 (Ld.ballot L)⟩ ?_
    try simp only [Act.put, List.getElem_toArray, List.getElem_cons_zero, List.getElem_cons_succ, List.setIfInBounds_toArray, List.set_cons_zero, List.set_cons_succ]
    refine wpAnyH_take (i := 4) (v := .agg ([.int .u32 (L.br : Int), .int .i64 L.bn]).toArray) rfl (by kernel_rfl) (by kernel_rfl) (by kernel_rfl) (fun _ _ _ h => h) (yieldsIf_load_mid (by rfl) 28 _ rfl (h) (2) rfl ([.int .u32 (L.br : Int), .int .i64 L.bn]) _ (fun _ h => h.2.2) Tryd.underlying28 rfl sizeBal) ⟨rowAt Zs, rowAt Zl, rowMid Zl 2 (Ld.ballot L)⟩ ?_
    try simp only [Act.put, List.getElem_toArray, List.getElem_cons_zero, List.getElem_cons_succ, List.setIfInBounds_toArray, List.set_cons_zero, List.set_cons_succ]
    refine wpAnyH_take (i := 7) (v := .pointer (some ⟨h, 0, none⟩)) rfl (by kernel_rfl) (by kernel_rfl) (by kernel_rfl) (fun _ _ _ h => h) (Or.inl ⟨by rfl, fun w_ hS_ => by (first | (go_simp; done) | (go_simp; rfl))⟩) ⟨rowAt Zs, rowAt Zl, rowMid Zl 2 (Ld.ballot L)⟩ ?_
    try simp only [Act.put, List.getElem_toArray, List.getElem_cons_zero, List.getElem_cons_succ, List.setIfInBounds_toArray, List.set_cons_zero, List.set_cons_succ]
    refine wpAnyH_take (i := 8) (v := .pointer (some ⟨h, 0, none⟩)) rfl (by kernel_rfl) (by kernel_rfl) (by kernel_rfl) (fun _ _ _ h => h) (Or.inl ⟨by rfl, fun w_ hS_ => by (first | (go_simp; done) | (go_simp; rfl))⟩) ⟨rowAt Zs, rowAt Zl, rowMid Zl 2 (Ld.ballot L)⟩ ?_
    try simp only [Act.put, List.getElem_toArray, List.getElem_cons_zero, List.getElem_cons_succ, List.setIfInBounds_toArray, List.set_cons_zero, List.set_cons_succ]
    refine wpAnyH_take (i := 9) (v := .pointer (some ⟨h, 1, none⟩)) rfl (by kernel_rfl) (by kernel_rfl) (by kernel_rfl) (fun _ _ _ h => h) (Or.inl ⟨by rfl, fun w_ hS_ => by (first | (go_simp; done) | (go_simp; rfl))⟩) ⟨rowAt Zs, rowAt Zl, rowMid Zl 2 (Ld.ballot L)⟩ ?_
    try simp only [Act.put, List.getElem_toArray, List.getElem_cons_zero, List.getElem_cons_succ, List.setIfInBounds_toArray, List.set_cons_zero, List.set_cons_succ]
    refine wpAnyH_take (i := 10) (v := .int .i64 L.nd) rfl (by kernel_rfl) (by kernel_rfl) (by kernel_rfl) (fun _ _ _ h => h) (Or.inl ⟨by rfl, fun w_ hS_ => by (have c_ := rangeCell0 hS_.2.1 1 rfl; go_simp)⟩) ⟨rowAt Zs, rowAt Zl, rowMid Zl 2 (Ld.ballot L)⟩ ?_
    try simp only [Act.put, List.getElem_toArray, List.getElem_cons_zero, List.getElem_cons_succ, List.setIfInBounds_toArray, List.set_cons_zero, List.set_cons_succ]
    refine wpAnyH_ready (rs := [5, 15]) (by kernel_rfl) (by simp) ?_
    refine AllReadyH.cons rfl (fun K hK => ?_) (AllReadyH.cons rfl (fun K hK => ?_) AllReadyH.nil)
    · rw [if_pos (by rfl)]
      refine wp_buildSlice 183 28 2 #[(0, .tmp 12), (1, .tmp 16)] rfl [.int .u32 (r : Int), .int .i64 n, .int .u32 (L.br : Int), .int .i64 L.bn].toArray i1 (.agg #[.int .u32 0, .int .i64 0]) Tryd.underlying183 hi1 hz10 (by rw [hz11]; decide) (by rw [hz11]; decide) (by rw [hz11]; simp only [List.map_toArray, List.map_cons, List.map_nil]; exact fillB2 _ _ _ _ _ (by simp)) ?_
      have lZl := (Array.getElem?_eq_some_iff.1 Zl).1
      have lZs := (Array.getElem?_eq_some_iff.1 Zs).1
      have lZr := (Array.getElem?_eq_some_iff.1 Zr).1
      have Zl := hpA Zl (.cells [.int .u32 (r : Int), .int .i64 n, .int .u32 (L.br : Int), .int .i64 L.bn].toArray 28)
      have Zs := hpA Zs (.cells [.int .u32 (r : Int), .int .i64 n, .int .u32 (L.br : Int), .int .i64 L.bn].toArray 28)
      have Zr := hpA Zr (.cells [.int .u32 (r : Int), .int .i64 n, .int .u32 (L.br : Int), .int .i64 L.bn].toArray 28)
      have sz1 := ee.size
      have ee := lgAlloc ee (.cells [.int .u32 (r : Int), .int .i64 n, .int .u32 (L.br : Int), .int .i64 L.bn].toArray 28)
      have Zm := hpN z1 (.cells [.int .u32 (r : Int), .int .i64 n, .int .u32 (L.br : Int), .int .i64 L.bn].toArray 28) rfl
      generalize z1.alloc (.cells [.int .u32 (r : Int), .int .i64 n, .int .u32 (L.br : Int), .int .i64 L.bn].toArray 28) = z2 at Zl Zs Zr Zm  ee ⊢
      refine hK.out _ _ ⟨rowAt Zs, rowAt Zl, rowMid Zl 2 (Ld.ballot L)⟩ (fun hH => ?_)
      clear hK K hH
      try simp only [Act.put, List.getElem_toArray, List.getElem_cons_zero, List.getElem_cons_succ, List.setIfInBounds_toArray, List.set_cons_zero, List.set_cons_succ]
      refine wpAnyH_ready (rs := [6, 15]) (by kernel_rfl) (by simp) ?_
      refine AllReadyH.cons rfl (fun K hK => ?_) (AllReadyH.cons rfl (fun K hK => ?_) AllReadyH.nil)
      · rw [if_pos (by rfl)]
        go_simp
        go_wp2_with (go_at_call 79; refine (HM.out z2 _ (by have := (Array.getElem?_eq_some_iff.1 Zm).1; omega) Zm).mono ?_; rintro e z3 ⟨rfl, t⟩)
        have Zl := hpB Zl t
        have Zs := hpB Zs t
        have Zr := hpB Zr t
        have Zm := hpB Zm t
        have ee := lgBelow ee t
        clear t
        refine hK.out _ _ ⟨rowAt Zs, rowAt Zl, rowMid Zl 2 (Ld.ballot L)⟩ (fun hH => ?_)
        clear hK K hH
        try simp only [Act.put, List.getElem_toArray, List.getElem_cons_zero, List.getElem_cons_succ, List.setIfInBounds_toArray, List.set_cons_zero, List.set_cons_succ]
        refine wpAnyH_ready (rs := [11, 15]) (by kernel_rfl) (by simp) ?_
        refine AllReadyH.cons rfl (fun K hK => ?_) (AllReadyH.cons rfl (fun K hK => ?_) AllReadyH.nil)
        · rw [if_pos (by rfl)]
          go_simp
          go_wp2_with (go_at_call 78; refine (HX.out z3).mono ?_; rintro e z4 ⟨rfl, t⟩)
          have Zl := hpB Zl t
          have Zs := hpB Zs t
          have Zr := hpB Zr t
          have Zm := hpB Zm t
          have ee := lgBelow ee t
          clear t
          refine hK.out _ _ ⟨rowAt Zs, rowAt Zl, rowMid Zl 2 (Ld.ballot L)⟩ (fun hH => ?_)
          clear hK K hH
          try simp only [Act.put, List.getElem_toArray, List.getElem_cons_zero, List.getElem_cons_succ, List.setIfInBounds_toArray, List.set_cons_zero, List.set_cons_succ]
          refine wpAnyH_take (i := 12) (v := .tuple #[.agg #[.int .u32 (xr : Int), .int .i64 xn], .int .i64 xe]) rfl (by kernel_rfl) (by kernel_rfl) (by kernel_rfl) (fun _ _ _ h => h) (Or.inl ⟨by rfl, fun w_ hS_ => by (first | (go_simp; done) | (go_simp; rfl))⟩) ⟨rowAt Zs, rowAt Zl, rowMid Zl 2 (Ld.ballot L)⟩ ?_
          try simp only [Act.put, List.getElem_toArray, List.getElem_cons_zero, List.getElem_cons_succ, List.setIfInBounds_toArray, List.set_cons_zero, List.set_cons_succ]
          refine wpAnyH_take (i := 13) (v := .agg #[.int .u32 (xr : Int), .int .i64 xn]) rfl (by kernel_rfl) (by kernel_rfl) (by kernel_rfl) (fun _ _ _ h => h) (Or.inl ⟨by rfl, fun w_ hS_ => by (first | (go_simp; done) | (go_simp; rfl))⟩) ⟨rowAt Zs, rowAt Zl, rowMid Zl 2 (Ld.ballot L)⟩ ?_
          try simp only [Act.put, List.getElem_toArray, List.getElem_cons_zero, List.getElem_cons_succ, List.setIfInBounds_toArray, List.set_cons_zero, List.set_cons_succ]
          refine wpAnyH_take (i := 14) (v := .int .i64 xe) rfl (by kernel_rfl) (by kernel_rfl) (by kernel_rfl) (fun _ _ _ h => h) (Or.inl ⟨by rfl, fun w_ hS_ => by (first | (go_simp; done) | (go_simp; rfl))⟩) ⟨rowAt Zs, rowAt Zl, rowMid Zl 2 (Ld.ballot L)⟩ ?_
          try simp only [Act.put, List.getElem_toArray, List.getElem_cons_zero, List.getElem_cons_succ, List.setIfInBounds_toArray, List.set_cons_zero, List.set_cons_succ]
          refine wpAnyH_ready (rs := [15]) (by kernel_rfl) (by simp) ?_
          refine AllReadyH.cons rfl (fun K hK => ?_) AllReadyH.nil
          rw [if_pos (by rfl)]
          go_simp
          have lZl := (Array.getElem?_eq_some_iff.1 Zl).1
          have lZs := (Array.getElem?_eq_some_iff.1 Zs).1
          have lZr := (Array.getElem?_eq_some_iff.1 Zr).1
          have lZm := (Array.getElem?_eq_some_iff.1 Zm).1
          have Zl := hpA Zl (.cells #[.int .u32 0, .int .i64 0] 28)
          have Zs := hpA Zs (.cells #[.int .u32 0, .int .i64 0] 28)
          have Zr := hpA Zr (.cells #[.int .u32 0, .int .i64 0] 28)
          have Zm := hpA Zm (.cells #[.int .u32 0, .int .i64 0] 28)
          have sz4 := ee.size
          have ee := lgAlloc ee (.cells #[.int .u32 0, .int .i64 0] 28)
          have Zn := hpN z4 (.cells #[.int .u32 0, .int .i64 0] 28) rfl
          generalize z4.alloc (.cells #[.int .u32 0, .int .i64 0] 28) = z5 at Zl Zs Zr Zm Zn  ee ⊢
          refine hK.out _ _ ⟨rowAt Zs, rowAt Zl, rowMid Zl 2 (Ld.ballot L)⟩ (fun hH => ?_)
          clear hK K hH
          try simp only [Act.put, List.getElem_toArray, List.getElem_cons_zero, List.getElem_cons_succ, List.setIfInBounds_toArray, List.set_cons_zero, List.set_cons_succ]
          refine wpAnyH_ready (rs := [16]) (by kernel_rfl) (by simp) ?_
          refine AllReadyH.cons rfl (fun K hK => ?_) AllReadyH.nil
          rw [if_pos (by rfl)]
          refine wp_store_row 28 _ _ rfl (z4.heap.size) ([.int .u32 (xr : Int), .int .i64 xn]).toArray rfl rfl 28 _ Zn sizeBal (by rfl) (by simp [Value.oneCell']) ?_
          have N_ := setRow_heap z5 (z4.heap.size) _ ([.int .u32 (xr : Int), .int .i64 xn]).toArray _ _ Zn
          have ee := lgRow (cs := ([.int .u32 (xr : Int), .int .i64 xn]).toArray) (by omega) Zn ee
          have Zl := hpR Zl (g' := z4.heap.size) (by omega) ([.int .u32 (xr : Int), .int .i64 xn]).toArray
          have Zs := hpR Zs (g' := z4.heap.size) (by omega) ([.int .u32 (xr : Int), .int .i64 xn]).toArray
          have Zr := hpR Zr (g' := z4.heap.size) (by omega) ([.int .u32 (xr : Int), .int .i64 xn]).toArray
          have Zm := hpR Zm (g' := z4.heap.size) (by omega) ([.int .u32 (xr : Int), .int .i64 xn]).toArray
          clear Zn
          have Zn := N_
          clear N_
          generalize z5.setRow (z4.heap.size) ([.int .u32 (xr : Int), .int .i64 xn]).toArray = z6 at Zl Zs Zr Zm Zn ee ⊢
          refine hK.out _ _ ⟨rowAt Zs, rowAt Zl, rowMid Zl 2 (Ld.ballot L)⟩ (fun hH => ?_)
          clear hK K hH
          try simp only [Act.put, List.getElem_toArray, List.getElem_cons_zero, List.getElem_cons_succ, List.setIfInBounds_toArray, List.set_cons_zero, List.set_cons_succ]
          refine wpAnyH_take (i := 17) (v := .int .i64 xe) rfl (by kernel_rfl) (by kernel_rfl) (by kernel_rfl) (fun _ _ _ h => h) (Or.inl ⟨by rfl, fun w_ hS_ => by (first | (go_simp; done) | (go_simp; rfl))⟩) ⟨rowAt Zs, rowAt Zl, rowMid Zl 2 (Ld.ballot L)⟩ ?_
          try simp only [Act.put, List.getElem_toArray, List.getElem_cons_zero, List.getElem_cons_succ, List.setIfInBounds_toArray, List.set_cons_zero, List.set_cons_succ]
          refine wpAnyH_done (by kernel_rfl) ?_ _
          go_wp2_with fail
          go_meet
          exact ⟨_, rfl, rfl, by show _ < _; omega, Zl, Zr, Zn, ee⟩
        · rw [if_pos (by rfl)]
          go_simp
          have lZl := (Array.getElem?_eq_some_iff.1 Zl).1
          have lZs := (Array.getElem?_eq_some_iff.1 Zs).1
          have lZr := (Array.getElem?_eq_some_iff.1 Zr).1
          have lZm := (Array.getElem?_eq_some_iff.1 Zm).1
          have Zl := hpA Zl (.cells #[.int .u32 0, .int .i64 0] 28)
          have Zs := hpA Zs (.cells #[.int .u32 0, .int .i64 0] 28)
          have Zr := hpA Zr (.cells #[.int .u32 0, .int .i64 0] 28)
          have Zm := hpA Zm (.cells #[.int .u32 0, .int .i64 0] 28)
          have sz3 := ee.size
          have ee := lgAlloc ee (.cells #[.int .u32 0, .int .i64 0] 28)
          have Zn := hpN z3 (.cells #[.int .u32 0, .int .i64 0] 28) rfl
          generalize z3.alloc (.cells #[.int .u32 0, .int .i64 0] 28) = z4 at Zl Zs Zr Zm Zn  ee ⊢
          refine hK.out _ _ ⟨rowAt Zs, rowAt Zl, rowMid Zl 2 (Ld.ballot L)⟩ (fun hH => ?_)
          clear hK K hH
          try simp only [Act.put, List.getElem_toArray, List.getElem_cons_zero, List.getElem_cons_succ, List.setIfInBounds_toArray, List.set_cons_zero, List.set_cons_succ]
          refine wpAnyH_ready (rs := [11]) (by kernel_rfl) (by simp) ?_
          refine AllReadyH.cons rfl (fun K hK => ?_) AllReadyH.nil
          rw [if_pos (by rfl)]
          go_simp
          go_wp2_with (go_at_call 78; refine (HX.out z4).mono ?_; rintro e z5 ⟨rfl, t⟩)
          have Zl := hpB Zl t
          have Zs := hpB Zs t
          have Zr := hpB Zr t
          have Zm := hpB Zm t
          have Zn := hpB Zn t
          have ee := lgBelow ee t
          clear t
          refine hK.out _ _ ⟨rowAt Zs, rowAt Zl, rowMid Zl 2 (Ld.ballot L)⟩ (fun hH => ?_)
          clear hK K hH
          try simp only [Act.put, List.getElem_toArray, List.getElem_cons_zero, List.getElem_cons_succ, List.setIfInBounds_toArray, List.set_cons_zero, List.set_cons_succ]
          refine wpAnyH_take (i := 12) (v := .tuple #[.agg #[.int .u32 (xr : Int), .int .i64 xn], .int .i64 xe]) rfl (by kernel_rfl) (by kernel_rfl) (by kernel_rfl) (fun _ _ _ h => h) (Or.inl ⟨by rfl, fun w_ hS_ => by (first | (go_simp; done) | (go_simp; rfl))⟩) ⟨rowAt Zs, rowAt Zl, rowMid Zl 2 (Ld.ballot L)⟩ ?_
          try simp only [Act.put, List.getElem_toArray, List.getElem_cons_zero, List.getElem_cons_succ, List.setIfInBounds_toArray, List.set_cons_zero, List.set_cons_succ]
          refine wpAnyH_take (i := 13) (v := .agg #[.int .u32 (xr : Int), .int .i64 xn]) rfl (by kernel_rfl) (by kernel_rfl) (by kernel_rfl) (fun _ _ _ h => h) (Or.inl ⟨by rfl, fun w_ hS_ => by (first | (go_simp; done) | (go_simp; rfl))⟩) ⟨rowAt Zs, rowAt Zl, rowMid Zl 2 (Ld.ballot L)⟩ ?_
          try simp only [Act.put, List.getElem_toArray, List.getElem_cons_zero, List.getElem_cons_succ, List.setIfInBounds_toArray, List.set_cons_zero, List.set_cons_succ]
          refine wpAnyH_take (i := 14) (v := .int .i64 xe) rfl (by kernel_rfl) (by kernel_rfl) (by kernel_rfl) (fun _ _ _ h => h) (Or.inl ⟨by rfl, fun w_ hS_ => by (first | (go_simp; done) | (go_simp; rfl))⟩) ⟨rowAt Zs, rowAt Zl, rowMid Zl 2 (Ld.ballot L)⟩ ?_
          try simp only [Act.put, List.getElem_toArray, List.getElem_cons_zero, List.getElem_cons_succ, List.setIfInBounds_toArray, List.set_cons_zero, List.set_cons_succ]
          refine wpAnyH_ready (rs := [16]) (by kernel_rfl) (by simp) ?_
          refine AllReadyH.cons rfl (fun K hK => ?_) AllReadyH.nil
          rw [if_pos (by rfl)]
          refine wp_store_row 28 _ _ rfl (z3.heap.size) ([.int .u32 (xr : Int), .int .i64 xn]).toArray rfl rfl 28 _ Zn sizeBal (by rfl) (by simp [Value.oneCell']) ?_
          have N_ := setRow_heap z5 (z3.heap.size) _ ([.int .u32 (xr : Int), .int .i64 xn]).toArray _ _ Zn
          have ee := lgRow (cs := ([.int .u32 (xr : Int), .int .i64 xn]).toArray) (by omega) Zn ee
          have Zl := hpR Zl (g' := z3.heap.size) (by omega) ([.int .u32 (xr : Int), .int .i64 xn]).toArray
          have Zs := hpR Zs (g' := z3.heap.size) (by omega) ([.int .u32 (xr : Int), .int .i64 xn]).toArray
          have Zr := hpR Zr (g' := z3.heap.size) (by omega) ([.int .u32 (xr : Int), .int .i64 xn]).toArray
          have Zm := hpR Zm (g' := z3.heap.size) (by omega) ([.int .u32 (xr : Int), .int .i64 xn]).toArray
          clear Zn
          have Zn := N_
          clear N_
          generalize z5.setRow (z3.heap.size) ([.int .u32 (xr : Int), .int .i64 xn]).toArray = z6 at Zl Zs Zr Zm Zn ee ⊢
          refine hK.out _ _ ⟨rowAt Zs, rowAt Zl, rowMid Zl 2 (Ld.ballot L)⟩ (fun hH => ?_)
          clear hK K hH
          try simp only [Act.put, List.getElem_toArray, List.getElem_cons_zero, List.getElem_cons_succ, List.setIfInBounds_toArray, List.set_cons_zero, List.set_cons_succ]
          refine wpAnyH_take (i := 17) (v := .int .i64 xe) rfl (by kernel_rfl) (by kernel_rfl) (by kernel_rfl) (fun _ _ _ h => h) (Or.inl ⟨by rfl, fun w_ hS_ => by (first | (go_simp; done) | (go_simp; rfl))⟩) ⟨rowAt Zs, rowAt Zl, rowMid Zl 2 (Ld.ballot L)⟩ ?_
          try simp only [Act.put, List.getElem_toArray, List.getElem_cons_zero, List.getElem_cons_succ, List.setIfInBounds_toArray, List.set_cons_zero, List.set_cons_succ]
          refine wpAnyH_done (by kernel_rfl) ?_ _
          go_wp2_with fail
          go_meet
          exact ⟨_, rfl, rfl, by show _ < _; omega, Zl, Zr, Zn, ee⟩
      · rw [if_pos (by rfl)]
        go_simp
        have lZl := (Array.getElem?_eq_some_iff.1 Zl).1
        have lZs := (Array.getElem?_eq_some_iff.1 Zs).1
        have lZr := (Array.getElem?_eq_some_iff.1 Zr).1
        have lZm := (Array.getElem?_eq_some_iff.1 Zm).1
        have Zl := hpA Zl (.cells #[.int .u32 0, .int .i64 0] 28)
        have Zs := hpA Zs (.cells #[.int .u32 0, .int .i64 0] 28)
        have Zr := hpA Zr (.cells #[.int .u32 0, .int .i64 0] 28)
        have Zm := hpA Zm (.cells #[.int .u32 0, .int .i64 0] 28)
        have sz2 := ee.size
        have ee := lgAlloc ee (.cells #[.int .u32 0, .int .i64 0] 28)
        have Zn := hpN z2 (.cells #[.int .u32 0, .int .i64 0] 28) rfl
        generalize z2.alloc (.cells #[.int .u32 0, .int .i64 0] 28) = z3 at Zl Zs Zr Zm Zn  ee ⊢
        refine hK.out _ _ ⟨rowAt Zs, rowAt Zl, rowMid Zl 2 (Ld.ballot L)⟩ (fun hH => ?_)
        clear hK K hH
        try simp only [Act.put, List.getElem_toArray, List.getElem_cons_zero, List.getElem_cons_succ, List.setIfInBounds_toArray, List.set_cons_zero, List.set_cons_succ]
        refine wpAnyH_ready (rs := [6]) (by kernel_rfl) (by simp) ?_
        refine AllReadyH.cons rfl (fun K hK => ?_) AllReadyH.nil
        rw [if_pos (by rfl)]
        go_simp
        go_wp2_with (go_at_call 79; refine (HM.out z3 _ (by have := (Array.getElem?_eq_some_iff.1 Zm).1; omega) Zm).mono ?_; rintro e z4 ⟨rfl, t⟩)
        have Zl := hpB Zl t
        have Zs := hpB Zs t
        have Zr := hpB Zr t
        have Zm := hpB Zm t
        have Zn := hpB Zn t
        have ee := lgBelow ee t
        clear t
        refine hK.out _ _ ⟨rowAt Zs, rowAt Zl, rowMid Zl 2 (Ld.ballot L)⟩ (fun hH => ?_)
        clear hK K hH
        try simp only [Act.put, List.getElem_toArray, List.getElem_cons_zero, List.getElem_cons_succ, List.setIfInBounds_toArray, List.set_cons_zero, List.set_cons_succ]
        refine wpAnyH_ready (rs := [11]) (by kernel_rfl) (by simp) ?_
        refine AllReadyH.cons rfl (fun K hK => ?_) AllReadyH.nil
        rw [if_pos (by rfl)]
        go_simp
        go_wp2_with (go_at_call 78; refine (HX.out z4).mono ?_; rintro e z5 ⟨rfl, t⟩)
        have Zl := hpB Zl t
        have Zs := hpB Zs t
        have Zr := hpB Zr t
        have Zm := hpB Zm t
        have Zn := hpB Zn t
        have ee := lgBelow ee t
        clear t
        refine hK.out _ _ ⟨rowAt Zs, rowAt Zl, rowMid Zl 2 (Ld.ballot L)⟩ (fun hH => ?_)
        clear hK K hH
        try simp only [Act.put, List.getElem_toArray, List.getElem_cons_zero, List.getElem_cons_succ, List.setIfInBounds_toArray, List.set_cons_zero, List.set_cons_succ]
        refine wpAnyH_take (i := 12) (v := .tuple #[.agg #[.int .u32 (xr : Int), .int .i64 xn], .int .i64 xe]) rfl (by kernel_rfl) (by kernel_rfl) (by kernel_rfl) (fun _ _ _ h => h) (Or.inl ⟨by rfl, fun w_ hS_ => by (first | (go_simp; done) | (go_simp; rfl))⟩) ⟨rowAt Zs, rowAt Zl, rowMid Zl 2 (Ld.ballot L)⟩ ?_
        try simp only [Act.put, List.getElem_toArray, List.getElem_cons_zero, List.getElem_cons_succ, List.setIfInBounds_toArray, List.set_cons_zero, List.set_cons_succ]
        refine wpAnyH_take (i := 13) (v := .agg #[.int .u32 (xr : Int), .int .i64 xn]) rfl (by kernel_rfl) (by kernel_rfl) (by kernel_rfl) (fun _ _ _ h => h) (Or.inl ⟨by rfl, fun w_ hS_ => by (first | (go_simp; done) | (go_simp; rfl))⟩) ⟨rowAt Zs, rowAt Zl, rowMid Zl 2 (Ld.ballot L)⟩ ?_
        try simp only [Act.put, List.getElem_toArray, List.getElem_cons_zero, List.getElem_cons_succ, List.setIfInBounds_toArray, List.set_cons_zero, List.set_cons_succ]
        refine wpAnyH_take (i := 14) (v := .int .i64 xe) rfl (by kernel_rfl) (by kernel_rfl) (by kernel_rfl) (fun _ _ _ h => h) (Or.inl ⟨by rfl, fun w_ hS_ => by (first | (go_simp; done) | (go_simp; rfl))⟩) ⟨rowAt Zs, rowAt Zl, rowMid Zl 2 (Ld.ballot L)⟩ ?_
        try simp only [Act.put, List.getElem_toArray, List.getElem_cons_zero, List.getElem_cons_succ, List.setIfInBounds_toArray, List.set_cons_zero, List.set_cons_succ]
        refine wpAnyH_ready (rs := [16]) (by kernel_rfl) (by simp) ?_
        refine AllReadyH.cons rfl (fun K hK => ?_) AllReadyH.nil
        rw [if_pos (by rfl)]
        refine wp_store_row 28 _ _ rfl (z2.heap.size) ([.int .u32 (xr : Int), .int .i64 xn]).toArray rfl rfl 28 _ Zn sizeBal (by rfl) (by simp [Value.oneCell']) ?_
        have N_ := setRow_heap z5 (z2.heap.size) _ ([.int .u32 (xr : Int), .int .i64 xn]).toArray _ _ Zn
        have ee := lgRow (cs := ([.int .u32 (xr : Int), .int .i64 xn]).toArray) (by omega) Zn ee
        have Zl := hpR Zl (g' := z2.heap.size) (by omega) ([.int .u32 (xr : Int), .int .i64 xn]).toArray
        have Zs := hpR Zs (g' := z2.heap.size) (by omega) ([.int .u32 (xr : Int), .int .i64 xn]).toArray
        have Zr := hpR Zr (g' := z2.heap.size) (by omega) ([.int .u32 (xr : Int), .int .i64 xn]).toArray
        have Zm := hpR Zm (g' := z2.heap.size) (by omega) ([.int .u32 (xr : Int), .int .i64 xn]).toArray
        clear Zn
        have Zn := N_
        clear N_
        generalize z5.setRow (z2.heap.size) ([.int .u32 (xr : Int), .int .i64 xn]).toArray = z6 at Zl Zs Zr Zm Zn ee ⊢
        refine hK.out _ _ ⟨rowAt Zs, rowAt Zl, rowMid Zl 2 (Ld.ballot L)⟩ (fun hH => ?_)
        clear hK K hH
        try simp only [Act.put, List.getElem_toArray, List.getElem_cons_zero, List.getElem_cons_succ, List.setIfInBounds_toArray, List.set_cons_zero, List.set_cons_succ]
        refine wpAnyH_take (i := 17) (v := .int .i64 xe) rfl (by kernel_rfl) (by kernel_rfl) (by kernel_rfl) (fun _ _ _ h => h) (Or.inl ⟨by rfl, fun w_ hS_ => by (first | (go_simp; done) | (go_simp; rfl))⟩) ⟨rowAt Zs, rowAt Zl, rowMid Zl 2 (Ld.ballot L)⟩ ?_
        try simp only [Act.put, List.getElem_toArray, List.getElem_cons_zero, List.getElem_cons_succ, List.setIfInBounds_toArray, List.set_cons_zero, List.set_cons_succ]
        refine wpAnyH_done (by kernel_rfl) ?_ _
        go_wp2_with fail
        go_meet
        exact ⟨_, rfl, rfl, by show _ < _; omega, Zl, Zr, Zn, ee⟩
    · rw [if_pos (by rfl)]
      go_simp
      have lZl := (Array.getElem?_eq_some_iff.1 Zl).1
      have lZs := (Array.getElem?_eq_some_iff.1 Zs).1
      have lZr := (Array.getElem?_eq_some_iff.1 Zr).1
      have Zl := hpA Zl (.cells #[.int .u32 0, .int .i64 0] 28)
      have Zs := hpA Zs (.cells #[.int .u32 0, .int .i64 0] 28)
      have Zr := hpA Zr (.cells #[.int .u32 0, .int .i64 0] 28)
      have sz1 := ee.size
      have ee := lgAlloc ee (.cells #[.int .u32 0, .int .i64 0] 28)
      have Zn := hpN z1 (.cells #[.int .u32 0, .int .i64 0] 28) rfl
      generalize z1.alloc (.cells #[.int .u32 0, .int .i64 0] 28) = z2 at Zl Zs Zr Zn  ee ⊢
      refine hK.out _ _ ⟨rowAt Zs, rowAt Zl, rowMid Zl 2 (Ld.ballot L)⟩ (fun hH => ?_)
      clear hK K hH
      try simp only [Act.put, List.getElem_toArray, List.getElem_cons_zero, List.getElem_cons_succ, List.setIfInBounds_toArray, List.set_cons_zero, List.set_cons_succ]
      refine wpAnyH_ready (rs := [5]) (by kernel_rfl) (by simp) ?_
      refine AllReadyH.cons rfl (fun K hK => ?_) AllReadyH.nil
      rw [if_pos (by rfl)]
      refine wp_buildSlice 183 28 2 #[(0, .tmp 12), (1, .tmp 16)] rfl [.int .u32 (r : Int), .int .i64 n, .int .u32 (L.br : Int), .int .i64 L.bn].toArray i1 (.agg #[.int .u32 0, .int .i64 0]) Tryd.underlying183 hi1 hz10 (by rw [hz11]; decide) (by rw [hz11]; decide) (by rw [hz11]; simp only [List.map_toArray, List.map_cons, List.map_nil]; exact fillB2 _ _ _ _ _ (by simp)) ?_
      have lZl := (Array.getElem?_eq_some_iff.1 Zl).1
      have lZs := (Array.getElem?_eq_some_iff.1 Zs).1
      have lZr := (Array.getElem?_eq_some_iff.1 Zr).1
      have lZn := (Array.getElem?_eq_some_iff.1 Zn).1
      have Zl := hpA Zl (.cells [.int .u32 (r : Int), .int .i64 n, .int .u32 (L.br : Int), .int .i64 L.bn].toArray 28)
      have Zs := hpA Zs (.cells [.int .u32 (r : Int), .int .i64 n, .int .u32 (L.br : Int), .int .i64 L.bn].toArray 28)
      have Zr := hpA Zr (.cells [.int .u32 (r : Int), .int .i64 n, .int .u32 (L.br : Int), .int .i64 L.bn].toArray 28)
      have Zn := hpA Zn (.cells [.int .u32 (r : Int), .int .i64 n, .int .u32 (L.br : Int), .int .i64 L.bn].toArray 28)
      have sz2 := ee.size
      have ee := lgAlloc ee (.cells [.int .u32 (r : Int), .int .i64 n, .int .u32 (L.br : Int), .int .i64 L.bn].toArray 28)
      have Zm := hpN z2 (.cells [.int .u32 (r : Int), .int .i64 n, .int .u32 (L.br : Int), .int .i64 L.bn].toArray 28) rfl
      generalize z2.alloc (.cells [.int .u32 (r : Int), .int .i64 n, .int .u32 (L.br : Int), .int .i64 L.bn].toArray 28) = z3 at Zl Zs Zr Zn Zm  ee ⊢
      refine hK.out _ _ ⟨rowAt Zs, rowAt Zl, rowMid Zl 2 (Ld.ballot L)⟩ (fun hH => ?_)
      clear hK K hH
      try simp only [Act.put, List.getElem_toArray, List.getElem_cons_zero, List.getElem_cons_succ, List.setIfInBounds_toArray, List.set_cons_zero, List.set_cons_succ]
      refine wpAnyH_ready (rs := [6]) (by kernel_rfl) (by simp) ?_
      refine AllReadyH.cons rfl (fun K hK => ?_) AllReadyH.nil
      rw [if_pos (by rfl)]
      go_simp
      go_wp2_with (go_at_call 79; refine (HM.out z3 _ (by have := (Array.getElem?_eq_some_iff.1 Zm).1; omega) Zm).mono ?_; rintro e z4 ⟨rfl, t⟩)
      have Zl := hpB Zl t
      have Zs := hpB Zs t
      have Zr := hpB Zr t
      have Zn := hpB Zn t
      have Zm := hpB Zm t
      have ee := lgBelow ee t
      clear t
      refine hK.out _ _ ⟨rowAt Zs, rowAt Zl, rowMid Zl 2 (Ld.ballot L)⟩ (fun hH => ?_)
      clear hK K hH
      try simp only [Act.put, List.getElem_toArray, List.getElem_cons_zero, List.getElem_cons_succ, List.setIfInBounds_toArray, List.set_cons_zero, List.set_cons_succ]
      refine wpAnyH_ready (rs := [11]) (by kernel_rfl) (by simp) ?_
      refine AllReadyH.cons rfl (fun K hK => ?_) AllReadyH.nil
      rw [if_pos (by rfl)]
      go_simp
      go_wp2_with (go_at_call 78; refine (HX.out z4).mono ?_; rintro e z5 ⟨rfl, t⟩)
      have Zl := hpB Zl t
      have Zs := hpB Zs t
      have Zr := hpB Zr t
      have Zn := hpB Zn t
      have Zm := hpB Zm t
      have ee := lgBelow ee t
      clear t
      refine hK.out _ _ ⟨rowAt Zs, rowAt Zl, rowMid Zl 2 (Ld.ballot L)⟩ (fun hH => ?_)
      clear hK K hH
      try simp only [Act.put, List.getElem_toArray, List.getElem_cons_zero, List.getElem_cons_succ, List.setIfInBounds_toArray, List.set_cons_zero, List.set_cons_succ]
      refine wpAnyH_take (i := 12) (v := .tuple #[.agg #[.int .u32 (xr : Int), .int .i64 xn], .int .i64 xe]) rfl (by kernel_rfl) (by kernel_rfl) (by kernel_rfl) (fun _ _ _ h => h) (Or.inl ⟨by rfl, fun w_ hS_ => by (first | (go_simp; done) | (go_simp; rfl))⟩) ⟨rowAt Zs, rowAt Zl, rowMid Zl 2 (Ld.ballot L)⟩ ?_
      try simp only [Act.put, List.getElem_toArray, List.getElem_cons_zero, List.getElem_cons_succ, List.setIfInBounds_toArray, List.set_cons_zero, List.set_cons_succ]
      refine wpAnyH_take (i := 13) (v := .agg #[.int .u32 (xr : Int), .int .i64 xn]) rfl (by kernel_rfl) (by kernel_rfl) (by kernel_rfl) (fun _ _ _ h => h) (Or.inl ⟨by rfl, fun w_ hS_ => by (first | (go_simp; done) | (go_simp; rfl))⟩) ⟨rowAt Zs, rowAt Zl, rowMid Zl 2 (Ld.ballot L)⟩ ?_
      try simp only [Act.put, List.getElem_toArray, List.getElem_cons_zero, List.getElem_cons_succ, List.setIfInBounds_toArray, List.set_cons_zero, List.set_cons_succ]
      refine wpAnyH_take (i := 14) (v := .int .i64 xe) rfl (by kernel_rfl) (by kernel_rfl) (by kernel_rfl) (fun _ _ _ h => h) (Or.inl ⟨by rfl, fun w_ hS_ => by (first | (go_simp; done) | (go_simp; rfl))⟩) ⟨rowAt Zs, rowAt Zl, rowMid Zl 2 (Ld.ballot L)⟩ ?_
      try simp only [Act.put, List.getElem_toArray, List.getElem_cons_zero, List.getElem_cons_succ, List.setIfInBounds_toArray, List.set_cons_zero, List.set_cons_succ]
      refine wpAnyH_ready (rs := [16]) (by kernel_rfl) (by simp) ?_
      refine AllReadyH.cons rfl (fun K hK => ?_) AllReadyH.nil
      rw [if_pos (by rfl)]
      refine wp_store_row 28 _ _ rfl (z1.heap.size) ([.int .u32 (xr : Int), .int .i64 xn]).toArray rfl rfl 28 _ Zn sizeBal (by rfl) (by simp [Value.oneCell']) ?_
      have N_ := setRow_heap z5 (z1.heap.size) _ ([.int .u32 (xr : Int), .int .i64 xn]).toArray _ _ Zn
      have ee := lgRow (cs := ([.int .u32 (xr : Int), .int .i64 xn]).toArray) (by omega) Zn ee
      have Zl := hpR Zl (g' := z1.heap.size) (by omega) ([.int .u32 (xr : Int), .int .i64 xn]).toArray
      have Zs := hpR Zs (g' := z1.heap.size) (by omega) ([.int .u32 (xr : Int), .int .i64 xn]).toArray
      have Zr := hpR Zr (g' := z1.heap.size) (by omega) ([.int .u32 (xr : Int), .int .i64 xn]).toArray
      have Zm := hpR Zm (g' := z1.heap.size) (by omega) ([.int .u32 (xr : Int), .int .i64 xn]).toArray
      clear Zn
      have Zn := N_
      clear N_
      generalize z5.setRow (z1.heap.size) ([.int .u32 (xr : Int), .int .i64 xn]).toArray = z6 at Zl Zs Zr Zn Zm ee ⊢
      refine hK.out _ _ ⟨rowAt Zs, rowAt Zl, rowMid Zl 2 (Ld.ballot L)⟩ (fun hH => ?_)
      clear hK K hH
      try simp only [Act.put, List.getElem_toArray, List.getElem_cons_zero, List.getElem_cons_succ, List.setIfInBounds_toArray, List.set_cons_zero, List.set_cons_succ]
      refine wpAnyH_take (i := 17) (v := .int .i64 xe) rfl (by kernel_rfl) (by kernel_rfl) (by kernel_rfl) (fun _ _ _ h => h) (Or.inl ⟨by rfl, fun w_ hS_ => by (first | (go_simp; done) | (go_simp; rfl))⟩) ⟨rowAt Zs, rowAt Zl, rowMid Zl 2 (Ld.ballot L)⟩ ?_
      try simp only [Act.put, List.getElem_toArray, List.getElem_cons_zero, List.getElem_cons_succ, List.setIfInBounds_toArray, List.set_cons_zero, List.set_cons_succ]
      refine wpAnyH_done (by kernel_rfl) ?_ _
      go_wp2_with fail
      go_meet
      exact ⟨_, rfl, rfl, by show _ < _; omega, Zl, Zr, Zn, ee⟩
  case rest =>
    obtain ⟨g, rfl, rfl, hg, Zl, Zr, Zn, ee⟩ := hcut
    have hg := hg.out
    have Zl := Zl.out
    have Zr := Zr.out
    have Zn := Zn.out
    have ee := ee.out
    have nm : ∀ z : World, w.grownBy z (some h) → ∃ z', z' = z := fun z _ => ⟨z, rfl⟩
    obtain ⟨y0, hy0⟩ := nm _ ee
    subst hy0
    clear nm
    clear HM HX hi1 hz10 hz11 hz12
    by_cases hxe : xe = 0
    · subst hxe
      have HS2 : Hid (L.start r n = ⟨L.n, L.nd, xr, xn, 0, [], none, 0, 0, 0, Cm.zero, 0⟩) := HS.out
      clear HS HE
      have sz0 := ee.size
      go_upto_region 6 with fail
      have c0 := rowCell Zl 0 rfl
      have c1 := rowCell Zl 1 rfl
      have n0 := rowCell Zn 0 rfl
      have n1 := rowCell Zn 1 rfl
      go_still_tail 12, (by kernel_rfl)
      have Zl : y0.drew.heap[h]? = some (.cells L.cells.toArray 144) := Zl
      have Zr : y0.drew.heap[w.heap.size + 1]? = some (.cells #[.int .u32 0, .int .i64 0] 28) := Zr
      have Zn : y0.drew.heap[g]? = some (.cells [.int .u32 (xr : Int), .int .i64 xn].toArray 28) := Zn
      have ee := lgDrew ee
      change wpList _ _ _ _ _ y0.drew
      generalize y0.drew = z51 at Zl Zr Zn ee ⊢
      clear c0 c1 n0 n1
      iterate 27 (first | with_reducible refine isStore (ty := 144) rfl ?_ | go_step)
      refine wpList_store_row rfl 144 _ _ rfl (h) ([.int .i64 L.n, .int .i64 L.nd, .int .u32 (xr : Int), .int .i64 xn, .int .u64 0, .slice none 0 0, .int .i64 0, .int .i64 0, .int .i64 0, .int .i64 0, .int .i64 0, .slice none 0 0, .slice none 0 0, .int .i64 0, .int .i64 0, .int .i64 0, .int .u64 0, .bool false, .int .u64 0]).toArray rfl rfl 144 _ Zl sizeLd (by rfl) (by simp [Value.oneCell']) ?_
      have N_ := setRow_heap z51 (h) _ ([.int .i64 L.n, .int .i64 L.nd, .int .u32 (xr : Int), .int .i64 xn, .int .u64 0, .slice none 0 0, .int .i64 0, .int .i64 0, .int .i64 0, .int .i64 0, .int .i64 0, .slice none 0 0, .slice none 0 0, .int .i64 0, .int .i64 0, .int .i64 0, .int .u64 0, .bool false, .int .u64 0]).toArray _ _ Zl
      have ee := lgRow (cs := ([.int .i64 L.n, .int .i64 L.nd, .int .u32 (xr : Int), .int .i64 xn, .int .u64 0, .slice none 0 0, .int .i64 0, .int .i64 0, .int .i64 0, .int .i64 0, .int .i64 0, .slice none 0 0, .slice none 0 0, .int .i64 0, .int .i64 0, .int .i64 0, .int .u64 0, .bool false, .int .u64 0]).toArray) (by omega) Zl ee
      have Zr := hpR Zr (g' := h) (by omega) ([.int .i64 L.n, .int .i64 L.nd, .int .u32 (xr : Int), .int .i64 xn, .int .u64 0, .slice none 0 0, .int .i64 0, .int .i64 0, .int .i64 0, .int .i64 0, .int .i64 0, .slice none 0 0, .slice none 0 0, .int .i64 0, .int .i64 0, .int .i64 0, .int .u64 0, .bool false, .int .u64 0]).toArray
      have Zn := hpR Zn (g' := h) (by omega) ([.int .i64 L.n, .int .i64 L.nd, .int .u32 (xr : Int), .int .i64 xn, .int .u64 0, .slice none 0 0, .int .i64 0, .int .i64 0, .int .i64 0, .int .i64 0, .int .i64 0, .slice none 0 0, .slice none 0 0, .int .i64 0, .int .i64 0, .int .i64 0, .int .u64 0, .bool false, .int .u64 0]).toArray
      clear Zl
      have Zl := N_
      clear N_
      generalize z51.setRow (h) ([.int .i64 L.n, .int .i64 L.nd, .int .u32 (xr : Int), .int .i64 xn, .int .u64 0, .slice none 0 0, .int .i64 0, .int .i64 0, .int .i64 0, .int .i64 0, .int .i64 0, .slice none 0 0, .slice none 0 0, .int .i64 0, .int .i64 0, .int .i64 0, .int .u64 0, .bool false, .int .u64 0]).toArray = z52 at Zl Zr Zn ee ⊢
      go_upto_region 7 with fail
      refine wp_region_lit ?_
      iterate 27 (first | with_reducible refine isLoad (ty := 28) rfl ?_ | go_step)
      refine wpList_load_mid rfl 28 _ rfl (g) 0 rfl ([.int .u32 (xr : Int), .int .i64 xn]) _ (rowAt Zn) Tryd.underlying28 rfl sizeBal ?_
      iterate 27 (first | with_reducible refine isStore (ty := 28) rfl ?_ | go_step)
      refine wpList_store_row rfl 28 _ _ rfl (w.heap.size + 1) ([.int .u32 (xr : Int), .int .i64 xn]).toArray rfl rfl 28 _ Zr sizeBal (by rfl) (by simp [Value.oneCell']) ?_
      have N_ := setRow_heap z52 (w.heap.size + 1) _ ([.int .u32 (xr : Int), .int .i64 xn]).toArray _ _ Zr
      have ee := lgRow (cs := ([.int .u32 (xr : Int), .int .i64 xn]).toArray) (by omega) Zr ee
      have Zl := hpR Zl (g' := w.heap.size + 1) (by omega) ([.int .u32 (xr : Int), .int .i64 xn]).toArray
      have Zn := hpR Zn (g' := w.heap.size + 1) (by omega) ([.int .u32 (xr : Int), .int .i64 xn]).toArray
      clear Zr
      have Zr := N_
      clear N_
      generalize z52.setRow (w.heap.size + 1) ([.int .u32 (xr : Int), .int .i64 xn]).toArray = z53 at Zl Zr Zn ee ⊢
      go_wp2_with fail
      refine bodyPost_ret (v := .tuple #[.agg [.int .u32 (xr : Int), .int .i64 xn].toArray, .int .i64 0]) (res_ct rfl rfl rfl Zr Tryd.underlying28 rfl sizeBal) rfl ⟨rfl, ?_, ee⟩
      rw [HS2.out]
      exact Zl
    · have hxe2 : (xe != 0) = true := by simp; exact hxe
      obtain ⟨h1, h2⟩ := HE.out hxe
      subst h1; subst h2
      have HS2 : Hid (L.start r n = L) := by show _ = _; rw [HS.out, decide_eq_false hxe]; rfl
      clear HS HE hxe
      go_upto_region 5 with fail
      refine wp_region_lit ?_
      clear hxe2
      have sz0 := ee.size
      iterate 27 (first | with_reducible refine isStore (ty := 28) rfl ?_ | go_step)
      refine wpList_store_row rfl 28 _ _ rfl (w.heap.size + 1) ([.int .u32 0, .int .i64 0]).toArray rfl rfl 28 _ Zr sizeBal (by rfl) (by simp [Value.oneCell']) ?_
      have N_ := setRow_heap y0 (w.heap.size + 1) _ ([.int .u32 0, .int .i64 0]).toArray _ _ Zr
      have ee := lgRow (cs := ([.int .u32 0, .int .i64 0]).toArray) (by omega) Zr ee
      have Zl := hpR Zl (g' := w.heap.size + 1) (by omega) ([.int .u32 0, .int .i64 0]).toArray
      have Zn := hpR Zn (g' := w.heap.size + 1) (by omega) ([.int .u32 0, .int .i64 0]).toArray
      clear Zr
      have Zr := N_
      clear N_
      generalize y0.setRow (w.heap.size + 1) ([.int .u32 0, .int .i64 0]).toArray = z51 at Zl Zr Zn ee ⊢
      go_wp2_with fail
      refine bodyPost_ret (v := .tuple #[.agg [.int .u32 0, .int .i64 0].toArray, .int .i64 xe]) (res_ct rfl rfl rfl Zr Tryd.underlying28 rfl sizeBal) rfl ⟨rfl, ?_, ee⟩
      rw [HS2.out]
      exact Zl
theorem nx_first (n : Int) : (Ld.new n 0).nx 0 0 = (1, 0, 0) := by rfl
set_option maxHeartbeats 1600000 in
theorem awake19 (w : World) : Calls Tryd.prog 33 #[] w fun e w' => e = .returned (.bool true) ∧ Below w.heap.size w w' := by
  go_enter Tryd.func33, Tryd.ntmps33
  go_wp2_with fail
  refine (lnew_ok 1 0 w rfl).mono ?_
  rintro e w1 ⟨rfl, hw1⟩
  have ee : Below w.heap.size w w1 := by rw [hw1]; exact (Below.refl _ _).alloc (Nat.le_refl _) _
  have Zl : LdAt w1 w.heap.size (Ld.new 1 0) := by rw [hw1]; exact hpN _ _ rfl
  clear hw1
  have H := Lib.hid (lstart w1 w.heap.size (Ld.new 1 0) 0 0 (by omega) (by decide) Zl)
  rw [nx_first] at H
  go_wp2_with fail
  refine H.out.mono ?_
  rintro e w2 ⟨rfl, _, t⟩
  have ee := ee.grown t ee.size (fun q hq => by injection hq with hq; omega)
  clear H t Zl
  go_wp2_with fail
  go_ret
  exact ⟨rfl, by repeat first | exact ee | refine Below.setCell ?_ (by have := ee.size; simp; try omega) _ | refine Below.alloc ?_ (by have := ee.size; simp; try omega) _⟩
namespace T
/-- what is done with a leader -/
structure LOp where
  kd : Int
  nd : Int
  sl : Int
  br : Nat
  bn : Int
  own : Bool
  a : Ac
  x : Cm
def LOp.cells (o : LOp) : List Value := [.int .i64 o.kd, .int .i64 o.nd, .int .i64 o.sl, .int .u32 (o.br : Int), .int .i64 o.bn, .bool o.own] ++ (o.a.cells ++ o.x.cells)
end T
theorem LOp.cx (o : LOp) : ∀ j v, o.x.cells[j]? = some v → o.cells[22 + j]? = some v := fun j v h => by
  unfold LOp.cells
  rw [List.getElem?_append_right (by simp; omega), List.getElem?_append_right (by simp [Ac.cells_len]; omega)]
  simp only [List.length_cons, List.length_nil, Ac.cells_len]
  rw [show 22 + j - (0 + 1 + 1 + 1 + 1 + 1 + 1) - 16 = j by omega]
  exact h
theorem LOp.ca (o : LOp) : ∀ j v, o.a.cells[j]? = some v → o.cells[6 + j]? = some v := fun j v h => by
  have hj := (List.getElem?_eq_some_iff.1 h).1
  rw [Ac.cells_len] at hj
  unfold LOp.cells
  rw [List.getElem?_append_right (by simp), List.getElem?_append_left (by simp [Ac.cells_len]; omega)]
  simp only [List.length_cons, List.length_nil]
  rw [show 6 + j - (0 + 1 + 1 + 1 + 1 + 1 + 1) = j by omega]
  exact h
theorem LOp.cac (o : LOp) : ∀ j v, o.a.c.cells[j]? = some v → o.cells[12 + j]? = some v := fun j v h => by
  have := LOp.ca o (6 + j) v (Ac.part o.a j v h)
  rwa [show 6 + (6 + j) = 12 + j by omega] at this
theorem LOp.cb (o : LOp) : ∀ j v, ([.int .u32 (o.br : Int), .int .i64 o.bn] : List Value)[j]? = some v → o.cells[3 + j]? = some v := fun j v h => by
  match j, h with
  | 0, h => exact h
  | 1, h => exact h
  | j + 2, h => simp at h
theorem LOp.cells_len (o : LOp) : o.cells.length = 32 := rfl
theorem sizeLOp : (Tryd.prog.info? 99).map (·.size) = some 32 := by kernel_rfl
section
open Go.ChangeShapes Go.WideShapes Go.ChangeAt
variable {W : World} {cs : List Value} {v : Value}
theorem Cel.lop (h : Cel W 99 cs) : ∃ o : LOp, cs = o.cells ∧ CmOk W W.heap.size o.x ∧ CmOk W W.heap.size o.a.c ∧ o.br < 4294967296 := by
  have hl := h.len Tryd.underlying99
  rw [show Tryd.prog.cellsOf 99 = 32 by kernel_rfl] at hl
  match cs, hl with
  | [v0, v1, v2, v3, v4, v5, b0, b1, b2, b3, b4, b5, b6, b7, b8, b9, b10, b11, b12, b13, b14, b15, c0, c1, c2, c3, c4, c5, c6, c7, c8, c9], _ =>
    obtain ⟨kd, e0, _⟩ := (h.field1 Tryd.underlying99 0 0 3 _ rfl rfl rfl (by kernel_rfl) v0 rfl).i64 Tryd.underlying3
    obtain ⟨nd, e1, _⟩ := (h.field1 Tryd.underlying99 1 1 3 _ rfl rfl rfl (by kernel_rfl) v1 rfl).i64 Tryd.underlying3
    obtain ⟨sl, e2, _⟩ := (h.field1 Tryd.underlying99 2 2 3 _ rfl rfl rfl (by kernel_rfl) v2 rfl).i64 Tryd.underlying3
    have hp := h.field Tryd.underlying99 3 _ rfl
    rw [show Tryd.prog.cellsOf _ = 2 by kernel_rfl] at hp
    obtain ⟨own, e4⟩ := (h.field1 Tryd.underlying99 4 5 4 _ rfl rfl rfl (by kernel_rfl) v5 rfl).bool Tryd.underlying4
    have ha := h.field Tryd.underlying99 5 _ rfl
    rw [show Tryd.prog.cellsOf _ = 16 by kernel_rfl] at ha
    have hx := h.field Tryd.underlying99 6 _ rfl
    rw [show Tryd.prog.cellsOf _ = 10 by kernel_rfl] at hx
    obtain ⟨br, bn, e3, hbr, _⟩ := Cel.bal hp
    obtain ⟨a, e5, ra⟩ := Cel.ac ha
    obtain ⟨x, e6, rx⟩ := Cel.cm hx
    refine ⟨⟨kd, nd, sl, br, bn, own, a, x⟩, ?_, rx, ra, hbr⟩
    cases e0; cases e1; cases e2; cases e4
    have e3' : [v3, v4] = [.int .u32 (br : Int), .int .i64 bn] := e3
    have e5' : [b0, b1, b2, b3, b4, b5, b6, b7, b8, b9, b10, b11, b12, b13, b14, b15] = a.cells := e5
    have e6' : [c0, c1, c2, c3, c4, c5, c6, c7, c8, c9] = x.cells := e6
    show _ = [_, _, _, _, _, _] ++ (a.cells ++ x.cells)
    rw [← e5', ← e6']
    injection e3' with g1 g2
    injection g2 with g2 _
    rw [g1, g2]; rfl
theorem Arg.lop (h : Arg W 99 v) : ∃ o : LOp, v = .agg o.cells.toArray ∧ CmOk W W.heap.size o.x ∧ CmOk W W.heap.size o.a.c ∧ o.br < 4294967296 := by
  obtain ⟨⟨cs⟩, rfl, hc⟩ := h.struct Tryd.underlying99
  obtain ⟨x, hx, r⟩ := Cel.lop hc
  exact ⟨x, by rw [show cs = x.cells from hx], r⟩
end
theorem LOp.one (o : LOp) : o.cells.toArray.all (·.oneCell') = true := by simp [LOp.cells, Ac.cells, Cm.cells, Value.oneCell']
theorem cr_few (x : Cm) (w : World) (B0 : Nat) (hB : B0 ≤ w.heap.size) (ok : CmOk w B0 x) : Calls Tryd.prog 62 #[.agg x.cells.toArray] w fun e w' => (∃ r : Bool, e = .returned (.bool r)) ∧ Below w.heap.size w w' := rfew_any x.k x.s x.q x.rs x.ws x.A1 x.c1 x.A2 x.c2 x.i x.j x.g x.st x.y w B0 hB ok
set_option maxHeartbeats 3200000 in
theorem few19 (A : Option Addr) (c : Nat) (l : List LOp) (w : World) (B0 : Nat) (hB : B0 ≤ w.heap.size) (hc : l.length ≤ c) (hm : c ≤ maxLen) (hR : RowsAt w B0 A 32 (l.map LOp.cells)) (hL : ∀ o ∈ l, CmOk w B0 o.x ∧ CmOk w B0 o.a.c) :
    Calls Tryd.prog 40 #[.slice A l.length c] w fun e w' => (∃ r : Bool, e = .returned (.bool r)) ∧ Below w.heap.size w w' := by
  obtain ⟨n, hn⟩ : ∃ n, n = l.length := ⟨_, rfl⟩
  have HN := Lib.hid hn
  have HR := Lib.hid hR
  have HL := Lib.hid hL
  rw [← hn] at hc ⊢
  clear hn hR hL
  unfold maxLen at hm
  have ee : Below w.heap.size w w := Below.refl _ _
  go_enter Tryd.func40, Tryd.ntmps40
  go_wp2_with fail
  go_loopw [3] (fun i wr => ∃ k : Nat, k ≤ n ∧ i = .int .i64 (k : Int) ∧ Hid (Below w.heap.size w wr)) (fun i _ => n - (intOf i).toNat)
  case atStart => exact ⟨0, Nat.zero_le _, rfl, ee⟩
  case round =>
    clear ee
    obtain ⟨k, hk, rfl, ee⟩ := hrel
    have ee := ee.out
    by_cases hlt : k < n
    · by_cases h100 : k < 100
      · have hkl : k < l.length := by rw [← HN.out]; exact hlt
        obtain ⟨bo, off, rfl, hbo, hr⟩ := rowsGet HR.out hkl
        have HX := Lib.hid (HL.out _ (List.getElem_mem hkl))
        generalize l[k] = o at hr HX
        have hr2 := rangePart hr (LOp.cx o)
        have hr3 := rangePart hr (LOp.cac o)
        go_upto_region 4 with fail
        refine wp_region_lit ?_
        iterate 27 (first | with_reducible refine isLoad (ty := 37) rfl ?_ | go_step)
        refine wpList_load_mid rfl 37 _ rfl (bo) (off + k * 32 + 22) rfl (o.x.cells) _ (rangeB hr2 ee (Nat.lt_of_lt_of_le hbo hB)) Tryd.underlying37 rfl sizeCm ?_
        go_wp2_with fail
        refine (cr_few o.x wr B0 (Nat.le_trans hB ee.size) (HX.out.1.below ee hB)).mono ?_
        rintro e z1 ⟨⟨r, rfl⟩, t⟩
        have ee := ee.trans (t.mono ee.size)
        clear t
        cases r with
        | false =>
          dsimp only
          rename_i hK
          refine hK _ _ ?_
          clear hK
          go_wp2_with fail
          go_ret
          exact ⟨⟨_, rfl⟩, ee⟩
        | true =>
          dsimp only
          rename_i hK
          refine hK _ _ ?_
          clear hK
          iterate 36 (first | with_reducible refine isLoad (ty := 37) rfl ?_ | go_step)
          refine wpList_load_g (by rfl) 37 _ rfl (bo) (off + k * 32 + 12) rfl (o.a.c.cells) _ (rangeB hr3 ee (Nat.lt_of_lt_of_le hbo hB)) Tryd.underlying37 rfl sizeCm ?_
          go_wp2_with fail
          refine (cr_few o.a.c z1 B0 (Nat.le_trans hB ee.size) (HX.out.2.below ee hB)).mono ?_
          rintro e z2 ⟨⟨r, rfl⟩, t⟩
          have ee := ee.trans (t.mono ee.size)
          clear t
          cases r with
          | false =>
            dsimp only
            rename_i hK
            refine hK _ _ ?_
            clear hK
            go_wp2_with fail
            go_ret
            exact ⟨⟨_, rfl⟩, ee⟩
          | true =>
            dsimp only
            rename_i hK
            refine hK _ _ ?_
            clear hK
            go_wp2_with fail
            go_roundw
            case rel => exact ⟨k + 1, by omega, by go_num, ee⟩
            case measure => simp [intOf]; omega
      · go_wp2_with fail
        go_ret
        exact ⟨⟨_, rfl⟩, ee⟩
    · go_wp2_with fail
      go_ret
      exact ⟨⟨_, rfl⟩, ee⟩
end Go.Proofs.YtbahooohkigcnaaDoor

namespace Go.Proofs.YtbahooohkigcnaaDoor
set_option maxRecDepth 20001
open Go.RowKit T
set_option linter.unusedSimpArgs false
set_option linter.unusedVariables false

namespace T
def Ld.votes (L : Ld) (k : Int) (r : Nat) (n s : Int) : Bool := decide (r = L.br ∧ n = L.bn) && !decide (L.sl = 0) && decide (s = L.sl) && decide (0 ≤ k) && decide (k < L.n) && !Q.hasB L.vt k
def Ld.vote (L : Ld) (k : Int) (r : Nat) (n s : Int) : Ld := bif L.votes k r n s then { L with vt := Q.addN L.vt k } else L
def Ld.dones (L : Ld) : Bool := !decide (L.sl = 0) && Q.majB L.vt L.n
def Ld.done (L : Ld) : Ld := bif L.dones then { L with fs := L.sl + 1, sl := 0, x := Cm.zero, l := [], A := none, c := 0 } else L
end T
theorem run_neBal (r : Nat) (n : Int) (r' : Nat) (n' : Int) (w : World) :
    (binOp .neq 28 (.agg #[.int .u32 r, .int .i64 n]) (.agg #[.int .u32 r', .int .i64 n'])).run Tryd.prog w = .ok (.bool (!decide (r = r' ∧ n = n'))) w := by
  rw [run_neq_struct, show (10000 : Nat) = 9998 + 2 from rfl, B.eqBal]; rfl
section
variable (w : World) (h : Nat) (L : Ld)
set_option maxHeartbeats 1600000 in
theorem lleads (hL : LdAt w h L) (hp : L.pr < 18446744073709551616) : Calls Tryd.prog 47 #[.pointer (some ⟨h, 0, none⟩)] w fun e w' => e = .returned (.bool (Q.majB L.pr L.n)) ∧ ∃ m, w' = w.drewN m := by
  have c0 := rowCell hL 0 rfl
  have c4 := rowCell hL 4 rfl
  have HQ := Lib.hid (Ld.leads_q L.pr L.n hp w)
  clear hL hp
  go_enter Tryd.func47, Tryd.ntmps47
  go_wp2_with fail
  go_quiet ((go_at_call 82; exact HQ.out _))
  go_wp2_with fail
  go_ret
  exact ⟨rfl, _, rfl⟩
end
section
variable (w : World) (h : Nat) (L : Ld)
set_option maxHeartbeats 3200000 in
theorem ldone (hL : LdAt w h L) (hv : L.vt < 18446744073709551616) (h1 : 0 ≤ L.sl) (h2 : L.sl ≤ 1000000) : Calls Tryd.prog 39 #[.pointer (some ⟨h, 0, none⟩)] w fun e w' => e = .returned (.bool L.dones) ∧ LdAt w' h L.done ∧ w.grownBy w' (some h) := by
  have HQ := Lib.hid (Ld.leads_q L.vt L.n hv w)
  have HD : Hid (L.done = bif L.dones then { L with fs := L.sl + 1, sl := 0, x := Cm.zero, l := [], A := none, c := 0 } else L) := rfl
  have HE : Hid (L.dones = (!decide (L.sl = 0) && Q.majB L.vt L.n)) := rfl
  generalize L.done = Ln at HD ⊢
  generalize L.dones = b at HD HE ⊢
  by_cases h0 : L.sl = 0
  · have hb : b = false := by rw [HE.out, decide_eq_true h0]; rfl
    subst hb
    have hl : Ln = L := HD.out
    have c7 := rowCell hL 7 (v := .int .i64 0) (by rw [← h0]; rfl)
    have HL := Lib.hid hL
    clear hL HQ HE HD hv h0 h1 h2
    go_enter Tryd.func39, Tryd.ntmps39
    go_wp2_with fail
    go_quiet (fail)
    go_wp2_with fail
    go_ret
    rw [hl]
    exact ⟨rfl, HL.out, lgDrewN (lgRefl _ _) _⟩
  · have c7 := rowCell hL 7 rfl
    have c0 := rowCell hL 0 rfl
    have cv := rowCell hL 18 rfl
    have e7 : (L.sl == 0) = false := by simp; exact h0
    have HL := Lib.hid hL
    have kw : IntKind.i64.wrap (L.sl + 1) = L.sl + 1 := by rw [IntKind.wrap_i64]; omega
    have HE2 : Hid (b = Q.majB L.vt L.n) := by show _ = _; rw [HE.out, decide_eq_false h0]; rfl
    clear HE hv h0 h1 h2
    generalize Q.majB L.vt L.n = m at HQ HE2
    have hbm : b = m := HE2.out
    subst hbm
    clear HE2
    cases b with
    | false =>
      have hl : Ln = L := HD.out
      clear hL HD kw
      go_enter Tryd.func39, Tryd.ntmps39
      go_wp2_with fail
      go_quiet ((go_at_call 82; exact HQ.out _))
      go_wp2_with fail
      go_ret
      rw [hl]
      exact ⟨rfl, HL.out, lgDrewN (lgRefl _ _) _⟩
    | true =>
      have hl : Hid (Ln = { L with fs := L.sl + 1, sl := 0, x := Cm.zero, l := [], A := none, c := 0 }) := HD.out
      have Zl : w.heap[h]? = some (.cells L.cells.toArray 144) := hL
      have ee := lgRefl w h
      clear hL HD HL
      go_enter Tryd.func39, Tryd.ntmps39
      go_wp2_with fail
      go_quiet ((go_at_call 82; exact HQ.out _))
      clear c7 c0 cv e7
      have Zl : (w.drewN nq).heap[h]? = some (.cells L.cells.toArray 144) := Zl
      have ee := lgDrewN ee nq
      generalize w.drewN nq = z1 at Zl ee ⊢
      go_upto_region 3 with fail
      refine wp_region_lit ?_
      have c7 := rowCell Zl 7 rfl
      iterate 40 (first | with_reducible refine isStore (ty := 3) rfl ?_ | go_step)
      have f_ : z1.frozen? ⟨h, 6, none⟩ = false := freeAt Zl 6
      have c_ := rowCell Zl 6 rfl
      iterate 3 go_step
      clear f_ c_
      have N_ : (z1.setCells (h) 6 ([.int .i64 (L.sl + 1)])).heap[h]? = some (.cells ([.int .i64 L.n, .int .i64 L.nd, .int .u32 (L.br : Int), .int .i64 L.bn, .int .u64 (L.pr : Int), .slice L.A L.l.length L.c, .int .i64 (L.sl + 1), .int .i64 L.sl, .int .i64 L.x.k, .int .i64 L.x.s, .int .i64 L.x.q, .slice L.x.A1 L.x.rs.length L.x.c1, .slice L.x.A2 L.x.ws.length L.x.c2, .int .i64 L.x.i, .int .i64 L.x.j, .int .i64 L.x.g, .int .u64 (L.x.st : Int), .bool L.x.y, .int .u64 (L.vt : Int)]).toArray 144) := hpC ([.int .i64 (L.sl + 1)]) 6 _ z1 Zl
      have ee := lgCells (k := h) (by omega) ([.int .i64 (L.sl + 1)]) 6 z1 ee
      clear Zl
      have Zl := N_
      clear N_
      change wpList _ _ _ _ _ (z1.setCells (h) 6 ([.int .i64 (L.sl + 1)]))
      generalize z1.setCells (h) 6 ([.int .i64 (L.sl + 1)]) = z2 at Zl ee ⊢
      clear c7 kw
      iterate 40 (first | with_reducible refine isStore (ty := 3) rfl ?_ | go_step)
      have f_ : z2.frozen? ⟨h, 7, none⟩ = false := freeAt Zl 7
      have c_ := rowCell Zl 7 rfl
      iterate 3 go_step
      clear f_ c_
      have N_ : (z2.setCells (h) 7 ([.int .i64 0])).heap[h]? = some (.cells ([.int .i64 L.n, .int .i64 L.nd, .int .u32 (L.br : Int), .int .i64 L.bn, .int .u64 (L.pr : Int), .slice L.A L.l.length L.c, .int .i64 (L.sl + 1), .int .i64 0, .int .i64 L.x.k, .int .i64 L.x.s, .int .i64 L.x.q, .slice L.x.A1 L.x.rs.length L.x.c1, .slice L.x.A2 L.x.ws.length L.x.c2, .int .i64 L.x.i, .int .i64 L.x.j, .int .i64 L.x.g, .int .u64 (L.x.st : Int), .bool L.x.y, .int .u64 (L.vt : Int)]).toArray 144) := hpC ([.int .i64 0]) 7 _ z2 Zl
      have ee := lgCells (k := h) (by omega) ([.int .i64 0]) 7 z2 ee
      clear Zl
      have Zl := N_
      clear N_
      change wpList _ _ _ _ _ (z2.setCells (h) 7 ([.int .i64 0]))
      generalize z2.setCells (h) 7 ([.int .i64 0]) = z3 at Zl ee ⊢
      iterate 40 (first | with_reducible refine isStore (ty := 37) rfl ?_ | go_step)
      refine wpList_store_mid rfl 37 _ _ rfl (h) 8 (Cm.zero.cells).toArray rfl rfl (rowThere Zl (by simp [T.Ld.cells, T.Cm.cells])) sizeCm (Cm.one _) ?_
      have N_ : (z3.setCells (h) 8 (Cm.zero.cells)).heap[h]? = some (.cells ([.int .i64 L.n, .int .i64 L.nd, .int .u32 (L.br : Int), .int .i64 L.bn, .int .u64 (L.pr : Int), .slice L.A L.l.length L.c, .int .i64 (L.sl + 1), .int .i64 0, .int .i64 0, .int .i64 0, .int .i64 0, .slice none 0 0, .slice none 0 0, .int .i64 0, .int .i64 0, .int .i64 0, .int .u64 0, .bool false, .int .u64 (L.vt : Int)]).toArray 144) := hpC (Cm.zero.cells) 8 _ z3 Zl
      have ee := lgCells (k := h) (by omega) (Cm.zero.cells) 8 z3 ee
      clear Zl
      have Zl := N_
      clear N_
      change wpList _ _ _ _ _ (z3.setCells (h) 8 (Cm.zero.cells))
      generalize z3.setCells (h) 8 (Cm.zero.cells) = z4 at Zl ee ⊢
      iterate 40 (first | with_reducible refine isStore (ty := 22) rfl ?_ | go_step)
      have f_ : z4.frozen? ⟨h, 5, none⟩ = false := freeAt Zl 5
      have c_ := rowCell Zl 5 rfl
      iterate 3 go_step
      clear f_ c_
      have N_ : (z4.setCells (h) 5 ([.slice none 0 0])).heap[h]? = some (.cells ([.int .i64 L.n, .int .i64 L.nd, .int .u32 (L.br : Int), .int .i64 L.bn, .int .u64 (L.pr : Int), .slice none 0 0, .int .i64 (L.sl + 1), .int .i64 0, .int .i64 0, .int .i64 0, .int .i64 0, .slice none 0 0, .slice none 0 0, .int .i64 0, .int .i64 0, .int .i64 0, .int .u64 0, .bool false, .int .u64 (L.vt : Int)]).toArray 144) := hpC ([.slice none 0 0]) 5 _ z4 Zl
      have ee := lgCells (k := h) (by omega) ([.slice none 0 0]) 5 z4 ee
      clear Zl
      have Zl := N_
      clear N_
      change wpList _ _ _ _ _ (z4.setCells (h) 5 ([.slice none 0 0]))
      generalize z4.setCells (h) 5 ([.slice none 0 0]) = z5 at Zl ee ⊢
      go_wp2_with fail
      go_ret
      rw [hl.out]
      exact ⟨rfl, Zl, ee⟩
end
section
variable (w : World) (h : Nat) (L : Ld) (k : Int) (r : Nat) (n s : Int)
set_option maxHeartbeats 6400000 in
theorem lvote_no (hL : LdAt w h L) (hv : L.vt < 18446744073709551616) (hf : L.votes k r n s = false) : Calls Tryd.prog 38 #[.pointer (some ⟨h, 0, none⟩), .int .i64 k, bal r n, .int .i64 s] w fun e w' => e = .returned (.bool false) ∧ Below w.heap.size w w' := by
  have hlt : h < w.heap.size := (Array.getElem?_eq_some_iff.1 hL).1
  have HQ := Lib.hid (fun z => Ld.has_q L.vt k hv z)
  have hI := run_neBal r n L.br L.bn
  have HF : Hid ((decide (r = L.br ∧ n = L.bn) && !decide (L.sl = 0) && decide (s = L.sl) && decide (0 ≤ k) && decide (k < L.n) && !Q.hasB L.vt k) = false) := hf
  obtain ⟨w0, hw0⟩ : ∃ w0, w0 = w.alloc (.cells [.int .u32 (r : Int), .int .i64 n].toArray 28) := ⟨_, rfl⟩
  have ee : Below w.heap.size w w0 := by rw [hw0]; exact (Below.refl _ _).alloc (Nat.le_refl _) _
  have Zl : w0.heap[h]? = some (.cells L.cells.toArray 144) := by rw [hw0]; exact hpA hL _
  have Zb : w0.heap[w.heap.size]? = some (.cells [.int .u32 (r : Int), .int .i64 n].toArray 28) := by rw [hw0]; exact hpN _ _ rfl
  have c0 := rowCell Zl 0 rfl
  have c2 := rowCell Zl 2 rfl
  have c3 := rowCell Zl 3 rfl
  have c7 := rowCell Zl 7 rfl
  have cv := rowCell Zl 18 rfl
  have b0 := rowCell Zb 0 rfl
  have b1 := rowCell Zb 1 rfl
  have HQ := Lib.hid (HQ.out w0)
  clear hL hv hf Zl Zb hlt
  go_enter Tryd.func38, Tryd.ntmps38
  go_upto_region 1 with fail
  change Code.wp _ _ _ _ (w.alloc (.cells [.int .u32 (r : Int), .int .i64 n].toArray 28))
  rw [← hw0]
  clear hw0
  by_cases h1 : r = L.br ∧ n = L.bn
  · rw [decide_eq_true h1] at hI
    by_cases h2 : L.sl = 0
    · rw [h2] at c7
      clear HQ HF h1
      go_quiet (fail)
      go_wp2_with fail
      go_ret
      exact ⟨rfl, belowDrewN ee _⟩
    · have e2 : (L.sl == 0) = false := by simp; exact h2
      by_cases h3 : s = L.sl
      · have e3 : (s != L.sl) = false := by simp; exact h3
        by_cases h4 : 0 ≤ k
        · have e4 : decide (k < 0) = false := decide_eq_false (by omega)
          by_cases h5 : k < L.n
          · have e5 : decide (L.n ≤ k) = false := decide_eq_false (by omega)
            have h6 : Q.hasB L.vt k = true := by
              have := HF.out
              simpa [h1, h2, h3, h4, h5] using this
            rw [h6] at HQ
            clear HF h1 h2 h3 h4 h5 h6
            go_quiet ((go_at_call 80; exact HQ.out _))
            go_wp2_with fail
            go_ret
            exact ⟨rfl, belowDrewN ee _⟩
          · have e5 : decide (L.n ≤ k) = true := decide_eq_true (by omega)
            clear HQ HF h1 h2 h3 h4 h5
            go_quiet (fail)
            go_wp2_with fail
            go_ret
            exact ⟨rfl, belowDrewN ee _⟩
        · have e4 : decide (k < 0) = true := decide_eq_true (by omega)
          clear HQ HF h1 h2 h3 h4
          go_quiet (fail)
          go_wp2_with fail
          go_ret
          exact ⟨rfl, belowDrewN ee _⟩
      · have e3 : (s != L.sl) = true := by simp; exact h3
        clear HQ HF h1 h2 h3
        go_quiet (fail)
        go_wp2_with fail
        go_ret
        exact ⟨rfl, belowDrewN ee _⟩
  · rw [decide_eq_false h1] at hI
    clear HQ HF h1
    go_quiet (fail)
    go_wp2_with fail
    go_ret
    exact ⟨rfl, belowDrewN ee _⟩
set_option maxHeartbeats 6400000 in
theorem lvote_yes (hL : LdAt w h L) (hv : L.vt < 18446744073709551616) (hf : L.votes k r n s = true) : Calls Tryd.prog 38 #[.pointer (some ⟨h, 0, none⟩), .int .i64 k, bal r n, .int .i64 s] w fun e w' => e = .returned (.bool (!Q.majB L.vt L.n && Q.majB (Q.addN L.vt k) L.n)) ∧ LdAt w' h (L.vote k r n s) ∧ w.grownBy w' (some h) := by
  have hlt : h < w.heap.size := (Array.getElem?_eq_some_iff.1 hL).1
  have HQ := Lib.hid (fun z => Ld.has_q L.vt k hv z)
  have HM := Lib.hid (fun z => Ld.leads_q L.vt L.n hv z)
  have HM2 := Lib.hid (fun z => Ld.leads_q (Q.addN L.vt k) L.n (Q.add_lt _ _ hv) z)
  have HA := Lib.hid (fun z => add_any L.vt k z hv)
  have hI := run_neBal r n L.br L.bn
  have HS : Hid (L.vote k r n s = { L with vt := Q.addN L.vt k }) := by show _ = _; unfold Ld.vote; rw [hf]; rfl
  obtain ⟨⟨⟨⟨⟨h1, h2⟩, h3⟩, h4⟩, h5⟩, h6⟩ : ((((decide (r = L.br ∧ n = L.bn) = true ∧ (!decide (L.sl = 0)) = true) ∧ decide (s = L.sl) = true) ∧ decide (0 ≤ k) = true) ∧ decide (k < L.n) = true) ∧ (!Q.hasB L.vt k) = true := by
    simpa only [Ld.votes, Bool.and_eq_true] using hf
  rw [h1] at hI
  rw [Bool.not_eq_true'] at h2 h6
  rw [h6] at HQ
  have e2 : (L.sl == 0) = false := by have := of_decide_eq_false h2; simp; exact this
  have e3 : (s != L.sl) = false := by have := of_decide_eq_true h3; simp; exact this
  have e4 : decide (k < 0) = false := decide_eq_false (by have := of_decide_eq_true h4; omega)
  have e5 : decide (L.n ≤ k) = false := decide_eq_false (by have := of_decide_eq_true h5; omega)
  clear h1 h2 h3 h4 h5 h6 hf hv
  generalize L.vote k r n s = Ln at HS ⊢
  obtain ⟨R, hR⟩ : ∃ R, R = (!Q.majB L.vt L.n && Q.majB (Q.addN L.vt k) L.n) := ⟨_, rfl⟩
  rw [← hR]
  have HR := Lib.hid hR
  clear hR
  obtain ⟨w0, hw0⟩ : ∃ w0, w0 = w.alloc (.cells [.int .u32 (r : Int), .int .i64 n].toArray 28) := ⟨_, rfl⟩
  have ee : w.grownBy w0 (some h) := by rw [hw0]; exact lgAlloc (lgRefl _ _) _
  have Zl : w0.heap[h]? = some (.cells L.cells.toArray 144) := by rw [hw0]; exact hpA hL _
  have Zb : w0.heap[w.heap.size]? = some (.cells [.int .u32 (r : Int), .int .i64 n].toArray 28) := by rw [hw0]; exact hpN _ _ rfl
  have c0 := rowCell Zl 0 rfl
  have c2 := rowCell Zl 2 rfl
  have c3 := rowCell Zl 3 rfl
  have c7 := rowCell Zl 7 rfl
  have cv := rowCell Zl 18 rfl
  have b0 := rowCell Zb 0 rfl
  have b1 := rowCell Zb 1 rfl
  have HQ := Lib.hid (HQ.out w0)
  clear hL hlt Zb
  go_enter Tryd.func38, Tryd.ntmps38
  go_upto_region 1 with fail
  change Code.wp _ _ _ _ (w.alloc (.cells [.int .u32 (r : Int), .int .i64 n].toArray 28))
  rw [← hw0]
  clear hw0
  go_quiet ((go_at_call 80; exact HQ.out _))
  clear c0 c2 c3 c7 cv b0 b1 hI e2 e3 e4 e5 HQ
  have Zl : (w0.drewN nq).heap[h]? = some (.cells L.cells.toArray 144) := Zl
  have ee := lgDrewN ee nq
  generalize w0.drewN nq = z1 at Zl ee ⊢
  go_upto_region 3 with fail
  have c0 := rowCell Zl 0 rfl
  have cv := rowCell Zl 18 rfl
  have HM := Lib.hid (HM.out z1)
  generalize Q.majB L.vt L.n = m1 at HM HR ⊢
  go_quiet ((go_at_call 82; exact HM.out _))
  clear c0 cv HM
  have Zl : (z1.drewN nq).heap[h]? = some (.cells L.cells.toArray 144) := Zl
  have ee := lgDrewN ee nq
  generalize z1.drewN nq = z2 at Zl ee ⊢
  go_upto_region 4 with fail
  refine wp_region_lit ?_
  have cv := rowCell Zl 18 rfl
  go_wp2_with fail
  refine (HA.out z2).mono ?_
  rintro e z3 ⟨rfl, hw_⟩
  rw [← hw_]
  clear hw_ z3 HA cv
  dsimp only
  rename_i hK
  refine hK _ _ ?_
  clear hK
  iterate 40 (first | with_reducible refine isStore (ty := 35) rfl ?_ | go_step)
  have f_ : z2.frozen? ⟨h, 18, none⟩ = false := freeAt Zl 18
  have c_ := rowCell Zl 18 rfl
  iterate 3 go_step
  clear f_ c_
  have N_ : (z2.setCells (h) 18 ([.int .u64 (Q.addN L.vt k : Int)])).heap[h]? = some (.cells ([.int .i64 L.n, .int .i64 L.nd, .int .u32 (L.br : Int), .int .i64 L.bn, .int .u64 (L.pr : Int), .slice L.A L.l.length L.c, .int .i64 L.fs, .int .i64 L.sl, .int .i64 L.x.k, .int .i64 L.x.s, .int .i64 L.x.q, .slice L.x.A1 L.x.rs.length L.x.c1, .slice L.x.A2 L.x.ws.length L.x.c2, .int .i64 L.x.i, .int .i64 L.x.j, .int .i64 L.x.g, .int .u64 (L.x.st : Int), .bool L.x.y, .int .u64 (Q.addN L.vt k : Int)]).toArray 144) := hpC ([.int .u64 (Q.addN L.vt k : Int)]) 18 _ z2 Zl
  have ee := lgCells (k := h) (by omega) ([.int .u64 (Q.addN L.vt k : Int)]) 18 z2 ee
  clear Zl
  have Zl := N_
  clear N_
  change wpList _ _ _ _ _ (z2.setCells (h) 18 ([.int .u64 (Q.addN L.vt k : Int)]))
  generalize z2.setCells (h) 18 ([.int .u64 (Q.addN L.vt k : Int)]) = z4 at Zl ee ⊢
  generalize Q.addN L.vt k = vt2 at HM2 HS HR Zl ⊢
  cases m1 with
  | true =>
    go_upto_region 5 with fail
    go_quiet (fail)
    go_wp2_with fail
    go_ret
    rw [HS.out, HR.out]
    exact ⟨rfl, Zl, lgDrewN ee _⟩
  | false =>
    go_upto_region 5 with fail
    have c0 := rowCell Zl 0 rfl
    have cv := rowCell Zl 18 rfl
    have HM := Lib.hid (HM2.out z4)
    go_quiet ((go_at_call 82; exact HM.out _))
    go_wp2_with fail
    go_ret
    rw [HS.out, HR.out]
    exact ⟨rfl, Zl, lgDrewN ee _⟩
end
end Go.Proofs.YtbahooohkigcnaaDoor

namespace Go.Proofs.YtbahooohkigcnaaDoor
set_option maxRecDepth 20001
open Go.RowKit T
set_option linter.unusedSimpArgs false
set_option linter.unusedVariables false
namespace T
def Ac.bless (a b : Ac) : Bool := B.less a.vr a.vn b.vr b.vn
/-- the greatest slot -/
def topOf : List Ac → Int
  | [] => 0
  | a :: t => t.foldl (fun m b => if m < b.sl then b.sl else m) a.sl
def takes (u : Int) (o a : Ac) : Bool := decide (a.sl = u) && a.ha && (!o.ha || o.bless a)
/-- the one with the greatest vote in the slot u -/
def best (u : Int) (l : List Ac) : Ac := l.foldl (fun o a => bif takes u o a then a else o) Ac.zero
end T
theorem topOf_snoc (l : List Ac) (b : Ac) : topOf (l ++ [b]) = if l = [] then b.sl else if topOf l < b.sl then b.sl else topOf l := by
  cases l with
  | nil => rfl
  | cons a t =>
    show (t ++ [b]).foldl _ a.sl = _
    rw [List.foldl_append, if_neg (by simp)]
    rfl
theorem best_snoc (u : Int) (l : List Ac) (a : Ac) : best u (l ++ [a]) = bif takes u (best u l) a then a else best u l := by
  unfold best
  rw [List.foldl_append]
  rfl
theorem best_nil (u : Int) : best u [] = Ac.zero := rfl
theorem topOf_max (t : List Ac) (m : Int) : (m ≤ t.foldl (fun m b => if m < b.sl then b.sl else m) m ∧ ∀ x ∈ t, x.sl ≤ t.foldl (fun m b => if m < b.sl then b.sl else m) m) ∧ (t.foldl (fun m b => if m < b.sl then b.sl else m) m = m ∨ ∃ x ∈ t, t.foldl (fun m b => if m < b.sl then b.sl else m) m = x.sl) := by
  induction t generalizing m with
  | nil => exact ⟨⟨Int.le_refl _, by simp⟩, Or.inl rfl⟩
  | cons a t ih =>
    simp only [List.foldl_cons]
    obtain ⟨⟨h1, h2⟩, h3⟩ := ih (if m < a.sl then a.sl else m)
    generalize t.foldl (fun m b => if m < b.sl then b.sl else m) (if m < a.sl then a.sl else m) = r at *
    by_cases hl : m < a.sl
    · rw [if_pos hl] at h1 h3
      refine ⟨⟨by omega, fun x hx => ?_⟩, ?_⟩
      · rcases List.mem_cons.1 hx with rfl | hx
        · exact h1
        · exact h2 x hx
      · rcases h3 with h3 | ⟨x, hx, h3⟩
        · exact Or.inr ⟨a, by simp, h3⟩
        · exact Or.inr ⟨x, by simp [hx], h3⟩
    · rw [if_neg hl] at h1 h3
      refine ⟨⟨h1, fun x hx => ?_⟩, ?_⟩
      · rcases List.mem_cons.1 hx with rfl | hx
        · omega
        · exact h2 x hx
      · rcases h3 with h3 | ⟨x, hx, h3⟩
        · exact Or.inl h3
        · exact Or.inr ⟨x, by simp [hx], h3⟩
theorem topOf_ge (l : List Ac) : ∀ x ∈ l, x.sl ≤ topOf l := by
  cases l with
  | nil => simp
  | cons a t =>
    intro x hx
    rcases List.mem_cons.1 hx with rfl | hx
    · exact (topOf_max t _).1.1
    · exact (topOf_max t _).1.2 x hx
theorem topOf_mem (l : List Ac) (h : l ≠ []) : ∃ x ∈ l, topOf l = x.sl := by
  cases l with
  | nil => exact absurd rfl h
  | cons a t =>
    rcases (topOf_max t a.sl).2 with h3 | ⟨x, hx, h3⟩
    · exact ⟨a, by simp, h3⟩
    · exact ⟨x, by simp [hx], h3⟩
theorem top_iff (l : List Ac) (x : Ac) (hx : x ∈ l) : (∀ y ∈ l, y.sl ≤ x.sl) ↔ x.sl = topOf l := by
  constructor
  · intro h
    obtain ⟨y, hy, he⟩ := topOf_mem l (fun e => by subst e; simp at hx)
    have h1 := topOf_ge l x hx
    have h2 := h y hy
    omega
  · intro h y hy
    rw [h]; exact topOf_ge l y hy
/-- the reference's state behind k acceptors -/
def PickAt (u : Int) (l : List Ac) (k : Nat) (bi : Int) : Prop :=
  (bi = -1 ∧ best u (l.take k) = Ac.zero) ∨ ∃ j : Nat, bi = (j : Int) ∧ l[j]? = some (best u (l.take k)) ∧ (best u (l.take k)).ha = true
theorem PickAt.zero (u : Int) (l : List Ac) : PickAt u l 0 (-1) := Or.inl ⟨rfl, rfl⟩
theorem PickAt.keep {u : Int} {l : List Ac} {k : Nat} {bi : Int} (h : PickAt u l k bi) (hk : k < l.length) (hn : takes u (best u (l.take k)) l[k] = false) : PickAt u l (k + 1) bi := by
  have e : best u (l.take (k + 1)) = best u (l.take k) := by rw [List.take_succ_eq_append_getElem hk, best_snoc, hn]; rfl
  unfold PickAt at *
  rw [e]; exact h
theorem PickAt.take {u : Int} {l : List Ac} {k : Nat} {bi : Int} (h : PickAt u l k bi) (hk : k < l.length) (hn : takes u (best u (l.take k)) l[k] = true) : PickAt u l (k + 1) (k : Int) := by
  have e : best u (l.take (k + 1)) = l[k] := by rw [List.take_succ_eq_append_getElem hk, best_snoc, hn]; rfl
  refine Or.inr ⟨k, rfl, by rw [e]; exact List.getElem?_eq_getElem hk, ?_⟩
  rw [e]
  unfold takes at hn
  cases hh : l[k].ha with
  | true => rfl
  | false => rw [hh] at hn; simp at hn
/-- the cells of a list of acceptors -/
def acCells (l : List Ac) : List Value := l.flatMap Ac.cells
theorem acCells_len (l : List Ac) : (acCells l).length = l.length * 16 := by
  induction l with
  | nil => rfl
  | cons a l ih => simp only [acCells, List.flatMap_cons, List.length_append, Ac.cells_len, List.length_cons] at ih ⊢; omega
theorem acCells_snoc (l : List Ac) (a : Ac) : acCells (l ++ [a]) = acCells l ++ a.cells := by simp [acCells]
theorem acCells_at (l : List Ac) (i : Nat) (a : Ac) (h : l[i]? = some a) (j : Nat) (v : Value) (hv : a.cells[j]? = some v) : (acCells l)[i * 16 + j]? = some v := by
  induction l generalizing i with
  | nil => simp at h
  | cons x l ih =>
    have e : acCells (x :: l) = x.cells ++ acCells l := by simp [acCells]
    have hj : j < 16 := by have := (List.getElem?_eq_some_iff.1 hv).1; rwa [Ac.cells_len] at this
    rw [e]
    cases i with
    | zero =>
      simp at h; subst h
      rw [Nat.zero_mul, Nat.zero_add, List.getElem?_append_left (by rw [Ac.cells_len]; exact hj)]
      exact hv
    | succ i =>
      rw [List.getElem?_append_right (by rw [Ac.cells_len]; omega), Ac.cells_len, show (i + 1) * 16 + j - 16 = i * 16 + j by omega]
      exact ih i (by simpa using h)
theorem acOwn {w : World} {base e : Nat} {v : Value} {l : List Ac} (h : w.ownsRow base e 16 v l.length (acCells l)) : ∃ (A : Option Addr) (c : Nat), v = .slice A l.length c ∧ l.length ≤ c ∧ RowsAt w w.heap.size A 16 (l.map Ac.cells) := by
  rcases h.2 with ⟨hv, h0⟩ | ⟨g, cap, cur, hv, _, hg, hle, _⟩
  · refine ⟨none, 0, by rw [hv, h0], by omega, fun i cs hi => ?_⟩
    have := (List.getElem?_eq_some_iff.1 hi).1
    rw [List.length_map] at this; omega
  · subst hv
    refine ⟨_, cap, rfl, hle, fun i cs hi => ?_⟩
    rw [List.getElem?_map] at hi
    obtain ⟨a, ha, rfl⟩ := Option.map_eq_some_iff.1 hi
    refine ⟨g, 0, rfl, (Array.getElem?_eq_some_iff.1 hg).1, fun j v hv => ?_⟩
    have c1 := h.cells (g := g) rfl _ _ (acCells_at l i a ha j v hv)
    rw [Addr.add_lit] at c1
    simpa [Nat.add_assoc] using c1
theorem bestOk (w : World) (l : List Ac) (h : ∀ a ∈ l, CmOk w w.heap.size a.c) (u : Int) (o : Ac) (ho : CmOk w w.heap.size o.c) : CmOk w w.heap.size (l.foldl (fun o a => bif takes u o a then a else o) o).c := by
  induction l generalizing o with
  | nil => exact ho
  | cons a t ih =>
    simp only [List.foldl_cons]
    refine ih (fun x hx => h x (by simp [hx])) _ ?_
    cases takes u o a with
    | false => exact ho
    | true => exact h a (by simp)
theorem Ac.votes (a : Ac) : ∀ j v, ([.int .u32 (a.vr : Int), .int .i64 a.vn] : List Value)[j]? = some v → a.cells[4 + j]? = some v := fun j v h => by
  match j, h with
  | 0, h => exact h
  | 1, h => exact h
end Go.Proofs.YtbahooohkigcnaaDoor

namespace Go.Proofs.YtbahooohkigcnaaDoor
set_option maxRecDepth 20001
open Go.RowKit T
set_option linter.unusedSimpArgs false
set_option linter.unusedVariables false

set_option maxHeartbeats 6400000 in
theorem pick_any (A : Option Addr) (c : Nat) (l : List Ac) (w : World) (B0 : Nat) (hl : l.length ≤ 1000000) (hc : l.length ≤ c) (hR : RowsAt w B0 A 16 (l.map Ac.cells)) (hB : B0 ≤ w.heap.size) :
    Calls Tryd.prog 15 #[.slice A l.length c] w fun e w' => e = .returned (.tuple #[.agg (best (topOf l) l).c.cells.toArray, .bool (best (topOf l) l).ha]) ∧ Below w.heap.size w w' := by
  obtain ⟨n, hn⟩ : ∃ n, n = l.length := ⟨_, rfl⟩
  have HN := Lib.hid hn
  have HR := Lib.hid hR
  rw [← hn] at hc hl ⊢
  clear hn hR
  obtain ⟨w0, hw0⟩ : ∃ w0, w0 = w.alloc (.cells #[.int .i64 0, .int .i64 0, .int .i64 0, .slice none 0 0, .slice none 0 0, .int .i64 0, .int .i64 0, .int .i64 0, .int .u64 0, .bool false] 37) := ⟨_, rfl⟩
  have ee : Below w.heap.size w w0 := by rw [hw0]; exact (Below.refl _ _).alloc (Nat.le_refl _) _
  have Zr : w0.heap[w.heap.size]? = some (.cells #[.int .i64 0, .int .i64 0, .int .i64 0, .slice none 0 0, .slice none 0 0, .int .i64 0, .int .i64 0, .int .i64 0, .int .u64 0, .bool false] 37) := by rw [hw0]; exact hpN _ _ rfl
  go_enter Tryd.func15, Tryd.ntmps15
  go_upto_region 1 with fail
  rw [← hw0]
  clear hw0
  go_wp2_with fail
  go_loopw [4, 12] (fun t i wr => ∃ k : Nat, k ≤ n ∧ i = .int .i64 (k : Int) ∧ t = .int .i64 (topOf (l.take k)) ∧ Hid (wr.heap[w.heap.size]? = some (.cells #[.int .i64 0, .int .i64 0, .int .i64 0, .slice none 0 0, .slice none 0 0, .int .i64 0, .int .i64 0, .int .i64 0, .int .u64 0, .bool false] 37)) ∧ Hid (Below w.heap.size w wr)) (fun _ i _ => n - (intOf i).toNat)
  case atStart => exact ⟨0, Nat.zero_le _, rfl, rfl, Zr, ee⟩
  case round =>
    clear Zr ee
    obtain ⟨k, hk, rfl, rfl, Zr, ee⟩ := hrel
    have Zr := Zr.out
    have ee := ee.out
    by_cases hlt : k < n
    · have hkl : k < l.length := by rw [← HN.out]; exact hlt
      obtain ⟨bo, off, rfl, hbo, hr⟩ := rowsGet HR.out hkl
      have HK : Hid (l.take (k + 1) = l.take k ++ [l[k]'hkl]) := List.take_succ_eq_append_getElem hkl
      have HMEM : Hid (l[k]'hkl ∈ l) := List.getElem_mem hkl
      have hbo : bo < w.heap.size := Nat.lt_of_lt_of_le hbo hB
      generalize l[k] = x at hr HK HMEM
      have HT : Hid (topOf (l.take (k + 1)) = if l.take k = [] then x.sl else if topOf (l.take k) < x.sl then x.sl else topOf (l.take k)) := by
        show _ = _
        rw [HK.out]; exact topOf_snoc _ _
      have HE : Hid (l.take k = [] ↔ k = 0) := by
        constructor
        · intro h
          have h2 : (l.take k).length = 0 := by rw [h]; rfl
          rw [List.length_take] at h2; omega
        · intro h; rw [h]; rfl
      clear HK HMEM
      generalize topOf (l.take k) = u at HT ⊢
      go_upto_region 4 with fail
      refine wp_region_lit ?_
      iterate 27 (first | with_reducible refine isLoad (ty := 39) rfl ?_ | go_step)
      refine wpList_load_mid rfl 39 _ rfl (bo) (off + k * 16) rfl (x.cells) _ (rangeB hr ee hbo) Tryd.underlying39 rfl sizeAc ?_
      have e0s := ee.size
      iterate 3 go_step
      have lZr := (Array.getElem?_eq_some_iff.1 Zr).1
      have Zr := hpA Zr (.cells #[.int .u32 0, .int .i64 0, .int .i64 0, .bool false, .int .u32 0, .int .i64 0, .int .i64 0, .int .i64 0, .int .i64 0, .slice none 0 0, .slice none 0 0, .int .i64 0, .int .i64 0, .int .i64 0, .int .u64 0, .bool false] 39)
      have ee := ee.alloc ee.size (.cells #[.int .u32 0, .int .i64 0, .int .i64 0, .bool false, .int .u32 0, .int .i64 0, .int .i64 0, .int .i64 0, .int .i64 0, .slice none 0 0, .slice none 0 0, .int .i64 0, .int .i64 0, .int .i64 0, .int .u64 0, .bool false] 39)
      have Zi := hpN wr (.cells #[.int .u32 0, .int .i64 0, .int .i64 0, .bool false, .int .u32 0, .int .i64 0, .int .i64 0, .int .i64 0, .int .i64 0, .slice none 0 0, .slice none 0 0, .int .i64 0, .int .i64 0, .int .i64 0, .int .u64 0, .bool false] 39) rfl
      generalize wr.alloc (.cells #[.int .u32 0, .int .i64 0, .int .i64 0, .bool false, .int .u32 0, .int .i64 0, .int .i64 0, .int .i64 0, .int .i64 0, .slice none 0 0, .slice none 0 0, .int .i64 0, .int .i64 0, .int .i64 0, .int .u64 0, .bool false] 39) = z1 at Zr Zi ee ⊢
      iterate 27 (first | with_reducible refine isStore (ty := 39) rfl ?_ | go_step)
      refine wpList_store_row rfl 39 _ _ rfl (wr.heap.size) (x.cells).toArray rfl rfl 39 _ Zi sizeAc (by rfl) (Ac.one _) ?_
      have N_ := setRow_heap z1 (wr.heap.size) _ (x.cells).toArray _ _ Zi
      have ee := belowSet (cs := (x.cells).toArray) ee Zi (by omega)
      have Zr := hpR Zr (g' := wr.heap.size) (by omega) (x.cells).toArray
      clear Zi
      have Zi := N_
      clear N_
      generalize z1.setRow (wr.heap.size) (x.cells).toArray = z2 at Zr Zi ee ⊢
      have i2 := rowCell Zi 2 (v := .int .i64 x.sl) rfl
      clear Zi e0s
      by_cases hk0 : k = 0
      · have HT2 : Hid (topOf (l.take (k + 1)) = x.sl) := by show _ = _; rw [HT.out, if_pos (HE.out.2 hk0)]
        clear HT HE
        have hkb : ((k : Int) == 0) = true := by simp [hk0]
        clear hk0
        go_wp2_with fail
        go_roundw
        case rel => exact ⟨k + 1, by omega, by go_num, by rw [HT2.out], Zr, ee⟩
        case measure => simp [intOf]; omega
      · have hkb : ((k : Int) == 0) = false := by simp [hk0]
        by_cases hs : u < x.sl
        · have HT2 : Hid (topOf (l.take (k + 1)) = x.sl) := by show _ = _; rw [HT.out, if_neg (fun h => hk0 (HE.out.1 h)), if_pos hs]
          clear HT HE hk0
          have f1 : decide (u < x.sl) = true := by simpa using hs
          clear hs
          go_wp2_with fail
          go_roundw
          case rel => exact ⟨k + 1, by omega, by go_num, by rw [HT2.out], Zr, ee⟩
          case measure => simp [intOf]; omega
        · have HT2 : Hid (topOf (l.take (k + 1)) = u) := by show _ = _; rw [HT.out, if_neg (fun h => hk0 (HE.out.1 h)), if_neg hs]
          clear HT HE hk0
          have f1 : decide (u < x.sl) = false := by simpa using hs
          clear hs
          go_wp2_with fail
          go_roundw
          case rel => exact ⟨k + 1, by omega, by go_num, by rw [HT2.out], Zr, ee⟩
          case measure => simp [intOf]; omega
    · obtain rfl : k = n := by omega
      have htk : l.take k = l := by rw [HN.out]; exact List.take_length
      rw [htk]
      clear htk hlt
      obtain ⟨u, hu⟩ : ∃ u, u = topOf l := ⟨_, rfl⟩
      have HU : Hid (topOf l = u) := hu.symm
      rw [← hu]
      clear hu
      go_upto_region 8 with fail
      refine wp_region_lit ?_
      have e0s := ee.size
      iterate 3 go_step
      have lZr := (Array.getElem?_eq_some_iff.1 Zr).1
      have Zr := hpA Zr (.cells #[.int .u32 0, .int .i64 0, .int .i64 0, .bool false, .int .u32 0, .int .i64 0, .int .i64 0, .int .i64 0, .int .i64 0, .slice none 0 0, .slice none 0 0, .int .i64 0, .int .i64 0, .int .i64 0, .int .u64 0, .bool false] 39)
      have ee := ee.alloc ee.size (.cells #[.int .u32 0, .int .i64 0, .int .i64 0, .bool false, .int .u32 0, .int .i64 0, .int .i64 0, .int .i64 0, .int .i64 0, .slice none 0 0, .slice none 0 0, .int .i64 0, .int .i64 0, .int .i64 0, .int .u64 0, .bool false] 39)
      have Zb := hpN wr (.cells #[.int .u32 0, .int .i64 0, .int .i64 0, .bool false, .int .u32 0, .int .i64 0, .int .i64 0, .int .i64 0, .int .i64 0, .slice none 0 0, .slice none 0 0, .int .i64 0, .int .i64 0, .int .i64 0, .int .u64 0, .bool false] 39) rfl
      generalize wr.alloc (.cells #[.int .u32 0, .int .i64 0, .int .i64 0, .bool false, .int .u32 0, .int .i64 0, .int .i64 0, .int .i64 0, .int .i64 0, .slice none 0 0, .slice none 0 0, .int .i64 0, .int .i64 0, .int .i64 0, .int .u64 0, .bool false] 39) = z1 at Zr Zb ee ⊢
      obtain ⟨gb, hg_⟩ : ∃ g_, g_ = wr.heap.size := ⟨_, rfl⟩
      have lgb : w.heap.size < gb := by rw [hg_]; exact lZr
      rw [← hg_] at Zb ⊢
      clear hg_ lZr e0s
      go_wp2_with fail
      clear hk
      go_loopw [30] (fun i wr => ∃ m : Nat, m ≤ k ∧ i = .int .i64 (m : Int) ∧ Hid (wr.heap[w.heap.size]? = some (.cells #[.int .i64 0, .int .i64 0, .int .i64 0, .slice none 0 0, .slice none 0 0, .int .i64 0, .int .i64 0, .int .i64 0, .int .u64 0, .bool false] 37)) ∧ Hid (wr.heap[gb]? = some (.cells (best u (l.take m)).cells.toArray 39)) ∧ Hid (Below w.heap.size w wr)) (fun i _ => k - (intOf i).toNat)
      case atStart => exact ⟨0, Nat.zero_le _, rfl, Zr, Zb, ee⟩
      case round =>
        clear Zr Zb ee
        obtain ⟨m, hm, rfl, Zr, Zb, ee⟩ := hrel
        have Zr := Zr.out
        have Zb := Zb.out
        have ee := ee.out
        by_cases hlt : m < k
        · have hkl : m < l.length := by rw [← HN.out]; exact hlt
          obtain ⟨bo, off, rfl, hbo, hr⟩ := rowsGet HR.out hkl
          have hbo : bo < w.heap.size := Nat.lt_of_lt_of_le hbo hB
          have HBS : Hid (best u (l.take (m + 1)) = bif takes u (best u (l.take m)) (l[m]'hkl) then l[m]'hkl else best u (l.take m)) := by
            show _ = _
            rw [List.take_succ_eq_append_getElem hkl]; exact best_snoc _ _ _
          generalize l[m] = x at hr HBS
          generalize best u (l.take m) = b at HBS Zb
          go_upto_region 11 with fail
          refine wp_region_lit ?_
          iterate 27 (first | with_reducible refine isLoad (ty := 39) rfl ?_ | go_step)
          refine wpList_load_mid rfl 39 _ rfl (bo) (off + m * 16) rfl (x.cells) _ (rangeB hr ee hbo) Tryd.underlying39 rfl sizeAc ?_
          have e0s := ee.size
          iterate 3 go_step
          have lZr := (Array.getElem?_eq_some_iff.1 Zr).1
          have lZb := (Array.getElem?_eq_some_iff.1 Zb).1
          have Zr := hpA Zr (.cells #[.int .u32 0, .int .i64 0, .int .i64 0, .bool false, .int .u32 0, .int .i64 0, .int .i64 0, .int .i64 0, .int .i64 0, .slice none 0 0, .slice none 0 0, .int .i64 0, .int .i64 0, .int .i64 0, .int .u64 0, .bool false] 39)
          have Zb := hpA Zb (.cells #[.int .u32 0, .int .i64 0, .int .i64 0, .bool false, .int .u32 0, .int .i64 0, .int .i64 0, .int .i64 0, .int .i64 0, .slice none 0 0, .slice none 0 0, .int .i64 0, .int .i64 0, .int .i64 0, .int .u64 0, .bool false] 39)
          have ee := ee.alloc ee.size (.cells #[.int .u32 0, .int .i64 0, .int .i64 0, .bool false, .int .u32 0, .int .i64 0, .int .i64 0, .int .i64 0, .int .i64 0, .slice none 0 0, .slice none 0 0, .int .i64 0, .int .i64 0, .int .i64 0, .int .u64 0, .bool false] 39)
          have Zi := hpN wr (.cells #[.int .u32 0, .int .i64 0, .int .i64 0, .bool false, .int .u32 0, .int .i64 0, .int .i64 0, .int .i64 0, .int .i64 0, .slice none 0 0, .slice none 0 0, .int .i64 0, .int .i64 0, .int .i64 0, .int .u64 0, .bool false] 39) rfl
          generalize wr.alloc (.cells #[.int .u32 0, .int .i64 0, .int .i64 0, .bool false, .int .u32 0, .int .i64 0, .int .i64 0, .int .i64 0, .int .i64 0, .slice none 0 0, .slice none 0 0, .int .i64 0, .int .i64 0, .int .i64 0, .int .u64 0, .bool false] 39) = z2 at Zr Zb Zi ee ⊢
          iterate 27 (first | with_reducible refine isStore (ty := 39) rfl ?_ | go_step)
          refine wpList_store_row rfl 39 _ _ rfl (wr.heap.size) (x.cells).toArray rfl rfl 39 _ Zi sizeAc (by rfl) (Ac.one _) ?_
          have N_ := setRow_heap z2 (wr.heap.size) _ (x.cells).toArray _ _ Zi
          have ee := belowSet (cs := (x.cells).toArray) ee Zi (by omega)
          have Zr := hpR Zr (g' := wr.heap.size) (by omega) (x.cells).toArray
          have Zb := hpR Zb (g' := wr.heap.size) (by omega) (x.cells).toArray
          clear Zi
          have Zi := N_
          clear N_
          generalize z2.setRow (wr.heap.size) (x.cells).toArray = z3 at Zr Zb Zi ee ⊢
          have i2 := rowCell Zi 2 (v := .int .i64 x.sl) rfl
          by_cases hs : x.sl = u
          · have f1 : (x.sl == u) = true := by simpa using hs
            cases hx : x.ha with
            | false =>
              have i3 := rowCell Zi 3 (v := .bool false) (by rw [← hx]; rfl)
              have HB2 : Hid (best u (l.take (m + 1)) = b) := by show _ = _; rw [HBS.out]; simp [takes, hx]
              clear HBS hs hx
              go_wp2_with fail
              go_roundw
              case rel => exact ⟨m + 1, by omega, by go_num, Zr, HB2.out ▸ Zb, ee⟩
              case measure => simp [intOf]; omega
            | true =>
              have i3 := rowCell Zi 3 (v := .bool true) (by rw [← hx]; rfl)
              cases hb : b.ha with
              | false =>
                have b3 := rowCell Zb 3 (v := .bool false) (by rw [← hb]; rfl)
                have HB2 : Hid (best u (l.take (m + 1)) = x) := by show _ = _; rw [HBS.out]; simp [takes, hx, hb, hs]
                clear HBS hs hx hb
                go_upto_region 13 with fail
                refine wp_region_lit ?_
                iterate 27 (first | with_reducible refine isLoad (ty := 39) rfl ?_ | go_step)
                refine wpList_load_mid rfl 39 _ rfl (wr.heap.size) 0 rfl ((x.cells)) _ (rowAt Zi) Tryd.underlying39 rfl sizeAc ?_
                iterate 27 (first | with_reducible refine isStore (ty := 39) rfl ?_ | go_step)
                refine wpList_store_row rfl 39 _ _ rfl (gb) (x.cells).toArray rfl rfl 39 _ Zb sizeAc (by rfl) (Ac.one _) ?_
                have N_ := setRow_heap z3 (gb) _ (x.cells).toArray _ _ Zb
                have ee := belowSet (cs := (x.cells).toArray) ee Zb (by omega)
                have Zr := hpR Zr (g' := gb) (by omega) (x.cells).toArray
                have Zi := hpR Zi (g' := gb) (by omega) (x.cells).toArray
                clear Zb
                have Zb := N_
                clear N_
                generalize z3.setRow (gb) (x.cells).toArray = z4 at Zr Zb Zi ee ⊢
                go_wp2_with fail
                go_roundw
                case rel => exact ⟨m + 1, by omega, by go_num, Zr, HB2.out ▸ Zb, ee⟩
                case measure => simp [intOf]; omega
              | true =>
                have b3 := rowCell Zb 3 (v := .bool true) (by rw [← hb]; rfl)
                have b4 := rowCell Zb 4 (v := .int .u32 (b.vr : Int)) rfl
                have b5 := rowCell Zb 5 (v := .int .i64 b.vn) rfl
                have i4 := rowCell Zi 4 (v := .int .u32 (x.vr : Int)) rfl
                have i5 := rowCell Zi 5 (v := .int .i64 x.vn) rfl
                have HLE := Lib.hid (fun z => bless_any b.vr b.vn x.vr x.vn z)
                have HLT : Hid (b.bless x = B.less b.vr b.vn x.vr x.vn) := rfl
                generalize B.less b.vr b.vn x.vr x.vn = ml at HLE HLT
                go_wp2_with fail
                refine (HLE.out z3).mono ?_
                rintro e z4 ⟨rfl, t⟩
                have Zr := hpB Zr t
                have Zb := hpB Zb t
                have Zi := hpB Zi t
                have ee := ee.trans (t.mono ee.size)
                clear t
                clear b3 b4 b5 i2 i3 i4 i5 HLE
                cases ml with
                | false =>
                  have HB2 : Hid (best u (l.take (m + 1)) = b) := by show _ = _; rw [HBS.out]; simp [takes, hx, hb, hs, HLT.out]
                  clear HBS hs hx hb HLT
                  go_wp2_with fail
                  go_roundw
                  case rel => exact ⟨m + 1, by omega, by go_num, Zr, HB2.out ▸ Zb, ee⟩
                  case measure => simp [intOf]; omega
                | true =>
                  have HB2 : Hid (best u (l.take (m + 1)) = x) := by show _ = _; rw [HBS.out]; simp [takes, hx, hb, hs, HLT.out]
                  clear HBS hs hx hb HLT
                  go_upto_region 13 with fail
                  refine wp_region_lit ?_
                  iterate 27 (first | with_reducible refine isLoad (ty := 39) rfl ?_ | go_step)
                  refine wpList_load_mid rfl 39 _ rfl (wr.heap.size) 0 rfl ((x.cells)) _ (rowAt Zi) Tryd.underlying39 rfl sizeAc ?_
                  iterate 27 (first | with_reducible refine isStore (ty := 39) rfl ?_ | go_step)
                  refine wpList_store_row rfl 39 _ _ rfl (gb) (x.cells).toArray rfl rfl 39 _ Zb sizeAc (by rfl) (Ac.one _) ?_
                  have N_ := setRow_heap z4 (gb) _ (x.cells).toArray _ _ Zb
                  have ee := belowSet (cs := (x.cells).toArray) ee Zb (by omega)
                  have Zr := hpR Zr (g' := gb) (by omega) (x.cells).toArray
                  have Zi := hpR Zi (g' := gb) (by omega) (x.cells).toArray
                  clear Zb
                  have Zb := N_
                  clear N_
                  generalize z4.setRow (gb) (x.cells).toArray = z5 at Zr Zb Zi ee ⊢
                  go_wp2_with fail
                  go_roundw
                  case rel => exact ⟨m + 1, by omega, by go_num, Zr, HB2.out ▸ Zb, ee⟩
                  case measure => simp [intOf]; omega
          · have f1 : (x.sl == u) = false := by simpa using hs
            have HB2 : Hid (best u (l.take (m + 1)) = b) := by show _ = _; rw [HBS.out]; simp [takes, hs]
            clear HBS hs
            go_wp2_with fail
            go_roundw
            case rel => exact ⟨m + 1, by omega, by go_num, Zr, HB2.out ▸ Zb, ee⟩
            case measure => simp [intOf]; omega
        · obtain rfl : m = k := by omega
          have htk : l.take m = l := by rw [HN.out]; exact List.take_length
          rw [htk] at Zb
          clear htk hlt
          obtain ⟨b, hb⟩ : ∃ b, b = best u l := ⟨_, rfl⟩
          have HBB : Hid (best u l = b) := hb.symm
          rw [← hb] at Zb
          clear hb
          go_upto_region 15 with fail
          have Zr : wr.drew.heap[w.heap.size]? = some (.cells #[.int .i64 0, .int .i64 0, .int .i64 0, .slice none 0 0, .slice none 0 0, .int .i64 0, .int .i64 0, .int .i64 0, .int .u64 0, .bool false] 37) := Zr
          have Zb : wr.drew.heap[gb]? = some (.cells b.cells.toArray 39) := Zb
          have ee := belowDrewS ee
          refine wp_region_held_drew (S := fun z' => z'.rangeAt gb 6 b.c.cells ∧ z'.cell? ⟨gb, 3, none⟩ = some (.bool b.ha)) (by kernel_rfl) ⟨rowMid Zb 6 (Ac.part b), rowCell Zb 3 rfl⟩ (fun hH => ?_)
          clear hH
          generalize wr.drew = z2 at Zr Zb  ee ⊢
          refine wpAnyH_take (i := 0) (v := .pointer (some ⟨gb, 6, none⟩)) rfl (by kernel_rfl) (by kernel_rfl) (by kernel_rfl) (fun _ _ _ h => h) (Or.inl ⟨by rfl, fun w_ hS_ => by (first | (go_simp; done) | (go_simp; rfl))⟩) ⟨rowMid Zb 6 (Ac.part b), rowCell Zb 3 rfl⟩ ?_
          try simp only [Act.put, List.getElem_toArray, List.getElem_cons_zero, List.getElem_cons_succ, List.setIfInBounds_toArray, List.set_cons_zero, List.set_cons_succ]
          refine wpAnyH_take (i := 1) (v := .agg (b.c.cells).toArray) rfl (by kernel_rfl) (by kernel_rfl) (by kernel_rfl) (fun _ _ _ h => h) (yieldsIf_load_mid (by rfl) 37 _ rfl (gb) (6) rfl (b.c.cells) _ (fun _ h => h.1) Tryd.underlying37 rfl sizeCm) ⟨rowMid Zb 6 (Ac.part b), rowCell Zb 3 rfl⟩ ?_
          try simp only [Act.put, List.getElem_toArray, List.getElem_cons_zero, List.getElem_cons_succ, List.setIfInBounds_toArray, List.set_cons_zero, List.set_cons_succ]
          refine wpAnyH_take (i := 2) (v := .pointer (some ⟨gb, 3, none⟩)) rfl (by kernel_rfl) (by kernel_rfl) (by kernel_rfl) (fun _ _ _ h => h) (Or.inl ⟨by rfl, fun w_ hS_ => by (first | (go_simp; done) | (go_simp; rfl))⟩) ⟨rowMid Zb 6 (Ac.part b), rowCell Zb 3 rfl⟩ ?_
          try simp only [Act.put, List.getElem_toArray, List.getElem_cons_zero, List.getElem_cons_succ, List.setIfInBounds_toArray, List.set_cons_zero, List.set_cons_succ]
          refine wpAnyH_take (i := 3) (v := .bool b.ha) rfl (by kernel_rfl) (by kernel_rfl) (by kernel_rfl) (fun _ _ _ h => h) (Or.inl ⟨by rfl, fun w_ hS_ => by (obtain ⟨h1_, h2_⟩ := hS_; go_simp)⟩) ⟨rowMid Zb 6 (Ac.part b), rowCell Zb 3 rfl⟩ ?_
          try simp only [Act.put, List.getElem_toArray, List.getElem_cons_zero, List.getElem_cons_succ, List.setIfInBounds_toArray, List.set_cons_zero, List.set_cons_succ]
          refine wpAnyH_ready (rs := [4]) (by kernel_rfl) (by simp) ?_
          refine AllReadyH.cons rfl (fun K hK => ?_) AllReadyH.nil
          rw [if_pos (by rfl)]
          refine wp_store_row 37 _ _ rfl (w.heap.size) (b.c.cells).toArray rfl rfl 37 _ Zr sizeCm (by rfl) (Cm.one _) ?_
          have N_ := setRow_heap z2 (w.heap.size) _ (b.c.cells).toArray _ _ Zr
          have ee := belowSet (cs := (b.c.cells).toArray) ee Zr (by omega)
          have Zb := hpR Zb (g' := w.heap.size) (by omega) (b.c.cells).toArray
          clear Zr
          have Zr := N_
          clear N_
          generalize z2.setRow (w.heap.size) (b.c.cells).toArray = z3 at Zr Zb ee ⊢
          refine hK.out _ _ ⟨rowMid Zb 6 (Ac.part b), rowCell Zb 3 rfl⟩ (fun hH => ?_)
          clear hK K hH
          try simp only [Act.put, List.getElem_toArray, List.getElem_cons_zero, List.getElem_cons_succ, List.setIfInBounds_toArray, List.set_cons_zero, List.set_cons_succ]
          refine wpAnyH_take (i := 5) (v := .bool b.ha) rfl (by kernel_rfl) (by kernel_rfl) (by kernel_rfl) (fun _ _ _ h => h) (Or.inl ⟨by rfl, fun w_ hS_ => by (first | (go_simp; done) | (go_simp; rfl))⟩) ⟨rowMid Zb 6 (Ac.part b), rowCell Zb 3 rfl⟩ ?_
          try simp only [Act.put, List.getElem_toArray, List.getElem_cons_zero, List.getElem_cons_succ, List.setIfInBounds_toArray, List.set_cons_zero, List.set_cons_succ]
          refine wpAnyH_done (by kernel_rfl) ?_ _
          go_wp2_with fail
          refine bodyPost_ret (v := .tuple #[.agg b.c.cells.toArray, .bool b.ha]) (res_ct rfl rfl rfl Zr Tryd.underlying37 rfl sizeCm) rfl ⟨by rw [HU.out, HBB.out], ee⟩
end Go.Proofs.YtbahooohkigcnaaDoor

namespace Go.Proofs.YtbahooohkigcnaaDoor
set_option maxRecDepth 20001
open Go.RowKit T
set_option linter.unusedSimpArgs false
set_option linter.unusedVariables false

/-- steps that change the blocks of P alone (and new ones) -/
def Fr (w w' : World) (P : Nat → Prop) : Prop := Below 0 w w' ∧ ∀ i, i < w.heap.size → ¬ P i → w'.heap[i]? = w.heap[i]?
section
variable {w z c z' : World} {h k : Nat} {old cs : Array Value} {t : TypeId} {P : Nat → Prop} {base e sz n : Nat} {v : Value} {xs : List Value}
theorem Fr.refl (w : World) (P : Nat → Prop) : Fr w w P := ⟨(Below.refl 0 w), fun _ _ _ => rfl⟩
theorem frTrans (p : Fr w z P) (q : Fr z c P) : Fr w c P := ⟨p.1.trans q.1, fun i hi hn => (q.2 i (Nat.lt_of_lt_of_le hi p.1.size) hn).trans (p.2 i hi hn)⟩
theorem frBelow (p : Fr w z P) (q : Below z.heap.size z c) : Fr w c P := frTrans p ⟨q.mono (Nat.zero_le _), fun i hi _ => q.block i hi⟩
theorem frAlloc (p : Fr w z P) (o : Obj) : Fr w (z.alloc o) P := frBelow p ((Below.refl _ _).alloc (Nat.le_refl _) o)
theorem frDrew (p : Fr w z P) : Fr w z.drew P := ⟨belowDrewS p.1, p.2⟩
theorem frDrewN (p : Fr w z P) (m : Nat) : Fr w (z.drewN m) P := ⟨belowDrewN p.1 m, p.2⟩
theorem frRow (hk : P k ∨ w.heap.size ≤ k) (hz : z.heap[k]? = some (.cells old t (0, 0))) (p : Fr w z P) : Fr w (z.setRow k cs) P :=
  ⟨belowSet p.1 hz (Nat.zero_le _), fun i hi hn => (setRow_other z k i cs (fun e => by
    rcases hk with hk | hk
    · exact hn (by rw [e]; exact hk)
    · omega)).trans (p.2 i hi hn)⟩
theorem frCells (hk : P k ∨ w.heap.size ≤ k) : ∀ (vs : List Value) (i : Nat) (z : World), Fr w z P → Fr w (z.setCells k i vs) P
  | [], _, _, p => p
  | v :: r, i, z, p => frCells hk r (i + 1) (z.setCell ⟨k, i, none⟩ v) ⟨p.1.setCell (Nat.zero_le _) v, fun j hj hn => (Below.heap_setCell z ⟨k, i, none⟩ v j (fun e => by
    have e2 : j = k := e
    rcases hk with hk | hk
    · exact hn (by rw [e2]; exact hk)
    · omega)).trans (p.2 j hj hn)⟩
theorem frOwnE (p : Fr w z P) (_ : z.ownsRow base e sz v n xs) (hg : z.grownBy z' v.ownBlock) (hP : ∀ i, v.ownBlock = some i → P i ∨ w.heap.size ≤ i) : Fr w z' P :=
  ⟨p.1.grown hg (Nat.zero_le _) (fun _ _ => Nat.zero_le _), fun i hi hn => (hg.block i (Nat.lt_of_lt_of_le hi p.1.size) (fun e => by
    rcases hP i e.symm with h | h
    · exact hn h
    · omega)).trans (p.2 i hi hn)⟩
theorem frGrown (p : Fr w z P) (q : z.grownBy c (some h)) (hk : P h ∨ w.heap.size ≤ h) : Fr w c P :=
  ⟨p.1.grown q (Nat.zero_le _) (fun _ _ => Nat.zero_le _), fun i hi hn => (q.block i (Nat.lt_of_lt_of_le hi p.1.size) (fun e => by
    injection e with e
    rcases hk with hk | hk
    · exact hn (by rw [e]; exact hk)
    · omega)).trans (p.2 i hi hn)⟩
theorem lgKind {m : Nat × Nat} (hu : z.ownsRow base e sz v n xs) (hz : z.heap[k]? = some (.cells old t m)) (hne : t ≠ e) : v.ownBlock ≠ some k := by
  intro hb
  rcases hu.2 with ⟨hv, _⟩ | ⟨g, cap, cur, hv, _, hg, _⟩
  · rw [hv] at hb; cases hb
  · rw [hv] at hb
    have e1 : g = k := by injection hb
    subst e1
    rw [hz] at hg
    injection hg with hg
    injection hg with _ ht _
    exact hne ht
theorem lgOwnC (p : z.ownsRow base e sz v n xs) (hne : v.ownBlock ≠ some k) (vs : List Value) (i : Nat) : (z.setCells k i vs).ownsRow base e sz v n xs := p.kept (lgCells (h := k) (Or.inl rfl) vs i z (lgRefl z k)) (Or.inr hne)
theorem lgOwnR (p : z.ownsRow base e sz v n xs) (hne : v.ownBlock ≠ some k) : (z.setRow k cs).ownsRow base e sz v n xs := p.kept ⟨rfl, rfl, rfl, by rw [setRow_size]; exact Nat.le_refl _, fun i _ hi => setRow_other z k i cs (fun e => hi (by rw [e]))⟩ (Or.inr hne)
theorem lgHeap {m : Nat × Nat} (p : z.heap[k]? = some (.cells cs t m)) (hu : z.ownsRow base e sz v n xs) (hne : t ≠ e) (hg : z.grownBy z' v.ownBlock) : z'.heap[k]? = some (.cells cs t m) :=
  (hg.block k (Array.getElem?_eq_some_iff.1 p).1 (fun e1 => lgKind hu p hne e1.symm)).trans p
theorem lgHeapB {m : Nat × Nat} (p : z.heap[k]? = some (.cells cs t m)) (hne : v.ownBlock ≠ some k) (hg : z.grownBy z' v.ownBlock) : z'.heap[k]? = some (.cells cs t m) :=
  (hg.block k (Array.getElem?_eq_some_iff.1 p).1 (fun e1 => hne e1.symm)).trans p
theorem lgRowAdd {cs : List Value} (p : z.heap[k]? = some (.cells cs.toArray t (0, 0))) : ∀ j u, cs[j]? = some u → z.cell? ((⟨k, 0, none⟩ : Addr).add j) = some u := fun j u hv => by
  rw [Addr.add_mid]; exact rowAt p j u hv
end
theorem run_eqBal9 (r : Nat) (n : Int) (r' : Nat) (n' : Int) (w : World) :
    (binOp .eql 28 (.agg #[.int .u32 r, .int .i64 n]) (.agg #[.int .u32 r', .int .i64 n'])).run Tryd.prog w = .ok (.bool (decide (r = r' ∧ n = n'))) w := B.run_eqBal r n r' n' w
theorem lgFill16 (x : Ac) (cells : Array Value) (hn : cells.size = 16) : Instr.fill (fun i => some (i * 16, 16)) cells [(0, .agg x.cells.toArray)] = some x.cells.toArray := by
  have := Great.fill_whole (s := 16) (by omega) [Value.agg x.cells.toArray] cells (by intro v hv; simp at hv; subst hv; rfl) (by simp [hn])
  simpa [Value.cells] using this
theorem lgInfoAc : (Tryd.prog.info? 39).map (fun i => (i.zero, i.size, i.bytes)) = some (some (.agg #[.int .u32 0, .int .i64 0, .int .i64 0, .bool false, .int .u32 0, .int .i64 0, .int .i64 0, .int .i64 0, .int .i64 0, .slice none 0 0, .slice none 0 0, .int .i64 0, .int .i64 0, .int .i64 0, .int .u64 0, .bool false]), 16, 160) := by kernel_rfl
set_option maxHeartbeats 6400000 in
theorem lpromise_yes (w : World) (B h : Nat) (L : Ld) (k : Int) (a : Ac) (hL : LdAt w h L) (hu : w.ownsRow B 39 16 (.slice L.A L.l.length L.c) L.l.length (acCells L.l)) (hB : B ≤ w.heap.size) (hlen : L.l.length ≤ 100000)
    (hp : L.pr < 18446744073709551616) (hz : ¬ (L.br = 0 ∧ L.bn = 0)) (hF : a.formed = true) (ok : CmOk w w.heap.size a.c) (hT : Tabs w) (h0 : 0 ≤ k) (h1 : k < L.n) (hk : Q.hasB L.pr k = false) :
    Calls Tryd.prog 36 #[.pointer (some ⟨h, 0, none⟩), .int .i64 k, bal L.br L.bn, .agg a.cells.toArray] w fun e w' => e = .returned (.bool true) ∧ ∃ A' c', LdAt w' h { L with pr := Q.addN L.pr k, l := L.l ++ [a], A := A', c := c', fs := max L.fs a.sl } ∧ w'.ownsRow B 39 16 (.slice A' (L.l ++ [a]).length c') (L.l ++ [a]).length (acCells (L.l ++ [a])) ∧ Fr w w' (fun i => i = h ∨ (Value.slice L.A L.l.length L.c).ownBlock = some i) := by
  obtain ⟨i1, hi1, hz10, hz11, hz12⟩ := info_parts lgInfoAc
  have hlt : h < w.heap.size := (Array.getElem?_eq_some_iff.1 hL).1
  have hPown : ∀ i, (Value.slice L.A L.l.length L.c).ownBlock = some i → (fun i => i = h ∨ (Value.slice L.A L.l.length L.c).ownBlock = some i) i ∨ w.heap.size ≤ i := fun i hi => Or.inl (Or.inr hi)
  have hlow : (Value.slice L.A L.l.length L.c).ownBlock ≠ some (w.heap.size + 1) := fun hb => by have := (hu.lt _ hb).2; omega
  have HQ := Lib.hid (fun z => has_any L.pr k z hp)
  rw [hk] at HQ
  have HA := Lib.hid (fun z => add_any L.pr k z hp)
  have HFO := Lib.hid (fun z (hz : Below w.heap.size w z) => c_formed a z w.heap.size hz.size (ok.below hz (Nat.le_refl _)) (hT.below hz))
  rw [hF] at HFO
  have hI := run_neBal L.br L.bn L.br L.bn
  rw [decide_eq_true (⟨rfl, rfl⟩ : L.br = L.br ∧ L.bn = L.bn)] at hI
  have hJ : ∀ z, (binOp .eql 28 (.agg #[.int .u32 (L.br : Int), .int .i64 L.bn]) (.agg #[.int .u32 0, .int .i64 0])).run Tryd.prog z = .ok (.bool false) z := fun z => by
    have := run_eqBal9 L.br L.bn 0 0 z
    rw [decide_eq_false hz] at this
    exact this
  have e4 : decide (k < 0) = false := decide_eq_false (by omega)
  have e5 : decide (L.n ≤ k) = false := decide_eq_false (by omega)
  clear hk hF ok hT hz h0 h1 hp
  obtain ⟨w0, hw0⟩ : ∃ w0, w0 = (w.alloc (.cells [.int .u32 (L.br : Int), .int .i64 L.bn].toArray 28)).alloc (.cells a.cells.toArray 39) := ⟨_, rfl⟩
  have e0 : Below w.heap.size w w0 := by rw [hw0]; exact ((Below.refl _ _).alloc (Nat.le_refl _) _).alloc (by simp) _
  have ee : Fr w w0 (fun i => i = h ∨ (Value.slice L.A L.l.length L.c).ownBlock = some i) := by rw [hw0]; exact frAlloc (frAlloc (Fr.refl _ _) _) _
  have Zl : w0.heap[h]? = some (.cells L.cells.toArray 144) := by rw [hw0]; exact hpA (hpA hL _) _
  have Zb : w0.heap[w.heap.size]? = some (.cells [.int .u32 (L.br : Int), .int .i64 L.bn].toArray 28) := by rw [hw0]; exact hpA (hpN _ _ rfl) _
  have Za : w0.heap[w.heap.size + 1]? = some (.cells a.cells.toArray 39) := by rw [hw0]; exact hpN _ _ (by simp)
  have hu : w0.ownsRow B 39 16 (.slice L.A L.l.length L.c) L.l.length (acCells L.l) := by rw [hw0]; exact (hu.alloc _).alloc _
  go_enter Tryd.func36, Tryd.ntmps36
  go_upto_region 1 with fail
  change Code.wp _ _ _ _ ((w.alloc (.cells [.int .u32 (L.br : Int), .int .i64 L.bn].toArray 28)).alloc (.cells a.cells.toArray 39))
  rw [← hw0]
  clear hw0 hL
  have e0 := belowDrewS e0
  have Zl : w0.drew.heap[h]? = some (.cells L.cells.toArray 144) := Zl
  have Zb : w0.drew.heap[w.heap.size]? = some (.cells [.int .u32 (L.br : Int), .int .i64 L.bn].toArray 28) := Zb
  have Za : w0.drew.heap[w.heap.size + 1]? = some (.cells a.cells.toArray 39) := Za
  have hu := World.ownsRow.drew hu
  have ee := frDrew ee
  refine wp_region_held_drew (S := fun z' => z'.rangeAt h 0 L.cells ∧ z'.rangeAt h 2 [.int .u32 (L.br : Int), .int .i64 L.bn] ∧ z'.rangeAt w.heap.size 0 [.int .u32 (L.br : Int), .int .i64 L.bn] ∧ z'.rangeAt (w.heap.size + 1) 0 a.cells) (by kernel_rfl) ⟨rowAt Zl, rowMid Zl 2 (Ld.ballot L), rowAt Zb, rowAt Za⟩ (fun hH => ?_)
  clear hH
  generalize w0.drew = z1 at Zl Zb Za hu e0 ee ⊢
  refine wpAnyH_take (i := 0) (v := .pointer (some ⟨h, 0, none⟩)) rfl (by kernel_rfl) (by kernel_rfl) (by kernel_rfl) (fun _ _ _ h => h) (Or.inl ⟨by rfl, fun w_ hS_ => by (first | (go_simp; done) | (go_simp; rfl))⟩) ⟨rowAt Zl, rowMid Zl 2 (Ld.ballot L), rowAt Zb, rowAt Za⟩ ?_
  try simp only [Act.put, List.getElem_toArray, List.getElem_cons_zero, List.getElem_cons_succ, List.setIfInBounds_toArray, List.set_cons_zero, List.set_cons_succ]
  refine wpAnyH_take (i := 1) (v := .bool false) rfl (by kernel_rfl) (by kernel_rfl) (by kernel_rfl) (fun _ _ _ h => h) (Or.inl ⟨by rfl, fun w_ hS_ => by (first | (go_simp; done) | (go_simp; rfl))⟩) ⟨rowAt Zl, rowMid Zl 2 (Ld.ballot L), rowAt Zb, rowAt Za⟩ ?_
  try simp only [Act.put, List.getElem_toArray, List.getElem_cons_zero, List.getElem_cons_succ, List.setIfInBounds_toArray, List.set_cons_zero, List.set_cons_succ]
  refine wpAnyH_take (i := 2) (v := .bool false) rfl (by kernel_rfl) (by kernel_rfl) (by kernel_rfl) (fun _ _ _ h => h) (Or.inl ⟨by rfl, fun w_ hS_ => by (first | (go_simp; done) | (go_simp; rfl))⟩) ⟨rowAt Zl, rowMid Zl 2 (Ld.ballot L), rowAt Zb, rowAt Za⟩ ?_
  try simp only [Act.put, List.getElem_toArray, List.getElem_cons_zero, List.getElem_cons_succ, List.setIfInBounds_toArray, List.set_cons_zero, List.set_cons_succ]
  refine wpAnyH_take (i := 3) (v := .agg ([.int .u32 (L.br : Int), .int .i64 L.bn]).toArray) rfl (by kernel_rfl) (by kernel_rfl) (by kernel_rfl) (fun _ _ _ h => h) (yieldsIf_load_mid (by rfl) 28 _ rfl (w.heap.size) 0 rfl ([.int .u32 (L.br : Int), .int .i64 L.bn]) _ (fun _ h => h.2.2.1) Tryd.underlying28 rfl sizeBal) ⟨rowAt Zl, rowMid Zl 2 (Ld.ballot L), rowAt Zb, rowAt Za⟩ ?_
  try simp only [Act.put, List.getElem_toArray, List.getElem_cons_zero, List.getElem_cons_succ, List.setIfInBounds_toArray, List.set_cons_zero, List.set_cons_succ]
  refine wpAnyH_take (i := 4) (v := .pointer (some ⟨h, 0, none⟩)) rfl (by kernel_rfl) (by kernel_rfl) (by kernel_rfl) (fun _ _ _ h => h) (Or.inl ⟨by rfl, fun w_ hS_ => by (first | (go_simp; done) | (go_simp; rfl))⟩) ⟨rowAt Zl, rowMid Zl 2 (Ld.ballot L), rowAt Zb, rowAt Za⟩ ?_
  try simp only [Act.put, List.getElem_toArray, List.getElem_cons_zero, List.getElem_cons_succ, List.setIfInBounds_toArray, List.set_cons_zero, List.set_cons_succ]
  refine wpAnyH_take (i := 5) (v := .pointer (some ⟨h, 0, none⟩)) rfl (by kernel_rfl) (by kernel_rfl) (by kernel_rfl) (fun _ _ _ h => h) (Or.inl ⟨by rfl, fun w_ hS_ => by (first | (go_simp; done) | (go_simp; rfl))⟩) ⟨rowAt Zl, rowMid Zl 2 (Ld.ballot L), rowAt Zb, rowAt Za⟩ ?_
  try simp only [Act.put, List.getElem_toArray, List.getElem_cons_zero, List.getElem_cons_succ, List.setIfInBounds_toArray, List.set_cons_zero, List.set_cons_succ]
  refine wpAnyH_take (i := 6) (v := .pointer (some ⟨h, 2, none⟩)) rfl (by kernel_rfl) (by kernel_rfl) (by kernel_rfl) (fun _ _ _ h => h) (Or.inl ⟨by rfl, fun w_ hS_ => by (first | (go_simp; done) | (go_simp; rfl))⟩) ⟨rowAt Zl, rowMid Zl 2 (Ld.ballot L), rowAt Zb, rowAt Za⟩ ?_
  try simp only [Act.put, List.getElem_toArray, List.getElem_cons_zero, List.getElem_cons_succ, List.setIfInBounds_toArray, List.set_cons_zero, List.set_cons_succ]
  refine wpAnyH_take (i := 7) (v := .agg ([.int .u32 (L.br : Int), .int .i64 L.bn]).toArray) rfl (by kernel_rfl) (by kernel_rfl) (by kernel_rfl) (fun _ _ _ h => h) (yieldsIf_load_mid (by rfl) 28 _ rfl (h) (2) rfl ([.int .u32 (L.br : Int), .int .i64 L.bn]) _ (fun _ h => h.2.1) Tryd.underlying28 rfl sizeBal) ⟨rowAt Zl, rowMid Zl 2 (Ld.ballot L), rowAt Zb, rowAt Za⟩ ?_
  try simp only [Act.put, List.getElem_toArray, List.getElem_cons_zero, List.getElem_cons_succ, List.setIfInBounds_toArray, List.set_cons_zero, List.set_cons_succ]
  refine wpAnyH_take (i := 8) (v := .bool false) rfl (by kernel_rfl) (by kernel_rfl) (by kernel_rfl) (fun _ _ _ h => h) (Or.inl ⟨by rfl, fun w_ hS_ => by (first | (go_simp; done) | (go_simp; rfl))⟩) ⟨rowAt Zl, rowMid Zl 2 (Ld.ballot L), rowAt Zb, rowAt Za⟩ ?_
  try simp only [Act.put, List.getElem_toArray, List.getElem_cons_zero, List.getElem_cons_succ, List.setIfInBounds_toArray, List.set_cons_zero, List.set_cons_succ]
  refine wpAnyH_take (i := 9) (v := .bool false) rfl (by kernel_rfl) (by kernel_rfl) (by kernel_rfl) (fun _ _ _ h => h) (Or.inl ⟨by rfl, fun w_ hS_ => by (first | (go_simp; done) | (go_simp; rfl))⟩) ⟨rowAt Zl, rowMid Zl 2 (Ld.ballot L), rowAt Zb, rowAt Za⟩ ?_
  try simp only [Act.put, List.getElem_toArray, List.getElem_cons_zero, List.getElem_cons_succ, List.setIfInBounds_toArray, List.set_cons_zero, List.set_cons_succ]
  refine wpAnyH_take (i := 10) (v := .bool false) rfl (by kernel_rfl) (by kernel_rfl) (by kernel_rfl) (fun _ _ _ h => h) (Or.inl ⟨by rfl, fun w_ hS_ => by (first | (go_simp; done) | (go_simp; rfl))⟩) ⟨rowAt Zl, rowMid Zl 2 (Ld.ballot L), rowAt Zb, rowAt Za⟩ ?_
  try simp only [Act.put, List.getElem_toArray, List.getElem_cons_zero, List.getElem_cons_succ, List.setIfInBounds_toArray, List.set_cons_zero, List.set_cons_succ]
  refine wpAnyH_take (i := 11) (v := .agg ([.int .u32 (L.br : Int), .int .i64 L.bn]).toArray) rfl (by kernel_rfl) (by kernel_rfl) (by kernel_rfl) (fun _ _ _ h => h) (yieldsIf_load_mid (by rfl) 28 _ rfl (w.heap.size) 0 rfl ([.int .u32 (L.br : Int), .int .i64 L.bn]) _ (fun _ h => h.2.2.1) Tryd.underlying28 rfl sizeBal) ⟨rowAt Zl, rowMid Zl 2 (Ld.ballot L), rowAt Zb, rowAt Za⟩ ?_
  try simp only [Act.put, List.getElem_toArray, List.getElem_cons_zero, List.getElem_cons_succ, List.setIfInBounds_toArray, List.set_cons_zero, List.set_cons_succ]
  refine wpAnyH_take (i := 12) (v := .agg #[.int .u32 0, .int .i64 0]) rfl (by kernel_rfl) (by kernel_rfl) (by kernel_rfl) (fun _ _ _ h => h) (Or.inl ⟨by rfl, fun w_ hS_ => by (first | (go_simp; done) | (go_simp; rfl))⟩) ⟨rowAt Zl, rowMid Zl 2 (Ld.ballot L), rowAt Zb, rowAt Za⟩ ?_
  try simp only [Act.put, List.getElem_toArray, List.getElem_cons_zero, List.getElem_cons_succ, List.setIfInBounds_toArray, List.set_cons_zero, List.set_cons_succ]
  refine wpAnyH_take (i := 13) (v := .bool false) rfl (by kernel_rfl) (by kernel_rfl) (by kernel_rfl) (fun _ _ _ h => h) (Or.inl ⟨by rfl, fun w_ hS_ => by (first | (go_simp; done) | (go_simp; rfl))⟩) ⟨rowAt Zl, rowMid Zl 2 (Ld.ballot L), rowAt Zb, rowAt Za⟩ ?_
  try simp only [Act.put, List.getElem_toArray, List.getElem_cons_zero, List.getElem_cons_succ, List.setIfInBounds_toArray, List.set_cons_zero, List.set_cons_succ]
  refine wpAnyH_take (i := 14) (v := .bool false) rfl (by kernel_rfl) (by kernel_rfl) (by kernel_rfl) (fun _ _ _ h => h) (Or.inl ⟨by rfl, fun w_ hS_ => by (first | (go_simp; done) | (go_simp; rfl))⟩) ⟨rowAt Zl, rowMid Zl 2 (Ld.ballot L), rowAt Zb, rowAt Za⟩ ?_
  try simp only [Act.put, List.getElem_toArray, List.getElem_cons_zero, List.getElem_cons_succ, List.setIfInBounds_toArray, List.set_cons_zero, List.set_cons_succ]
  refine wpAnyH_take (i := 15) (v := .bool false) rfl (by kernel_rfl) (by kernel_rfl) (by kernel_rfl) (fun _ _ _ h => h) (Or.inl ⟨by rfl, fun w_ hS_ => by (first | (go_simp; done) | (go_simp; rfl))⟩) ⟨rowAt Zl, rowMid Zl 2 (Ld.ballot L), rowAt Zb, rowAt Za⟩ ?_
  try simp only [Act.put, List.getElem_toArray, List.getElem_cons_zero, List.getElem_cons_succ, List.setIfInBounds_toArray, List.set_cons_zero, List.set_cons_succ]
  refine wpAnyH_take (i := 16) (v := .agg (a.cells).toArray) rfl (by kernel_rfl) (by kernel_rfl) (by kernel_rfl) (fun _ _ _ h => h) (yieldsIf_load_mid (by rfl) 39 _ rfl (w.heap.size + 1) 0 rfl (a.cells) _ (fun _ h => h.2.2.2) Tryd.underlying39 rfl sizeAc) ⟨rowAt Zl, rowMid Zl 2 (Ld.ballot L), rowAt Zb, rowAt Za⟩ ?_
  try simp only [Act.put, List.getElem_toArray, List.getElem_cons_zero, List.getElem_cons_succ, List.setIfInBounds_toArray, List.set_cons_zero, List.set_cons_succ]
  refine wpAnyH_ready (rs := [17]) (by kernel_rfl) (by simp) ?_
  refine AllReadyH.cons rfl (fun K hK => ?_) AllReadyH.nil
  rw [if_pos (by rfl)]
  go_simp
  go_wp2_with (go_at_call 20; refine (HFO.out z1 e0).mono ?_; rintro e z2 ⟨rfl, t⟩)
  have Zl := hpB Zl t
  have Zb := hpB Zb t
  have Za := hpB Za t
  have hu := ownBelow hu t
  have ee := frBelow ee t
  have e0 := e0.trans (t.mono e0.size)
  clear t
  refine hK.out _ _ ⟨rowAt Zl, rowMid Zl 2 (Ld.ballot L), rowAt Zb, rowAt Za⟩ (fun hH => ?_)
  clear hK K hH
  try simp only [Act.put, List.getElem_toArray, List.getElem_cons_zero, List.getElem_cons_succ, List.setIfInBounds_toArray, List.set_cons_zero, List.set_cons_succ]
  refine wpAnyH_take (i := 18) (v := .bool false) rfl (by kernel_rfl) (by kernel_rfl) (by kernel_rfl) (fun _ _ _ h => h) (Or.inl ⟨by rfl, fun w_ hS_ => by (first | (go_simp; done) | (go_simp; rfl))⟩) ⟨rowAt Zl, rowMid Zl 2 (Ld.ballot L), rowAt Zb, rowAt Za⟩ ?_
  try simp only [Act.put, List.getElem_toArray, List.getElem_cons_zero, List.getElem_cons_succ, List.setIfInBounds_toArray, List.set_cons_zero, List.set_cons_succ]
  refine wpAnyH_take (i := 19) (v := .bool false) rfl (by kernel_rfl) (by kernel_rfl) (by kernel_rfl) (fun _ _ _ h => h) (Or.inl ⟨by rfl, fun w_ hS_ => by (first | (go_simp; done) | (go_simp; rfl))⟩) ⟨rowAt Zl, rowMid Zl 2 (Ld.ballot L), rowAt Zb, rowAt Za⟩ ?_
  try simp only [Act.put, List.getElem_toArray, List.getElem_cons_zero, List.getElem_cons_succ, List.setIfInBounds_toArray, List.set_cons_zero, List.set_cons_succ]
  refine wpAnyH_take (i := 20) (v := .bool false) rfl (by kernel_rfl) (by kernel_rfl) (by kernel_rfl) (fun _ _ _ h => h) (Or.inl ⟨by rfl, fun w_ hS_ => by (first | (go_simp; done) | (go_simp; rfl))⟩) ⟨rowAt Zl, rowMid Zl 2 (Ld.ballot L), rowAt Zb, rowAt Za⟩ ?_
  try simp only [Act.put, List.getElem_toArray, List.getElem_cons_zero, List.getElem_cons_succ, List.setIfInBounds_toArray, List.set_cons_zero, List.set_cons_succ]
  refine wpAnyH_take (i := 21) (v := .int .i64 k) rfl (by kernel_rfl) (by kernel_rfl) (by kernel_rfl) (fun _ _ _ h => h) (Or.inl ⟨by rfl, fun w_ hS_ => by (first | (go_simp; done) | (go_simp; rfl))⟩) ⟨rowAt Zl, rowMid Zl 2 (Ld.ballot L), rowAt Zb, rowAt Za⟩ ?_
  try simp only [Act.put, List.getElem_toArray, List.getElem_cons_zero, List.getElem_cons_succ, List.setIfInBounds_toArray, List.set_cons_zero, List.set_cons_succ]
  refine wpAnyH_take (i := 22) (v := .bool false) rfl (by kernel_rfl) (by kernel_rfl) (by kernel_rfl) (fun _ _ _ h => h) (Or.inl ⟨by rfl, fun w_ hS_ => by (first | (go_simp; done) | (go_simp; rfl))⟩) ⟨rowAt Zl, rowMid Zl 2 (Ld.ballot L), rowAt Zb, rowAt Za⟩ ?_
  try simp only [Act.put, List.getElem_toArray, List.getElem_cons_zero, List.getElem_cons_succ, List.setIfInBounds_toArray, List.set_cons_zero, List.set_cons_succ]
  refine wpAnyH_take (i := 23) (v := .bool false) rfl (by kernel_rfl) (by kernel_rfl) (by kernel_rfl) (fun _ _ _ h => h) (Or.inl ⟨by rfl, fun w_ hS_ => by (first | (go_simp; done) | (go_simp; rfl))⟩) ⟨rowAt Zl, rowMid Zl 2 (Ld.ballot L), rowAt Zb, rowAt Za⟩ ?_
  try simp only [Act.put, List.getElem_toArray, List.getElem_cons_zero, List.getElem_cons_succ, List.setIfInBounds_toArray, List.set_cons_zero, List.set_cons_succ]
  refine wpAnyH_take (i := 24) (v := .bool false) rfl (by kernel_rfl) (by kernel_rfl) (by kernel_rfl) (fun _ _ _ h => h) (Or.inl ⟨by rfl, fun w_ hS_ => by (first | (go_simp; done) | (go_simp; rfl))⟩) ⟨rowAt Zl, rowMid Zl 2 (Ld.ballot L), rowAt Zb, rowAt Za⟩ ?_
  try simp only [Act.put, List.getElem_toArray, List.getElem_cons_zero, List.getElem_cons_succ, List.setIfInBounds_toArray, List.set_cons_zero, List.set_cons_succ]
  refine wpAnyH_take (i := 25) (v := .int .i64 k) rfl (by kernel_rfl) (by kernel_rfl) (by kernel_rfl) (fun _ _ _ h => h) (Or.inl ⟨by rfl, fun w_ hS_ => by (first | (go_simp; done) | (go_simp; rfl))⟩) ⟨rowAt Zl, rowMid Zl 2 (Ld.ballot L), rowAt Zb, rowAt Za⟩ ?_
  try simp only [Act.put, List.getElem_toArray, List.getElem_cons_zero, List.getElem_cons_succ, List.setIfInBounds_toArray, List.set_cons_zero, List.set_cons_succ]
  refine wpAnyH_take (i := 26) (v := .pointer (some ⟨h, 0, none⟩)) rfl (by kernel_rfl) (by kernel_rfl) (by kernel_rfl) (fun _ _ _ h => h) (Or.inl ⟨by rfl, fun w_ hS_ => by (first | (go_simp; done) | (go_simp; rfl))⟩) ⟨rowAt Zl, rowMid Zl 2 (Ld.ballot L), rowAt Zb, rowAt Za⟩ ?_
  try simp only [Act.put, List.getElem_toArray, List.getElem_cons_zero, List.getElem_cons_succ, List.setIfInBounds_toArray, List.set_cons_zero, List.set_cons_succ]
  refine wpAnyH_take (i := 27) (v := .pointer (some ⟨h, 0, none⟩)) rfl (by kernel_rfl) (by kernel_rfl) (by kernel_rfl) (fun _ _ _ h => h) (Or.inl ⟨by rfl, fun w_ hS_ => by (first | (go_simp; done) | (go_simp; rfl))⟩) ⟨rowAt Zl, rowMid Zl 2 (Ld.ballot L), rowAt Zb, rowAt Za⟩ ?_
  try simp only [Act.put, List.getElem_toArray, List.getElem_cons_zero, List.getElem_cons_succ, List.setIfInBounds_toArray, List.set_cons_zero, List.set_cons_succ]
  refine wpAnyH_take (i := 28) (v := .pointer (some ⟨h, 0, none⟩)) rfl (by kernel_rfl) (by kernel_rfl) (by kernel_rfl) (fun _ _ _ h => h) (Or.inl ⟨by rfl, fun w_ hS_ => by (first | (go_simp; done) | (go_simp; rfl))⟩) ⟨rowAt Zl, rowMid Zl 2 (Ld.ballot L), rowAt Zb, rowAt Za⟩ ?_
  try simp only [Act.put, List.getElem_toArray, List.getElem_cons_zero, List.getElem_cons_succ, List.setIfInBounds_toArray, List.set_cons_zero, List.set_cons_succ]
  refine wpAnyH_take (i := 29) (v := .int .i64 L.n) rfl (by kernel_rfl) (by kernel_rfl) (by kernel_rfl) (fun _ _ _ h => h) (Or.inl ⟨by rfl, fun w_ hS_ => by (have c_ := rangeCell0 hS_.1 0 rfl; go_simp)⟩) ⟨rowAt Zl, rowMid Zl 2 (Ld.ballot L), rowAt Zb, rowAt Za⟩ ?_
  try simp only [Act.put, List.getElem_toArray, List.getElem_cons_zero, List.getElem_cons_succ, List.setIfInBounds_toArray, List.set_cons_zero, List.set_cons_succ]
  refine wpAnyH_take (i := 30) (v := .bool false) rfl (by kernel_rfl) (by kernel_rfl) (by kernel_rfl) (fun _ _ _ h => h) (Or.inl ⟨by rfl, fun w_ hS_ => by (first | (go_simp; done) | (go_simp; rfl))⟩) ⟨rowAt Zl, rowMid Zl 2 (Ld.ballot L), rowAt Zb, rowAt Za⟩ ?_
  try simp only [Act.put, List.getElem_toArray, List.getElem_cons_zero, List.getElem_cons_succ, List.setIfInBounds_toArray, List.set_cons_zero, List.set_cons_succ]
  refine wpAnyH_take (i := 31) (v := .bool false) rfl (by kernel_rfl) (by kernel_rfl) (by kernel_rfl) (fun _ _ _ h => h) (Or.inl ⟨by rfl, fun w_ hS_ => by (first | (go_simp; done) | (go_simp; rfl))⟩) ⟨rowAt Zl, rowMid Zl 2 (Ld.ballot L), rowAt Zb, rowAt Za⟩ ?_
  try simp only [Act.put, List.getElem_toArray, List.getElem_cons_zero, List.getElem_cons_succ, List.setIfInBounds_toArray, List.set_cons_zero, List.set_cons_succ]
  refine wpAnyH_take (i := 32) (v := .bool false) rfl (by kernel_rfl) (by kernel_rfl) (by kernel_rfl) (fun _ _ _ h => h) (Or.inl ⟨by rfl, fun w_ hS_ => by (first | (go_simp; done) | (go_simp; rfl))⟩) ⟨rowAt Zl, rowMid Zl 2 (Ld.ballot L), rowAt Zb, rowAt Za⟩ ?_
  try simp only [Act.put, List.getElem_toArray, List.getElem_cons_zero, List.getElem_cons_succ, List.setIfInBounds_toArray, List.set_cons_zero, List.set_cons_succ]
  refine wpAnyH_take (i := 33) (v := .pointer (some ⟨h, 0, none⟩)) rfl (by kernel_rfl) (by kernel_rfl) (by kernel_rfl) (fun _ _ _ h => h) (Or.inl ⟨by rfl, fun w_ hS_ => by (first | (go_simp; done) | (go_simp; rfl))⟩) ⟨rowAt Zl, rowMid Zl 2 (Ld.ballot L), rowAt Zb, rowAt Za⟩ ?_
  try simp only [Act.put, List.getElem_toArray, List.getElem_cons_zero, List.getElem_cons_succ, List.setIfInBounds_toArray, List.set_cons_zero, List.set_cons_succ]
  refine wpAnyH_take (i := 34) (v := .pointer (some ⟨h, 0, none⟩)) rfl (by kernel_rfl) (by kernel_rfl) (by kernel_rfl) (fun _ _ _ h => h) (Or.inl ⟨by rfl, fun w_ hS_ => by (first | (go_simp; done) | (go_simp; rfl))⟩) ⟨rowAt Zl, rowMid Zl 2 (Ld.ballot L), rowAt Zb, rowAt Za⟩ ?_
  try simp only [Act.put, List.getElem_toArray, List.getElem_cons_zero, List.getElem_cons_succ, List.setIfInBounds_toArray, List.set_cons_zero, List.set_cons_succ]
  refine wpAnyH_take (i := 35) (v := .pointer (some ⟨h, 4, none⟩)) rfl (by kernel_rfl) (by kernel_rfl) (by kernel_rfl) (fun _ _ _ h => h) (Or.inl ⟨by rfl, fun w_ hS_ => by (first | (go_simp; done) | (go_simp; rfl))⟩) ⟨rowAt Zl, rowMid Zl 2 (Ld.ballot L), rowAt Zb, rowAt Za⟩ ?_
  try simp only [Act.put, List.getElem_toArray, List.getElem_cons_zero, List.getElem_cons_succ, List.setIfInBounds_toArray, List.set_cons_zero, List.set_cons_succ]
  refine wpAnyH_take (i := 36) (v := .int .u64 (L.pr : Int)) rfl (by kernel_rfl) (by kernel_rfl) (by kernel_rfl) (fun _ _ _ h => h) (Or.inl ⟨by rfl, fun w_ hS_ => by (have c_ := rangeCell0 hS_.1 4 rfl; go_simp)⟩) ⟨rowAt Zl, rowMid Zl 2 (Ld.ballot L), rowAt Zb, rowAt Za⟩ ?_
  try simp only [Act.put, List.getElem_toArray, List.getElem_cons_zero, List.getElem_cons_succ, List.setIfInBounds_toArray, List.set_cons_zero, List.set_cons_succ]
  refine wpAnyH_take (i := 37) (v := .int .i64 k) rfl (by kernel_rfl) (by kernel_rfl) (by kernel_rfl) (fun _ _ _ h => h) (Or.inl ⟨by rfl, fun w_ hS_ => by (first | (go_simp; done) | (go_simp; rfl))⟩) ⟨rowAt Zl, rowMid Zl 2 (Ld.ballot L), rowAt Zb, rowAt Za⟩ ?_
  try simp only [Act.put, List.getElem_toArray, List.getElem_cons_zero, List.getElem_cons_succ, List.setIfInBounds_toArray, List.set_cons_zero, List.set_cons_succ]
  refine wpAnyH_ready (rs := [38]) (by kernel_rfl) (by simp) ?_
  refine AllReadyH.cons rfl (fun K hK => ?_) AllReadyH.nil
  rw [if_pos (by rfl)]
  go_simp
  go_wp2_with (go_at_call 80; refine (HQ.out z2).mono ?_; rintro e z3 ⟨rfl, hw_⟩; rw [← hw_]; clear hw_ z3)
  refine hK.out _ _ ⟨rowAt Zl, rowMid Zl 2 (Ld.ballot L), rowAt Zb, rowAt Za⟩ (fun hH => ?_)
  clear hK K hH
  try simp only [Act.put, List.getElem_toArray, List.getElem_cons_zero, List.getElem_cons_succ, List.setIfInBounds_toArray, List.set_cons_zero, List.set_cons_succ]
  refine wpAnyH_take (i := 39) (v := .bool false) rfl (by kernel_rfl) (by kernel_rfl) (by kernel_rfl) (fun _ _ _ h => h) (Or.inl ⟨by rfl, fun w_ hS_ => by (first | (go_simp; done) | (go_simp; rfl))⟩) ⟨rowAt Zl, rowMid Zl 2 (Ld.ballot L), rowAt Zb, rowAt Za⟩ ?_
  try simp only [Act.put, List.getElem_toArray, List.getElem_cons_zero, List.getElem_cons_succ, List.setIfInBounds_toArray, List.set_cons_zero, List.set_cons_succ]
  refine wpAnyH_done (by kernel_rfl) ?_ _
  clear e0 HQ HFO hI hJ e4 e5
  go_upto_region 3 with fail
  refine wp_region_lit ?_
  have c4 := rowCell Zl 4 rfl
  go_wp2_with fail
  refine (HA.out z2).mono ?_
  rintro e z4 ⟨rfl, hw_⟩
  rw [← hw_]
  clear hw_ z4 HA c4
  dsimp only
  rename_i hK
  refine hK _ _ ?_
  clear hK
  iterate 40 (first | with_reducible refine isStore (ty := 35) rfl ?_ | go_step)
  have f_ : z2.frozen? ⟨h, 4, none⟩ = false := freeAt Zl 4
  have c_ := rowCell Zl 4 rfl
  iterate 3 go_step
  clear f_ c_
  have hu := lgOwnC hu (lgKind hu Zl (by decide)) ([.int .u64 (Q.addN L.pr k : Int)]) 4
  have N_ : (z2.setCells (h) 4 ([.int .u64 (Q.addN L.pr k : Int)])).heap[h]? = some (.cells ([.int .i64 L.n, .int .i64 L.nd, .int .u32 (L.br : Int), .int .i64 L.bn, .int .u64 (Q.addN L.pr k : Int), .slice L.A L.l.length L.c, .int .i64 L.fs, .int .i64 L.sl, .int .i64 L.x.k, .int .i64 L.x.s, .int .i64 L.x.q, .slice L.x.A1 L.x.rs.length L.x.c1, .slice L.x.A2 L.x.ws.length L.x.c2, .int .i64 L.x.i, .int .i64 L.x.j, .int .i64 L.x.g, .int .u64 (L.x.st : Int), .bool L.x.y, .int .u64 (L.vt : Int)]).toArray 144) := hpC ([.int .u64 (Q.addN L.pr k : Int)]) 4 _ z2 Zl
  have ee := frCells (k := h) (by first | (right; omega) | (left; left; rfl)) ([.int .u64 (Q.addN L.pr k : Int)]) 4 z2 ee
  have Zb := hpCo (g' := h) (by omega) ([.int .u64 (Q.addN L.pr k : Int)]) 4 z2 Zb
  have Za := hpCo (g' := h) (by omega) ([.int .u64 (Q.addN L.pr k : Int)]) 4 z2 Za
  clear Zl
  have Zl := N_
  clear N_
  change wpList _ _ _ _ _ (z2.setCells (h) 4 ([.int .u64 (Q.addN L.pr k : Int)]))
  generalize z2.setCells (h) 4 ([.int .u64 (Q.addN L.pr k : Int)]) = z5 at Zl Zb Za hu ee ⊢
  generalize hvt : Q.addN L.pr k = pr2 at Zl ⊢
  go_upto_region 4 with fail
  have Zl : z5.drew.heap[h]? = some (.cells ([.int .i64 L.n, .int .i64 L.nd, .int .u32 (L.br : Int), .int .i64 L.bn, .int .u64 (pr2 : Int), .slice L.A L.l.length L.c, .int .i64 L.fs, .int .i64 L.sl, .int .i64 L.x.k, .int .i64 L.x.s, .int .i64 L.x.q, .slice L.x.A1 L.x.rs.length L.x.c1, .slice L.x.A2 L.x.ws.length L.x.c2, .int .i64 L.x.i, .int .i64 L.x.j, .int .i64 L.x.g, .int .u64 (L.x.st : Int), .bool L.x.y, .int .u64 (L.vt : Int)]).toArray 144) := Zl
  have Zb : z5.drew.heap[w.heap.size]? = some (.cells [.int .u32 (L.br : Int), .int .i64 L.bn].toArray 28) := Zb
  have Za : z5.drew.heap[w.heap.size + 1]? = some (.cells a.cells.toArray 39) := Za
  have hu := World.ownsRow.drew hu
  have ee := frDrew ee
  refine wp_region_held_drew (S := fun z' => z'.rangeAt (w.heap.size + 1) 0 a.cells) (by kernel_rfl) (rowAt Za) (fun hH => ?_)
  clear hH
  generalize z5.drew = z6 at Zl Zb Za hu ee ⊢
  refine wpAnyH_take (i := 0) (v := .pointer (some ⟨h, 0, none⟩)) rfl (by kernel_rfl) (by kernel_rfl) (by kernel_rfl) (fun _ _ _ h => h) (Or.inl ⟨by rfl, fun w_ hS_ => by (first | (go_simp; done) | (go_simp; rfl))⟩) (rowAt Za) ?_
  try simp only [Act.put, List.getElem_toArray, List.getElem_cons_zero, List.getElem_cons_succ, List.setIfInBounds_toArray, List.set_cons_zero, List.set_cons_succ]
  refine wpAnyH_take (i := 1) (v := .pointer (some ⟨h, 0, none⟩)) rfl (by kernel_rfl) (by kernel_rfl) (by kernel_rfl) (fun _ _ _ h => h) (Or.inl ⟨by rfl, fun w_ hS_ => by (first | (go_simp; done) | (go_simp; rfl))⟩) (rowAt Za) ?_
  try simp only [Act.put, List.getElem_toArray, List.getElem_cons_zero, List.getElem_cons_succ, List.setIfInBounds_toArray, List.set_cons_zero, List.set_cons_succ]
  refine wpAnyH_take (i := 2) (v := .pointer (some ⟨h, 0, none⟩)) rfl (by kernel_rfl) (by kernel_rfl) (by kernel_rfl) (fun _ _ _ h => h) (Or.inl ⟨by rfl, fun w_ hS_ => by (first | (go_simp; done) | (go_simp; rfl))⟩) (rowAt Za) ?_
  try simp only [Act.put, List.getElem_toArray, List.getElem_cons_zero, List.getElem_cons_succ, List.setIfInBounds_toArray, List.set_cons_zero, List.set_cons_succ]
  refine wpAnyH_take (i := 3) (v := .pointer (some ⟨h, 5, none⟩)) rfl (by kernel_rfl) (by kernel_rfl) (by kernel_rfl) (fun _ _ _ h => h) (Or.inl ⟨by rfl, fun w_ hS_ => by (first | (go_simp; done) | (go_simp; rfl))⟩) (rowAt Za) ?_
  try simp only [Act.put, List.getElem_toArray, List.getElem_cons_zero, List.getElem_cons_succ, List.setIfInBounds_toArray, List.set_cons_zero, List.set_cons_succ]
  refine wpAnyH_take (i := 5) (v := .agg (a.cells).toArray) rfl (by kernel_rfl) (by kernel_rfl) (by kernel_rfl) (fun _ _ _ h => h) (yieldsIf_load_mid (by rfl) 39 _ rfl (w.heap.size + 1) 0 rfl (a.cells) _ (fun _ h => h) Tryd.underlying39 rfl sizeAc) (rowAt Za) ?_
  try simp only [Act.put, List.getElem_toArray, List.getElem_cons_zero, List.getElem_cons_succ, List.setIfInBounds_toArray, List.set_cons_zero, List.set_cons_succ]
  refine wpAnyH_ready (rs := [4, 6]) (by kernel_rfl) (by simp) ?_
  refine AllReadyH.cons rfl (fun K hK => ?_) (AllReadyH.cons rfl (fun K hK => ?_) AllReadyH.nil)
  · rw [if_pos (by rfl)]
    have c_ := rowCell Zl 5 (v := .slice L.A L.l.length L.c) rfl
    go_simp
    clear c_
    refine hK.out _ _ (rowAt Za) (fun hH => ?_)
    clear hK K hH
    try simp only [Act.put, List.getElem_toArray, List.getElem_cons_zero, List.getElem_cons_succ, List.setIfInBounds_toArray, List.set_cons_zero, List.set_cons_succ]
    refine wpAnyH_ready (rs := [6]) (by kernel_rfl) (by simp) ?_
    refine AllReadyH.cons rfl (fun K hK => ?_) AllReadyH.nil
    rw [if_pos (by rfl)]
    refine wp_buildSlice 22 39 1 #[(0, .tmp 63)] rfl a.cells.toArray i1 (.agg #[.int .u32 0, .int .i64 0, .int .i64 0, .bool false, .int .u32 0, .int .i64 0, .int .i64 0, .int .i64 0, .int .i64 0, .slice none 0 0, .slice none 0 0, .int .i64 0, .int .i64 0, .int .i64 0, .int .u64 0, .bool false]) Tryd.underlying22 hi1 hz10 (by rw [hz11]; decide) (by rw [hz11]; decide) (by rw [hz11]; simp only [List.map_toArray, List.map_cons, List.map_nil]; exact lgFill16 _ _ (by simp)) ?_
    have lZl := (Array.getElem?_eq_some_iff.1 Zl).1
    have lZb := (Array.getElem?_eq_some_iff.1 Zb).1
    have lZa := (Array.getElem?_eq_some_iff.1 Za).1
    have Zl := hpA Zl (.cells a.cells.toArray 39)
    have Zb := hpA Zb (.cells a.cells.toArray 39)
    have Za := hpA Za (.cells a.cells.toArray 39)
    have hu := hu.alloc (.cells a.cells.toArray 39)
    have sz6 := ee.1.size
    have ee := frAlloc ee (.cells a.cells.toArray 39)
    have Zn := hpN z6 (.cells a.cells.toArray 39) rfl
    generalize z6.alloc (.cells a.cells.toArray 39) = z7 at Zl Zb Za Zn hu ee ⊢
    refine hK.out _ _ (rowAt Za) (fun hH => ?_)
    clear hK K hH
    try simp only [Act.put, List.getElem_toArray, List.getElem_cons_zero, List.getElem_cons_succ, List.setIfInBounds_toArray, List.set_cons_zero, List.set_cons_succ]
    refine wpAnyH_ready (rs := [7]) (by kernel_rfl) (by simp) ?_
    refine AllReadyH.cons rfl (fun K hK => ?_) AllReadyH.nil
    rw [if_pos (by rfl)]
    refine wp_append_own _ (.tmp 62) (.tmp 64) 22 rfl B 39 i1 (.agg #[.int .u32 0, .int .i64 0, .int .i64 0, .bool false, .int .u32 0, .int .i64 0, .int .i64 0, .int .i64 0, .int .i64 0, .slice none 0 0, .slice none 0 0, .int .i64 0, .int .i64 0, .int .i64 0, .int .u64 0, .bool false]) 16 160 Tryd.underlying22 hi1 hz10 hz11 hz12 rfl (by decide) _ _ _ rfl hu ⟨z6.heap.size, 0, none⟩ 1 1 a.cells rfl rfl (lgRowAdd Zn) (by intro u hu_; exact (Array.all_eq_true_iff_forall_mem.1 (Ac.one a)) u (by simpa using hu_)) (by unfold maxLen; omega) (by omega) (Nat.le_trans hB ee.1.size) ?_
    intro u_ z8 ho_ hg_ _
    clear Zn
    have Zl := lgHeap Zl hu (by decide) hg_
    have Zb := lgHeap Zb hu (by decide) hg_
    have Za := lgHeapB Za hlow hg_
    have ee := frOwnE ee hu hg_ (by first | omega | exact hPown)
    clear hg_ hu
    obtain ⟨A9, c9, hu9, _, _, _⟩ := ownShape ho_
    subst hu9
    have hu := ho_
    clear ho_
    refine hK.out _ _ (rowAt Za) (fun hH => ?_)
    clear hK K hH
    try simp only [Act.put, List.getElem_toArray, List.getElem_cons_zero, List.getElem_cons_succ, List.setIfInBounds_toArray, List.set_cons_zero, List.set_cons_succ]
    refine wpAnyH_take (i := 8) (v := .pointer (some ⟨h, 0, none⟩)) rfl (by kernel_rfl) (by kernel_rfl) (by kernel_rfl) (fun _ _ _ h => h) (Or.inl ⟨by rfl, fun w_ hS_ => by (first | (go_simp; done) | (go_simp; rfl))⟩) (rowAt Za) ?_
    try simp only [Act.put, List.getElem_toArray, List.getElem_cons_zero, List.getElem_cons_succ, List.setIfInBounds_toArray, List.set_cons_zero, List.set_cons_succ]
    refine wpAnyH_take (i := 9) (v := .pointer (some ⟨h, 5, none⟩)) rfl (by kernel_rfl) (by kernel_rfl) (by kernel_rfl) (fun _ _ _ h => h) (Or.inl ⟨by rfl, fun w_ hS_ => by (first | (go_simp; done) | (go_simp; rfl))⟩) (rowAt Za) ?_
    try simp only [Act.put, List.getElem_toArray, List.getElem_cons_zero, List.getElem_cons_succ, List.setIfInBounds_toArray, List.set_cons_zero, List.set_cons_succ]
    refine wpAnyH_ready (rs := [10]) (by kernel_rfl) (by simp) ?_
    refine AllReadyH.cons rfl (fun K hK => ?_) AllReadyH.nil
    rw [if_pos (by rfl)]
    have f_ : z8.frozen? ⟨h, 5, none⟩ = false := freeAt Zl 5
    have c_ := rowCell Zl 5 rfl
    go_simp
    clear f_ c_
    have hu := lgOwnC hu (lgKind hu Zl (by decide)) ([.slice A9 (L.l.length + 1) c9]) 5
    have N_ : (z8.setCells (h) 5 ([.slice A9 (L.l.length + 1) c9])).heap[h]? = some (.cells ([.int .i64 L.n, .int .i64 L.nd, .int .u32 (L.br : Int), .int .i64 L.bn, .int .u64 (pr2 : Int), .slice A9 (L.l.length + 1) c9, .int .i64 L.fs, .int .i64 L.sl, .int .i64 L.x.k, .int .i64 L.x.s, .int .i64 L.x.q, .slice L.x.A1 L.x.rs.length L.x.c1, .slice L.x.A2 L.x.ws.length L.x.c2, .int .i64 L.x.i, .int .i64 L.x.j, .int .i64 L.x.g, .int .u64 (L.x.st : Int), .bool L.x.y, .int .u64 (L.vt : Int)]).toArray 144) := hpC ([.slice A9 (L.l.length + 1) c9]) 5 _ z8 Zl
    have ee := frCells (k := h) (by first | (right; omega) | (left; left; rfl)) ([.slice A9 (L.l.length + 1) c9]) 5 z8 ee
    have Zb := hpCo (g' := h) (by omega) ([.slice A9 (L.l.length + 1) c9]) 5 z8 Zb
    have Za := hpCo (g' := h) (by omega) ([.slice A9 (L.l.length + 1) c9]) 5 z8 Za
    clear Zl
    have Zl := N_
    clear N_
    change K _ (z8.setCells (h) 5 [.slice A9 (L.l.length + 1) c9])
    generalize z8.setCells (h) 5 [.slice A9 (L.l.length + 1) c9] = z9 at Zl Zb Za hu ee ⊢
    refine hK.out _ _ (rowAt Za) (fun hH => ?_)
    clear hK K hH
    try simp only [Act.put, List.getElem_toArray, List.getElem_cons_zero, List.getElem_cons_succ, List.setIfInBounds_toArray, List.set_cons_zero, List.set_cons_succ]
    refine wpAnyH_done (by kernel_rfl) ?_ _
    clear hi1 hz10 hz11 hz12 hlow hPown
    go_upto_region 5 with fail
    have c6 := rowCell Zl 6 rfl
    have a2 := rowCell Za 2 (v := .int .i64 a.sl) rfl
    go_still_tail 10, (by kernel_rfl)
    have Zl : z9.drew.heap[h]? = some (.cells ([.int .i64 L.n, .int .i64 L.nd, .int .u32 (L.br : Int), .int .i64 L.bn, .int .u64 (pr2 : Int), .slice A9 (L.l.length + 1) c9, .int .i64 L.fs, .int .i64 L.sl, .int .i64 L.x.k, .int .i64 L.x.s, .int .i64 L.x.q, .slice L.x.A1 L.x.rs.length L.x.c1, .slice L.x.A2 L.x.ws.length L.x.c2, .int .i64 L.x.i, .int .i64 L.x.j, .int .i64 L.x.g, .int .u64 (L.x.st : Int), .bool L.x.y, .int .u64 (L.vt : Int)]).toArray 144) := Zl
    have Zb : z9.drew.heap[w.heap.size]? = some (.cells [.int .u32 (L.br : Int), .int .i64 L.bn].toArray 28) := Zb
    have Za : z9.drew.heap[w.heap.size + 1]? = some (.cells a.cells.toArray 39) := Za
    have hu := World.ownsRow.drew hu
    have ee := frDrew ee
    change wpList _ _ _ _ _ z9.drew
    generalize z9.drew = z10 at Zl Zb Za hu ee ⊢
    clear c6 a2
    iterate 40 (first | with_reducible refine isStore (ty := 3) rfl ?_ | go_step)
    have f_ : z10.frozen? ⟨h, 6, none⟩ = false := freeAt Zl 6
    have c_ := rowCell Zl 6 rfl
    iterate 3 go_step
    clear f_ c_
    have hu := lgOwnC hu (lgKind hu Zl (by decide)) ([.int .i64 (max L.fs a.sl)]) 6
    have N_ : (z10.setCells (h) 6 ([.int .i64 (max L.fs a.sl)])).heap[h]? = some (.cells ([.int .i64 L.n, .int .i64 L.nd, .int .u32 (L.br : Int), .int .i64 L.bn, .int .u64 (pr2 : Int), .slice A9 (L.l.length + 1) c9, .int .i64 (max L.fs a.sl), .int .i64 L.sl, .int .i64 L.x.k, .int .i64 L.x.s, .int .i64 L.x.q, .slice L.x.A1 L.x.rs.length L.x.c1, .slice L.x.A2 L.x.ws.length L.x.c2, .int .i64 L.x.i, .int .i64 L.x.j, .int .i64 L.x.g, .int .u64 (L.x.st : Int), .bool L.x.y, .int .u64 (L.vt : Int)]).toArray 144) := hpC ([.int .i64 (max L.fs a.sl)]) 6 _ z10 Zl
    have ee := frCells (k := h) (by first | (right; omega) | (left; left; rfl)) ([.int .i64 (max L.fs a.sl)]) 6 z10 ee
    have Zb := hpCo (g' := h) (by omega) ([.int .i64 (max L.fs a.sl)]) 6 z10 Zb
    have Za := hpCo (g' := h) (by omega) ([.int .i64 (max L.fs a.sl)]) 6 z10 Za
    clear Zl
    have Zl := N_
    clear N_
    change wpList _ _ _ _ _ (z10.setCells (h) 6 ([.int .i64 (max L.fs a.sl)]))
    generalize z10.setCells (h) 6 ([.int .i64 (max L.fs a.sl)]) = z11 at Zl Zb Za hu ee ⊢
    go_wp2_with fail
    go_ret
    have hlen2 : (L.l ++ [a]).length = L.l.length + 1 := by simp
    refine ⟨rfl, A9, c9, ?_, by rw [hlen2, acCells_snoc]; exact hu, ee⟩
    rw [hvt]
    unfold LdAt T.Ld.cells
    simp only [hlen2]
    exact Zl
  · rw [if_pos (by rfl)]
    refine wp_buildSlice 22 39 1 #[(0, .tmp 63)] rfl a.cells.toArray i1 (.agg #[.int .u32 0, .int .i64 0, .int .i64 0, .bool false, .int .u32 0, .int .i64 0, .int .i64 0, .int .i64 0, .int .i64 0, .slice none 0 0, .slice none 0 0, .int .i64 0, .int .i64 0, .int .i64 0, .int .u64 0, .bool false]) Tryd.underlying22 hi1 hz10 (by rw [hz11]; decide) (by rw [hz11]; decide) (by rw [hz11]; simp only [List.map_toArray, List.map_cons, List.map_nil]; exact lgFill16 _ _ (by simp)) ?_
    have lZl := (Array.getElem?_eq_some_iff.1 Zl).1
    have lZb := (Array.getElem?_eq_some_iff.1 Zb).1
    have lZa := (Array.getElem?_eq_some_iff.1 Za).1
    have Zl := hpA Zl (.cells a.cells.toArray 39)
    have Zb := hpA Zb (.cells a.cells.toArray 39)
    have Za := hpA Za (.cells a.cells.toArray 39)
    have hu := hu.alloc (.cells a.cells.toArray 39)
    have sz6 := ee.1.size
    have ee := frAlloc ee (.cells a.cells.toArray 39)
    have Zn := hpN z6 (.cells a.cells.toArray 39) rfl
    generalize z6.alloc (.cells a.cells.toArray 39) = z7 at Zl Zb Za Zn hu ee ⊢
    refine hK.out _ _ (rowAt Za) (fun hH => ?_)
    clear hK K hH
    try simp only [Act.put, List.getElem_toArray, List.getElem_cons_zero, List.getElem_cons_succ, List.setIfInBounds_toArray, List.set_cons_zero, List.set_cons_succ]
    refine wpAnyH_ready (rs := [4]) (by kernel_rfl) (by simp) ?_
    refine AllReadyH.cons rfl (fun K hK => ?_) AllReadyH.nil
    rw [if_pos (by rfl)]
    have c_ := rowCell Zl 5 (v := .slice L.A L.l.length L.c) rfl
    go_simp
    clear c_
    refine hK.out _ _ (rowAt Za) (fun hH => ?_)
    clear hK K hH
    try simp only [Act.put, List.getElem_toArray, List.getElem_cons_zero, List.getElem_cons_succ, List.setIfInBounds_toArray, List.set_cons_zero, List.set_cons_succ]
    refine wpAnyH_ready (rs := [7]) (by kernel_rfl) (by simp) ?_
    refine AllReadyH.cons rfl (fun K hK => ?_) AllReadyH.nil
    rw [if_pos (by rfl)]
    refine wp_append_own _ (.tmp 62) (.tmp 64) 22 rfl B 39 i1 (.agg #[.int .u32 0, .int .i64 0, .int .i64 0, .bool false, .int .u32 0, .int .i64 0, .int .i64 0, .int .i64 0, .int .i64 0, .slice none 0 0, .slice none 0 0, .int .i64 0, .int .i64 0, .int .i64 0, .int .u64 0, .bool false]) 16 160 Tryd.underlying22 hi1 hz10 hz11 hz12 rfl (by decide) _ _ _ rfl hu ⟨z6.heap.size, 0, none⟩ 1 1 a.cells rfl rfl (lgRowAdd Zn) (by intro u hu_; exact (Array.all_eq_true_iff_forall_mem.1 (Ac.one a)) u (by simpa using hu_)) (by unfold maxLen; omega) (by omega) (Nat.le_trans hB ee.1.size) ?_
    intro u_ z8 ho_ hg_ _
    clear Zn
    have Zl := lgHeap Zl hu (by decide) hg_
    have Zb := lgHeap Zb hu (by decide) hg_
    have Za := lgHeapB Za hlow hg_
    have ee := frOwnE ee hu hg_ (by first | omega | exact hPown)
    clear hg_ hu
    obtain ⟨A9, c9, hu9, _, _, _⟩ := ownShape ho_
    subst hu9
    have hu := ho_
    clear ho_
    refine hK.out _ _ (rowAt Za) (fun hH => ?_)
    clear hK K hH
    try simp only [Act.put, List.getElem_toArray, List.getElem_cons_zero, List.getElem_cons_succ, List.setIfInBounds_toArray, List.set_cons_zero, List.set_cons_succ]
    refine wpAnyH_take (i := 8) (v := .pointer (some ⟨h, 0, none⟩)) rfl (by kernel_rfl) (by kernel_rfl) (by kernel_rfl) (fun _ _ _ h => h) (Or.inl ⟨by rfl, fun w_ hS_ => by (first | (go_simp; done) | (go_simp; rfl))⟩) (rowAt Za) ?_
    try simp only [Act.put, List.getElem_toArray, List.getElem_cons_zero, List.getElem_cons_succ, List.setIfInBounds_toArray, List.set_cons_zero, List.set_cons_succ]
    refine wpAnyH_take (i := 9) (v := .pointer (some ⟨h, 5, none⟩)) rfl (by kernel_rfl) (by kernel_rfl) (by kernel_rfl) (fun _ _ _ h => h) (Or.inl ⟨by rfl, fun w_ hS_ => by (first | (go_simp; done) | (go_simp; rfl))⟩) (rowAt Za) ?_
    try simp only [Act.put, List.getElem_toArray, List.getElem_cons_zero, List.getElem_cons_succ, List.setIfInBounds_toArray, List.set_cons_zero, List.set_cons_succ]
    refine wpAnyH_ready (rs := [10]) (by kernel_rfl) (by simp) ?_
    refine AllReadyH.cons rfl (fun K hK => ?_) AllReadyH.nil
    rw [if_pos (by rfl)]
    have f_ : z8.frozen? ⟨h, 5, none⟩ = false := freeAt Zl 5
    have c_ := rowCell Zl 5 rfl
    go_simp
    clear f_ c_
    have hu := lgOwnC hu (lgKind hu Zl (by decide)) ([.slice A9 (L.l.length + 1) c9]) 5
    have N_ : (z8.setCells (h) 5 ([.slice A9 (L.l.length + 1) c9])).heap[h]? = some (.cells ([.int .i64 L.n, .int .i64 L.nd, .int .u32 (L.br : Int), .int .i64 L.bn, .int .u64 (pr2 : Int), .slice A9 (L.l.length + 1) c9, .int .i64 L.fs, .int .i64 L.sl, .int .i64 L.x.k, .int .i64 L.x.s, .int .i64 L.x.q, .slice L.x.A1 L.x.rs.length L.x.c1, .slice L.x.A2 L.x.ws.length L.x.c2, .int .i64 L.x.i, .int .i64 L.x.j, .int .i64 L.x.g, .int .u64 (L.x.st : Int), .bool L.x.y, .int .u64 (L.vt : Int)]).toArray 144) := hpC ([.slice A9 (L.l.length + 1) c9]) 5 _ z8 Zl
    have ee := frCells (k := h) (by first | (right; omega) | (left; left; rfl)) ([.slice A9 (L.l.length + 1) c9]) 5 z8 ee
    have Zb := hpCo (g' := h) (by omega) ([.slice A9 (L.l.length + 1) c9]) 5 z8 Zb
    have Za := hpCo (g' := h) (by omega) ([.slice A9 (L.l.length + 1) c9]) 5 z8 Za
    clear Zl
    have Zl := N_
    clear N_
    change K _ (z8.setCells (h) 5 [.slice A9 (L.l.length + 1) c9])
    generalize z8.setCells (h) 5 [.slice A9 (L.l.length + 1) c9] = z9 at Zl Zb Za hu ee ⊢
    refine hK.out _ _ (rowAt Za) (fun hH => ?_)
    clear hK K hH
    try simp only [Act.put, List.getElem_toArray, List.getElem_cons_zero, List.getElem_cons_succ, List.setIfInBounds_toArray, List.set_cons_zero, List.set_cons_succ]
    refine wpAnyH_done (by kernel_rfl) ?_ _
    clear hi1 hz10 hz11 hz12 hlow hPown
    go_upto_region 5 with fail
    have c6 := rowCell Zl 6 rfl
    have a2 := rowCell Za 2 (v := .int .i64 a.sl) rfl
    go_still_tail 10, (by kernel_rfl)
    have Zl : z9.drew.heap[h]? = some (.cells ([.int .i64 L.n, .int .i64 L.nd, .int .u32 (L.br : Int), .int .i64 L.bn, .int .u64 (pr2 : Int), .slice A9 (L.l.length + 1) c9, .int .i64 L.fs, .int .i64 L.sl, .int .i64 L.x.k, .int .i64 L.x.s, .int .i64 L.x.q, .slice L.x.A1 L.x.rs.length L.x.c1, .slice L.x.A2 L.x.ws.length L.x.c2, .int .i64 L.x.i, .int .i64 L.x.j, .int .i64 L.x.g, .int .u64 (L.x.st : Int), .bool L.x.y, .int .u64 (L.vt : Int)]).toArray 144) := Zl
    have Zb : z9.drew.heap[w.heap.size]? = some (.cells [.int .u32 (L.br : Int), .int .i64 L.bn].toArray 28) := Zb
    have Za : z9.drew.heap[w.heap.size + 1]? = some (.cells a.cells.toArray 39) := Za
    have hu := World.ownsRow.drew hu
    have ee := frDrew ee
    change wpList _ _ _ _ _ z9.drew
    generalize z9.drew = z10 at Zl Zb Za hu ee ⊢
    clear c6 a2
    iterate 40 (first | with_reducible refine isStore (ty := 3) rfl ?_ | go_step)
    have f_ : z10.frozen? ⟨h, 6, none⟩ = false := freeAt Zl 6
    have c_ := rowCell Zl 6 rfl
    iterate 3 go_step
    clear f_ c_
    have hu := lgOwnC hu (lgKind hu Zl (by decide)) ([.int .i64 (max L.fs a.sl)]) 6
    have N_ : (z10.setCells (h) 6 ([.int .i64 (max L.fs a.sl)])).heap[h]? = some (.cells ([.int .i64 L.n, .int .i64 L.nd, .int .u32 (L.br : Int), .int .i64 L.bn, .int .u64 (pr2 : Int), .slice A9 (L.l.length + 1) c9, .int .i64 (max L.fs a.sl), .int .i64 L.sl, .int .i64 L.x.k, .int .i64 L.x.s, .int .i64 L.x.q, .slice L.x.A1 L.x.rs.length L.x.c1, .slice L.x.A2 L.x.ws.length L.x.c2, .int .i64 L.x.i, .int .i64 L.x.j, .int .i64 L.x.g, .int .u64 (L.x.st : Int), .bool L.x.y, .int .u64 (L.vt : Int)]).toArray 144) := hpC ([.int .i64 (max L.fs a.sl)]) 6 _ z10 Zl
    have ee := frCells (k := h) (by first | (right; omega) | (left; left; rfl)) ([.int .i64 (max L.fs a.sl)]) 6 z10 ee
    have Zb := hpCo (g' := h) (by omega) ([.int .i64 (max L.fs a.sl)]) 6 z10 Zb
    have Za := hpCo (g' := h) (by omega) ([.int .i64 (max L.fs a.sl)]) 6 z10 Za
    clear Zl
    have Zl := N_
    clear N_
    change wpList _ _ _ _ _ (z10.setCells (h) 6 ([.int .i64 (max L.fs a.sl)]))
    generalize z10.setCells (h) 6 ([.int .i64 (max L.fs a.sl)]) = z11 at Zl Zb Za hu ee ⊢
    go_wp2_with fail
    go_ret
    have hlen2 : (L.l ++ [a]).length = L.l.length + 1 := by simp
    refine ⟨rfl, A9, c9, ?_, by rw [hlen2, acCells_snoc]; exact hu, ee⟩
    rw [hvt]
    unfold LdAt T.Ld.cells
    simp only [hlen2]
    exact Zl
namespace T
/-- what is proposed -/
def Ld.what (L : Ld) (s : Int) (x : Cm) : Cm := bif (best (topOf L.l) L.l).ha && decide (s = L.fs) then (best (topOf L.l) L.l).c else x
end T
set_option maxHeartbeats 6400000 in
theorem lpropose_yes (w : World) (h : Nat) (L : Ld) (s : Int) (x : Cm) (hL : LdAt w h L) (hR : ∀ z, w.grownBy z (some h) → RowsAt z z.heap.size L.A 16 (L.l.map Ac.cells)) (hl1 : L.l.length ≤ 1000000) (hl2 : L.l.length ≤ L.c)
    (hp : L.pr < 18446744073709551616) (hm : Q.majB L.pr L.n = true) (h0 : L.sl = 0) (h1 : L.fs ≤ s) (h2 : s ≤ 1000000) (ok : CmOk w w.heap.size x) (hf : x.formed = true) (hT : Tabs w) :
    Calls Tryd.prog 37 #[.pointer (some ⟨h, 0, none⟩), .int .i64 s, .agg x.cells.toArray] w fun e w' => e = .returned (.tuple #[.agg (L.what s x).cells.toArray, .bool true]) ∧ LdAt w' h { L with sl := s, x := L.what s x, vt := 0 } ∧ w.grownBy w' (some h) := by
  have hlt : h < w.heap.size := (Array.getElem?_eq_some_iff.1 hL).1
  have HPK := Lib.hid (fun z (hz : RowsAt z z.heap.size L.A 16 (L.l.map Ac.cells)) => pick_any L.A L.c L.l z z.heap.size hl1 hl2 hz (Nat.le_refl _))
  have HR := Lib.hid hR
  have HCF := Lib.hid (fun z (hz : Below w.heap.size w z) => c_cformed x z w.heap.size hz.size (ok.below hz (Nat.le_refl _)) (hT.below hz))
  rw [hf] at HCF
  have HLE := Lib.hid (fun z (hz : LdAt z h L) => lleads z h L hz hp)
  rw [hm] at HLE
  have HS : Hid (L.what s x = bif (best (topOf L.l) L.l).ha && decide (s = L.fs) then (best (topOf L.l) L.l).c else x) := rfl
  generalize L.what s x = X at HS ⊢
  generalize best (topOf L.l) L.l = bb at HPK HS
  obtain ⟨bpr, bpn, bsl, ba, bvr, bvn, y⟩ := bb
  simp only at HPK HS
  have e1 : decide (s < L.fs) = false := decide_eq_false (by omega)
  have e2 : decide (1000000 < s) = false := decide_eq_false (by omega)
  clear hf hm hp h1 h2 hl1 hl2 ok hT hR
  obtain ⟨w0, hw0⟩ : ∃ w0, w0 = (w.alloc (.cells x.cells.toArray 37)).alloc (.cells #[.int .i64 0, .int .i64 0, .int .i64 0, .slice none 0 0, .slice none 0 0, .int .i64 0, .int .i64 0, .int .i64 0, .int .u64 0, .bool false] 37) := ⟨_, rfl⟩
  have e0 : Below w.heap.size w w0 := by rw [hw0]; exact ((Below.refl _ _).alloc (Nat.le_refl _) _).alloc (by simp) _
  have ee : w.grownBy w0 (some h) := by rw [hw0]; exact lgAlloc (lgAlloc (lgRefl _ _) _) _
  have Zl : w0.heap[h]? = some (.cells L.cells.toArray 144) := by rw [hw0]; exact hpA (hpA hL _) _
  have Zx : w0.heap[w.heap.size]? = some (.cells x.cells.toArray 37) := by rw [hw0]; exact hpA (hpN _ _ rfl) _
  have Zr : w0.heap[w.heap.size + 1]? = some (.cells #[.int .i64 0, .int .i64 0, .int .i64 0, .slice none 0 0, .slice none 0 0, .int .i64 0, .int .i64 0, .int .i64 0, .int .u64 0, .bool false] 37) := by rw [hw0]; exact hpN _ _ (by simp)
  go_enter Tryd.func37, Tryd.ntmps37
  go_upto_region 1 with fail
  change Code.wp _ _ _ _ ((w.alloc (.cells x.cells.toArray 37)).alloc (.cells #[.int .i64 0, .int .i64 0, .int .i64 0, .slice none 0 0, .slice none 0 0, .int .i64 0, .int .i64 0, .int .i64 0, .int .u64 0, .bool false] 37))
  rw [← hw0]
  clear hw0 hL
  refine wp_region_lit ?_
  go_wp2_with fail
  refine (HLE.out w0 Zl).mono ?_
  rintro e z0 ⟨rfl, n_, rfl⟩
  have ee := lgDrewN ee n_
  have e0 := belowDrewN e0 n_
  have Zl : (w0.drewN n_).heap[h]? = some (.cells L.cells.toArray 144) := Zl
  have Zx : (w0.drewN n_).heap[w.heap.size]? = some (.cells x.cells.toArray 37) := Zx
  have Zr : (w0.drewN n_).heap[w.heap.size + 1]? = some (.cells #[.int .i64 0, .int .i64 0, .int .i64 0, .slice none 0 0, .slice none 0 0, .int .i64 0, .int .i64 0, .int .i64 0, .int .u64 0, .bool false] 37) := Zr
  generalize w0.drewN n_ = z1 at Zl Zx Zr ee e0 ⊢
  clear HLE
  dsimp only
  rename_i hK
  refine hK _ _ ?_
  clear hK
  have c7 := rowCell Zl 7 (v := .int .i64 0) (by rw [← h0]; rfl)
  have c6 := rowCell Zl 6 rfl
  iterate 90 (first | with_reducible refine isLoad (ty := 37) rfl ?_ | go_step)
  refine wpList_load_g (by rfl) 37 _ rfl (w.heap.size) 0 rfl (x.cells) _ (rowAt Zx) Tryd.underlying37 rfl sizeCm ?_
  clear c7 c6 e1 e2
  go_wp2_with fail
  refine (HCF.out z1 e0).mono ?_
  rintro e z2 ⟨rfl, t⟩
  clear e0 HCF
  have Zl := hpB Zl t
  have Zx := hpB Zx t
  have Zr := hpB Zr t
  have ee := lgBelow ee t
  clear t
  go_upto_region 3 with fail
  refine wp_region_lit ?_
  have c5 := rowCell Zl 5 rfl
  have hRz := HR.out _ ee
  go_wp2_with fail
  have szA := ee.size
  refine (HPK.out z2 hRz).mono ?_
  rintro e z3 ⟨rfl, t⟩
  clear HPK HR hRz c5 szA
  have Zl := hpB Zl t
  have Zx := hpB Zx t
  have Zr := hpB Zr t
  have ee := lgBelow ee t
  clear t
  dsimp only
  rename_i hK
  refine hK _ _ ?_
  clear hK
  iterate 12 go_step
  have kZl := (Array.getElem?_eq_some_iff.1 Zl).1
  have kZx := (Array.getElem?_eq_some_iff.1 Zx).1
  have kZr := (Array.getElem?_eq_some_iff.1 Zr).1
  have szB := ee.size
  have lZl := (Array.getElem?_eq_some_iff.1 Zl).1
  have lZx := (Array.getElem?_eq_some_iff.1 Zx).1
  have lZr := (Array.getElem?_eq_some_iff.1 Zr).1
  have Zl := hpA Zl (.cells #[.int .i64 0, .int .i64 0, .int .i64 0, .slice none 0 0, .slice none 0 0, .int .i64 0, .int .i64 0, .int .i64 0, .int .u64 0, .bool false] 37)
  have Zx := hpA Zx (.cells #[.int .i64 0, .int .i64 0, .int .i64 0, .slice none 0 0, .slice none 0 0, .int .i64 0, .int .i64 0, .int .i64 0, .int .u64 0, .bool false] 37)
  have Zr := hpA Zr (.cells #[.int .i64 0, .int .i64 0, .int .i64 0, .slice none 0 0, .slice none 0 0, .int .i64 0, .int .i64 0, .int .i64 0, .int .u64 0, .bool false] 37)
  have sz3 := ee.size
  have ee := lgAlloc ee (.cells #[.int .i64 0, .int .i64 0, .int .i64 0, .slice none 0 0, .slice none 0 0, .int .i64 0, .int .i64 0, .int .i64 0, .int .u64 0, .bool false] 37)
  have Zn := hpN z3 (.cells #[.int .i64 0, .int .i64 0, .int .i64 0, .slice none 0 0, .slice none 0 0, .int .i64 0, .int .i64 0, .int .i64 0, .int .u64 0, .bool false] 37) rfl
  generalize z3.alloc (.cells #[.int .i64 0, .int .i64 0, .int .i64 0, .slice none 0 0, .slice none 0 0, .int .i64 0, .int .i64 0, .int .i64 0, .int .u64 0, .bool false] 37) = z4 at Zl Zx Zr Zn ee ⊢
  iterate 27 (first | with_reducible refine isStore (ty := 37) rfl ?_ | go_step)
  refine wpList_store_row rfl 37 _ _ rfl (z3.heap.size) (y.cells).toArray rfl rfl 37 _ Zn sizeCm (by rfl) (Cm.one _) ?_
  have N_ := setRow_heap z4 (z3.heap.size) _ (y.cells).toArray _ _ Zn
  have ee := lgRow (cs := (y.cells).toArray) (by omega) Zn ee
  have Zl := hpR Zl (g' := z3.heap.size) (by omega) (y.cells).toArray
  have Zx := hpR Zx (g' := z3.heap.size) (by omega) (y.cells).toArray
  have Zr := hpR Zr (g' := z3.heap.size) (by omega) (y.cells).toArray
  clear Zn
  have Zn := N_
  clear N_
  generalize z4.setRow (z3.heap.size) (y.cells).toArray = z5 at Zl Zx Zr Zn ee ⊢
  go_upto_region 4 with fail
  cases ba with
  | false =>
    have HS2 : Hid (X = x) := HS.out
    clear HS
    have szC := ee.size
    go_upto_region 6 with fail
    have Zl : z5.drew.heap[h]? = some (.cells L.cells.toArray 144) := Zl
    have Zx : z5.drew.heap[w.heap.size]? = some (.cells x.cells.toArray 37) := Zx
    have Zr : z5.drew.heap[w.heap.size + 1]? = some (.cells #[.int .i64 0, .int .i64 0, .int .i64 0, .slice none 0 0, .slice none 0 0, .int .i64 0, .int .i64 0, .int .i64 0, .int .u64 0, .bool false] 37) := Zr
    have Zn : z5.drew.heap[z3.heap.size]? = some (.cells (y.cells).toArray 37) := Zn
    have ee := lgDrew ee
    refine wp_region_held_drew (S := fun z' => z'.rangeAt w.heap.size 0 x.cells) (by kernel_rfl) (rowAt Zx) (fun hH => ?_)
    clear hH
    generalize z5.drew = z6 at Zl Zx Zr Zn  ee ⊢
    refine wpAnyH_take (i := 0) (v := .pointer (some ⟨h, 0, none⟩)) rfl (by kernel_rfl) (by kernel_rfl) (by kernel_rfl) (fun _ _ _ h => h) (Or.inl ⟨by rfl, fun w_ hS_ => by (first | (go_simp; done) | (go_simp; rfl))⟩) (rowAt Zx) ?_
    try simp only [Act.put, List.getElem_toArray, List.getElem_cons_zero, List.getElem_cons_succ, List.setIfInBounds_toArray, List.set_cons_zero, List.set_cons_succ]
    refine wpAnyH_take (i := 1) (v := .pointer (some ⟨h, 0, none⟩)) rfl (by kernel_rfl) (by kernel_rfl) (by kernel_rfl) (fun _ _ _ h => h) (Or.inl ⟨by rfl, fun w_ hS_ => by (first | (go_simp; done) | (go_simp; rfl))⟩) (rowAt Zx) ?_
    try simp only [Act.put, List.getElem_toArray, List.getElem_cons_zero, List.getElem_cons_succ, List.setIfInBounds_toArray, List.set_cons_zero, List.set_cons_succ]
    refine wpAnyH_take (i := 2) (v := .pointer (some ⟨h, 0, none⟩)) rfl (by kernel_rfl) (by kernel_rfl) (by kernel_rfl) (fun _ _ _ h => h) (Or.inl ⟨by rfl, fun w_ hS_ => by (first | (go_simp; done) | (go_simp; rfl))⟩) (rowAt Zx) ?_
    try simp only [Act.put, List.getElem_toArray, List.getElem_cons_zero, List.getElem_cons_succ, List.setIfInBounds_toArray, List.set_cons_zero, List.set_cons_succ]
    refine wpAnyH_take (i := 3) (v := .int .i64 s) rfl (by kernel_rfl) (by kernel_rfl) (by kernel_rfl) (fun _ _ _ h => h) (Or.inl ⟨by rfl, fun w_ hS_ => by (first | (go_simp; done) | (go_simp; rfl))⟩) (rowAt Zx) ?_
    try simp only [Act.put, List.getElem_toArray, List.getElem_cons_zero, List.getElem_cons_succ, List.setIfInBounds_toArray, List.set_cons_zero, List.set_cons_succ]
    refine wpAnyH_take (i := 4) (v := .agg (x.cells).toArray) rfl (by kernel_rfl) (by kernel_rfl) (by kernel_rfl) (fun _ _ _ h => h) (yieldsIf_load_mid (by rfl) 37 _ rfl (w.heap.size) 0 rfl (x.cells) _ (fun _ h => h) Tryd.underlying37 rfl sizeCm) (rowAt Zx) ?_
    try simp only [Act.put, List.getElem_toArray, List.getElem_cons_zero, List.getElem_cons_succ, List.setIfInBounds_toArray, List.set_cons_zero, List.set_cons_succ]
    refine wpAnyH_take (i := 5) (v := .pointer (some ⟨h, 0, none⟩)) rfl (by kernel_rfl) (by kernel_rfl) (by kernel_rfl) (fun _ _ _ h => h) (Or.inl ⟨by rfl, fun w_ hS_ => by (first | (go_simp; done) | (go_simp; rfl))⟩) (rowAt Zx) ?_
    try simp only [Act.put, List.getElem_toArray, List.getElem_cons_zero, List.getElem_cons_succ, List.setIfInBounds_toArray, List.set_cons_zero, List.set_cons_succ]
    refine wpAnyH_take (i := 6) (v := .pointer (some ⟨h, 7, none⟩)) rfl (by kernel_rfl) (by kernel_rfl) (by kernel_rfl) (fun _ _ _ h => h) (Or.inl ⟨by rfl, fun w_ hS_ => by (first | (go_simp; done) | (go_simp; rfl))⟩) (rowAt Zx) ?_
    try simp only [Act.put, List.getElem_toArray, List.getElem_cons_zero, List.getElem_cons_succ, List.setIfInBounds_toArray, List.set_cons_zero, List.set_cons_succ]
    refine wpAnyH_ready (rs := [7]) (by kernel_rfl) (by simp) ?_
    refine AllReadyH.cons rfl (fun K hK => ?_) AllReadyH.nil
    rw [if_pos (by rfl)]
    have f_ : z6.frozen? ⟨h, 7, none⟩ = false := freeAt Zl 7
    have c_ := rowCell Zl 7 rfl
    go_simp
    clear f_ c_
    have N_ : (z6.setCells (h) 7 ([.int .i64 s])).heap[h]? = some (.cells ([.int .i64 L.n, .int .i64 L.nd, .int .u32 (L.br : Int), .int .i64 L.bn, .int .u64 (L.pr : Int), .slice L.A L.l.length L.c, .int .i64 L.fs, .int .i64 s, .int .i64 L.x.k, .int .i64 L.x.s, .int .i64 L.x.q, .slice L.x.A1 L.x.rs.length L.x.c1, .slice L.x.A2 L.x.ws.length L.x.c2, .int .i64 L.x.i, .int .i64 L.x.j, .int .i64 L.x.g, .int .u64 (L.x.st : Int), .bool L.x.y, .int .u64 (L.vt : Int)]).toArray 144) := hpC ([.int .i64 s]) 7 _ z6 Zl
    have ee := lgCells (k := h) (by omega) ([.int .i64 s]) 7 z6 ee
    have Zx := hpCo (g' := h) (by omega) ([.int .i64 s]) 7 z6 Zx
    have Zr := hpCo (g' := h) (by omega) ([.int .i64 s]) 7 z6 Zr
    have Zn := hpCo (g' := h) (by omega) ([.int .i64 s]) 7 z6 Zn
    clear Zl
    have Zl := N_
    clear N_
    change K _ (z6.setCells (h) 7 [.int .i64 s])
    generalize z6.setCells (h) 7 [.int .i64 s] = z7 at Zl Zx Zr Zn ee ⊢
    refine hK.out _ _ (rowAt Zx) (fun hH => ?_)
    clear hK K hH
    try simp only [Act.put, List.getElem_toArray, List.getElem_cons_zero, List.getElem_cons_succ, List.setIfInBounds_toArray, List.set_cons_zero, List.set_cons_succ]
    refine wpAnyH_take (i := 8) (v := .pointer (some ⟨h, 0, none⟩)) rfl (by kernel_rfl) (by kernel_rfl) (by kernel_rfl) (fun _ _ _ h => h) (Or.inl ⟨by rfl, fun w_ hS_ => by (first | (go_simp; done) | (go_simp; rfl))⟩) (rowAt Zx) ?_
    try simp only [Act.put, List.getElem_toArray, List.getElem_cons_zero, List.getElem_cons_succ, List.setIfInBounds_toArray, List.set_cons_zero, List.set_cons_succ]
    refine wpAnyH_take (i := 9) (v := .pointer (some ⟨h, 8, none⟩)) rfl (by kernel_rfl) (by kernel_rfl) (by kernel_rfl) (fun _ _ _ h => h) (Or.inl ⟨by rfl, fun w_ hS_ => by (first | (go_simp; done) | (go_simp; rfl))⟩) (rowAt Zx) ?_
    try simp only [Act.put, List.getElem_toArray, List.getElem_cons_zero, List.getElem_cons_succ, List.setIfInBounds_toArray, List.set_cons_zero, List.set_cons_succ]
    refine wpAnyH_ready (rs := [10]) (by kernel_rfl) (by simp) ?_
    refine AllReadyH.cons rfl (fun K hK => ?_) AllReadyH.nil
    rw [if_pos (by rfl)]
    refine wp_store_mid 37 _ _ rfl (h) 8 (x.cells).toArray rfl rfl (rowThere Zl (by simp [T.Ld.cells, T.Cm.cells])) sizeCm (Cm.one _) ?_
    have N_ : (z7.setCells (h) 8 (x.cells)).heap[h]? = some (.cells ([.int .i64 L.n, .int .i64 L.nd, .int .u32 (L.br : Int), .int .i64 L.bn, .int .u64 (L.pr : Int), .slice L.A L.l.length L.c, .int .i64 L.fs, .int .i64 s, .int .i64 x.k, .int .i64 x.s, .int .i64 x.q, .slice x.A1 x.rs.length x.c1, .slice x.A2 x.ws.length x.c2, .int .i64 x.i, .int .i64 x.j, .int .i64 x.g, .int .u64 (x.st : Int), .bool x.y, .int .u64 (L.vt : Int)]).toArray 144) := hpC (x.cells) 8 _ z7 Zl
    have ee := lgCells (k := h) (by omega) (x.cells) 8 z7 ee
    have Zx := hpCo (g' := h) (by omega) (x.cells) 8 z7 Zx
    have Zr := hpCo (g' := h) (by omega) (x.cells) 8 z7 Zr
    have Zn := hpCo (g' := h) (by omega) (x.cells) 8 z7 Zn
    clear Zl
    have Zl := N_
    clear N_
    change K _ (z7.setCells (h) 8 (x.cells))
    generalize z7.setCells (h) 8 (x.cells) = z8 at Zl Zx Zr Zn ee ⊢
    refine hK.out _ _ (rowAt Zx) (fun hH => ?_)
    clear hK K hH
    try simp only [Act.put, List.getElem_toArray, List.getElem_cons_zero, List.getElem_cons_succ, List.setIfInBounds_toArray, List.set_cons_zero, List.set_cons_succ]
    refine wpAnyH_take (i := 11) (v := .pointer (some ⟨h, 0, none⟩)) rfl (by kernel_rfl) (by kernel_rfl) (by kernel_rfl) (fun _ _ _ h => h) (Or.inl ⟨by rfl, fun w_ hS_ => by (first | (go_simp; done) | (go_simp; rfl))⟩) (rowAt Zx) ?_
    try simp only [Act.put, List.getElem_toArray, List.getElem_cons_zero, List.getElem_cons_succ, List.setIfInBounds_toArray, List.set_cons_zero, List.set_cons_succ]
    refine wpAnyH_take (i := 12) (v := .pointer (some ⟨h, 18, none⟩)) rfl (by kernel_rfl) (by kernel_rfl) (by kernel_rfl) (fun _ _ _ h => h) (Or.inl ⟨by rfl, fun w_ hS_ => by (first | (go_simp; done) | (go_simp; rfl))⟩) (rowAt Zx) ?_
    try simp only [Act.put, List.getElem_toArray, List.getElem_cons_zero, List.getElem_cons_succ, List.setIfInBounds_toArray, List.set_cons_zero, List.set_cons_succ]
    refine wpAnyH_ready (rs := [13]) (by kernel_rfl) (by simp) ?_
    refine AllReadyH.cons rfl (fun K hK => ?_) AllReadyH.nil
    rw [if_pos (by rfl)]
    have f_ : z8.frozen? ⟨h, 18, none⟩ = false := freeAt Zl 18
    have c_ := rowCell Zl 18 rfl
    go_simp
    clear f_ c_
    have N_ : (z8.setCells (h) 18 ([.int .u64 0])).heap[h]? = some (.cells ([.int .i64 L.n, .int .i64 L.nd, .int .u32 (L.br : Int), .int .i64 L.bn, .int .u64 (L.pr : Int), .slice L.A L.l.length L.c, .int .i64 L.fs, .int .i64 s, .int .i64 x.k, .int .i64 x.s, .int .i64 x.q, .slice x.A1 x.rs.length x.c1, .slice x.A2 x.ws.length x.c2, .int .i64 x.i, .int .i64 x.j, .int .i64 x.g, .int .u64 (x.st : Int), .bool x.y, .int .u64 0]).toArray 144) := hpC ([.int .u64 0]) 18 _ z8 Zl
    have ee := lgCells (k := h) (by omega) ([.int .u64 0]) 18 z8 ee
    have Zx := hpCo (g' := h) (by omega) ([.int .u64 0]) 18 z8 Zx
    have Zr := hpCo (g' := h) (by omega) ([.int .u64 0]) 18 z8 Zr
    have Zn := hpCo (g' := h) (by omega) ([.int .u64 0]) 18 z8 Zn
    clear Zl
    have Zl := N_
    clear N_
    change K _ (z8.setCells (h) 18 [.int .u64 0])
    generalize z8.setCells (h) 18 [.int .u64 0] = z9 at Zl Zx Zr Zn ee ⊢
    refine hK.out _ _ (rowAt Zx) (fun hH => ?_)
    clear hK K hH
    try simp only [Act.put, List.getElem_toArray, List.getElem_cons_zero, List.getElem_cons_succ, List.setIfInBounds_toArray, List.set_cons_zero, List.set_cons_succ]
    refine wpAnyH_done (by kernel_rfl) ?_ _
    go_upto_region 7 with fail
    refine wp_region_lit ?_
    iterate 27 (first | with_reducible refine isLoad (ty := 37) rfl ?_ | go_step)
    refine wpList_load_mid rfl 37 _ rfl (w.heap.size) 0 rfl (x.cells) _ (rowAt Zx) Tryd.underlying37 rfl sizeCm ?_
    iterate 27 (first | with_reducible refine isStore (ty := 37) rfl ?_ | go_step)
    refine wpList_store_row rfl 37 _ _ rfl (w.heap.size + 1) (x.cells).toArray rfl rfl 37 _ Zr sizeCm (by rfl) (Cm.one _) ?_
    have N_ := setRow_heap z9 (w.heap.size + 1) _ (x.cells).toArray _ _ Zr
    have ee := lgRow (cs := (x.cells).toArray) (by omega) Zr ee
    have Zl := hpR Zl (g' := w.heap.size + 1) (by omega) (x.cells).toArray
    have Zx := hpR Zx (g' := w.heap.size + 1) (by omega) (x.cells).toArray
    have Zn := hpR Zn (g' := w.heap.size + 1) (by omega) (x.cells).toArray
    clear Zr
    have Zr := N_
    clear N_
    generalize z9.setRow (w.heap.size + 1) (x.cells).toArray = z10 at Zl Zx Zr Zn ee ⊢
    go_wp2_with fail
    refine bodyPost_ret (v := .tuple #[.agg x.cells.toArray, .bool true]) (res_ct rfl rfl rfl Zr Tryd.underlying37 rfl sizeCm) rfl ?_
    rw [HS2.out]
    exact ⟨rfl, Zl, ee⟩
  | true =>
    by_cases hsf : s = L.fs
    · have HS2 : Hid (X = y) := by show _ = _; rw [HS.out, decide_eq_true hsf]; rfl
      clear HS
      have c6 := rowCell Zl 6 rfl
      have e6 : (s == L.fs) = true := by simp; exact hsf
      clear hsf
      have szD := ee.size
      go_upto_region 5 with fail
      clear e6 c6
      refine wp_region_lit ?_
      iterate 27 (first | with_reducible refine isLoad (ty := 37) rfl ?_ | go_step)
      refine wpList_load_mid rfl 37 _ rfl (z3.heap.size) 0 rfl ((y.cells)) _ (rowAt Zn) Tryd.underlying37 rfl sizeCm ?_
      iterate 27 (first | with_reducible refine isStore (ty := 37) rfl ?_ | go_step)
      refine wpList_store_row rfl 37 _ _ rfl (w.heap.size) (y.cells).toArray rfl rfl 37 _ Zx sizeCm (by rfl) (Cm.one _) ?_
      have N_ := setRow_heap z5 (w.heap.size) _ (y.cells).toArray _ _ Zx
      have ee := lgRow (cs := (y.cells).toArray) (by omega) Zx ee
      have Zl := hpR Zl (g' := w.heap.size) (by omega) (y.cells).toArray
      have Zr := hpR Zr (g' := w.heap.size) (by omega) (y.cells).toArray
      have Zn := hpR Zn (g' := w.heap.size) (by omega) (y.cells).toArray
      clear Zx
      have Zx := N_
      clear N_
      generalize z5.setRow (w.heap.size) (y.cells).toArray = z6 at Zl Zx Zr Zn ee ⊢
      have szC := ee.size
      go_upto_region 6 with fail
      have Zl : z6.drew.heap[h]? = some (.cells L.cells.toArray 144) := Zl
      have Zx : z6.drew.heap[w.heap.size]? = some (.cells (y.cells).toArray 37) := Zx
      have Zr : z6.drew.heap[w.heap.size + 1]? = some (.cells #[.int .i64 0, .int .i64 0, .int .i64 0, .slice none 0 0, .slice none 0 0, .int .i64 0, .int .i64 0, .int .i64 0, .int .u64 0, .bool false] 37) := Zr
      have Zn : z6.drew.heap[z3.heap.size]? = some (.cells (y.cells).toArray 37) := Zn
      have ee := lgDrew ee
      refine wp_region_held_drew (S := fun z' => z'.rangeAt w.heap.size 0 y.cells) (by kernel_rfl) (rowAt Zx) (fun hH => ?_)
      clear hH
      generalize z6.drew = z7 at Zl Zx Zr Zn  ee ⊢
      refine wpAnyH_take (i := 0) (v := .pointer (some ⟨h, 0, none⟩)) rfl (by kernel_rfl) (by kernel_rfl) (by kernel_rfl) (fun _ _ _ h => h) (Or.inl ⟨by rfl, fun w_ hS_ => by (first | (go_simp; done) | (go_simp; rfl))⟩) (rowAt Zx) ?_
      try simp only [Act.put, List.getElem_toArray, List.getElem_cons_zero, List.getElem_cons_succ, List.setIfInBounds_toArray, List.set_cons_zero, List.set_cons_succ]
      refine wpAnyH_take (i := 1) (v := .pointer (some ⟨h, 0, none⟩)) rfl (by kernel_rfl) (by kernel_rfl) (by kernel_rfl) (fun _ _ _ h => h) (Or.inl ⟨by rfl, fun w_ hS_ => by (first | (go_simp; done) | (go_simp; rfl))⟩) (rowAt Zx) ?_
      try simp only [Act.put, List.getElem_toArray, List.getElem_cons_zero, List.getElem_cons_succ, List.setIfInBounds_toArray, List.set_cons_zero, List.set_cons_succ]
      refine wpAnyH_take (i := 2) (v := .pointer (some ⟨h, 0, none⟩)) rfl (by kernel_rfl) (by kernel_rfl) (by kernel_rfl) (fun _ _ _ h => h) (Or.inl ⟨by rfl, fun w_ hS_ => by (first | (go_simp; done) | (go_simp; rfl))⟩) (rowAt Zx) ?_
      try simp only [Act.put, List.getElem_toArray, List.getElem_cons_zero, List.getElem_cons_succ, List.setIfInBounds_toArray, List.set_cons_zero, List.set_cons_succ]
      refine wpAnyH_take (i := 3) (v := .int .i64 s) rfl (by kernel_rfl) (by kernel_rfl) (by kernel_rfl) (fun _ _ _ h => h) (Or.inl ⟨by rfl, fun w_ hS_ => by (first | (go_simp; done) | (go_simp; rfl))⟩) (rowAt Zx) ?_
      try simp only [Act.put, List.getElem_toArray, List.getElem_cons_zero, List.getElem_cons_succ, List.setIfInBounds_toArray, List.set_cons_zero, List.set_cons_succ]
      refine wpAnyH_take (i := 4) (v := .agg ((y.cells)).toArray) rfl (by kernel_rfl) (by kernel_rfl) (by kernel_rfl) (fun _ _ _ h => h) (yieldsIf_load_mid (by rfl) 37 _ rfl (w.heap.size) 0 rfl ((y.cells)) _ (fun _ h => h) Tryd.underlying37 rfl sizeCm) (rowAt Zx) ?_
      try simp only [Act.put, List.getElem_toArray, List.getElem_cons_zero, List.getElem_cons_succ, List.setIfInBounds_toArray, List.set_cons_zero, List.set_cons_succ]
      refine wpAnyH_take (i := 5) (v := .pointer (some ⟨h, 0, none⟩)) rfl (by kernel_rfl) (by kernel_rfl) (by kernel_rfl) (fun _ _ _ h => h) (Or.inl ⟨by rfl, fun w_ hS_ => by (first | (go_simp; done) | (go_simp; rfl))⟩) (rowAt Zx) ?_
      try simp only [Act.put, List.getElem_toArray, List.getElem_cons_zero, List.getElem_cons_succ, List.setIfInBounds_toArray, List.set_cons_zero, List.set_cons_succ]
      refine wpAnyH_take (i := 6) (v := .pointer (some ⟨h, 7, none⟩)) rfl (by kernel_rfl) (by kernel_rfl) (by kernel_rfl) (fun _ _ _ h => h) (Or.inl ⟨by rfl, fun w_ hS_ => by (first | (go_simp; done) | (go_simp; rfl))⟩) (rowAt Zx) ?_
      try simp only [Act.put, List.getElem_toArray, List.getElem_cons_zero, List.getElem_cons_succ, List.setIfInBounds_toArray, List.set_cons_zero, List.set_cons_succ]
      refine wpAnyH_ready (rs := [7]) (by kernel_rfl) (by simp) ?_
      refine AllReadyH.cons rfl (fun K hK => ?_) AllReadyH.nil
      rw [if_pos (by rfl)]
      have f_ : z7.frozen? ⟨h, 7, none⟩ = false := freeAt Zl 7
      have c_ := rowCell Zl 7 rfl
      go_simp
      clear f_ c_
      have N_ : (z7.setCells (h) 7 ([.int .i64 s])).heap[h]? = some (.cells ([.int .i64 L.n, .int .i64 L.nd, .int .u32 (L.br : Int), .int .i64 L.bn, .int .u64 (L.pr : Int), .slice L.A L.l.length L.c, .int .i64 L.fs, .int .i64 s, .int .i64 L.x.k, .int .i64 L.x.s, .int .i64 L.x.q, .slice L.x.A1 L.x.rs.length L.x.c1, .slice L.x.A2 L.x.ws.length L.x.c2, .int .i64 L.x.i, .int .i64 L.x.j, .int .i64 L.x.g, .int .u64 (L.x.st : Int), .bool L.x.y, .int .u64 (L.vt : Int)]).toArray 144) := hpC ([.int .i64 s]) 7 _ z7 Zl
      have ee := lgCells (k := h) (by omega) ([.int .i64 s]) 7 z7 ee
      have Zx := hpCo (g' := h) (by omega) ([.int .i64 s]) 7 z7 Zx
      have Zr := hpCo (g' := h) (by omega) ([.int .i64 s]) 7 z7 Zr
      have Zn := hpCo (g' := h) (by omega) ([.int .i64 s]) 7 z7 Zn
      clear Zl
      have Zl := N_
      clear N_
      change K _ (z7.setCells (h) 7 [.int .i64 s])
      generalize z7.setCells (h) 7 [.int .i64 s] = z8 at Zl Zx Zr Zn ee ⊢
      refine hK.out _ _ (rowAt Zx) (fun hH => ?_)
      clear hK K hH
      try simp only [Act.put, List.getElem_toArray, List.getElem_cons_zero, List.getElem_cons_succ, List.setIfInBounds_toArray, List.set_cons_zero, List.set_cons_succ]
      refine wpAnyH_take (i := 8) (v := .pointer (some ⟨h, 0, none⟩)) rfl (by kernel_rfl) (by kernel_rfl) (by kernel_rfl) (fun _ _ _ h => h) (Or.inl ⟨by rfl, fun w_ hS_ => by (first | (go_simp; done) | (go_simp; rfl))⟩) (rowAt Zx) ?_
      try simp only [Act.put, List.getElem_toArray, List.getElem_cons_zero, List.getElem_cons_succ, List.setIfInBounds_toArray, List.set_cons_zero, List.set_cons_succ]
      refine wpAnyH_take (i := 9) (v := .pointer (some ⟨h, 8, none⟩)) rfl (by kernel_rfl) (by kernel_rfl) (by kernel_rfl) (fun _ _ _ h => h) (Or.inl ⟨by rfl, fun w_ hS_ => by (first | (go_simp; done) | (go_simp; rfl))⟩) (rowAt Zx) ?_
      try simp only [Act.put, List.getElem_toArray, List.getElem_cons_zero, List.getElem_cons_succ, List.setIfInBounds_toArray, List.set_cons_zero, List.set_cons_succ]
      refine wpAnyH_ready (rs := [10]) (by kernel_rfl) (by simp) ?_
      refine AllReadyH.cons rfl (fun K hK => ?_) AllReadyH.nil
      rw [if_pos (by rfl)]
      refine wp_store_mid 37 _ _ rfl (h) 8 (y.cells).toArray rfl rfl (rowThere Zl (by simp [T.Ld.cells, T.Cm.cells])) sizeCm (Cm.one _) ?_
      have N_ : (z8.setCells (h) 8 (y.cells)).heap[h]? = some (.cells ([.int .i64 L.n, .int .i64 L.nd, .int .u32 (L.br : Int), .int .i64 L.bn, .int .u64 (L.pr : Int), .slice L.A L.l.length L.c, .int .i64 L.fs, .int .i64 s, .int .i64 y.k, .int .i64 y.s, .int .i64 y.q, .slice y.A1 y.rs.length y.c1, .slice y.A2 y.ws.length y.c2, .int .i64 y.i, .int .i64 y.j, .int .i64 y.g, .int .u64 (y.st : Int), .bool y.y, .int .u64 (L.vt : Int)]).toArray 144) := hpC (y.cells) 8 _ z8 Zl
      have ee := lgCells (k := h) (by omega) (y.cells) 8 z8 ee
      have Zx := hpCo (g' := h) (by omega) (y.cells) 8 z8 Zx
      have Zr := hpCo (g' := h) (by omega) (y.cells) 8 z8 Zr
      have Zn := hpCo (g' := h) (by omega) (y.cells) 8 z8 Zn
      clear Zl
      have Zl := N_
      clear N_
      change K _ (z8.setCells (h) 8 (y.cells))
      generalize z8.setCells (h) 8 (y.cells) = z9 at Zl Zx Zr Zn ee ⊢
      refine hK.out _ _ (rowAt Zx) (fun hH => ?_)
      clear hK K hH
      try simp only [Act.put, List.getElem_toArray, List.getElem_cons_zero, List.getElem_cons_succ, List.setIfInBounds_toArray, List.set_cons_zero, List.set_cons_succ]
      refine wpAnyH_take (i := 11) (v := .pointer (some ⟨h, 0, none⟩)) rfl (by kernel_rfl) (by kernel_rfl) (by kernel_rfl) (fun _ _ _ h => h) (Or.inl ⟨by rfl, fun w_ hS_ => by (first | (go_simp; done) | (go_simp; rfl))⟩) (rowAt Zx) ?_
      try simp only [Act.put, List.getElem_toArray, List.getElem_cons_zero, List.getElem_cons_succ, List.setIfInBounds_toArray, List.set_cons_zero, List.set_cons_succ]
      refine wpAnyH_take (i := 12) (v := .pointer (some ⟨h, 18, none⟩)) rfl (by kernel_rfl) (by kernel_rfl) (by kernel_rfl) (fun _ _ _ h => h) (Or.inl ⟨by rfl, fun w_ hS_ => by (first | (go_simp; done) | (go_simp; rfl))⟩) (rowAt Zx) ?_
      try simp only [Act.put, List.getElem_toArray, List.getElem_cons_zero, List.getElem_cons_succ, List.setIfInBounds_toArray, List.set_cons_zero, List.set_cons_succ]
      refine wpAnyH_ready (rs := [13]) (by kernel_rfl) (by simp) ?_
      refine AllReadyH.cons rfl (fun K hK => ?_) AllReadyH.nil
      rw [if_pos (by rfl)]
      have f_ : z9.frozen? ⟨h, 18, none⟩ = false := freeAt Zl 18
      have c_ := rowCell Zl 18 rfl
      go_simp
      clear f_ c_
      have N_ : (z9.setCells (h) 18 ([.int .u64 0])).heap[h]? = some (.cells ([.int .i64 L.n, .int .i64 L.nd, .int .u32 (L.br : Int), .int .i64 L.bn, .int .u64 (L.pr : Int), .slice L.A L.l.length L.c, .int .i64 L.fs, .int .i64 s, .int .i64 y.k, .int .i64 y.s, .int .i64 y.q, .slice y.A1 y.rs.length y.c1, .slice y.A2 y.ws.length y.c2, .int .i64 y.i, .int .i64 y.j, .int .i64 y.g, .int .u64 (y.st : Int), .bool y.y, .int .u64 0]).toArray 144) := hpC ([.int .u64 0]) 18 _ z9 Zl
      have ee := lgCells (k := h) (by omega) ([.int .u64 0]) 18 z9 ee
      have Zx := hpCo (g' := h) (by omega) ([.int .u64 0]) 18 z9 Zx
      have Zr := hpCo (g' := h) (by omega) ([.int .u64 0]) 18 z9 Zr
      have Zn := hpCo (g' := h) (by omega) ([.int .u64 0]) 18 z9 Zn
      clear Zl
      have Zl := N_
      clear N_
      change K _ (z9.setCells (h) 18 [.int .u64 0])
      generalize z9.setCells (h) 18 [.int .u64 0] = z10 at Zl Zx Zr Zn ee ⊢
      refine hK.out _ _ (rowAt Zx) (fun hH => ?_)
      clear hK K hH
      try simp only [Act.put, List.getElem_toArray, List.getElem_cons_zero, List.getElem_cons_succ, List.setIfInBounds_toArray, List.set_cons_zero, List.set_cons_succ]
      refine wpAnyH_done (by kernel_rfl) ?_ _
      go_upto_region 7 with fail
      refine wp_region_lit ?_
      iterate 27 (first | with_reducible refine isLoad (ty := 37) rfl ?_ | go_step)
      refine wpList_load_mid rfl 37 _ rfl (w.heap.size) 0 rfl ((y.cells)) _ (rowAt Zx) Tryd.underlying37 rfl sizeCm ?_
      iterate 27 (first | with_reducible refine isStore (ty := 37) rfl ?_ | go_step)
      refine wpList_store_row rfl 37 _ _ rfl (w.heap.size + 1) (y.cells).toArray rfl rfl 37 _ Zr sizeCm (by rfl) (Cm.one _) ?_
      have N_ := setRow_heap z10 (w.heap.size + 1) _ (y.cells).toArray _ _ Zr
      have ee := lgRow (cs := (y.cells).toArray) (by omega) Zr ee
      have Zl := hpR Zl (g' := w.heap.size + 1) (by omega) (y.cells).toArray
      have Zx := hpR Zx (g' := w.heap.size + 1) (by omega) (y.cells).toArray
      have Zn := hpR Zn (g' := w.heap.size + 1) (by omega) (y.cells).toArray
      clear Zr
      have Zr := N_
      clear N_
      generalize z10.setRow (w.heap.size + 1) (y.cells).toArray = z11 at Zl Zx Zr Zn ee ⊢
      go_wp2_with fail
      refine bodyPost_ret (v := .tuple #[.agg y.cells.toArray, .bool true]) (res_ct rfl rfl rfl Zr Tryd.underlying37 rfl sizeCm) rfl ?_
      rw [HS2.out]
      exact ⟨rfl, Zl, ee⟩
    · have HS2 : Hid (X = x) := by show _ = _; rw [HS.out, decide_eq_false hsf]; rfl
      clear HS
      have c6 := rowCell Zl 6 rfl
      have e6 : (s == L.fs) = false := by simp; exact hsf
      clear hsf
      have szC := ee.size
      go_upto_region 6 with fail
      have Zl : z5.drew.heap[h]? = some (.cells L.cells.toArray 144) := Zl
      have Zx : z5.drew.heap[w.heap.size]? = some (.cells x.cells.toArray 37) := Zx
      have Zr : z5.drew.heap[w.heap.size + 1]? = some (.cells #[.int .i64 0, .int .i64 0, .int .i64 0, .slice none 0 0, .slice none 0 0, .int .i64 0, .int .i64 0, .int .i64 0, .int .u64 0, .bool false] 37) := Zr
      have Zn : z5.drew.heap[z3.heap.size]? = some (.cells (y.cells).toArray 37) := Zn
      have ee := lgDrew ee
      refine wp_region_held_drew (S := fun z' => z'.rangeAt w.heap.size 0 x.cells) (by kernel_rfl) (rowAt Zx) (fun hH => ?_)
      clear hH
      generalize z5.drew = z6 at Zl Zx Zr Zn  ee ⊢
      refine wpAnyH_take (i := 0) (v := .pointer (some ⟨h, 0, none⟩)) rfl (by kernel_rfl) (by kernel_rfl) (by kernel_rfl) (fun _ _ _ h => h) (Or.inl ⟨by rfl, fun w_ hS_ => by (first | (go_simp; done) | (go_simp; rfl))⟩) (rowAt Zx) ?_
      try simp only [Act.put, List.getElem_toArray, List.getElem_cons_zero, List.getElem_cons_succ, List.setIfInBounds_toArray, List.set_cons_zero, List.set_cons_succ]
      refine wpAnyH_take (i := 1) (v := .pointer (some ⟨h, 0, none⟩)) rfl (by kernel_rfl) (by kernel_rfl) (by kernel_rfl) (fun _ _ _ h => h) (Or.inl ⟨by rfl, fun w_ hS_ => by (first | (go_simp; done) | (go_simp; rfl))⟩) (rowAt Zx) ?_
      try simp only [Act.put, List.getElem_toArray, List.getElem_cons_zero, List.getElem_cons_succ, List.setIfInBounds_toArray, List.set_cons_zero, List.set_cons_succ]
      refine wpAnyH_take (i := 2) (v := .pointer (some ⟨h, 0, none⟩)) rfl (by kernel_rfl) (by kernel_rfl) (by kernel_rfl) (fun _ _ _ h => h) (Or.inl ⟨by rfl, fun w_ hS_ => by (first | (go_simp; done) | (go_simp; rfl))⟩) (rowAt Zx) ?_
      try simp only [Act.put, List.getElem_toArray, List.getElem_cons_zero, List.getElem_cons_succ, List.setIfInBounds_toArray, List.set_cons_zero, List.set_cons_succ]
      refine wpAnyH_take (i := 3) (v := .int .i64 s) rfl (by kernel_rfl) (by kernel_rfl) (by kernel_rfl) (fun _ _ _ h => h) (Or.inl ⟨by rfl, fun w_ hS_ => by (first | (go_simp; done) | (go_simp; rfl))⟩) (rowAt Zx) ?_
      try simp only [Act.put, List.getElem_toArray, List.getElem_cons_zero, List.getElem_cons_succ, List.setIfInBounds_toArray, List.set_cons_zero, List.set_cons_succ]
      refine wpAnyH_take (i := 4) (v := .agg (x.cells).toArray) rfl (by kernel_rfl) (by kernel_rfl) (by kernel_rfl) (fun _ _ _ h => h) (yieldsIf_load_mid (by rfl) 37 _ rfl (w.heap.size) 0 rfl (x.cells) _ (fun _ h => h) Tryd.underlying37 rfl sizeCm) (rowAt Zx) ?_
      try simp only [Act.put, List.getElem_toArray, List.getElem_cons_zero, List.getElem_cons_succ, List.setIfInBounds_toArray, List.set_cons_zero, List.set_cons_succ]
      refine wpAnyH_take (i := 5) (v := .pointer (some ⟨h, 0, none⟩)) rfl (by kernel_rfl) (by kernel_rfl) (by kernel_rfl) (fun _ _ _ h => h) (Or.inl ⟨by rfl, fun w_ hS_ => by (first | (go_simp; done) | (go_simp; rfl))⟩) (rowAt Zx) ?_
      try simp only [Act.put, List.getElem_toArray, List.getElem_cons_zero, List.getElem_cons_succ, List.setIfInBounds_toArray, List.set_cons_zero, List.set_cons_succ]
      refine wpAnyH_take (i := 6) (v := .pointer (some ⟨h, 7, none⟩)) rfl (by kernel_rfl) (by kernel_rfl) (by kernel_rfl) (fun _ _ _ h => h) (Or.inl ⟨by rfl, fun w_ hS_ => by (first | (go_simp; done) | (go_simp; rfl))⟩) (rowAt Zx) ?_
      try simp only [Act.put, List.getElem_toArray, List.getElem_cons_zero, List.getElem_cons_succ, List.setIfInBounds_toArray, List.set_cons_zero, List.set_cons_succ]
      refine wpAnyH_ready (rs := [7]) (by kernel_rfl) (by simp) ?_
      refine AllReadyH.cons rfl (fun K hK => ?_) AllReadyH.nil
      rw [if_pos (by rfl)]
      have f_ : z6.frozen? ⟨h, 7, none⟩ = false := freeAt Zl 7
      have c_ := rowCell Zl 7 rfl
      go_simp
      clear f_ c_
      have N_ : (z6.setCells (h) 7 ([.int .i64 s])).heap[h]? = some (.cells ([.int .i64 L.n, .int .i64 L.nd, .int .u32 (L.br : Int), .int .i64 L.bn, .int .u64 (L.pr : Int), .slice L.A L.l.length L.c, .int .i64 L.fs, .int .i64 s, .int .i64 L.x.k, .int .i64 L.x.s, .int .i64 L.x.q, .slice L.x.A1 L.x.rs.length L.x.c1, .slice L.x.A2 L.x.ws.length L.x.c2, .int .i64 L.x.i, .int .i64 L.x.j, .int .i64 L.x.g, .int .u64 (L.x.st : Int), .bool L.x.y, .int .u64 (L.vt : Int)]).toArray 144) := hpC ([.int .i64 s]) 7 _ z6 Zl
      have ee := lgCells (k := h) (by omega) ([.int .i64 s]) 7 z6 ee
      have Zx := hpCo (g' := h) (by omega) ([.int .i64 s]) 7 z6 Zx
      have Zr := hpCo (g' := h) (by omega) ([.int .i64 s]) 7 z6 Zr
      have Zn := hpCo (g' := h) (by omega) ([.int .i64 s]) 7 z6 Zn
      clear Zl
      have Zl := N_
      clear N_
      change K _ (z6.setCells (h) 7 [.int .i64 s])
      generalize z6.setCells (h) 7 [.int .i64 s] = z7 at Zl Zx Zr Zn ee ⊢
      refine hK.out _ _ (rowAt Zx) (fun hH => ?_)
      clear hK K hH
      try simp only [Act.put, List.getElem_toArray, List.getElem_cons_zero, List.getElem_cons_succ, List.setIfInBounds_toArray, List.set_cons_zero, List.set_cons_succ]
      refine wpAnyH_take (i := 8) (v := .pointer (some ⟨h, 0, none⟩)) rfl (by kernel_rfl) (by kernel_rfl) (by kernel_rfl) (fun _ _ _ h => h) (Or.inl ⟨by rfl, fun w_ hS_ => by (first | (go_simp; done) | (go_simp; rfl))⟩) (rowAt Zx) ?_
      try simp only [Act.put, List.getElem_toArray, List.getElem_cons_zero, List.getElem_cons_succ, List.setIfInBounds_toArray, List.set_cons_zero, List.set_cons_succ]
      refine wpAnyH_take (i := 9) (v := .pointer (some ⟨h, 8, none⟩)) rfl (by kernel_rfl) (by kernel_rfl) (by kernel_rfl) (fun _ _ _ h => h) (Or.inl ⟨by rfl, fun w_ hS_ => by (first | (go_simp; done) | (go_simp; rfl))⟩) (rowAt Zx) ?_
      try simp only [Act.put, List.getElem_toArray, List.getElem_cons_zero, List.getElem_cons_succ, List.setIfInBounds_toArray, List.set_cons_zero, List.set_cons_succ]
      refine wpAnyH_ready (rs := [10]) (by kernel_rfl) (by simp) ?_
      refine AllReadyH.cons rfl (fun K hK => ?_) AllReadyH.nil
      rw [if_pos (by rfl)]
      refine wp_store_mid 37 _ _ rfl (h) 8 (x.cells).toArray rfl rfl (rowThere Zl (by simp [T.Ld.cells, T.Cm.cells])) sizeCm (Cm.one _) ?_
      have N_ : (z7.setCells (h) 8 (x.cells)).heap[h]? = some (.cells ([.int .i64 L.n, .int .i64 L.nd, .int .u32 (L.br : Int), .int .i64 L.bn, .int .u64 (L.pr : Int), .slice L.A L.l.length L.c, .int .i64 L.fs, .int .i64 s, .int .i64 x.k, .int .i64 x.s, .int .i64 x.q, .slice x.A1 x.rs.length x.c1, .slice x.A2 x.ws.length x.c2, .int .i64 x.i, .int .i64 x.j, .int .i64 x.g, .int .u64 (x.st : Int), .bool x.y, .int .u64 (L.vt : Int)]).toArray 144) := hpC (x.cells) 8 _ z7 Zl
      have ee := lgCells (k := h) (by omega) (x.cells) 8 z7 ee
      have Zx := hpCo (g' := h) (by omega) (x.cells) 8 z7 Zx
      have Zr := hpCo (g' := h) (by omega) (x.cells) 8 z7 Zr
      have Zn := hpCo (g' := h) (by omega) (x.cells) 8 z7 Zn
      clear Zl
      have Zl := N_
      clear N_
      change K _ (z7.setCells (h) 8 (x.cells))
      generalize z7.setCells (h) 8 (x.cells) = z8 at Zl Zx Zr Zn ee ⊢
      refine hK.out _ _ (rowAt Zx) (fun hH => ?_)
      clear hK K hH
      try simp only [Act.put, List.getElem_toArray, List.getElem_cons_zero, List.getElem_cons_succ, List.setIfInBounds_toArray, List.set_cons_zero, List.set_cons_succ]
      refine wpAnyH_take (i := 11) (v := .pointer (some ⟨h, 0, none⟩)) rfl (by kernel_rfl) (by kernel_rfl) (by kernel_rfl) (fun _ _ _ h => h) (Or.inl ⟨by rfl, fun w_ hS_ => by (first | (go_simp; done) | (go_simp; rfl))⟩) (rowAt Zx) ?_
      try simp only [Act.put, List.getElem_toArray, List.getElem_cons_zero, List.getElem_cons_succ, List.setIfInBounds_toArray, List.set_cons_zero, List.set_cons_succ]
      refine wpAnyH_take (i := 12) (v := .pointer (some ⟨h, 18, none⟩)) rfl (by kernel_rfl) (by kernel_rfl) (by kernel_rfl) (fun _ _ _ h => h) (Or.inl ⟨by rfl, fun w_ hS_ => by (first | (go_simp; done) | (go_simp; rfl))⟩) (rowAt Zx) ?_
      try simp only [Act.put, List.getElem_toArray, List.getElem_cons_zero, List.getElem_cons_succ, List.setIfInBounds_toArray, List.set_cons_zero, List.set_cons_succ]
      refine wpAnyH_ready (rs := [13]) (by kernel_rfl) (by simp) ?_
      refine AllReadyH.cons rfl (fun K hK => ?_) AllReadyH.nil
      rw [if_pos (by rfl)]
      have f_ : z8.frozen? ⟨h, 18, none⟩ = false := freeAt Zl 18
      have c_ := rowCell Zl 18 rfl
      go_simp
      clear f_ c_
      have N_ : (z8.setCells (h) 18 ([.int .u64 0])).heap[h]? = some (.cells ([.int .i64 L.n, .int .i64 L.nd, .int .u32 (L.br : Int), .int .i64 L.bn, .int .u64 (L.pr : Int), .slice L.A L.l.length L.c, .int .i64 L.fs, .int .i64 s, .int .i64 x.k, .int .i64 x.s, .int .i64 x.q, .slice x.A1 x.rs.length x.c1, .slice x.A2 x.ws.length x.c2, .int .i64 x.i, .int .i64 x.j, .int .i64 x.g, .int .u64 (x.st : Int), .bool x.y, .int .u64 0]).toArray 144) := hpC ([.int .u64 0]) 18 _ z8 Zl
      have ee := lgCells (k := h) (by omega) ([.int .u64 0]) 18 z8 ee
      have Zx := hpCo (g' := h) (by omega) ([.int .u64 0]) 18 z8 Zx
      have Zr := hpCo (g' := h) (by omega) ([.int .u64 0]) 18 z8 Zr
      have Zn := hpCo (g' := h) (by omega) ([.int .u64 0]) 18 z8 Zn
      clear Zl
      have Zl := N_
      clear N_
      change K _ (z8.setCells (h) 18 [.int .u64 0])
      generalize z8.setCells (h) 18 [.int .u64 0] = z9 at Zl Zx Zr Zn ee ⊢
      refine hK.out _ _ (rowAt Zx) (fun hH => ?_)
      clear hK K hH
      try simp only [Act.put, List.getElem_toArray, List.getElem_cons_zero, List.getElem_cons_succ, List.setIfInBounds_toArray, List.set_cons_zero, List.set_cons_succ]
      refine wpAnyH_done (by kernel_rfl) ?_ _
      go_upto_region 7 with fail
      refine wp_region_lit ?_
      iterate 27 (first | with_reducible refine isLoad (ty := 37) rfl ?_ | go_step)
      refine wpList_load_mid rfl 37 _ rfl (w.heap.size) 0 rfl (x.cells) _ (rowAt Zx) Tryd.underlying37 rfl sizeCm ?_
      iterate 27 (first | with_reducible refine isStore (ty := 37) rfl ?_ | go_step)
      refine wpList_store_row rfl 37 _ _ rfl (w.heap.size + 1) (x.cells).toArray rfl rfl 37 _ Zr sizeCm (by rfl) (Cm.one _) ?_
      have N_ := setRow_heap z9 (w.heap.size + 1) _ (x.cells).toArray _ _ Zr
      have ee := lgRow (cs := (x.cells).toArray) (by omega) Zr ee
      have Zl := hpR Zl (g' := w.heap.size + 1) (by omega) (x.cells).toArray
      have Zx := hpR Zx (g' := w.heap.size + 1) (by omega) (x.cells).toArray
      have Zn := hpR Zn (g' := w.heap.size + 1) (by omega) (x.cells).toArray
      clear Zr
      have Zr := N_
      clear N_
      generalize z9.setRow (w.heap.size + 1) (x.cells).toArray = z10 at Zl Zx Zr Zn ee ⊢
      go_wp2_with fail
      refine bodyPost_ret (v := .tuple #[.agg x.cells.toArray, .bool true]) (res_ct rfl rfl rfl Zr Tryd.underlying37 rfl sizeCm) rfl ?_
      rw [HS2.out]
      exact ⟨rfl, Zl, ee⟩
end Go.Proofs.YtbahooohkigcnaaDoor

namespace Go.Proofs.YtbahooohkigcnaaDoor
set_option maxRecDepth 20001
open Go.RowKit T
set_option linter.unusedSimpArgs false
set_option linter.unusedVariables false

theorem lgHeapG {w z : World} {k g : Nat} {o : Obj} (p : w.heap[k]? = some o) (q : w.grownBy z (some g)) (hne : k ≠ g) : z.heap[k]? = some o := (q.block k (Array.getElem?_eq_some_iff.1 p).1 (fun e => hne (by injection e))).trans p
theorem frBelowB {w z c : World} {P : Nat → Prop} (p : Below w.heap.size w z) (q : Fr z c P) (hP : ∀ i, P i → w.heap.size ≤ i) : Below w.heap.size w c :=
  ⟨q.1.os.trans p.os, q.1.tape.trans p.tape, q.1.output.trans p.output, Nat.le_trans p.size q.1.size, fun i hi => (q.2 i (Nat.lt_of_lt_of_le hi p.size) (fun h => by have := hP i h; omega)).trans (p.block i hi)⟩
theorem best_new (n : Nat) : best (topOf (List.replicate n Ac.new)) (List.replicate n Ac.new) = Ac.zero := by
  generalize topOf (List.replicate n Ac.new) = u
  unfold best
  have h : ∀ (m : Nat) (o : Ac), (List.replicate m Ac.new).foldl (fun o a => bif takes u o a then a else o) o = o := fun m => by
    induction m with
    | zero => intro o; rfl
    | succ m ih => intro o; rw [List.replicate_succ, List.foldl_cons, ih]; simp [takes, Ac.new]
  exact h n _
/-- a leader that has a ballot, and i promises -/
def Lp (s i : Nat) (A : Option Addr) (c : Nat) : Ld := ⟨(s : Int), 0, 1, 0, 2 ^ i - 1, List.replicate i Ac.new, A, c, if i = 0 then 0 else 1, 0, Cm.zero, 0⟩
/-- .. a proposal, and votes -/
def Lv (s : Nat) (A : Option Addr) (c vt : Nat) : Ld := ⟨(s : Int), 0, 1, 0, 2 ^ s - 1, List.replicate s Ac.new, A, c, 1, 1, Cm.zero, vt⟩
def seenC (vt : Nat) : List Value := [.bool (vt.testBit 0), .bool (vt.testBit 1), .bool (vt.testBit 2), .bool (vt.testBit 3), .bool (vt.testBit 4)]
theorem seenC_get (vt k : Nat) (hk : k < 5) : (seenC vt)[k]? = some (.bool (vt.testBit k)) := by
  match k, hk with
  | 0, _ => rfl
  | 1, _ => rfl
  | 2, _ => rfl
  | 3, _ => rfl
  | 4, _ => rfl
theorem addBit (vt k j : Nat) (hk : k < 5) : (Q.addN vt (k : Int)).testBit j = (vt.testBit j || decide (k = j)) := by
  unfold Q.addN
  rw [if_pos ⟨by omega, by omega⟩, Int.toNat_natCast, Nat.testBit_or, Nat.testBit_two_pow]
theorem seenC_set (vt k : Nat) (hk : k < 5) : (seenC vt).set k (.bool true) = seenC (Q.addN vt (k : Int)) := by
  unfold seenC
  rw [addBit vt k 0 hk, addBit vt k 1 hk, addBit vt k 2 hk, addBit vt k 3 hk, addBit vt k 4 hk]
  match k, hk with
  | 0, _ => simp
  | 1, _ => simp
  | 2, _ => simp
  | 3, _ => simp
  | 4, _ => simp
theorem fsK (k : Nat) : max (if k = 0 then (0 : Int) else 1) Ac.new.sl = if k + 1 = 0 then 0 else 1 := by
  by_cases h : k = 0
  · subst h; rfl
  · rw [if_neg h]; rfl
theorem addP (i : Nat) (hi : i < 5) : Q.addN (2 ^ i - 1) (i : Int) = 2 ^ (i + 1) - 1 := by
  match i, hi with
  | 0, _ => decide
  | 1, _ => decide
  | 2, _ => decide
  | 3, _ => decide
  | 4, _ => decide
theorem hasP (i : Nat) (hi : i < 5) : Q.hasB (2 ^ i - 1) (i : Int) = false := by
  match i, hi with
  | 0, _ => decide
  | 1, _ => decide
  | 2, _ => decide
  | 3, _ => decide
  | 4, _ => decide
theorem majP (s : Nat) (hs : s = 1 ∨ s = 3 ∨ s = 5) : Q.majB (2 ^ s - 1) (s : Int) = true := by
  rcases hs with rfl | rfl | rfl <;> decide
theorem hasK (vt k : Nat) (hk : k < 5) : Q.hasB vt (k : Int) = vt.testBit k := by
  unfold Q.hasB
  rw [Int.toNat_natCast]
  simp
  intro _
  omega
theorem cntK (vt k s : Nat) (hk : k < s) (hs : s ≤ 5) (h : vt.testBit k = false) : Q.countN (Q.addN vt (k : Int)) (s : Int) = Q.countN vt (s : Int) + 1 := by
  unfold Q.countN Q.addN
  rw [if_pos ⟨by omega, by omega⟩, Int.toNat_natCast, Q.cnt_set]
  have : Q.clampN (s : Int) = s := by unfold Q.clampN; omega
  rw [this, if_pos ⟨hk, h⟩]
theorem cntZ (s : Nat) : Q.countN 0 (s : Int) = 0 := by
  have h : ∀ n, Q.cnt 0 n = 0 := fun n => by
    have := Q.cnt_flip 0 (2 ^ n - 1) n (fun i hi => by simp [Nat.testBit_two_pow_sub_one, hi])
    have h2 := Q.cnt_le (2 ^ n - 1) n
    have h3 := Q.list_len 0 n
    rw [← h3]
    simp [Q.listN]
  exact h _
theorem majK (vt s : Nat) (hs : s = 1 ∨ s = 3 ∨ s = 5) : Q.majB vt (s : Int) = decide ((s : Int) < 2 * (Q.countN vt (s : Int) : Int)) := by
  have h : Q.clampN (s : Int) = s := by unfold Q.clampN; omega
  unfold Q.majB Q.leastN
  rw [h, Bool.eq_iff_iff, Bool.and_eq_true, decide_eq_true_eq, decide_eq_true_eq, decide_eq_true_eq]
  omega
theorem cnt5 (vt s : Nat) (hs : s ≤ 5) : Q.countN vt (s : Int) ≤ 5 := by
  have h : Q.clampN (s : Int) = s := by unfold Q.clampN; omega
  unfold Q.countN
  rw [h]
  exact Nat.le_trans (Q.cnt_le _ _) hs
theorem votesV (s : Nat) (A : Option Addr) (c vt q : Nat) (hq : q < s) (hs : s ≤ 5) : (Lv s A c vt).votes (q : Int) 1 0 1 = !vt.testBit q := by
  unfold T.Ld.votes Lv
  simp only
  rw [hasK vt q (by omega)]
  simp
  intro _
  omega
theorem voteV (s : Nat) (A : Option Addr) (c vt q : Nat) (hq : q < s) (hs : s ≤ 5) (h : vt.testBit q = false) : (Lv s A c vt).vote (q : Int) 1 0 1 = Lv s A c (Q.addN vt (q : Int)) := by
  unfold T.Ld.vote
  rw [votesV s A c vt q hq hs, h]
  rfl
theorem donesV (s : Nat) (A : Option Addr) (c vt : Nat) : (Lv s A c vt).dones = Q.majB vt (s : Int) := by
  unfold T.Ld.dones Lv; simp
theorem doneV (s : Nat) (A : Option Addr) (c vt : Nat) : (Lv s A c vt).done.dones = false ∧ 0 ≤ (Lv s A c vt).done.sl ∧ (Lv s A c vt).done.sl ≤ 1000000 ∧ (Lv s A c vt).done.vt = vt := by
  unfold T.Ld.done
  cases h : (Lv s A c vt).dones with
  | false => exact ⟨h, (by show (0 : Int) ≤ 1; omega), (by show (1 : Int) ≤ 1000000; omega), rfl⟩
  | true => exact ⟨(by simp [T.Ld.dones]), (by show (0 : Int) ≤ 0; omega), (by show (0 : Int) ≤ 1000000; omega), rfl⟩
set_option maxHeartbeats 12800000 in
theorem lonce_mid (AV : Option Addr) (cV : Nat) (l : List UInt8) (m : Nat) (hm : m < 256) (w : World) (hc : l.length ≤ cV) (hcm : cV ≤ maxLen) (hA : Rd w w.heap.size AV (bc l)) (hT : Tabs w) :
    Calls Tryd.prog 7 #[.slice AV l.length cV, .int .u8 (m : Int)] w fun e w' => e = .returned (.bool true) ∧ Below w.heap.size w w' := by
  obtain ⟨n, hn⟩ : ∃ n, n = l.length := ⟨_, rfl⟩
  have HN := Lib.hid hn
  have HRD := Lib.hid hA
  have HT := Lib.hid hT
  rw [← hn] at hc ⊢
  clear hn hA hT
  unfold maxLen at hcm
  have ee : Below w.heap.size w w := Below.refl _ _
  go_enter Tryd.func7, Tryd.ntmps7
  go_wp2_with fail
  refine (awake19 w).mono ?_
  rintro e z1 ⟨rfl, t⟩
  have ee := ee.trans (t.mono ee.size)
  clear t
  by_cases hl : 60 < n
  · have hl : decide (60 < (n : Int)) = true := by simp; omega
    go_wp2_with fail
    refine (awake19 z1).mono ?_
    rintro e z2 ⟨rfl, t⟩
    have ee := ee.trans (t.mono ee.size)
    clear t
    go_wp2_with fail
    go_ret
    exact ⟨rfl, ee⟩
  · have hl60 : n ≤ 60 := by omega
    have hl : decide (60 < (n : Int)) = false := by simp; omega
    go_upto_region 3 with fail
    clear hl
    go_cut [5] (fun u5 wx => ∃ s : Nat, u5 = .int .i64 (s : Int) ∧ Hid (s = 1 ∨ s = 3 ∨ s = 5) ∧ Hid (Below w.heap.size w wx))
    case first =>
      have h3 : m % 3 = 0 ∨ m % 3 = 1 ∨ m % 3 = 2 := by omega
      rcases h3 with h3 | h3 | h3
      · have hr : (m : Int) % 3 = 0 := by omega
        clear h3
        go_wp2_with fail
        go_meet
        exact ⟨1, rfl, (by show _ ∨ _; omega), ee.alloc ee.size _⟩
      · have hr : (m : Int) % 3 = 1 := by omega
        clear h3
        go_wp2_with fail
        go_meet
        exact ⟨3, rfl, (by show _ ∨ _; omega), ee.alloc ee.size _⟩
      · have hr : (m : Int) % 3 = 2 := by omega
        clear h3
        go_wp2_with fail
        go_meet
        exact ⟨5, rfl, (by show _ ∨ _; omega), ee.alloc ee.size _⟩
    case rest =>
      obtain ⟨s, rfl, HS, ee⟩ := hcut
      have ee := ee.out
      have hs5 : s ≤ 5 := by have := HS.out; omega
      have hs1 : 1 ≤ s := by have := HS.out; omega
      have nm : ∀ z : World, Below w.heap.size w z → ∃ z', z' = z := fun z _ => ⟨z, rfl⟩
      obtain ⟨y0, hy0⟩ := nm _ ee
      subst hy0
      clear nm
      go_wp2_with fail
      refine (lnew_ok (s : Int) 0 y0 (decide_eq_true (by have := HS.out; omega))).mono ?_
      rintro e y1 ⟨rfl, hy1⟩
      obtain ⟨h, hh⟩ : ∃ h, h = y0.heap.size := ⟨_, rfl⟩
      have hwh : w.heap.size ≤ h := by rw [hh]; exact ee.size
      have Zl : LdAt y1 h (Ld.new (s : Int) 0) := by rw [hy1]; exact hpN _ _ hh
      have ee : Below w.heap.size w y1 := by rw [hy1]; exact ee.alloc ee.size _
      rw [← hh]
      clear hy1 hh
      have HST := Lib.hid (lstart y1 h (Ld.new (s : Int) 0) 0 0 (by omega) (by show (0 : Nat) < _; omega) Zl)
      rw [nx_first] at HST
      go_upto_region 5 with fail
      refine wp_region_lit ?_
      go_wp2_with fail
      refine HST.out.mono ?_
      rintro e y2 ⟨rfl, Zm, t⟩
      clear HST
      have ee := ee.grown t ee.size (fun q hq => by injection hq with hq; omega)
      clear t
      have Zl : y2.heap[h]? = some (.cells (Lp s 0 none 0).cells.toArray 144) := Zm
      clear Zm
      dsimp only
      rename_i hK
      refine hK _ _ ?_
      clear hK
      iterate 12 go_step
      have s2 := ee.size
      have lZl := (Array.getElem?_eq_some_iff.1 Zl).1
      have Zl := hpA Zl (.cells #[.int .u32 0, .int .i64 0] 28)
      have ee := ee.alloc ee.size (.cells #[.int .u32 0, .int .i64 0] 28)
      have Zb := hpN y2 (.cells #[.int .u32 0, .int .i64 0] 28) rfl
      generalize y2.alloc (.cells #[.int .u32 0, .int .i64 0] 28) = z11 at Zl Zb ee ⊢
      obtain ⟨gb, hgb⟩ : ∃ g, g = y2.heap.size := ⟨_, rfl⟩
      rw [← hgb] at Zb ⊢
      have hwgb : w.heap.size ≤ gb := by omega
      have hhgb : gb ≠ h := by omega
      clear hgb lZl s2
      iterate 27 (first | with_reducible refine isStore (ty := 28) rfl ?_ | go_step)
      refine wpList_store_row rfl 28 _ _ rfl (gb) ([.int .u32 ((1 : Nat) : Int), .int .i64 0]).toArray rfl rfl 28 _ Zb sizeBal (by rfl) (by simp [Value.oneCell']) ?_
      have N_ := setRow_heap z11 (gb) _ ([.int .u32 ((1 : Nat) : Int), .int .i64 0]).toArray _ _ Zb
      have ee := belowSet (cs := ([.int .u32 ((1 : Nat) : Int), .int .i64 0]).toArray) ee Zb (by omega)
      have Zl := hpR Zl (g' := gb) (by omega) ([.int .u32 ((1 : Nat) : Int), .int .i64 0]).toArray
      clear Zb
      have Zb := N_
      clear N_
      generalize z11.setRow (gb) ([.int .u32 ((1 : Nat) : Int), .int .i64 0]).toArray = z12 at Zl Zb ee ⊢
      have hu0 : z12.ownsRow w.heap.size 39 16 (.slice none 0 0) 0 (acCells (List.replicate 0 Ac.new)) := World.ownsRow_nil _ _ _ _
      go_wp2_with fail
      go_loopw [9] (fun i wr => ∃ (k : Nat) (A : Option Addr) (c : Nat), k ≤ s ∧ i = .int .i64 (k : Int) ∧ Hid (LdAt wr h (Lp s k A c)) ∧ Hid (wr.ownsRow w.heap.size 39 16 (.slice A k c) k (acCells (List.replicate k Ac.new))) ∧ Hid (wr.heap[gb]? = some (.cells [.int .u32 ((1 : Nat) : Int), .int .i64 0].toArray 28)) ∧ Hid (Below w.heap.size w wr)) (fun i _ => s - (intOf i).toNat)
      case atStart => exact ⟨0, none, 0, Nat.zero_le _, rfl, Zl, hu0, Zb, ee⟩
      case round =>
        clear ee Zl Zb hu0
        obtain ⟨k, A, c, hk, rfl, Zl, hu, Zb, ee⟩ := hrel
        have Zl : wr.heap[h]? = some (.cells (Lp s k A c).cells.toArray 144) := Zl.out
        have hu := hu.out
        have Zb := Zb.out
        have ee := ee.out
        by_cases hlt : k < s
        · go_upto_region 9 with fail
          have hu : wr.drew.ownsRow w.heap.size 39 16 (.slice A k c) k (acCells (List.replicate k Ac.new)) := World.ownsRow.drew hu
          have Zl : wr.drew.heap[h]? = some (.cells (Lp s k A c).cells.toArray 144) := Zl
          have Zb : wr.drew.heap[gb]? = some (.cells [.int .u32 ((1 : Nat) : Int), .int .i64 0].toArray 28) := Zb
          have ee := belowDrewS ee
          refine wp_region_held_drew (S := fun z' => z'.rangeAt gb 0 [.int .u32 ((1 : Nat) : Int), .int .i64 0]) (by kernel_rfl) (rowAt Zb) (fun hH => ?_)
          clear hH
          generalize wr.drew = z13 at Zl Zb hu ee ⊢
          refine wpAnyH_take (i := 0) (v := .pointer (some ⟨h, 0, none⟩)) rfl (by kernel_rfl) (by kernel_rfl) (by kernel_rfl) (fun _ _ _ h => h) (Or.inl ⟨by rfl, fun w_ hS_ => by (first | (go_simp; done) | (go_simp; rfl))⟩) (rowAt Zb) ?_
          try simp only [Act.put, List.getElem_toArray, List.getElem_cons_zero, List.getElem_cons_succ, List.setIfInBounds_toArray, List.set_cons_zero, List.set_cons_succ]
          refine wpAnyH_take (i := 1) (v := .int .i64 (k : Int)) rfl (by kernel_rfl) (by kernel_rfl) (by kernel_rfl) (fun _ _ _ h => h) (Or.inl ⟨by rfl, fun w_ hS_ => by (first | (go_simp; done) | (go_simp; rfl))⟩) (rowAt Zb) ?_
          try simp only [Act.put, List.getElem_toArray, List.getElem_cons_zero, List.getElem_cons_succ, List.setIfInBounds_toArray, List.set_cons_zero, List.set_cons_succ]
          refine wpAnyH_take (i := 2) (v := .agg ([.int .u32 ((1 : Nat) : Int), .int .i64 0]).toArray) rfl (by kernel_rfl) (by kernel_rfl) (by kernel_rfl) (fun _ _ _ h => h) (yieldsIf_load_mid (by rfl) 28 _ rfl (gb) 0 rfl ([.int .u32 ((1 : Nat) : Int), .int .i64 0]) _ (fun _ h => h) Tryd.underlying28 rfl sizeBal) (rowAt Zb) ?_
          try simp only [Act.put, List.getElem_toArray, List.getElem_cons_zero, List.getElem_cons_succ, List.setIfInBounds_toArray, List.set_cons_zero, List.set_cons_succ]
          refine wpAnyH_ready (rs := [3]) (by kernel_rfl) (by simp) ?_
          refine AllReadyH.cons rfl (fun K hK => ?_) AllReadyH.nil
          rw [if_pos (by rfl)]
          go_simp
          go_wp2_with (go_at_call 22; refine (c_new z13).mono ?_; rintro e z14 ⟨rfl, t⟩)
          have hu := ownBelow hu t
          have Zl := hpB Zl t
          have Zb := hpB Zb t
          have ee := ee.trans (t.mono ee.size)
          clear t
          refine hK.out _ _ (rowAt Zb) (fun hH => ?_)
          clear hK K hH
          try simp only [Act.put, List.getElem_toArray, List.getElem_cons_zero, List.getElem_cons_succ, List.setIfInBounds_toArray, List.set_cons_zero, List.set_cons_succ]
          refine wpAnyH_ready (rs := [4]) (by kernel_rfl) (by simp) ?_
          refine AllReadyH.cons rfl (fun K hK => ?_) AllReadyH.nil
          rw [if_pos (by rfl)]
          go_simp
          have szp := ee.size
          have HPR := Lib.hid (lpromise_yes z14 w.heap.size h (Lp s k A c) (k : Int) Ac.new Zl (by simpa only [Lp, List.length_replicate] using hu) szp (by simp only [Lp, List.length_replicate]; omega) (by show 2 ^ k - 1 < _; have : 2 ^ k ≤ 2 ^ 5 := Nat.pow_le_pow_right (by omega) (by omega); omega) (by intro hq; exact absurd hq.1 (by show ¬ (1 = 0); omega)) Ac.new_formed CmOk.zero (HT.out.below ee) (by omega) (by show (k : Int) < (s : Int); omega) (hasP k (by omega)))
          simp only [Lp, List.length_replicate, addP k (show k < 5 by omega)] at HPR
          have hnb : (Value.slice A k c).ownBlock ≠ some gb := lgKind hu Zb (by decide)
          have hlb : ∀ i, (Value.slice A k c).ownBlock = some i → w.heap.size ≤ i := fun i hi => (hu.lt i hi).1
          clear hu
          go_wp2_with (go_at_call 36; refine HPR.out.mono ?_; rintro e z15 ⟨rfl, A9, c9, Zl, hu, t⟩)
          have Zl : z15.heap[h]? = some (.cells (Lp s (k + 1) A9 c9).cells.toArray 144) := by
            have e1 : List.replicate k Ac.new ++ [Ac.new] = List.replicate (k + 1) Ac.new := (List.replicate_succ' ..).symm
            rw [e1] at Zl
            rw [fsK k] at Zl
            exact Zl
          have hu : z15.ownsRow w.heap.size 39 16 (.slice A9 (k + 1) c9) (k + 1) (acCells (List.replicate (k + 1) Ac.new)) := by
            have e1 : List.replicate k Ac.new ++ [Ac.new] = List.replicate (k + 1) Ac.new := (List.replicate_succ' ..).symm
            rw [e1, List.length_replicate] at hu
            exact hu
          have Zb := (t.2 gb (Array.getElem?_eq_some_iff.1 Zb).1 (by rintro (e | e); exact hhgb e; exact hnb e)).trans Zb
          have ee := frBelowB ee t (by rintro i (e | e); omega; exact hlb i e)
          clear HPR t hnb hlb szp
          refine hK.out _ _ (rowAt Zb) (fun hH => ?_)
          clear hK K hH
          try simp only [Act.put, List.getElem_toArray, List.getElem_cons_zero, List.getElem_cons_succ, List.setIfInBounds_toArray, List.set_cons_zero, List.set_cons_succ]
          refine wpAnyH_take (i := 5) (v := .bool false) rfl (by kernel_rfl) (by kernel_rfl) (by kernel_rfl) (fun _ _ _ h => h) (Or.inl ⟨by rfl, fun w_ hS_ => by (first | (go_simp; done) | (go_simp; rfl))⟩) (rowAt Zb) ?_
          try simp only [Act.put, List.getElem_toArray, List.getElem_cons_zero, List.getElem_cons_succ, List.setIfInBounds_toArray, List.set_cons_zero, List.set_cons_succ]
          refine wpAnyH_done (by kernel_rfl) ?_ _
          go_wp2_with fail
          go_roundw
          case rel => exact ⟨k + 1, A9, c9, by omega, by go_num, Zl, hu, Zb, ee⟩
          case measure => simp [intOf]; omega
        · obtain rfl : s = k := by omega
          clear hlt
          have hsc : s ≤ c := by obtain ⟨A8, c8, e8, h8, _⟩ := ownShape hu; injection e8 with e1 e2 e3; omega
          have hRz : ∀ z, wr.grownBy z (some h) → RowsAt z z.heap.size A 16 ((List.replicate s Ac.new).map Ac.cells) := fun z hz => by
            have hu2 := hu.kept hz (Or.inr (lgKind hu Zl (by decide)))
            obtain ⟨A8, c8, e8, _, hR⟩ := acOwn (l := List.replicate s Ac.new) (by simpa using hu2)
            injection e8 with e1 e2 e3
            subst e1
            exact hR
          have HPO := Lib.hid (lpropose_yes wr h (Lp s s A c) 1 Cm.zero Zl hRz (by simp only [Lp, List.length_replicate]; omega) (by simp only [Lp, List.length_replicate]; exact hsc) (by show 2 ^ s - 1 < _; have : 2 ^ s ≤ 2 ^ 5 := Nat.pow_le_pow_right (by omega) (by omega); omega) (majP s HS.out) rfl (by show (if s = 0 then (0 : Int) else 1) ≤ 1; split <;> omega) (by omega) CmOk.zero (by decide) (HT.out.below ee))
          clear hRz hu hsc
          have HPO : Hid (Calls Tryd.prog 37 #[.pointer (some ⟨h, 0, none⟩), .int .i64 1, .agg Cm.zero.cells.toArray] wr fun e w' => e = .returned (.tuple #[.agg Cm.zero.cells.toArray, .bool true]) ∧ LdAt w' h (Lv s A c 0) ∧ wr.grownBy w' (some h)) := by
            have := HPO.out
            rw [show (Lp s s A c).what 1 Cm.zero = Cm.zero by unfold T.Ld.what; simp only [Lp]; rw [best_new]; rfl] at this
            exact this.mono fun e w' q => ⟨q.1, by
              have q2 := q.2.1
              show w'.heap[h]? = _
              unfold LdAt at q2
              rw [q2]
              unfold Lp Lv
              rw [if_neg (by omega)], q.2.2⟩
          go_upto_region 11 with fail
          refine wp_region_lit ?_
          go_wp2_with fail
          refine HPO.out.mono ?_
          rintro e z1 ⟨rfl, Zm, t⟩
          clear HPO
          have Zb := lgHeapG Zb t hhgb
          have ee := ee.grown t ee.size (fun q hq => by injection hq with hq; omega)
          clear t
          clear Zl
          have Zl : z1.heap[h]? = some (.cells (Lv s A c 0).cells.toArray 144) := Zm
          clear Zm
          dsimp only
          rename_i hK
          refine hK _ _ ?_
          clear hK
          iterate 12 go_step
          have s2 := ee.size
          have lZl := (Array.getElem?_eq_some_iff.1 Zl).1
          have lZb := (Array.getElem?_eq_some_iff.1 Zb).1
          have Zl := hpA Zl (.cells #[.int .i64 0, .int .i64 0, .int .i64 0, .slice none 0 0, .slice none 0 0, .int .i64 0, .int .i64 0, .int .i64 0, .int .u64 0, .bool false] 37)
          have Zb := hpA Zb (.cells #[.int .i64 0, .int .i64 0, .int .i64 0, .slice none 0 0, .slice none 0 0, .int .i64 0, .int .i64 0, .int .i64 0, .int .u64 0, .bool false] 37)
          have ee := ee.alloc ee.size (.cells #[.int .i64 0, .int .i64 0, .int .i64 0, .slice none 0 0, .slice none 0 0, .int .i64 0, .int .i64 0, .int .i64 0, .int .u64 0, .bool false] 37)
          have Zn := hpN z1 (.cells #[.int .i64 0, .int .i64 0, .int .i64 0, .slice none 0 0, .slice none 0 0, .int .i64 0, .int .i64 0, .int .i64 0, .int .u64 0, .bool false] 37) rfl
          generalize z1.alloc (.cells #[.int .i64 0, .int .i64 0, .int .i64 0, .slice none 0 0, .slice none 0 0, .int .i64 0, .int .i64 0, .int .i64 0, .int .u64 0, .bool false] 37) = z21 at Zl Zb Zn ee ⊢
          iterate 27 (first | with_reducible refine isStore (ty := 37) rfl ?_ | go_step)
          refine wpList_store_row rfl 37 _ _ rfl (z1.heap.size) (Cm.zero.cells).toArray rfl rfl 37 _ Zn sizeCm (by rfl) (Cm.one _) ?_
          have N_ := setRow_heap z21 (z1.heap.size) _ (Cm.zero.cells).toArray _ _ Zn
          have ee := belowSet (cs := (Cm.zero.cells).toArray) ee Zn (by omega)
          have Zl := hpR Zl (g' := z1.heap.size) (by omega) (Cm.zero.cells).toArray
          have Zb := hpR Zb (g' := z1.heap.size) (by omega) (Cm.zero.cells).toArray
          clear Zn
          have Zn := N_
          clear N_
          generalize z21.setRow (z1.heap.size) (Cm.zero.cells).toArray = z22 at Zl Zb Zn ee ⊢
          clear Zn
          go_upto_region 14 with fail
          refine wp_region_lit ?_
          iterate 3 go_step
          have s3 := ee.size
          have l2 := (Array.getElem?_eq_some_iff.1 Zl).1
          have lZl := (Array.getElem?_eq_some_iff.1 Zl).1
          have lZb := (Array.getElem?_eq_some_iff.1 Zb).1
          have Zl := hpA Zl (.cells #[.bool false, .bool false, .bool false, .bool false, .bool false] 67)
          have Zb := hpA Zb (.cells #[.bool false, .bool false, .bool false, .bool false, .bool false] 67)
          have ee := ee.alloc ee.size (.cells #[.bool false, .bool false, .bool false, .bool false, .bool false] 67)
          have Zs := hpN z22 (.cells #[.bool false, .bool false, .bool false, .bool false, .bool false] 67) rfl
          generalize z22.alloc (.cells #[.bool false, .bool false, .bool false, .bool false, .bool false] 67) = z23 at Zl Zb Zs ee ⊢
          obtain ⟨gs, hgs⟩ : ∃ g, g = z22.heap.size := ⟨_, rfl⟩
          rw [← hgs] at Zs
          have Zs : z23.heap[gs]? = some (.cells (seenC 0).toArray 67) := by rw [Zs]; rfl
          have hgsh : gs ≠ h := by omega
          have hgsb : gs ≠ gb := by omega
          have hwgs : w.heap.size ≤ gs := by omega
          go_upto_region 16 with fail
          go_wp2_with fail
          rw [← hgs]
          clear hgs l2 s3 s2
          go_loopw [13, 14] (fun u i wr => ∃ k vt : Nat, k ≤ n ∧ i = .int .i64 (k : Int) ∧ u = .int .i64 (Q.countN vt (s : Int) : Int) ∧ Hid (vt < 18446744073709551616) ∧ Hid (wr.heap[h]? = some (.cells (Lv s A c vt).cells.toArray 144)) ∧ Hid (wr.heap[gb]? = some (.cells [.int .u32 ((1 : Nat) : Int), .int .i64 0].toArray 28)) ∧ Hid (wr.heap[gs]? = some (.cells (seenC vt).toArray 67)) ∧ Hid (Below w.heap.size w wr)) (fun _ i _ => n - (intOf i).toNat)
          case atStart => exact ⟨0, 0, Nat.zero_le _, rfl, by rw [cntZ]; rfl, by show (0 : Nat) < _; omega, Zl, Zb, Zs, ee⟩
          case round =>
            clear ee Zl Zb Zs
            obtain ⟨k, vt, hk, rfl, rfl, hvt, Zl, Zb, Zs, ee⟩ := hrel
            have Zl := Zl.out
            have Zb := Zb.out
            have Zs := Zs.out
            have ee := ee.out
            have hvt := hvt.out
            have HCN := Lib.hid (cnt5 vt s hs5)
            have HMK := Lib.hid (majK vt s HS.out)
            by_cases hlt : k < n
            · have hkl : k < (bc l).length := by rw [bc_len, ← HN.out]; exact hlt
              obtain ⟨bo, off, rfl, hbo, hcv⟩ := HRD.out k _ (List.getElem?_eq_getElem hkl)
              rw [bc_get] at hcv
              have hv := (l[k]'(by simpa [bc] using hkl)).toNat_lt
              generalize (l[k]'(by simpa [bc] using hkl)).toNat = v at hcv hv
              have hcell := (ee.cell (p := ⟨bo, off + k, none⟩) hbo).trans hcv
              clear hcv hkl
              obtain ⟨q, hq⟩ : ∃ q, q = v % s := ⟨_, rfl⟩
              have hqs : q < s := by rw [hq]; exact Nat.mod_lt _ (by omega)
              have HQ : Hid ((v : Int) % (s : Int) = (q : Int)) := by show _ = _; rw [hq]; simp
              have hs0 : ((s : Int) == 0) = false := by simp; omega
              have hk1 : (0 : Int) ≤ (k : Int) := by omega
              have hk2 : (k : Int) < (n : Int) := by omega
              clear hq
              have HCK := Lib.hid (fun hb => cntK vt q s hqs hs5 hb)
              have HMK2 := Lib.hid (majK (Q.addN vt (q : Int)) s HS.out)
              have HVN := Lib.hid (votesV s A c vt q hqs hs5)
              have HVY := Lib.hid (fun hb => voteV s A c vt q hqs hs5 hb)
              have HG := Lib.hid (seenC_get vt q (by omega))
              have HGS := Lib.hid (seenC_set vt q (by omega))
              have hcn := HCN.out
              generalize hCN : Q.countN vt (s : Int) = cn at HCN HMK HCK hcn
              clear HCN
              have hw1 : IntKind.i64.wrap (2 * (cn : Int)) = 2 * (cn : Int) := by rw [IntKind.wrap_i64]; omega
              go_upto_region 20 with fail
              rw [HQ.out]
              clear hs0 hk1 hk2 hcell HQ
              have hq0 : (0 : Int) ≤ (q : Int) := by omega
              have hq5 : (q : Int) < 5 := by omega
              generalize hM1 : decide ((s : Int) < 2 * (cn : Int)) = m1 at HMK
              have hs1 := rowCell Zs q HG.out
              go_upto_region 21 with fail
              cases hb : vt.testBit q with
              | true =>
                rw [hb] at hs1 HVN
                have HV := Lib.hid (lvote_no wr h (Lv s A c vt) (q : Int) 1 0 1 Zl hvt HVN.out)
                go_upto_region 24 with fail
                clear hs1
                refine wp_region_lit ?_
                iterate 27 (first | with_reducible refine isLoad (ty := 28) rfl ?_ | go_step)
                refine wpList_load_mid rfl 28 _ rfl (gb) 0 rfl ([.int .u32 ((1 : Nat) : Int), .int .i64 0]) _ (rowAt Zb) Tryd.underlying28 rfl sizeBal ?_
                go_wp2_with fail
                refine (HV.out).mono ?_
                rintro e z24 ⟨rfl, t⟩
                have Zl := hpB Zl t
                have Zb := hpB Zb t
                have Zs := hpB Zs t
                have ee := ee.trans (t.mono ee.size)
                clear t
                dsimp only
                rename_i hK
                refine hK _ _ ?_
                clear hK
                cases m1 with
                | true =>
                  go_wp2_with fail
                  go_roundw
                  case rel => exact ⟨k + 1, vt, by omega, by go_num, by rw [hCN], hvt, Zl, Zb, Zs, ee⟩
                  case measure => simp [intOf]; omega
                | false =>
                  go_wp2_with fail
                  go_roundw
                  case rel => exact ⟨k + 1, vt, by omega, by go_num, by rw [hCN], hvt, Zl, Zb, Zs, ee⟩
                  case measure => simp [intOf]; omega
              | false =>
                rw [hb] at hs1 HVN
                have HCK2 := Lib.hid (HCK.out hb)
                have HVY2 := Lib.hid (HVY.out hb)
                go_upto_region 22 with fail
                clear hs1
                refine wp_region_lit ?_
                iterate 40 (first | with_reducible refine isStore (ty := 4) rfl ?_ | go_step)
                have f_ : wr.frozen? ⟨gs, q, none⟩ = false := freeAt Zs q
                have c_ := rowCell Zs q HG.out
                iterate 3 go_step
                clear f_ c_
                have N_ : (wr.setCells (gs) q ([.bool true])).heap[gs]? = some (.cells (((seenC vt).set q (.bool true))).toArray 67) := hpC ([.bool true]) q _ wr Zs
                have ee := belowC (g := gs) (by omega) ([.bool true]) q wr ee
                have Zl := hpCo (g' := gs) (by omega) ([.bool true]) q wr Zl
                have Zb := hpCo (g' := gs) (by omega) ([.bool true]) q wr Zb
                clear Zs
                have Zs := N_
                clear N_
                change wpList _ _ _ _ _ (wr.setCells (gs) q ([.bool true]))
                generalize wr.setCells (gs) q ([.bool true]) = z24 at Zl Zb Zs ee ⊢
                have hw2 : IntKind.i64.wrap ((cn : Int) + 1) = (cn : Int) + 1 := by rw [IntKind.wrap_i64]; omega
                have hw3 : IntKind.i64.wrap (2 * ((cn : Int) + 1)) = 2 * ((cn : Int) + 1) := by rw [IntKind.wrap_i64]; omega
                have hcast : ((cn + 1 : Nat) : Int) = (cn : Int) + 1 := by omega
                go_upto_region 24 with fail
                clear hw2
                rw [HGS.out] at Zs
                have HV := Lib.hid (lvote_yes z24 h (Lv s A c vt) (q : Int) 1 0 1)
                rw [HVY2.out] at HV
                simp only [show (Lv s A c vt).vt = vt from rfl, show (Lv s A c vt).n = (s : Int) from rfl] at HV
                rw [HMK.out, HMK2.out, HCK2.out, hcast] at HV
                clear hcast
                refine wp_region_lit ?_
                iterate 27 (first | with_reducible refine isLoad (ty := 28) rfl ?_ | go_step)
                refine wpList_load_mid rfl 28 _ rfl (gb) 0 rfl ([.int .u32 ((1 : Nat) : Int), .int .i64 0]) _ (rowAt Zb) Tryd.underlying28 rfl sizeBal ?_
                go_wp2_with fail
                refine (HV.out Zl hvt HVN.out).mono ?_
                rintro e z25 ⟨rfl, Zm, t⟩
                clear HV
                have Zb := lgHeapG Zb t hhgb
                have Zs := lgHeapG Zs t hgsh
                have ee := ee.grown t ee.size (fun q hq => by injection hq with hq; omega)
                clear t Zl
                have Zl : z25.heap[h]? = some (.cells (Lv s A c (Q.addN vt (q : Int))).cells.toArray 144) := Zm
                clear Zm
                dsimp only
                rename_i hK
                refine hK _ _ ?_
                clear hK
                generalize hM2 : decide ((s : Int) < 2 * ((cn : Int) + 1)) = m2
                cases m1 with
                | true =>
                  cases m2 with
                  | true =>
                    go_wp2_with fail
                    go_roundw
                    case rel => exact ⟨k + 1, Q.addN vt (q : Int), by omega, by go_num, by rw [HCK2.out]; simp, Q.add_lt _ _ hvt, Zl, Zb, Zs, ee⟩
                    case measure => simp [intOf]; omega
                  | false =>
                    go_wp2_with fail
                    go_roundw
                    case rel => exact ⟨k + 1, Q.addN vt (q : Int), by omega, by go_num, by rw [HCK2.out]; simp, Q.add_lt _ _ hvt, Zl, Zb, Zs, ee⟩
                    case measure => simp [intOf]; omega
                | false =>
                  cases m2 with
                  | true =>
                    go_wp2_with fail
                    go_roundw
                    case rel => exact ⟨k + 1, Q.addN vt (q : Int), by omega, by go_num, by rw [HCK2.out]; simp, Q.add_lt _ _ hvt, Zl, Zb, Zs, ee⟩
                    case measure => simp [intOf]; omega
                  | false =>
                    go_wp2_with fail
                    go_roundw
                    case rel => exact ⟨k + 1, Q.addN vt (q : Int), by omega, by go_num, by rw [HCK2.out]; simp, Q.add_lt _ _ hvt, Zl, Zb, Zs, ee⟩
                    case measure => simp [intOf]; omega
            · obtain rfl : n = k := by omega
              clear hlt hk
              have HDN := Lib.hid (ldone wr h (Lv s A c vt) Zl hvt (by show (0 : Int) ≤ 1; omega) (by show (1 : Int) ≤ 1000000; omega))
              rw [donesV, HMK.out] at HDN
              have HDV := Lib.hid (doneV s A c vt)
              have hcn := HCN.out
              generalize hCN : Q.countN vt (s : Int) = cn at HCN HDN hcn
              clear HMK HCN
              have hw1 : IntKind.i64.wrap (2 * (cn : Int)) = 2 * (cn : Int) := by rw [IntKind.wrap_i64]; omega
              generalize hM1 : decide ((s : Int) < 2 * (cn : Int)) = m1 at HDN
              go_upto_region 26 with fail
              refine wp_region_lit ?_
              go_wp2_with fail
              refine HDN.out.mono ?_
              rintro e z1 ⟨rfl, Zm, t⟩
              clear HDN Zl
              have ee := ee.grown t ee.size (fun q hq => by injection hq with hq; omega)
              have HD2 := Lib.hid (ldone z1 h (Lv s A c vt).done Zm (by rw [HDV.out.2.2.2]; exact hvt) HDV.out.2.1 HDV.out.2.2.1)
              rw [HDV.out.1] at HD2
              clear t Zm HDV
              dsimp only
              rename_i hK
              refine hK _ _ ?_
              clear hK
              cases m1 with
              | true =>
                go_wp2_with fail
                refine HD2.out.mono ?_
                rintro e z2 ⟨rfl, _, t⟩
                have ee := ee.grown t ee.size (fun q hq => by injection hq with hq; omega)
                go_wp2_with fail
                go_ret
                exact ⟨rfl, ee⟩
              | false =>
                go_wp2_with fail
                refine HD2.out.mono ?_
                rintro e z2 ⟨rfl, _, t⟩
                have ee := ee.grown t ee.size (fun q hq => by injection hq with hq; omega)
                go_wp2_with fail
                go_ret
                exact ⟨rfl, ee⟩
theorem leadOnce_walk (W : World) (hT : Tabs W) (v0 v1 : Value) (h0 : Arg W 81 v0) (h1 : Arg W 5 v1) :
    Calls Tryd.prog 7 #[v0, v1] W fun e W' => e = .returned (.bool true) ∧ Below W.heap.size W W' := by
  obtain ⟨A, c, l, rfl, hc, hm, hA, hl⟩ := h0.bytes Tryd.underlying81
  obtain ⟨m, rfl, hm8⟩ := h1.u8 Tryd.underlying5
  exact lonce_mid A c l m hm8 W hc hm hl hT
end Go.Proofs.YtbahooohkigcnaaDoor
