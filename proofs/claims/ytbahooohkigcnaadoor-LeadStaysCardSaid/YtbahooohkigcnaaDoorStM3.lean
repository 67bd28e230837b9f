/- The reference's leader: Leads, First, Start, Vote, Done. Conditions: what lies, lies below; the tables lie. (Printed by gen_stays.py.) -/
import Derived.Test.YtbahooohkigcnaaDoorStM2
namespace Go.Proofs.YtbahooohkigcnaaDoor
set_option maxRecDepth 20000
open Go.RowKit T Ag
set_option linter.unusedSimpArgs false
set_option linter.unusedVariables false

namespace T
/-- a leader of the reference as one value -/
structure Rl where
  n : Int
  nd : Int
  br : Nat
  bn : Int
  ps : List Int
  PA : Option Addr
  pc : Nat
  l : List Ac
  LA : Option Addr
  lc : Nat
  af : Int
  sl : Int
  x : Cm
  vs : List Int
  VA : Option Addr
  vc : Nat
def Rl.cells (R : Rl) : List Value := [.int .i64 R.n, .int .i64 R.nd, .int .u32 (R.br : Int), .int .i64 R.bn, .slice R.PA R.ps.length R.pc, .slice R.LA R.l.length R.lc, .int .i64 R.af, .int .i64 R.sl, .int .i64 R.x.k, .int .i64 R.x.s, .int .i64 R.x.q, .slice R.x.A1 R.x.rs.length R.x.c1, .slice R.x.A2 R.x.ws.length R.x.c2, .int .i64 R.x.i, .int .i64 R.x.j, .int .i64 R.x.g, .int .u64 (R.x.st : Int), .bool R.x.y, .slice R.VA R.vs.length R.vc]
def iv (l : List Int) : List Value := l.map (.int .i64)
theorem iv_snoc (l : List Int) (k : Int) : iv (l ++ [k]) = iv l ++ [.int .i64 k] := by simp [iv]
theorem Rl.one (R : Rl) : R.cells.toArray.all (·.oneCell') = true := by simp [Rl.cells, Value.oneCell']
theorem Rl.bal (R : Rl) : ∀ j v, ([.int .u32 (R.br : Int), .int .i64 R.bn] : List Value)[j]? = some v → R.cells[2 + j]? = some v := fun j v h => by
  match j, h with
  | 0, h => exact h
  | 1, h => exact h
  | n + 2, h => simp at h
theorem Rl.cmd (R : Rl) : ∀ j v, R.x.cells[j]? = some v → R.cells[8 + j]? = some v := fun j v h => by
  match j, h with
  | 0, h => exact h
  | 1, h => exact h
  | 2, h => exact h
  | 3, h => exact h
  | 4, h => exact h
  | 5, h => exact h
  | 6, h => exact h
  | 7, h => exact h
  | 8, h => exact h
  | 9, h => exact h
  | n + 10, h => simp [Cm.cells] at h
def Rl.pv (R : Rl) : Value := .slice R.PA R.ps.length R.pc
def Rl.lv (R : Rl) : Value := .slice R.LA R.l.length R.lc
def Rl.vv (R : Rl) : Value := .slice R.VA R.vs.length R.vc
end T
theorem sizeRld : (Tryd.prog.info? 150).map (·.size) = some 19 := by kernel_rfl
/-- the blocks that a leader of the reference owns -/
def RF (r : Nat) (R : Rl) (b : Nat) : Prop := b = r ∨ R.pv.ownBlock = some b ∨ R.lv.ownBlock = some b ∨ R.vv.ownBlock = some b
structure RlAt (w : World) (B r t : Nat) (R : Rl) : Prop where
  blk : w.heap[r]? = some (.cells R.cells.toArray 150 (0, 0))
  rB : B ≤ r
  pP : w.ownsRow B 3 1 R.pv R.ps.length (iv R.ps)
  pL : w.ownsRow B 43 16 R.lv R.l.length (acCells R.l)
  pV : w.ownsRow B 3 1 R.vv R.vs.length (iv R.vs)
  ap : ∀ g, R.pv.ownBlock = some g → R.vv.ownBlock ≠ some g
  lp : R.ps.length ≤ t
  ll : R.l.length ≤ t
  lv : R.vs.length ≤ t
  cl : ∀ a ∈ R.l, CmOk w B a.c
  cx : CmOk w B R.x
  b4 : R.br < 4294967296
  sr : 0 ≤ R.sl ∧ R.sl ≤ 1000000
  nn : R.n = 3
  af : 0 ≤ R.af
theorem RlAt.lt {w : World} {B r t : Nat} {R : Rl} (h : RlAt w B r t R) : r < w.heap.size := (Array.getElem?_eq_some_iff.1 h.blk).1
theorem RlAt.more {w : World} {B r t : Nat} {R : Rl} (h : RlAt w B r t R) : RlAt w B r (t + 1) R := ⟨h.blk, h.rB, h.pP, h.pL, h.pV, h.ap, by have := h.lp; omega, by have := h.ll; omega, by have := h.lv; omega, h.cl, h.cx, h.b4, h.sr, h.nn, h.af⟩
theorem RlAt.below {w w' : World} {B r t : Nat} {R : Rl} (h : RlAt w B r t R) (p : Below w.heap.size w w') : RlAt w' B r t R :=
  have hB : B ≤ w.heap.size := by have := h.lt; have := h.rB; omega
  ⟨(p.block r h.lt).trans h.blk, h.rB, ownBelow h.pP p, ownBelow h.pL p, ownBelow h.pV p, h.ap, h.lp, h.ll, h.lv, fun a ha => (h.cl a ha).below p hB, h.cx.below p hB, h.b4, h.sr, h.nn, h.af⟩
/-- the program's leader moves: the reference's stands -/
theorem RlAt.other {w w' : World} {B r t k b e : Nat} {R : Rl} {v : Value} {xs : List Value} {n : Nat} {cs : Array Value} {m : Nat × Nat} (h : RlAt w B r t R) (f : OgF w w' (fun i => i = k ∨ v.ownBlock = some i)) (p : Below B w w') (hz : w.heap[k]? = some (.cells cs 144 m)) (hu : w.ownsRow b 39 e v n xs) : RlAt w' B r t R := by
  have nb : ∀ (c : Nat) (ty : TypeId) (sz : Nat) (u : Value) (q : Nat) (ys : List Value), w.ownsRow c ty sz u q ys → ty ≠ 39 → ty ≠ 144 → w'.ownsRow c ty sz u q ys := fun c ty sz u q ys hy h1 h2 => f.own hy fun i hi => by
    rintro (e_ | e_)
    · subst e_; exact ogKind hy hz (fun q => h2 q.symm) hi
    · rcases own_ne hu hy h1 with q | q
      · rw [q] at hi; cases hi
      · exact q (hi.trans e_.symm)
  refine ⟨f.heap h.blk ?_, h.rB, nb _ _ _ _ _ _ h.pP (by decide) (by decide), nb _ _ _ _ _ _ h.pL (by decide) (by decide), nb _ _ _ _ _ _ h.pV (by decide) (by decide), h.ap, h.lp, h.ll, h.lv, fun a ha => (h.cl a ha).below p (Nat.le_refl _), h.cx.below p (Nat.le_refl _), h.b4, h.sr, h.nn, h.af⟩
  rintro (e_ | e_)
  · subst e_; have := h.blk; rw [hz] at this; injection this with q; injection q with _ q; exact absurd q (by decide)
  · exact ogKind hu h.blk (by decide) e_
/-- the reference's leader moves: other blocks stand -/
theorem RlAt.heap {w w' : World} {B r t k : Nat} {R : Rl} {cs : Array Value} {ty : TypeId} {m : Nat × Nat} (h : RlAt w B r t R) (f : OgF w w' (RF r R)) (hz : w.heap[k]? = some (.cells cs ty m)) (h1 : ty ≠ 150) (h2 : ty ≠ 3) (h3 : ty ≠ 43) : w'.heap[k]? = some (.cells cs ty m) := by
  refine f.heap hz ?_
  rintro (e_ | e_ | e_ | e_)
  · subst e_; have := h.blk; rw [hz] at this; injection this with q; injection q with _ q; exact h1 q
  · exact ogKind h.pP hz h2 e_
  · exact ogKind h.pL hz h3 e_
  · exact ogKind h.pV hz h2 e_
theorem RlAt.own {w w' : World} {B r t : Nat} {R : Rl} {b sz n : Nat} {ty : TypeId} {v : Value} {xs : List Value} (h : RlAt w B r t R) (f : OgF w w' (RF r R)) (hu : w.ownsRow b ty sz v n xs) (h1 : ty ≠ 150) (h2 : ty ≠ 3) (h3 : ty ≠ 43) : w'.ownsRow b ty sz v n xs := by
  refine f.own hu fun i hi => ?_
  rintro (e_ | e_ | e_ | e_)
  · subst e_; exact ogKind hu h.blk (fun q => h1 q.symm) hi
  · rcases own_ne h.pP hu h2 with q | q
    · rw [q] at hi; cases hi
    · exact q (hi.trans e_.symm)
  · rcases own_ne h.pL hu h3 with q | q
    · rw [q] at hi; cases hi
    · exact q (hi.trans e_.symm)
  · rcases own_ne h.pV hu h2 with q | q
    · rw [q] at hi; cases hi
    · exact q (hi.trans e_.symm)
theorem acRows {w : World} {base e c : Nat} {A : Option Addr} {l : List Ac} (h : w.ownsRow base e 16 (.slice A l.length c) l.length (acCells l)) : l.length ≤ c ∧ RowsAt w w.heap.size A 16 (l.map Ac.cells) := by
  obtain ⟨A8, c8, e8, hc8, hR⟩ := acOwn h
  injection e8 with e81 e82 e83
  subst e81
  subst e83
  exact ⟨hc8, hR⟩
theorem bestOkB (w : World) (B : Nat) (l : List Ac) (h : ∀ a ∈ l, CmOk w B a.c) (u : Int) (o : Ac) (ho : CmOk w B o.c) : CmOk w B (l.foldl (fun o a => bif takes u o a then a else o) o).c := by
  induction l generalizing o with
  | nil => exact ho
  | cons x t ih =>
    refine ih (fun a ha => h a (by simp [ha])) _ ?_
    show CmOk w B (bif takes u o x then x else o).c
    cases takes u o x
    · exact ho
    · exact h x (by simp)
theorem fillI (k : Int) (cells : Array Value) (hn : cells.size = 1) : Instr.fill (fun i => some (i * 1, 1)) cells [(0, .int .i64 k)] = some #[.int .i64 k] := by
  have := Great.fill_whole (s := 1) (by omega) [Value.int .i64 k] cells (by intro v hv; simp at hv; subst hv; rfl) (by simp [hn])
  simpa [Value.cells] using this
def RetB (e : Ending) : Prop := ∃ b : Bool, e = .returned (.bool b)
theorem RetB.mk (b : Bool) : RetB (.returned (.bool b)) := ⟨b, rfl⟩
theorem RetB.of {e : Ending} {b : Bool} (h : e = .returned (.bool b)) : RetB e := ⟨b, h⟩
theorem run_eqRBal9 (r : Nat) (n : Int) (r' : Nat) (n' : Int) (w : World) :
    (binOp .eql 40 (.agg #[.int .u32 r, .int .i64 n]) (.agg #[.int .u32 r', .int .i64 n'])).run Tryd.prog w = .ok (.bool (decide (r = r' ∧ n = n'))) w := B.run_eqRBal r n r' n' w
def RetCB (w' : World) (B : Nat) (e : Ending) : Prop := ∃ (y : Cm) (b : Bool), CmOk w' B y ∧ e = .returned (.tuple #[.agg y.cells.toArray, .bool b])
theorem RetCB.mk {w' : World} {B : Nat} (y : Cm) (b : Bool) (h : CmOk w' B y) : RetCB w' B (.returned (.tuple #[.agg y.cells.toArray, .bool b])) := ⟨y, b, h, rfl⟩
theorem RetCB.of {w' : World} {B : Nat} {e : Ending} (y : Cm) (b : Bool) (h : CmOk w' B y) (he : e = .returned (.tuple #[.agg y.cells.toArray, .bool b])) : RetCB w' B e := ⟨y, b, h, he⟩
theorem infoInt3 : (Tryd.prog.info? 3).map (fun i => (i.zero, i.size, i.bytes)) = some (some (.int .i64 0), 1, 8) := by kernel_rfl
theorem run_neRBal (r : Nat) (n : Int) (r' : Nat) (n' : Int) (w : World) :
    (binOp .neq 40 (.agg #[.int .u32 r, .int .i64 n]) (.agg #[.int .u32 r', .int .i64 n'])).run Tryd.prog w = .ok (.bool (!decide (r = r' ∧ n = n'))) w := by
  rw [run_neq_struct, show (10000 : Nat) = 9998 + 2 from rfl, B.eqRBal]; rfl
theorem RlAt.keepF {w w' : World} {B r t : Nat} {R : Rl} (h : RlAt w B r t R) (_ : OgF w w' (RF r R)) (ee : Below B w w') (blk : w'.heap[r]? = some (.cells R.cells.toArray 150 (0, 0))) (pP : w'.ownsRow B 3 1 R.pv R.ps.length (iv R.ps)) (pL : w'.ownsRow B 43 16 R.lv R.l.length (acCells R.l)) (pV : w'.ownsRow B 3 1 R.vv R.vs.length (iv R.vs)) : RlAt w' B r t R :=
  ⟨blk, h.rB, pP, pL, pV, h.ap, h.lp, h.ll, h.lv, fun a ha => (h.cl a ha).below ee (Nat.le_refl _), h.cx.below ee (Nat.le_refl _), h.b4, h.sr, h.nn, h.af⟩
set_option maxHeartbeats 3200000 in
theorem rin (B c : Nat) (A : Option Addr) (l : List Int) (x : Int) (w : World) (hu : w.ownsRow B 3 1 (.slice A l.length c) l.length (iv l)) (hl : l.length ≤ 100000) :
    Calls Tryd.prog 116 #[.slice A l.length c, .int .i64 x] w fun e w' => e = .returned (.bool (decide (x ∈ l))) ∧ w = w' := by
  obtain ⟨n, hn⟩ : ∃ n, n = l.length := ⟨_, rfl⟩
  have HN := Lib.hid hn
  have HR := Lib.hid (Rd.ofOwn hu)
  rw [← hn] at hl ⊢
  clear hn hu
  go_enter Tryd.func116, Tryd.ntmps116
  go_wp2_with fail
  go_loopw [5] (fun u wr => ∃ j : Nat, j ≤ n ∧ u = .int .i64 (j : Int) ∧ wr = w ∧ Hid (∀ i, i < j → l[i]? ≠ some x)) (fun u _ => n - (intOf u).toNat)
  case atStart => exact ⟨0, Nat.zero_le _, rfl, rfl, fun i hi => by omega⟩
  case round =>
    obtain ⟨j, hj, rfl, rfl, HP⟩ := hrel
    by_cases hlt : j < n
    · have hjl : j < l.length := by rw [← HN.out]; exact hlt
      obtain ⟨y, hy⟩ : ∃ y, l[j]? = some y := ⟨_, List.getElem?_eq_getElem hjl⟩
      obtain ⟨eb, eo, rfl, _, hce⟩ := HR.out j (.int .i64 y) (by simp [iv, hy])
      have HY := Lib.hid hy
      have hj0 : (0 : Int) ≤ (j : Int) := by omega
      have hj1 : (j : Int) < (n : Int) := by omega
      clear hy hjl
      by_cases hx : y = x
      · have hx1 : (y == x) = true := by simpa using hx
        have hr : decide (x ∈ l) = true := decide_eq_true (by rw [← hx]; exact List.mem_of_getElem? HY.out)
        have HRR := Lib.hid hr
        clear hr hx
        go_wp2_with fail
        go_ret
        exact ⟨by rw [HRR.out]; rfl, rfl⟩
      · have hx1 : (y == x) = false := by simpa using hx
        have HX := Lib.hid hx
        clear hx
        go_wp2_with fail
        go_roundw
        case rel =>
          refine ⟨j + 1, by omega, by go_num, by first | rfl | trivial, fun i hi e => ?_⟩
          by_cases h : i = j
          · subst h; rw [HY.out] at e; injection e with e; exact HX.out e
          · exact HP.out i (by omega) e
        case measure => simp [intOf]; omega
    · have hjn : n = j := by omega
      have hr : decide (x ∈ l) = false := decide_eq_false fun hm => by
        obtain ⟨i, hi⟩ := List.getElem?_of_mem hm
        exact HP.out i (by have := (List.getElem?_eq_some_iff.1 hi).1; rw [← HN.out] at this; omega) hi
      have HRR := Lib.hid hr
      clear hr
      go_wp2_with fail
      go_ret
      exact ⟨by rw [HRR.out]; rfl, rfl⟩
set_option maxHeartbeats 3200000 in
theorem rleads (w : World) (B r t : Nat) (R : Rl) (h : RlAt w B r t R) (ht : t ≤ 1000) : Calls Tryd.prog 117 #[.pointer (some ⟨r, 0, none⟩)] w fun e w' => RetB e ∧ Below w.heap.size w w' := by
  have c0 := rowCell h.blk 0 rfl
  have c4 := rowCell h.blk 4 rfl
  have hlp := h.lp
  have kw : IntKind.i64.wrap (2 * (R.ps.length : Int)) = 2 * (R.ps.length : Int) := by rw [IntKind.wrap_i64]; omega
  clear h
  go_enter Tryd.func117, Tryd.ntmps117
  go_wp2_with fail
  go_quiet (fail)
  go_wp2_with fail
  go_ret
  exact ⟨RetB.mk _, belowDrewN (Below.refl _ _) _⟩
set_option maxHeartbeats 3200000 in
theorem rfirst (w : World) (B r t : Nat) (R : Rl) (h : RlAt w B r t R) (ht : t ≤ 1000) : Calls Tryd.prog 118 #[.pointer (some ⟨r, 0, none⟩)] w fun e w' => (∃ b : Int, R.af ≤ b ∧ e = .returned (.int .i64 b)) ∧ w = w' := by
  have c6 := rowCell h.blk 6 rfl
  have hll := h.ll
  obtain ⟨A8, c8, e8, hc8, hR⟩ := acOwn h.pL
  have c5 : w.cell? ⟨r, 5, none⟩ = some (.slice A8 R.l.length c8) := by rw [← e8]; exact rowCell h.blk 5 rfl
  have HR := Lib.hid hR
  obtain ⟨n, hn⟩ : ∃ n, n = R.l.length := ⟨_, rfl⟩
  have HN := Lib.hid hn
  rw [← hn] at c5 hll hc8
  clear h hR e8 hn
  go_enter Tryd.func118, Tryd.ntmps118
  go_wp2_with fail
  go_loopw [3, 4] (fun s u wr => ∃ (j : Nat) (b : Int), j ≤ n ∧ u = .int .i64 (j : Int) ∧ s = .int .i64 b ∧ wr = w ∧ R.af ≤ b) (fun _ u _ => n - (intOf u).toNat)
  case atStart => exact ⟨0, _, Nat.zero_le _, rfl, rfl, rfl, Int.le_refl _⟩
  case round =>
    obtain ⟨j, b, hj, rfl, rfl, rfl, haf⟩ := hrel
    by_cases hlt : j < n
    · obtain ⟨bo, off, rfl, hbo, hr⟩ := rowsGet HR.out (by rw [← HN.out]; exact hlt)
      have hce := rangeCell hr 2 (v := .int .i64 (R.l[j]'(by rw [← HN.out]; exact hlt)).sl) rfl
      generalize (R.l[j]'(by rw [← HN.out]; exact hlt)).sl = y at hce
      clear hr
      have hj0 : (0 : Int) ≤ (j : Int) := by omega
      have hj1 : (j : Int) < (n : Int) := by omega
      have HAF := Lib.hid haf
      clear haf
      by_cases hby : b < y
      · have hd : decide (b < y) = true := decide_eq_true hby
        have HBY := Lib.hid hby
        clear hby
        go_wp2_with fail
        go_roundw
        case rel => exact ⟨j + 1, y, by omega, by go_num, rfl, by first | rfl | trivial, by have := HAF.out; have := HBY.out; omega⟩
        case measure => simp [intOf]; omega
      · have hd : decide (b < y) = false := decide_eq_false hby
        clear hby
        go_wp2_with fail
        go_roundw
        case rel => exact ⟨j + 1, b, by omega, by go_num, rfl, by first | rfl | trivial, HAF.out⟩
        case measure => simp [intOf]; omega
    · have hjn : n = j := by omega
      go_wp2_with fail
      go_ret
      exact ⟨⟨_, haf, rfl⟩, rfl⟩
set_option maxHeartbeats 6400000 in
theorem rdone (w : World) (B r t : Nat) (R : Rl) (h : RlAt w B r t R) (ht : t ≤ 1000) : Calls Tryd.prog 88 #[.pointer (some ⟨r, 0, none⟩)] w fun e w' => RetB e ∧ (∃ R', RlAt w' B r (t + 1) R') ∧ OgF w w' (RF r R) ∧ Below B w w' := by
  have hlr := h.lt
  have hBr := h.rB
  have hB : B ≤ w.heap.size := by omega
  have ff : OgF w w (RF r R) := OgF.refl _ _
  have ee : Below B w w := Below.refl _ _
  have Zr : w.heap[r]? = some (.cells R.cells.toArray 150) := h.blk
  have hP : w.ownsRow B 3 1 (.slice R.PA R.ps.length R.pc) R.ps.length (iv R.ps) := h.pP
  have hL : w.ownsRow B 43 16 (.slice R.LA R.l.length R.lc) R.l.length (acCells R.l) := h.pL
  have hV : w.ownsRow B 3 1 (.slice R.VA R.vs.length R.vc) R.vs.length (iv R.vs) := h.pV
  have H := Lib.hid h
  have hlv := h.lv
  have hsr := h.sr
  have c0 := rowCell Zr 0 rfl
  have c7 := rowCell Zr 7 rfl
  have cv := rowCell Zr 18 rfl
  have kw : IntKind.i64.wrap (2 * (R.vs.length : Int)) = 2 * (R.vs.length : Int) := by rw [IntKind.wrap_i64]; omega
  have kw2 : IntKind.i64.wrap (R.sl + 1) = R.sl + 1 := by rw [IntKind.wrap_i64]; omega
  clear h
  go_enter Tryd.func88, Tryd.ntmps88
  go_upto_region 1 with fail
  generalize h7 : (R.sl == 0) = b7
  generalize h8 : decide (2 * (R.vs.length : Int) ≤ R.n) = b8
  cases b7 with
  | true =>
    go_quiet (fail)
    clear c0 c7 cv kw kw2 h7 h8
    have Zr : (w.drewN nq).heap[r]? = some (.cells R.cells.toArray 150) := Zr
    have hP : (w.drewN nq).ownsRow _ _ _ _ _ _ := hP
    have hL : (w.drewN nq).ownsRow _ _ _ _ _ _ := hL
    have hV : (w.drewN nq).ownsRow _ _ _ _ _ _ := hV
    have ee := belowDrewN ee nq
    have ff := ogDrewN ff nq
    generalize w.drewN nq = z1 at Zr hP hL hV ee ff ⊢
    go_wp2_with fail
    go_ret
    exact ⟨RetB.mk _, ⟨R, (H.out.keepF ff ee Zr hP hL hV).more⟩, ff, ee⟩
  | false =>
    cases b8 with
    | true =>
      go_quiet (fail)
      clear c0 c7 cv kw kw2 h7 h8
      have Zr : (w.drewN nq).heap[r]? = some (.cells R.cells.toArray 150) := Zr
      have hP : (w.drewN nq).ownsRow _ _ _ _ _ _ := hP
      have hL : (w.drewN nq).ownsRow _ _ _ _ _ _ := hL
      have hV : (w.drewN nq).ownsRow _ _ _ _ _ _ := hV
      have ee := belowDrewN ee nq
      have ff := ogDrewN ff nq
      generalize w.drewN nq = z1 at Zr hP hL hV ee ff ⊢
      go_wp2_with fail
      go_ret
      exact ⟨RetB.mk _, ⟨R, (H.out.keepF ff ee Zr hP hL hV).more⟩, ff, ee⟩
    | false =>
      go_quiet (fail)
      clear c0 c7 cv kw h7 h8
      have Zr : (w.drewN nq).heap[r]? = some (.cells R.cells.toArray 150) := Zr
      have hP : (w.drewN nq).ownsRow _ _ _ _ _ _ := hP
      have hL : (w.drewN nq).ownsRow _ _ _ _ _ _ := hL
      have hV : (w.drewN nq).ownsRow _ _ _ _ _ _ := hV
      have ee := belowDrewN ee nq
      have ff := ogDrewN ff nq
      generalize w.drewN nq = z1 at Zr hP hL hV ee ff ⊢
      go_upto_region 3 with fail
      refine wp_region_lit ?_
      have c7 := rowCell Zr 7 rfl
      iterate 40 (first | with_reducible refine isStore (ty := 3) rfl ?_ | go_step)
      have f_ : z1.frozen? ⟨r, 6, none⟩ = false := freeAt Zr (6)
      have c_ := rowCell Zr (6) rfl
      iterate 3 go_step
      clear f_ c_
      have N_ : (z1.setCells (r) (6) ([.int .i64 (R.sl + 1)])).heap[r]? = some (.cells ((Rl.mk R.n R.nd R.br R.bn R.ps R.PA R.pc R.l R.LA R.lc (R.sl + 1) R.sl R.x R.vs R.VA R.vc).cells).toArray 150) := hpC ([.int .i64 (R.sl + 1)]) (6) _ z1 Zr
      have hP := ogOwnC hP (ogKind hP Zr (by decide)) ([.int .i64 (R.sl + 1)]) (6)
      have hL := ogOwnC hL (ogKind hL Zr (by decide)) ([.int .i64 (R.sl + 1)]) (6)
      have hV := ogOwnC hV (ogKind hV Zr (by decide)) ([.int .i64 (R.sl + 1)]) (6)
      have ee := belowC (g := r) (by omega) ([.int .i64 (R.sl + 1)]) (6) z1 ee
      have ff := ogCells (k := r) (by first | (right; omega) | exact Or.inl (Or.inl rfl)) ([.int .i64 (R.sl + 1)]) (6) z1 ff
      clear Zr
      have Zr := N_
      clear N_
      change wpList _ _ _ _ _ (z1.setCells (r) (6) ([.int .i64 (R.sl + 1)]))
      generalize z1.setCells (r) (6) ([.int .i64 (R.sl + 1)]) = z2 at Zr hP hL hV ee ff ⊢
      clear c7 kw2
      go_upto_region 4 with fail
      refine wp_region_lit ?_
      iterate 40 (first | with_reducible refine isStore (ty := 3) rfl ?_ | go_step)
      have f_ : z2.frozen? ⟨r, 7, none⟩ = false := freeAt Zr (7)
      have c_ := rowCell Zr (7) rfl
      iterate 3 go_step
      clear f_ c_
      have N_ : (z2.setCells (r) (7) ([.int .i64 0])).heap[r]? = some (.cells ((Rl.mk R.n R.nd R.br R.bn R.ps R.PA R.pc R.l R.LA R.lc (R.sl + 1) 0 R.x R.vs R.VA R.vc).cells).toArray 150) := hpC ([.int .i64 0]) (7) _ z2 Zr
      have hP := ogOwnC hP (ogKind hP Zr (by decide)) ([.int .i64 0]) (7)
      have hL := ogOwnC hL (ogKind hL Zr (by decide)) ([.int .i64 0]) (7)
      have hV := ogOwnC hV (ogKind hV Zr (by decide)) ([.int .i64 0]) (7)
      have ee := belowC (g := r) (by omega) ([.int .i64 0]) (7) z2 ee
      have ff := ogCells (k := r) (by first | (right; omega) | exact Or.inl (Or.inl rfl)) ([.int .i64 0]) (7) z2 ff
      clear Zr
      have Zr := N_
      clear N_
      change wpList _ _ _ _ _ (z2.setCells (r) (7) ([.int .i64 0]))
      generalize z2.setCells (r) (7) ([.int .i64 0]) = z3 at Zr hP hL hV ee ff ⊢
      go_upto_region 5 with fail
      refine wp_region_lit ?_
      iterate 40 (first | with_reducible refine isStore (ty := 41) rfl ?_ | go_step)
      refine wpList_store_mid rfl 41 _ _ rfl (r) (8) (Cm.zero.cells).toArray rfl rfl (rowThere Zr (by simp [T.Rl.cells, T.Cm.cells])) sizeRCm (Cm.one _) ?_
      have N_ : (z3.setCells (r) (8) (Cm.zero.cells)).heap[r]? = some (.cells ((Rl.mk R.n R.nd R.br R.bn R.ps R.PA R.pc R.l R.LA R.lc (R.sl + 1) 0 Cm.zero R.vs R.VA R.vc).cells).toArray 150) := hpC (Cm.zero.cells) (8) _ z3 Zr
      have hP := ogOwnC hP (ogKind hP Zr (by decide)) (Cm.zero.cells) (8)
      have hL := ogOwnC hL (ogKind hL Zr (by decide)) (Cm.zero.cells) (8)
      have hV := ogOwnC hV (ogKind hV Zr (by decide)) (Cm.zero.cells) (8)
      have ee := belowC (g := r) (by omega) (Cm.zero.cells) (8) z3 ee
      have ff := ogCells (k := r) (by first | (right; omega) | exact Or.inl (Or.inl rfl)) (Cm.zero.cells) (8) z3 ff
      clear Zr
      have Zr := N_
      clear N_
      change wpList _ _ _ _ _ (z3.setCells (r) (8) (Cm.zero.cells))
      generalize z3.setCells (r) (8) (Cm.zero.cells) = z4 at Zr hP hL hV ee ff ⊢
      go_upto_region 6 with fail
      refine wp_region_lit ?_
      iterate 40 (first | with_reducible refine isStore (ty := 24) rfl ?_ | go_step)
      have f_ : z4.frozen? ⟨r, 5, none⟩ = false := freeAt Zr (5)
      have c_ := rowCell Zr (5) rfl
      iterate 3 go_step
      clear f_ c_
      have N_ : (z4.setCells (r) (5) ([.slice none 0 0])).heap[r]? = some (.cells ((Rl.mk R.n R.nd R.br R.bn R.ps R.PA R.pc [] none 0 (R.sl + 1) 0 Cm.zero R.vs R.VA R.vc).cells).toArray 150) := hpC ([.slice none 0 0]) (5) _ z4 Zr
      have hP := ogOwnC hP (ogKind hP Zr (by decide)) ([.slice none 0 0]) (5)
      have hL := ogOwnC hL (ogKind hL Zr (by decide)) ([.slice none 0 0]) (5)
      have hV := ogOwnC hV (ogKind hV Zr (by decide)) ([.slice none 0 0]) (5)
      have ee := belowC (g := r) (by omega) ([.slice none 0 0]) (5) z4 ee
      have ff := ogCells (k := r) (by first | (right; omega) | exact Or.inl (Or.inl rfl)) ([.slice none 0 0]) (5) z4 ff
      clear Zr
      have Zr := N_
      clear N_
      change wpList _ _ _ _ _ (z4.setCells (r) (5) ([.slice none 0 0]))
      generalize z4.setCells (r) (5) ([.slice none 0 0]) = z5 at Zr hP hL hV ee ff ⊢
      go_wp2_with fail
      go_ret
      exact ⟨RetB.mk _, ⟨(Rl.mk R.n R.nd R.br R.bn R.ps R.PA R.pc [] none 0 (R.sl + 1) 0 Cm.zero R.vs R.VA R.vc), ⟨Zr, hBr, hP, World.ownsRow_nil _ _ _ _, hV, H.out.ap, by have := H.out.lp; show R.ps.length ≤ _; omega, Nat.zero_le _, by have := H.out.lv; show R.vs.length ≤ _; omega, (fun a ha => by cases ha), CmOk.zero, H.out.b4, ⟨Int.le_refl _, by show (0 : Int) ≤ _; omega⟩, H.out.nn, by show (0 : Int) ≤ R.sl + 1; omega⟩⟩, ff, ee⟩
def Rl.new (nd : Int) : Rl := ⟨3, nd, 0, 0, [], none, 0, [], none, 0, 0, 0, Cm.zero, [], none, 0⟩
theorem builtRl (n nd : Int) (br : Nat) (bn : Int) : Tryd.prog.built 150 [(0, .int .i64 n), (1, .int .i64 nd), (2, .agg [.int .u32 (br : Int), .int .i64 bn].toArray)] = some (Rl.mk n nd br bn [] none 0 [] none 0 0 0 Cm.zero [] none 0).cells.toArray := by kernel_rfl
theorem B.next_lt9 {r : Nat} {n k : Int} (hr : r < 4294967296) : (B.next r n k).1 < 4294967296 := by
  unfold B.next
  split
  · exact (by decide : 0 < 4294967296)
  · split
    · exact (by decide : 0 < 4294967296)
    · show r + 1 < _; omega
theorem rless9 (r1 : Nat) (n1 : Int) (r2 : Nat) (n2 : Int) : ∃ lb : Bool, ∀ z, Calls Tryd.prog 63 #[bal r1 n1, bal r2 n2] z fun e w' => e = .returned (.bool lb) ∧ Below z.heap.size z w' := ⟨_, fun z => rbless_any r1 n1 r2 n2 z⟩
theorem rnext9 (a : Nat) (b k : Int) (ha : a < 4294967296) : ∃ (q1 : Nat) (q2 q3 : Int), q1 < 4294967296 ∧ ∀ z, Calls Tryd.prog 115 #[bal a b, .int .i64 k] z fun e w' => e = .returned (.tuple #[bal q1 q2, .int .i64 q3]) ∧ Below z.heap.size z w' := ⟨_, _, _, B.next_lt9 (k := k) (n := b) ha, fun z => rnext_any a b k z ha⟩
set_option maxHeartbeats 1600000 in
theorem rnew (k : Nat) (hk : k < 3) (w : World) : Calls Tryd.prog 41 #[.int .i64 3, .int .i64 (k : Int)] w fun e w' => e = .returned (.pointer (some ⟨w.heap.size, 0, none⟩)) ∧ w' = w.alloc (.cells (Rl.new (k : Int)).cells.toArray 150) := by
  have g0 : decide ((k : Int) < 0) = false := decide_eq_false (by omega)
  have g1 : decide ((3 : Int) ≤ (k : Int)) = false := decide_eq_false (by omega)
  clear hk
  go_enter Tryd.func41, Tryd.ntmps41
  go_wp2_with fail
  go_ret
  exact ⟨rfl, rfl⟩
set_option maxHeartbeats 6400000 in
theorem rstart (w : World) (B r t : Nat) (R : Rl) (sr : Nat) (sn : Int) (hs : sr < 4294967296) (h : RlAt w B r t R) : Calls Tryd.prog 83 #[.pointer (some ⟨r, 0, none⟩), bal sr sn] w fun e w' => (∃ (a : Nat) (b c : Int), e = .returned (.tuple #[bal a b, .int .i64 c])) ∧ (∃ R', RlAt w' B r (t + 1) R') ∧ OgF w w' (RF r R) ∧ Below B w w' := by
  have hlr := h.lt
  have hBr := h.rB
  have hB : B ≤ w.heap.size := by omega
  obtain ⟨w0, hw0⟩ : ∃ w0, w0 = (w.alloc (.cells [.int .u32 (sr : Int), .int .i64 sn].toArray 40)).alloc (.cells [.int .u32 0, .int .i64 0].toArray 40) := ⟨_, rfl⟩
  have ff : OgF w w0 (RF r R) := by rw [hw0]; exact (ogAlloc (ogAlloc (OgF.refl _ _) _) _)
  have ee : Below B w w0 := by rw [hw0]; exact ((((Below.refl _ _).alloc (Nat.le_refl _) _).alloc (by simp) _).mono hB)
  have Zr : w0.heap[r]? = some (.cells R.cells.toArray 150) := by rw [hw0]; exact (hpA (hpA h.blk _) _)
  have hP : w0.ownsRow B 3 1 (.slice R.PA R.ps.length R.pc) R.ps.length (iv R.ps) := by rw [hw0]; exact ((h.pP.alloc _).alloc _)
  have hL : w0.ownsRow B 43 16 (.slice R.LA R.l.length R.lc) R.l.length (acCells R.l) := by rw [hw0]; exact ((h.pL.alloc _).alloc _)
  have hV : w0.ownsRow B 3 1 (.slice R.VA R.vs.length R.vc) R.vs.length (iv R.vs) := by rw [hw0]; exact ((h.pV.alloc _).alloc _)
  have Zs : w0.heap[w.heap.size]? = some (.cells [.int .u32 (sr : Int), .int .i64 sn].toArray 40) := by rw [hw0]; exact (hpA (hpN _ _ rfl) _)
  have Zo : w0.heap[w.heap.size + 1]? = some (.cells [.int .u32 0, .int .i64 0].toArray 40) := by rw [hw0]; exact (hpN _ _ (by simp))
  have H := Lib.hid h
  have hb4 := h.b4
  obtain ⟨lb, hlb⟩ := rless9 R.br R.bn sr sn
  have HLS := Lib.hid hlb
  clear hlb
  have HNX := Lib.hid (fun (a : Nat) (b : Int) (ha : a < 4294967296) => rnext9 a b R.nd ha)
  clear h
  go_enter Tryd.func83, Tryd.ntmps83
  go_upto_region 1 with fail
  change Code.wp _ _ _ _ ((w.alloc (.cells [.int .u32 (sr : Int), .int .i64 sn].toArray 40)).alloc (.cells [.int .u32 0, .int .i64 0].toArray 40))
  rw [← hw0]
  clear hw0
  refine wp_region_lit ?_
  iterate 27 (first | with_reducible refine isLoad (ty := 40) rfl ?_ | go_step)
  refine wpList_load_mid rfl 40 _ rfl (w.heap.size) 0 rfl ([.int .u32 (sr : Int), .int .i64 sn]) _ (rowAt Zs) Tryd.underlying40 rfl sizeRBal ?_
  iterate 3 go_step
  have lZr := (Array.getElem?_eq_some_iff.1 Zr).1
  have lZs := (Array.getElem?_eq_some_iff.1 Zs).1
  have lZo := (Array.getElem?_eq_some_iff.1 Zo).1
  have sz_ := ff.size
  have Zr := hpA Zr (.cells #[.int .u32 0, .int .i64 0] 40)
  have Zs := hpA Zs (.cells #[.int .u32 0, .int .i64 0] 40)
  have Zo := hpA Zo (.cells #[.int .u32 0, .int .i64 0] 40)
  have hP := hP.alloc (.cells #[.int .u32 0, .int .i64 0] 40)
  have hL := hL.alloc (.cells #[.int .u32 0, .int .i64 0] 40)
  have hV := hV.alloc (.cells #[.int .u32 0, .int .i64 0] 40)
  have ee := ee.alloc (Nat.le_trans hB ee.size) (.cells #[.int .u32 0, .int .i64 0] 40)
  have ff := ogAlloc ff (.cells #[.int .u32 0, .int .i64 0] 40)
  have Zm := hpN w0 (.cells #[.int .u32 0, .int .i64 0] 40) rfl
  generalize w0.alloc (.cells #[.int .u32 0, .int .i64 0] 40) = z1 at Zr Zs Zo Zm hP hL hV ee ff ⊢
  obtain ⟨gm, hg_gm⟩ : ∃ g_, g_ = w0.heap.size := ⟨_, rfl⟩
  have hwgm : w.heap.size + 1 < gm := by have := ee.size; omega
  rw [← hg_gm] at Zm ⊢
  clear hg_gm
  iterate 27 (first | with_reducible refine isStore (ty := 40) rfl ?_ | go_step)
  refine wpList_store_row rfl 40 _ _ rfl (gm) ([.int .u32 (sr : Int), .int .i64 sn]).toArray rfl rfl 40 _ Zm sizeRBal (by rfl) (by simp [Value.oneCell']) ?_
  have N_ := setRow_heap z1 (gm) _ ([.int .u32 (sr : Int), .int .i64 sn]).toArray _ _ Zm
  have hP := ogOwnR (cs := ([.int .u32 (sr : Int), .int .i64 sn]).toArray) hP (ogKind hP Zm (by decide))
  have hL := ogOwnR (cs := ([.int .u32 (sr : Int), .int .i64 sn]).toArray) hL (ogKind hL Zm (by decide))
  have hV := ogOwnR (cs := ([.int .u32 (sr : Int), .int .i64 sn]).toArray) hV (ogKind hV Zm (by decide))
  have ee := belowSet (cs := ([.int .u32 (sr : Int), .int .i64 sn]).toArray) ee Zm (by omega)
  have ff := ogRow (cs := ([.int .u32 (sr : Int), .int .i64 sn]).toArray) (by first | (right; omega) | exact Or.inl (Or.inl rfl)) Zm ff
  have Zr := hpR Zr (g' := gm) (by omega) ([.int .u32 (sr : Int), .int .i64 sn]).toArray
  have Zs := hpR Zs (g' := gm) (by omega) ([.int .u32 (sr : Int), .int .i64 sn]).toArray
  have Zo := hpR Zo (g' := gm) (by omega) ([.int .u32 (sr : Int), .int .i64 sn]).toArray
  clear Zm
  have Zm := N_
  clear N_
  generalize z1.setRow (gm) ([.int .u32 (sr : Int), .int .i64 sn]).toArray = z2 at Zr Zs Zo Zm hP hL hV ee ff ⊢
  go_upto_region 2 with fail
  cases lb with
  | true =>
    have Zr : z2.drew.heap[r]? = some (.cells R.cells.toArray 150) := Zr
    have Zs : z2.drew.heap[w.heap.size]? = some (.cells [.int .u32 (sr : Int), .int .i64 sn].toArray 40) := Zs
    have Zo : z2.drew.heap[w.heap.size + 1]? = some (.cells [.int .u32 0, .int .i64 0].toArray 40) := Zo
    have Zm : z2.drew.heap[gm]? = some (.cells ([.int .u32 (sr : Int), .int .i64 sn]).toArray 40) := Zm
    have hP := World.ownsRow.drew hP
    have hL := World.ownsRow.drew hL
    have hV := World.ownsRow.drew hV
    have ee := belowDrewS ee
    have ff := ogDrew ff
    refine wp_region_held_drew (S := fun z' => z'.rangeAt r (2) ([.int .u32 (R.br : Int), .int .i64 R.bn]) ∧ z'.rangeAt w.heap.size (0) ([.int .u32 (sr : Int), .int .i64 sn])) (by kernel_rfl) ⟨(rowMid Zr (2) (Rl.bal R)), (rowAt Zs)⟩ (fun hH => ?_)
    clear hH
    generalize z2.drew = z3 at Zr Zs Zo Zm hP hL hV ee ff ⊢
    refine wpAnyH_take (i := 0) (v := .pointer (some ⟨r, 0, none⟩)) rfl (by kernel_rfl) (by kernel_rfl) (by kernel_rfl) (fun _ _ _ h => h) (Or.inl ⟨by rfl, fun w_ hS_ => by (first | (go_simp; done) | (go_simp; rfl))⟩) ⟨(rowMid Zr (2) (Rl.bal R)), (rowAt Zs)⟩ ?_
    try simp only [Act.put, List.getElem_toArray, List.getElem_cons_zero, List.getElem_cons_succ, List.setIfInBounds_toArray, List.set_cons_zero, List.set_cons_succ]
    refine wpAnyH_take (i := 1) (v := .pointer (some ⟨r, 0, none⟩)) rfl (by kernel_rfl) (by kernel_rfl) (by kernel_rfl) (fun _ _ _ h => h) (Or.inl ⟨by rfl, fun w_ hS_ => by (first | (go_simp; done) | (go_simp; rfl))⟩) ⟨(rowMid Zr (2) (Rl.bal R)), (rowAt Zs)⟩ ?_
    try simp only [Act.put, List.getElem_toArray, List.getElem_cons_zero, List.getElem_cons_succ, List.setIfInBounds_toArray, List.set_cons_zero, List.set_cons_succ]
    refine wpAnyH_take (i := 2) (v := .pointer (some ⟨r, 2, none⟩)) rfl (by kernel_rfl) (by kernel_rfl) (by kernel_rfl) (fun _ _ _ h => h) (Or.inl ⟨by rfl, fun w_ hS_ => by (first | (go_simp; done) | (go_simp; rfl))⟩) ⟨(rowMid Zr (2) (Rl.bal R)), (rowAt Zs)⟩ ?_
    try simp only [Act.put, List.getElem_toArray, List.getElem_cons_zero, List.getElem_cons_succ, List.setIfInBounds_toArray, List.set_cons_zero, List.set_cons_succ]
    refine wpAnyH_take (i := 3) (v := .agg ([.int .u32 (R.br : Int), .int .i64 R.bn]).toArray) rfl (by kernel_rfl) (by kernel_rfl) (by kernel_rfl) (fun _ _ _ h => h) (yieldsIf_load_mid (by rfl) 40 _ rfl (r) (2) rfl ([.int .u32 (R.br : Int), .int .i64 R.bn]) _ (fun _ h => h.1) Tryd.underlying40 rfl sizeRBal) ⟨(rowMid Zr (2) (Rl.bal R)), (rowAt Zs)⟩ ?_
    try simp only [Act.put, List.getElem_toArray, List.getElem_cons_zero, List.getElem_cons_succ, List.setIfInBounds_toArray, List.set_cons_zero, List.set_cons_succ]
    refine wpAnyH_take (i := 4) (v := .agg ([.int .u32 (sr : Int), .int .i64 sn]).toArray) rfl (by kernel_rfl) (by kernel_rfl) (by kernel_rfl) (fun _ _ _ h => h) (yieldsIf_load_mid (by rfl) 40 _ rfl (w.heap.size) (0) rfl ([.int .u32 (sr : Int), .int .i64 sn]) _ (fun _ h => h.2) Tryd.underlying40 rfl sizeRBal) ⟨(rowMid Zr (2) (Rl.bal R)), (rowAt Zs)⟩ ?_
    try simp only [Act.put, List.getElem_toArray, List.getElem_cons_zero, List.getElem_cons_succ, List.setIfInBounds_toArray, List.set_cons_zero, List.set_cons_succ]
    refine wpAnyH_ready (rs := [5]) (by kernel_rfl) (by simp) ?_
    refine AllReadyH.cons rfl (fun K hK => ?_) AllReadyH.nil
    rw [if_pos (by rfl)]
    go_simp
    go_wp2_with (go_at_call 63; refine (HLS.out z3).mono ?_; rintro e z4 ⟨rfl, t⟩)
    have Zr := hpB Zr t
    have Zs := hpB Zs t
    have Zo := hpB Zo t
    have Zm := hpB Zm t
    have hP := ownBelow hP t
    have hL := ownBelow hL t
    have hV := ownBelow hV t
    have ee := ee.trans (t.mono (Nat.le_trans hB ee.size))
    have ff := ogBelow ff t
    clear t
    refine hK.out _ _ ⟨(rowMid Zr (2) (Rl.bal R)), (rowAt Zs)⟩ (fun hH => ?_)
    clear hK K hH
    try simp only [Act.put, List.getElem_toArray, List.getElem_cons_zero, List.getElem_cons_succ, List.setIfInBounds_toArray, List.set_cons_zero, List.set_cons_succ]
    refine wpAnyH_take (i := 6) (v := .bool false) rfl (by kernel_rfl) (by kernel_rfl) (by kernel_rfl) (fun _ _ _ h => h) (Or.inl ⟨by rfl, fun w_ hS_ => by (first | (go_simp; done) | (go_simp; rfl))⟩) ⟨(rowMid Zr (2) (Rl.bal R)), (rowAt Zs)⟩ ?_
    try simp only [Act.put, List.getElem_toArray, List.getElem_cons_zero, List.getElem_cons_succ, List.setIfInBounds_toArray, List.set_cons_zero, List.set_cons_succ]
    refine wpAnyH_done (by kernel_rfl) ?_ _
    obtain ⟨q1, q2, q3, hq1, hNx⟩ := HNX.out sr sn hs
    have HNX := Lib.hid hNx
    clear hNx HLS
    go_upto_region 4 with fail
    have Zr : z4.drew.heap[r]? = some (.cells R.cells.toArray 150) := Zr
    have Zs : z4.drew.heap[w.heap.size]? = some (.cells [.int .u32 (sr : Int), .int .i64 sn].toArray 40) := Zs
    have Zo : z4.drew.heap[w.heap.size + 1]? = some (.cells [.int .u32 0, .int .i64 0].toArray 40) := Zo
    have Zm : z4.drew.heap[gm]? = some (.cells ([.int .u32 (sr : Int), .int .i64 sn]).toArray 40) := Zm
    have hP := World.ownsRow.drew hP
    have hL := World.ownsRow.drew hL
    have hV := World.ownsRow.drew hV
    have ee := belowDrewS ee
    have ff := ogDrew ff
    refine wp_region_held_drew (S := fun z' => z'.rangeAt gm (0) ([.int .u32 (sr : Int), .int .i64 sn]) ∧ z'.cell? ⟨r, 1, none⟩ = some (.int .i64 R.nd)) (by kernel_rfl) ⟨(rowAt Zm), (rowCell Zr (1) rfl)⟩ (fun hH => ?_)
    clear hH
    generalize z4.drew = z5 at Zr Zs Zo Zm hP hL hV ee ff ⊢
    refine wpAnyH_take (i := 0) (v := .agg ([.int .u32 (sr : Int), .int .i64 sn]).toArray) rfl (by kernel_rfl) (by kernel_rfl) (by kernel_rfl) (fun _ _ _ h => h) (yieldsIf_load_mid (by rfl) 40 _ rfl (gm) (0) rfl ([.int .u32 (sr : Int), .int .i64 sn]) _ (fun _ h => h.1) Tryd.underlying40 rfl sizeRBal) ⟨(rowAt Zm), (rowCell Zr (1) rfl)⟩ ?_
    try simp only [Act.put, List.getElem_toArray, List.getElem_cons_zero, List.getElem_cons_succ, List.setIfInBounds_toArray, List.set_cons_zero, List.set_cons_succ]
    refine wpAnyH_take (i := 1) (v := .pointer (some ⟨r, 0, none⟩)) rfl (by kernel_rfl) (by kernel_rfl) (by kernel_rfl) (fun _ _ _ h => h) (Or.inl ⟨by rfl, fun w_ hS_ => by (first | (go_simp; done) | (go_simp; rfl))⟩) ⟨(rowAt Zm), (rowCell Zr (1) rfl)⟩ ?_
    try simp only [Act.put, List.getElem_toArray, List.getElem_cons_zero, List.getElem_cons_succ, List.setIfInBounds_toArray, List.set_cons_zero, List.set_cons_succ]
    refine wpAnyH_take (i := 2) (v := .pointer (some ⟨r, 0, none⟩)) rfl (by kernel_rfl) (by kernel_rfl) (by kernel_rfl) (fun _ _ _ h => h) (Or.inl ⟨by rfl, fun w_ hS_ => by (first | (go_simp; done) | (go_simp; rfl))⟩) ⟨(rowAt Zm), (rowCell Zr (1) rfl)⟩ ?_
    try simp only [Act.put, List.getElem_toArray, List.getElem_cons_zero, List.getElem_cons_succ, List.setIfInBounds_toArray, List.set_cons_zero, List.set_cons_succ]
    refine wpAnyH_take (i := 3) (v := .pointer (some ⟨r, 1, none⟩)) rfl (by kernel_rfl) (by kernel_rfl) (by kernel_rfl) (fun _ _ _ h => h) (Or.inl ⟨by rfl, fun w_ hS_ => by (first | (go_simp; done) | (go_simp; rfl))⟩) ⟨(rowAt Zm), (rowCell Zr (1) rfl)⟩ ?_
    try simp only [Act.put, List.getElem_toArray, List.getElem_cons_zero, List.getElem_cons_succ, List.setIfInBounds_toArray, List.set_cons_zero, List.set_cons_succ]
    refine wpAnyH_take (i := 4) (v := .int .i64 R.nd) rfl (by kernel_rfl) (by kernel_rfl) (by kernel_rfl) (fun _ _ _ h => h) (Or.inl ⟨by rfl, fun w_ hS_ => by (have c_ := hS_.2; first | (go_simp; done) | (go_simp; rfl))⟩) ⟨(rowAt Zm), (rowCell Zr (1) rfl)⟩ ?_
    try simp only [Act.put, List.getElem_toArray, List.getElem_cons_zero, List.getElem_cons_succ, List.setIfInBounds_toArray, List.set_cons_zero, List.set_cons_succ]
    refine wpAnyH_ready (rs := [5, 9]) (by kernel_rfl) (by simp) ?_
    refine AllReadyH.cons rfl (fun K hK => ?_) (AllReadyH.cons rfl (fun K hK => ?_) AllReadyH.nil)
    · rw [if_pos (by rfl)]
      go_simp
      go_wp2_with (go_at_call 115; refine (HNX.out z5).mono ?_; rintro e z6 ⟨rfl, t⟩)
      have Zr := hpB Zr t
      have Zs := hpB Zs t
      have Zo := hpB Zo t
      have Zm := hpB Zm t
      have hP := ownBelow hP t
      have hL := ownBelow hL t
      have hV := ownBelow hV t
      have ee := ee.trans (t.mono (Nat.le_trans hB ee.size))
      have ff := ogBelow ff t
      clear t
      refine hK.out _ _ ⟨(rowAt Zm), (rowCell Zr (1) rfl)⟩ (fun hH => ?_)
      clear hK K hH
      try simp only [Act.put, List.getElem_toArray, List.getElem_cons_zero, List.getElem_cons_succ, List.setIfInBounds_toArray, List.set_cons_zero, List.set_cons_succ]
      refine wpAnyH_take (i := 6) (v := .tuple #[.agg ([.int .u32 (q1 : Int), .int .i64 q2]).toArray, .int .i64 q3]) rfl (by kernel_rfl) (by kernel_rfl) (by kernel_rfl) (fun _ _ _ h => h) (Or.inl ⟨by rfl, fun w_ hS_ => by (first | (go_simp; done) | (go_simp; rfl))⟩) ⟨(rowAt Zm), (rowCell Zr (1) rfl)⟩ ?_
      try simp only [Act.put, List.getElem_toArray, List.getElem_cons_zero, List.getElem_cons_succ, List.setIfInBounds_toArray, List.set_cons_zero, List.set_cons_succ]
      refine wpAnyH_take (i := 7) (v := .agg ([.int .u32 (q1 : Int), .int .i64 q2]).toArray) rfl (by kernel_rfl) (by kernel_rfl) (by kernel_rfl) (fun _ _ _ h => h) (Or.inl ⟨by rfl, fun w_ hS_ => by (first | (go_simp; done) | (go_simp; rfl))⟩) ⟨(rowAt Zm), (rowCell Zr (1) rfl)⟩ ?_
      try simp only [Act.put, List.getElem_toArray, List.getElem_cons_zero, List.getElem_cons_succ, List.setIfInBounds_toArray, List.set_cons_zero, List.set_cons_succ]
      refine wpAnyH_take (i := 8) (v := .int .i64 q3) rfl (by kernel_rfl) (by kernel_rfl) (by kernel_rfl) (fun _ _ _ h => h) (Or.inl ⟨by rfl, fun w_ hS_ => by (first | (go_simp; done) | (go_simp; rfl))⟩) ⟨(rowAt Zm), (rowCell Zr (1) rfl)⟩ ?_
      try simp only [Act.put, List.getElem_toArray, List.getElem_cons_zero, List.getElem_cons_succ, List.setIfInBounds_toArray, List.set_cons_zero, List.set_cons_succ]
      refine wpAnyH_ready (rs := [9]) (by kernel_rfl) (by simp) ?_
      refine AllReadyH.cons rfl (fun K hK => ?_) AllReadyH.nil
      rw [if_pos (by rfl)]
      go_simp
      have lZr := (Array.getElem?_eq_some_iff.1 Zr).1
      have lZs := (Array.getElem?_eq_some_iff.1 Zs).1
      have lZo := (Array.getElem?_eq_some_iff.1 Zo).1
      have lZm := (Array.getElem?_eq_some_iff.1 Zm).1
      have sz_ := ff.size
      have Zr := hpA Zr (.cells #[.int .u32 0, .int .i64 0] 40)
      have Zs := hpA Zs (.cells #[.int .u32 0, .int .i64 0] 40)
      have Zo := hpA Zo (.cells #[.int .u32 0, .int .i64 0] 40)
      have Zm := hpA Zm (.cells #[.int .u32 0, .int .i64 0] 40)
      have hP := hP.alloc (.cells #[.int .u32 0, .int .i64 0] 40)
      have hL := hL.alloc (.cells #[.int .u32 0, .int .i64 0] 40)
      have hV := hV.alloc (.cells #[.int .u32 0, .int .i64 0] 40)
      have ee := ee.alloc (Nat.le_trans hB ee.size) (.cells #[.int .u32 0, .int .i64 0] 40)
      have ff := ogAlloc ff (.cells #[.int .u32 0, .int .i64 0] 40)
      have Zn := hpN z6 (.cells #[.int .u32 0, .int .i64 0] 40) rfl
      generalize z6.alloc (.cells #[.int .u32 0, .int .i64 0] 40) = z7 at Zr Zs Zo Zm Zn hP hL hV ee ff ⊢
      refine hK.out _ _ ⟨(rowAt Zm), (rowCell Zr (1) rfl)⟩ (fun hH => ?_)
      clear hK K hH
      try simp only [Act.put, List.getElem_toArray, List.getElem_cons_zero, List.getElem_cons_succ, List.setIfInBounds_toArray, List.set_cons_zero, List.set_cons_succ]
      refine wpAnyH_ready (rs := [10]) (by kernel_rfl) (by simp) ?_
      refine AllReadyH.cons rfl (fun K hK => ?_) AllReadyH.nil
      rw [if_pos (by rfl)]
      refine wp_store_row 40 _ _ rfl (z6.heap.size) ([.int .u32 (q1 : Int), .int .i64 q2]).toArray rfl rfl 40 _ Zn sizeRBal (by rfl) (by simp [Value.oneCell']) ?_
      have N_ := setRow_heap z7 (z6.heap.size) _ ([.int .u32 (q1 : Int), .int .i64 q2]).toArray _ _ Zn
      have hP := ogOwnR (cs := ([.int .u32 (q1 : Int), .int .i64 q2]).toArray) hP (ogKind hP Zn (by decide))
      have hL := ogOwnR (cs := ([.int .u32 (q1 : Int), .int .i64 q2]).toArray) hL (ogKind hL Zn (by decide))
      have hV := ogOwnR (cs := ([.int .u32 (q1 : Int), .int .i64 q2]).toArray) hV (ogKind hV Zn (by decide))
      have ee := belowSet (cs := ([.int .u32 (q1 : Int), .int .i64 q2]).toArray) ee Zn (by omega)
      have ff := ogRow (cs := ([.int .u32 (q1 : Int), .int .i64 q2]).toArray) (by first | (right; omega) | exact Or.inl (Or.inl rfl)) Zn ff
      have Zr := hpR Zr (g' := z6.heap.size) (by omega) ([.int .u32 (q1 : Int), .int .i64 q2]).toArray
      have Zs := hpR Zs (g' := z6.heap.size) (by omega) ([.int .u32 (q1 : Int), .int .i64 q2]).toArray
      have Zo := hpR Zo (g' := z6.heap.size) (by omega) ([.int .u32 (q1 : Int), .int .i64 q2]).toArray
      have Zm := hpR Zm (g' := z6.heap.size) (by omega) ([.int .u32 (q1 : Int), .int .i64 q2]).toArray
      clear Zn
      have Zn := N_
      clear N_
      generalize z7.setRow (z6.heap.size) ([.int .u32 (q1 : Int), .int .i64 q2]).toArray = z8 at Zr Zs Zo Zm Zn hP hL hV ee ff ⊢
      refine hK.out _ _ ⟨(rowAt Zm), (rowCell Zr (1) rfl)⟩ (fun hH => ?_)
      clear hK K hH
      try simp only [Act.put, List.getElem_toArray, List.getElem_cons_zero, List.getElem_cons_succ, List.setIfInBounds_toArray, List.set_cons_zero, List.set_cons_succ]
      refine wpAnyH_take (i := 11) (v := .int .i64 q3) rfl (by kernel_rfl) (by kernel_rfl) (by kernel_rfl) (fun _ _ _ h => h) (Or.inl ⟨by rfl, fun w_ hS_ => by (first | (go_simp; done) | (go_simp; rfl))⟩) ⟨(rowAt Zm), (rowCell Zr (1) rfl)⟩ ?_
      try simp only [Act.put, List.getElem_toArray, List.getElem_cons_zero, List.getElem_cons_succ, List.setIfInBounds_toArray, List.set_cons_zero, List.set_cons_succ]
      refine wpAnyH_done (by kernel_rfl) ?_ _
      clear HNX
      by_cases hq3 : q3 = 0
      · subst hq3
        go_upto_region 6 with fail
        have Zr : z8.drew.heap[r]? = some (.cells R.cells.toArray 150) := Zr
        have Zs : z8.drew.heap[w.heap.size]? = some (.cells [.int .u32 (sr : Int), .int .i64 sn].toArray 40) := Zs
        have Zo : z8.drew.heap[w.heap.size + 1]? = some (.cells [.int .u32 0, .int .i64 0].toArray 40) := Zo
        have Zm : z8.drew.heap[gm]? = some (.cells ([.int .u32 (sr : Int), .int .i64 sn]).toArray 40) := Zm
        have Zn : z8.drew.heap[z6.heap.size]? = some (.cells ([.int .u32 (q1 : Int), .int .i64 q2]).toArray 40) := Zn
        have hP := World.ownsRow.drew hP
        have hL := World.ownsRow.drew hL
        have hV := World.ownsRow.drew hV
        have ee := belowDrewS ee
        have ff := ogDrew ff
        refine wp_region_held_drew (S := fun z' => z'.cell? ⟨r, 0, none⟩ = some (.int .i64 R.n) ∧ z'.cell? ⟨r, 1, none⟩ = some (.int .i64 R.nd) ∧ z'.rangeAt z6.heap.size (0) ([.int .u32 (q1 : Int), .int .i64 q2])) (by kernel_rfl) ⟨(rowCell Zr (0) rfl), (rowCell Zr (1) rfl), (rowAt Zn)⟩ (fun hH => ?_)
        clear hH
        generalize z8.drew = z9 at Zr Zs Zo Zm Zn hP hL hV ee ff ⊢
        refine wpAnyH_take (i := 0) (v := .pointer (some ⟨r, 0, none⟩)) rfl (by kernel_rfl) (by kernel_rfl) (by kernel_rfl) (fun _ _ _ h => h) (Or.inl ⟨by rfl, fun w_ hS_ => by (first | (go_simp; done) | (go_simp; rfl))⟩) ⟨(rowCell Zr (0) rfl), (rowCell Zr (1) rfl), (rowAt Zn)⟩ ?_
        try simp only [Act.put, List.getElem_toArray, List.getElem_cons_zero, List.getElem_cons_succ, List.setIfInBounds_toArray, List.set_cons_zero, List.set_cons_succ]
        refine wpAnyH_take (i := 1) (v := .pointer (some ⟨r, 0, none⟩)) rfl (by kernel_rfl) (by kernel_rfl) (by kernel_rfl) (fun _ _ _ h => h) (Or.inl ⟨by rfl, fun w_ hS_ => by (first | (go_simp; done) | (go_simp; rfl))⟩) ⟨(rowCell Zr (0) rfl), (rowCell Zr (1) rfl), (rowAt Zn)⟩ ?_
        try simp only [Act.put, List.getElem_toArray, List.getElem_cons_zero, List.getElem_cons_succ, List.setIfInBounds_toArray, List.set_cons_zero, List.set_cons_succ]
        refine wpAnyH_take (i := 2) (v := .pointer (some ⟨r, 0, none⟩)) rfl (by kernel_rfl) (by kernel_rfl) (by kernel_rfl) (fun _ _ _ h => h) (Or.inl ⟨by rfl, fun w_ hS_ => by (first | (go_simp; done) | (go_simp; rfl))⟩) ⟨(rowCell Zr (0) rfl), (rowCell Zr (1) rfl), (rowAt Zn)⟩ ?_
        try simp only [Act.put, List.getElem_toArray, List.getElem_cons_zero, List.getElem_cons_succ, List.setIfInBounds_toArray, List.set_cons_zero, List.set_cons_succ]
        refine wpAnyH_take (i := 3) (v := .pointer (some ⟨r, 0, none⟩)) rfl (by kernel_rfl) (by kernel_rfl) (by kernel_rfl) (fun _ _ _ h => h) (Or.inl ⟨by rfl, fun w_ hS_ => by (first | (go_simp; done) | (go_simp; rfl))⟩) ⟨(rowCell Zr (0) rfl), (rowCell Zr (1) rfl), (rowAt Zn)⟩ ?_
        try simp only [Act.put, List.getElem_toArray, List.getElem_cons_zero, List.getElem_cons_succ, List.setIfInBounds_toArray, List.set_cons_zero, List.set_cons_succ]
        refine wpAnyH_take (i := 4) (v := .int .i64 R.n) rfl (by kernel_rfl) (by kernel_rfl) (by kernel_rfl) (fun _ _ _ h => h) (Or.inl ⟨by rfl, fun w_ hS_ => by (have c_ := hS_.1; first | (go_simp; done) | (go_simp; rfl))⟩) ⟨(rowCell Zr (0) rfl), (rowCell Zr (1) rfl), (rowAt Zn)⟩ ?_
        try simp only [Act.put, List.getElem_toArray, List.getElem_cons_zero, List.getElem_cons_succ, List.setIfInBounds_toArray, List.set_cons_zero, List.set_cons_succ]
        refine wpAnyH_take (i := 5) (v := .pointer (some ⟨r, 0, none⟩)) rfl (by kernel_rfl) (by kernel_rfl) (by kernel_rfl) (fun _ _ _ h => h) (Or.inl ⟨by rfl, fun w_ hS_ => by (first | (go_simp; done) | (go_simp; rfl))⟩) ⟨(rowCell Zr (0) rfl), (rowCell Zr (1) rfl), (rowAt Zn)⟩ ?_
        try simp only [Act.put, List.getElem_toArray, List.getElem_cons_zero, List.getElem_cons_succ, List.setIfInBounds_toArray, List.set_cons_zero, List.set_cons_succ]
        refine wpAnyH_take (i := 6) (v := .pointer (some ⟨r, 0, none⟩)) rfl (by kernel_rfl) (by kernel_rfl) (by kernel_rfl) (fun _ _ _ h => h) (Or.inl ⟨by rfl, fun w_ hS_ => by (first | (go_simp; done) | (go_simp; rfl))⟩) ⟨(rowCell Zr (0) rfl), (rowCell Zr (1) rfl), (rowAt Zn)⟩ ?_
        try simp only [Act.put, List.getElem_toArray, List.getElem_cons_zero, List.getElem_cons_succ, List.setIfInBounds_toArray, List.set_cons_zero, List.set_cons_succ]
        refine wpAnyH_take (i := 7) (v := .pointer (some ⟨r, 1, none⟩)) rfl (by kernel_rfl) (by kernel_rfl) (by kernel_rfl) (fun _ _ _ h => h) (Or.inl ⟨by rfl, fun w_ hS_ => by (first | (go_simp; done) | (go_simp; rfl))⟩) ⟨(rowCell Zr (0) rfl), (rowCell Zr (1) rfl), (rowAt Zn)⟩ ?_
        try simp only [Act.put, List.getElem_toArray, List.getElem_cons_zero, List.getElem_cons_succ, List.setIfInBounds_toArray, List.set_cons_zero, List.set_cons_succ]
        refine wpAnyH_take (i := 8) (v := .int .i64 R.nd) rfl (by kernel_rfl) (by kernel_rfl) (by kernel_rfl) (fun _ _ _ h => h) (Or.inl ⟨by rfl, fun w_ hS_ => by (have c_ := hS_.2.1; first | (go_simp; done) | (go_simp; rfl))⟩) ⟨(rowCell Zr (0) rfl), (rowCell Zr (1) rfl), (rowAt Zn)⟩ ?_
        try simp only [Act.put, List.getElem_toArray, List.getElem_cons_zero, List.getElem_cons_succ, List.setIfInBounds_toArray, List.set_cons_zero, List.set_cons_succ]
        refine wpAnyH_take (i := 9) (v := .agg ([.int .u32 (q1 : Int), .int .i64 q2]).toArray) rfl (by kernel_rfl) (by kernel_rfl) (by kernel_rfl) (fun _ _ _ h => h) (yieldsIf_load_mid (by rfl) 40 _ rfl (z6.heap.size) (0) rfl ([.int .u32 (q1 : Int), .int .i64 q2]) _ (fun _ h => h.2.2) Tryd.underlying40 rfl sizeRBal) ⟨(rowCell Zr (0) rfl), (rowCell Zr (1) rfl), (rowAt Zn)⟩ ?_
        try simp only [Act.put, List.getElem_toArray, List.getElem_cons_zero, List.getElem_cons_succ, List.setIfInBounds_toArray, List.set_cons_zero, List.set_cons_succ]
        refine wpAnyH_ready (rs := [10]) (by kernel_rfl) (by simp) ?_
        refine AllReadyH.cons rfl (fun K hK => ?_) AllReadyH.nil
        rw [if_pos (by rfl)]
        refine ogBuildH 150 #[(0, .tmp 36), (1, .tmp 40), (2, .tmp 41)] rfl [(0, .int .i64 R.n), (1, .int .i64 R.nd), (2, .agg [.int .u32 (q1 : Int), .int .i64 q2].toArray)] ((Rl.mk R.n R.nd q1 q2 [] none 0 [] none 0 0 0 Cm.zero [] none 0).cells).toArray ?_ ?_ ?_
        · simp only [List.map_toArray, List.map_cons, List.map_nil]; rfl
        · exact builtRl R.n R.nd q1 q2
        refine hK.out _ _ ⟨(rowCell Zr (0) rfl), (rowCell Zr (1) rfl), (rowAt Zn)⟩ (fun hH => ?_)
        clear hK K hH
        try simp only [Act.put, List.getElem_toArray, List.getElem_cons_zero, List.getElem_cons_succ, List.setIfInBounds_toArray, List.set_cons_zero, List.set_cons_succ]
        refine wpAnyH_take (i := 11) (v := .pointer (some ⟨r, 0, none⟩)) rfl (by kernel_rfl) (by kernel_rfl) (by kernel_rfl) (fun _ _ _ h => h) (Or.inl ⟨by rfl, fun w_ hS_ => by (first | (go_simp; done) | (go_simp; rfl))⟩) ⟨(rowCell Zr (0) rfl), (rowCell Zr (1) rfl), (rowAt Zn)⟩ ?_
        try simp only [Act.put, List.getElem_toArray, List.getElem_cons_zero, List.getElem_cons_succ, List.setIfInBounds_toArray, List.set_cons_zero, List.set_cons_succ]
        refine wpAnyH_ready (rs := [12]) (by kernel_rfl) (by simp) ?_
        refine AllReadyH.cons rfl (fun K hK => ?_) AllReadyH.nil
        rw [if_pos (by rfl)]
        refine wp_store_row 150 _ _ rfl (r) ((Rl.mk R.n R.nd q1 q2 [] none 0 [] none 0 0 0 Cm.zero [] none 0).cells).toArray rfl rfl 150 _ Zr sizeRld (by rfl) (Rl.one _) ?_
        have N_ := setRow_heap z9 (r) _ ((Rl.mk R.n R.nd q1 q2 [] none 0 [] none 0 0 0 Cm.zero [] none 0).cells).toArray _ _ Zr
        have hP := ogOwnR (cs := ((Rl.mk R.n R.nd q1 q2 [] none 0 [] none 0 0 0 Cm.zero [] none 0).cells).toArray) hP (ogKind hP Zr (by decide))
        have hL := ogOwnR (cs := ((Rl.mk R.n R.nd q1 q2 [] none 0 [] none 0 0 0 Cm.zero [] none 0).cells).toArray) hL (ogKind hL Zr (by decide))
        have hV := ogOwnR (cs := ((Rl.mk R.n R.nd q1 q2 [] none 0 [] none 0 0 0 Cm.zero [] none 0).cells).toArray) hV (ogKind hV Zr (by decide))
        have ee := belowSet (cs := ((Rl.mk R.n R.nd q1 q2 [] none 0 [] none 0 0 0 Cm.zero [] none 0).cells).toArray) ee Zr (by omega)
        have ff := ogRow (cs := ((Rl.mk R.n R.nd q1 q2 [] none 0 [] none 0 0 0 Cm.zero [] none 0).cells).toArray) (by first | (right; omega) | exact Or.inl (Or.inl rfl)) Zr ff
        have Zs := hpR Zs (g' := r) (by omega) ((Rl.mk R.n R.nd q1 q2 [] none 0 [] none 0 0 0 Cm.zero [] none 0).cells).toArray
        have Zo := hpR Zo (g' := r) (by omega) ((Rl.mk R.n R.nd q1 q2 [] none 0 [] none 0 0 0 Cm.zero [] none 0).cells).toArray
        have Zm := hpR Zm (g' := r) (by omega) ((Rl.mk R.n R.nd q1 q2 [] none 0 [] none 0 0 0 Cm.zero [] none 0).cells).toArray
        have Zn := hpR Zn (g' := r) (by omega) ((Rl.mk R.n R.nd q1 q2 [] none 0 [] none 0 0 0 Cm.zero [] none 0).cells).toArray
        clear Zr
        have Zr := N_
        clear N_
        generalize z9.setRow (r) ((Rl.mk R.n R.nd q1 q2 [] none 0 [] none 0 0 0 Cm.zero [] none 0).cells).toArray = z10 at Zr Zs Zo Zm Zn hP hL hV ee ff ⊢
        refine hK.out _ _ ⟨(rowCell Zr (0) rfl), (rowCell Zr (1) rfl), (rowAt Zn)⟩ (fun hH => ?_)
        clear hK K hH
        try simp only [Act.put, List.getElem_toArray, List.getElem_cons_zero, List.getElem_cons_succ, List.setIfInBounds_toArray, List.set_cons_zero, List.set_cons_succ]
        refine wpAnyH_done (by kernel_rfl) ?_ _
        go_upto_region 7 with fail
        refine wp_region_lit ?_
        iterate 27 (first | with_reducible refine isLoad (ty := 40) rfl ?_ | go_step)
        refine wpList_load_mid rfl 40 _ rfl (z6.heap.size) 0 rfl (([.int .u32 (q1 : Int), .int .i64 q2])) _ (rowAt Zn) Tryd.underlying40 rfl sizeRBal ?_
        iterate 27 (first | with_reducible refine isStore (ty := 40) rfl ?_ | go_step)
        refine wpList_store_row rfl 40 _ _ rfl (w.heap.size + 1) ([.int .u32 (q1 : Int), .int .i64 q2]).toArray rfl rfl 40 _ Zo sizeRBal (by rfl) (by simp [Value.oneCell']) ?_
        have N_ := setRow_heap z10 (w.heap.size + 1) _ ([.int .u32 (q1 : Int), .int .i64 q2]).toArray _ _ Zo
        have hP := ogOwnR (cs := ([.int .u32 (q1 : Int), .int .i64 q2]).toArray) hP (ogKind hP Zo (by decide))
        have hL := ogOwnR (cs := ([.int .u32 (q1 : Int), .int .i64 q2]).toArray) hL (ogKind hL Zo (by decide))
        have hV := ogOwnR (cs := ([.int .u32 (q1 : Int), .int .i64 q2]).toArray) hV (ogKind hV Zo (by decide))
        have ee := belowSet (cs := ([.int .u32 (q1 : Int), .int .i64 q2]).toArray) ee Zo (by omega)
        have ff := ogRow (cs := ([.int .u32 (q1 : Int), .int .i64 q2]).toArray) (by first | (right; omega) | exact Or.inl (Or.inl rfl)) Zo ff
        have Zr := hpR Zr (g' := w.heap.size + 1) (by omega) ([.int .u32 (q1 : Int), .int .i64 q2]).toArray
        have Zs := hpR Zs (g' := w.heap.size + 1) (by omega) ([.int .u32 (q1 : Int), .int .i64 q2]).toArray
        have Zm := hpR Zm (g' := w.heap.size + 1) (by omega) ([.int .u32 (q1 : Int), .int .i64 q2]).toArray
        have Zn := hpR Zn (g' := w.heap.size + 1) (by omega) ([.int .u32 (q1 : Int), .int .i64 q2]).toArray
        clear Zo
        have Zo := N_
        clear N_
        generalize z10.setRow (w.heap.size + 1) ([.int .u32 (q1 : Int), .int .i64 q2]).toArray = z11 at Zr Zs Zo Zm Zn hP hL hV ee ff ⊢
        go_wp2_with fail
        refine bodyPost_ret (v := .tuple #[bal q1 q2, .int .i64 0]) (res_ct rfl rfl rfl Zo Tryd.underlying40 rfl sizeRBal) rfl ⟨⟨_, _, _, rfl⟩, ⟨(Rl.mk R.n R.nd q1 q2 [] none 0 [] none 0 0 0 Cm.zero [] none 0), ⟨Zr, hBr, World.ownsRow_nil _ _ _ _, World.ownsRow_nil _ _ _ _, World.ownsRow_nil _ _ _ _, (fun g hg => by cases hg), Nat.zero_le _, Nat.zero_le _, Nat.zero_le _, (fun a ha => by cases ha), CmOk.zero, hq1, ⟨Int.le_refl _, by show (0 : Int) ≤ _; omega⟩, H.out.nn, Int.le_refl _⟩⟩, ff, ee⟩
      · have hq4 : (q3 == 0) = false := by simpa using hq3
        go_upto_region 7 with fail
        clear hq4
        refine wp_region_lit ?_
        iterate 27 (first | with_reducible refine isLoad (ty := 40) rfl ?_ | go_step)
        refine wpList_load_mid rfl 40 _ rfl (z6.heap.size) 0 rfl (([.int .u32 (q1 : Int), .int .i64 q2])) _ (rowAt Zn) Tryd.underlying40 rfl sizeRBal ?_
        iterate 27 (first | with_reducible refine isStore (ty := 40) rfl ?_ | go_step)
        refine wpList_store_row rfl 40 _ _ rfl (w.heap.size + 1) ([.int .u32 (q1 : Int), .int .i64 q2]).toArray rfl rfl 40 _ Zo sizeRBal (by rfl) (by simp [Value.oneCell']) ?_
        have N_ := setRow_heap z8 (w.heap.size + 1) _ ([.int .u32 (q1 : Int), .int .i64 q2]).toArray _ _ Zo
        have hP := ogOwnR (cs := ([.int .u32 (q1 : Int), .int .i64 q2]).toArray) hP (ogKind hP Zo (by decide))
        have hL := ogOwnR (cs := ([.int .u32 (q1 : Int), .int .i64 q2]).toArray) hL (ogKind hL Zo (by decide))
        have hV := ogOwnR (cs := ([.int .u32 (q1 : Int), .int .i64 q2]).toArray) hV (ogKind hV Zo (by decide))
        have ee := belowSet (cs := ([.int .u32 (q1 : Int), .int .i64 q2]).toArray) ee Zo (by omega)
        have ff := ogRow (cs := ([.int .u32 (q1 : Int), .int .i64 q2]).toArray) (by first | (right; omega) | exact Or.inl (Or.inl rfl)) Zo ff
        have Zr := hpR Zr (g' := w.heap.size + 1) (by omega) ([.int .u32 (q1 : Int), .int .i64 q2]).toArray
        have Zs := hpR Zs (g' := w.heap.size + 1) (by omega) ([.int .u32 (q1 : Int), .int .i64 q2]).toArray
        have Zm := hpR Zm (g' := w.heap.size + 1) (by omega) ([.int .u32 (q1 : Int), .int .i64 q2]).toArray
        have Zn := hpR Zn (g' := w.heap.size + 1) (by omega) ([.int .u32 (q1 : Int), .int .i64 q2]).toArray
        clear Zo
        have Zo := N_
        clear N_
        generalize z8.setRow (w.heap.size + 1) ([.int .u32 (q1 : Int), .int .i64 q2]).toArray = z9 at Zr Zs Zo Zm Zn hP hL hV ee ff ⊢
        go_wp2_with fail
        refine bodyPost_ret (v := .tuple #[bal q1 q2, .int .i64 q3]) (res_ct rfl rfl rfl Zo Tryd.underlying40 rfl sizeRBal) rfl ⟨⟨_, _, _, rfl⟩, ⟨R, (H.out.keepF ff ee Zr hP hL hV).more⟩, ff, ee⟩
    · rw [if_pos (by rfl)]
      go_simp
      have lZr := (Array.getElem?_eq_some_iff.1 Zr).1
      have lZs := (Array.getElem?_eq_some_iff.1 Zs).1
      have lZo := (Array.getElem?_eq_some_iff.1 Zo).1
      have lZm := (Array.getElem?_eq_some_iff.1 Zm).1
      have sz_ := ff.size
      have Zr := hpA Zr (.cells #[.int .u32 0, .int .i64 0] 40)
      have Zs := hpA Zs (.cells #[.int .u32 0, .int .i64 0] 40)
      have Zo := hpA Zo (.cells #[.int .u32 0, .int .i64 0] 40)
      have Zm := hpA Zm (.cells #[.int .u32 0, .int .i64 0] 40)
      have hP := hP.alloc (.cells #[.int .u32 0, .int .i64 0] 40)
      have hL := hL.alloc (.cells #[.int .u32 0, .int .i64 0] 40)
      have hV := hV.alloc (.cells #[.int .u32 0, .int .i64 0] 40)
      have ee := ee.alloc (Nat.le_trans hB ee.size) (.cells #[.int .u32 0, .int .i64 0] 40)
      have ff := ogAlloc ff (.cells #[.int .u32 0, .int .i64 0] 40)
      have Zn := hpN z5 (.cells #[.int .u32 0, .int .i64 0] 40) rfl
      generalize z5.alloc (.cells #[.int .u32 0, .int .i64 0] 40) = z6 at Zr Zs Zo Zm Zn hP hL hV ee ff ⊢
      refine hK.out _ _ ⟨(rowAt Zm), (rowCell Zr (1) rfl)⟩ (fun hH => ?_)
      clear hK K hH
      try simp only [Act.put, List.getElem_toArray, List.getElem_cons_zero, List.getElem_cons_succ, List.setIfInBounds_toArray, List.set_cons_zero, List.set_cons_succ]
      refine wpAnyH_ready (rs := [5]) (by kernel_rfl) (by simp) ?_
      refine AllReadyH.cons rfl (fun K hK => ?_) AllReadyH.nil
      rw [if_pos (by rfl)]
      go_simp
      go_wp2_with (go_at_call 115; refine (HNX.out z6).mono ?_; rintro e z7 ⟨rfl, t⟩)
      have Zr := hpB Zr t
      have Zs := hpB Zs t
      have Zo := hpB Zo t
      have Zm := hpB Zm t
      have Zn := hpB Zn t
      have hP := ownBelow hP t
      have hL := ownBelow hL t
      have hV := ownBelow hV t
      have ee := ee.trans (t.mono (Nat.le_trans hB ee.size))
      have ff := ogBelow ff t
      clear t
      refine hK.out _ _ ⟨(rowAt Zm), (rowCell Zr (1) rfl)⟩ (fun hH => ?_)
      clear hK K hH
      try simp only [Act.put, List.getElem_toArray, List.getElem_cons_zero, List.getElem_cons_succ, List.setIfInBounds_toArray, List.set_cons_zero, List.set_cons_succ]
      refine wpAnyH_take (i := 6) (v := .tuple #[.agg ([.int .u32 (q1 : Int), .int .i64 q2]).toArray, .int .i64 q3]) rfl (by kernel_rfl) (by kernel_rfl) (by kernel_rfl) (fun _ _ _ h => h) (Or.inl ⟨by rfl, fun w_ hS_ => by (first | (go_simp; done) | (go_simp; rfl))⟩) ⟨(rowAt Zm), (rowCell Zr (1) rfl)⟩ ?_
      try simp only [Act.put, List.getElem_toArray, List.getElem_cons_zero, List.getElem_cons_succ, List.setIfInBounds_toArray, List.set_cons_zero, List.set_cons_succ]
      refine wpAnyH_take (i := 7) (v := .agg ([.int .u32 (q1 : Int), .int .i64 q2]).toArray) rfl (by kernel_rfl) (by kernel_rfl) (by kernel_rfl) (fun _ _ _ h => h) (Or.inl ⟨by rfl, fun w_ hS_ => by (first | (go_simp; done) | (go_simp; rfl))⟩) ⟨(rowAt Zm), (rowCell Zr (1) rfl)⟩ ?_
      try simp only [Act.put, List.getElem_toArray, List.getElem_cons_zero, List.getElem_cons_succ, List.setIfInBounds_toArray, List.set_cons_zero, List.set_cons_succ]
      refine wpAnyH_take (i := 8) (v := .int .i64 q3) rfl (by kernel_rfl) (by kernel_rfl) (by kernel_rfl) (fun _ _ _ h => h) (Or.inl ⟨by rfl, fun w_ hS_ => by (first | (go_simp; done) | (go_simp; rfl))⟩) ⟨(rowAt Zm), (rowCell Zr (1) rfl)⟩ ?_
      try simp only [Act.put, List.getElem_toArray, List.getElem_cons_zero, List.getElem_cons_succ, List.setIfInBounds_toArray, List.set_cons_zero, List.set_cons_succ]
      refine wpAnyH_ready (rs := [10]) (by kernel_rfl) (by simp) ?_
      refine AllReadyH.cons rfl (fun K hK => ?_) AllReadyH.nil
      rw [if_pos (by rfl)]
      refine wp_store_row 40 _ _ rfl (z5.heap.size) ([.int .u32 (q1 : Int), .int .i64 q2]).toArray rfl rfl 40 _ Zn sizeRBal (by rfl) (by simp [Value.oneCell']) ?_
      have N_ := setRow_heap z7 (z5.heap.size) _ ([.int .u32 (q1 : Int), .int .i64 q2]).toArray _ _ Zn
      have hP := ogOwnR (cs := ([.int .u32 (q1 : Int), .int .i64 q2]).toArray) hP (ogKind hP Zn (by decide))
      have hL := ogOwnR (cs := ([.int .u32 (q1 : Int), .int .i64 q2]).toArray) hL (ogKind hL Zn (by decide))
      have hV := ogOwnR (cs := ([.int .u32 (q1 : Int), .int .i64 q2]).toArray) hV (ogKind hV Zn (by decide))
      have ee := belowSet (cs := ([.int .u32 (q1 : Int), .int .i64 q2]).toArray) ee Zn (by omega)
      have ff := ogRow (cs := ([.int .u32 (q1 : Int), .int .i64 q2]).toArray) (by first | (right; omega) | exact Or.inl (Or.inl rfl)) Zn ff
      have Zr := hpR Zr (g' := z5.heap.size) (by omega) ([.int .u32 (q1 : Int), .int .i64 q2]).toArray
      have Zs := hpR Zs (g' := z5.heap.size) (by omega) ([.int .u32 (q1 : Int), .int .i64 q2]).toArray
      have Zo := hpR Zo (g' := z5.heap.size) (by omega) ([.int .u32 (q1 : Int), .int .i64 q2]).toArray
      have Zm := hpR Zm (g' := z5.heap.size) (by omega) ([.int .u32 (q1 : Int), .int .i64 q2]).toArray
      clear Zn
      have Zn := N_
      clear N_
      generalize z7.setRow (z5.heap.size) ([.int .u32 (q1 : Int), .int .i64 q2]).toArray = z8 at Zr Zs Zo Zm Zn hP hL hV ee ff ⊢
      refine hK.out _ _ ⟨(rowAt Zm), (rowCell Zr (1) rfl)⟩ (fun hH => ?_)
      clear hK K hH
      try simp only [Act.put, List.getElem_toArray, List.getElem_cons_zero, List.getElem_cons_succ, List.setIfInBounds_toArray, List.set_cons_zero, List.set_cons_succ]
      refine wpAnyH_take (i := 11) (v := .int .i64 q3) rfl (by kernel_rfl) (by kernel_rfl) (by kernel_rfl) (fun _ _ _ h => h) (Or.inl ⟨by rfl, fun w_ hS_ => by (first | (go_simp; done) | (go_simp; rfl))⟩) ⟨(rowAt Zm), (rowCell Zr (1) rfl)⟩ ?_
      try simp only [Act.put, List.getElem_toArray, List.getElem_cons_zero, List.getElem_cons_succ, List.setIfInBounds_toArray, List.set_cons_zero, List.set_cons_succ]
      refine wpAnyH_done (by kernel_rfl) ?_ _
      clear HNX
      by_cases hq3 : q3 = 0
      · subst hq3
        go_upto_region 6 with fail
        have Zr : z8.drew.heap[r]? = some (.cells R.cells.toArray 150) := Zr
        have Zs : z8.drew.heap[w.heap.size]? = some (.cells [.int .u32 (sr : Int), .int .i64 sn].toArray 40) := Zs
        have Zo : z8.drew.heap[w.heap.size + 1]? = some (.cells [.int .u32 0, .int .i64 0].toArray 40) := Zo
        have Zm : z8.drew.heap[gm]? = some (.cells ([.int .u32 (sr : Int), .int .i64 sn]).toArray 40) := Zm
        have Zn : z8.drew.heap[z5.heap.size]? = some (.cells ([.int .u32 (q1 : Int), .int .i64 q2]).toArray 40) := Zn
        have hP := World.ownsRow.drew hP
        have hL := World.ownsRow.drew hL
        have hV := World.ownsRow.drew hV
        have ee := belowDrewS ee
        have ff := ogDrew ff
        refine wp_region_held_drew (S := fun z' => z'.cell? ⟨r, 0, none⟩ = some (.int .i64 R.n) ∧ z'.cell? ⟨r, 1, none⟩ = some (.int .i64 R.nd) ∧ z'.rangeAt z5.heap.size (0) ([.int .u32 (q1 : Int), .int .i64 q2])) (by kernel_rfl) ⟨(rowCell Zr (0) rfl), (rowCell Zr (1) rfl), (rowAt Zn)⟩ (fun hH => ?_)
        clear hH
        generalize z8.drew = z9 at Zr Zs Zo Zm Zn hP hL hV ee ff ⊢
        refine wpAnyH_take (i := 0) (v := .pointer (some ⟨r, 0, none⟩)) rfl (by kernel_rfl) (by kernel_rfl) (by kernel_rfl) (fun _ _ _ h => h) (Or.inl ⟨by rfl, fun w_ hS_ => by (first | (go_simp; done) | (go_simp; rfl))⟩) ⟨(rowCell Zr (0) rfl), (rowCell Zr (1) rfl), (rowAt Zn)⟩ ?_
        try simp only [Act.put, List.getElem_toArray, List.getElem_cons_zero, List.getElem_cons_succ, List.setIfInBounds_toArray, List.set_cons_zero, List.set_cons_succ]
        refine wpAnyH_take (i := 1) (v := .pointer (some ⟨r, 0, none⟩)) rfl (by kernel_rfl) (by kernel_rfl) (by kernel_rfl) (fun _ _ _ h => h) (Or.inl ⟨by rfl, fun w_ hS_ => by (first | (go_simp; done) | (go_simp; rfl))⟩) ⟨(rowCell Zr (0) rfl), (rowCell Zr (1) rfl), (rowAt Zn)⟩ ?_
        try simp only [Act.put, List.getElem_toArray, List.getElem_cons_zero, List.getElem_cons_succ, List.setIfInBounds_toArray, List.set_cons_zero, List.set_cons_succ]
        refine wpAnyH_take (i := 2) (v := .pointer (some ⟨r, 0, none⟩)) rfl (by kernel_rfl) (by kernel_rfl) (by kernel_rfl) (fun _ _ _ h => h) (Or.inl ⟨by rfl, fun w_ hS_ => by (first | (go_simp; done) | (go_simp; rfl))⟩) ⟨(rowCell Zr (0) rfl), (rowCell Zr (1) rfl), (rowAt Zn)⟩ ?_
        try simp only [Act.put, List.getElem_toArray, List.getElem_cons_zero, List.getElem_cons_succ, List.setIfInBounds_toArray, List.set_cons_zero, List.set_cons_succ]
        refine wpAnyH_take (i := 3) (v := .pointer (some ⟨r, 0, none⟩)) rfl (by kernel_rfl) (by kernel_rfl) (by kernel_rfl) (fun _ _ _ h => h) (Or.inl ⟨by rfl, fun w_ hS_ => by (first | (go_simp; done) | (go_simp; rfl))⟩) ⟨(rowCell Zr (0) rfl), (rowCell Zr (1) rfl), (rowAt Zn)⟩ ?_
        try simp only [Act.put, List.getElem_toArray, List.getElem_cons_zero, List.getElem_cons_succ, List.setIfInBounds_toArray, List.set_cons_zero, List.set_cons_succ]
        refine wpAnyH_take (i := 4) (v := .int .i64 R.n) rfl (by kernel_rfl) (by kernel_rfl) (by kernel_rfl) (fun _ _ _ h => h) (Or.inl ⟨by rfl, fun w_ hS_ => by (have c_ := hS_.1; first | (go_simp; done) | (go_simp; rfl))⟩) ⟨(rowCell Zr (0) rfl), (rowCell Zr (1) rfl), (rowAt Zn)⟩ ?_
        try simp only [Act.put, List.getElem_toArray, List.getElem_cons_zero, List.getElem_cons_succ, List.setIfInBounds_toArray, List.set_cons_zero, List.set_cons_succ]
        refine wpAnyH_take (i := 5) (v := .pointer (some ⟨r, 0, none⟩)) rfl (by kernel_rfl) (by kernel_rfl) (by kernel_rfl) (fun _ _ _ h => h) (Or.inl ⟨by rfl, fun w_ hS_ => by (first | (go_simp; done) | (go_simp; rfl))⟩) ⟨(rowCell Zr (0) rfl), (rowCell Zr (1) rfl), (rowAt Zn)⟩ ?_
        try simp only [Act.put, List.getElem_toArray, List.getElem_cons_zero, List.getElem_cons_succ, List.setIfInBounds_toArray, List.set_cons_zero, List.set_cons_succ]
        refine wpAnyH_take (i := 6) (v := .pointer (some ⟨r, 0, none⟩)) rfl (by kernel_rfl) (by kernel_rfl) (by kernel_rfl) (fun _ _ _ h => h) (Or.inl ⟨by rfl, fun w_ hS_ => by (first | (go_simp; done) | (go_simp; rfl))⟩) ⟨(rowCell Zr (0) rfl), (rowCell Zr (1) rfl), (rowAt Zn)⟩ ?_
        try simp only [Act.put, List.getElem_toArray, List.getElem_cons_zero, List.getElem_cons_succ, List.setIfInBounds_toArray, List.set_cons_zero, List.set_cons_succ]
        refine wpAnyH_take (i := 7) (v := .pointer (some ⟨r, 1, none⟩)) rfl (by kernel_rfl) (by kernel_rfl) (by kernel_rfl) (fun _ _ _ h => h) (Or.inl ⟨by rfl, fun w_ hS_ => by (first | (go_simp; done) | (go_simp; rfl))⟩) ⟨(rowCell Zr (0) rfl), (rowCell Zr (1) rfl), (rowAt Zn)⟩ ?_
        try simp only [Act.put, List.getElem_toArray, List.getElem_cons_zero, List.getElem_cons_succ, List.setIfInBounds_toArray, List.set_cons_zero, List.set_cons_succ]
        refine wpAnyH_take (i := 8) (v := .int .i64 R.nd) rfl (by kernel_rfl) (by kernel_rfl) (by kernel_rfl) (fun _ _ _ h => h) (Or.inl ⟨by rfl, fun w_ hS_ => by (have c_ := hS_.2.1; first | (go_simp; done) | (go_simp; rfl))⟩) ⟨(rowCell Zr (0) rfl), (rowCell Zr (1) rfl), (rowAt Zn)⟩ ?_
        try simp only [Act.put, List.getElem_toArray, List.getElem_cons_zero, List.getElem_cons_succ, List.setIfInBounds_toArray, List.set_cons_zero, List.set_cons_succ]
        refine wpAnyH_take (i := 9) (v := .agg ([.int .u32 (q1 : Int), .int .i64 q2]).toArray) rfl (by kernel_rfl) (by kernel_rfl) (by kernel_rfl) (fun _ _ _ h => h) (yieldsIf_load_mid (by rfl) 40 _ rfl (z5.heap.size) (0) rfl ([.int .u32 (q1 : Int), .int .i64 q2]) _ (fun _ h => h.2.2) Tryd.underlying40 rfl sizeRBal) ⟨(rowCell Zr (0) rfl), (rowCell Zr (1) rfl), (rowAt Zn)⟩ ?_
        try simp only [Act.put, List.getElem_toArray, List.getElem_cons_zero, List.getElem_cons_succ, List.setIfInBounds_toArray, List.set_cons_zero, List.set_cons_succ]
        refine wpAnyH_ready (rs := [10]) (by kernel_rfl) (by simp) ?_
        refine AllReadyH.cons rfl (fun K hK => ?_) AllReadyH.nil
        rw [if_pos (by rfl)]
        refine ogBuildH 150 #[(0, .tmp 36), (1, .tmp 40), (2, .tmp 41)] rfl [(0, .int .i64 R.n), (1, .int .i64 R.nd), (2, .agg [.int .u32 (q1 : Int), .int .i64 q2].toArray)] ((Rl.mk R.n R.nd q1 q2 [] none 0 [] none 0 0 0 Cm.zero [] none 0).cells).toArray ?_ ?_ ?_
        · simp only [List.map_toArray, List.map_cons, List.map_nil]; rfl
        · exact builtRl R.n R.nd q1 q2
        refine hK.out _ _ ⟨(rowCell Zr (0) rfl), (rowCell Zr (1) rfl), (rowAt Zn)⟩ (fun hH => ?_)
        clear hK K hH
        try simp only [Act.put, List.getElem_toArray, List.getElem_cons_zero, List.getElem_cons_succ, List.setIfInBounds_toArray, List.set_cons_zero, List.set_cons_succ]
        refine wpAnyH_take (i := 11) (v := .pointer (some ⟨r, 0, none⟩)) rfl (by kernel_rfl) (by kernel_rfl) (by kernel_rfl) (fun _ _ _ h => h) (Or.inl ⟨by rfl, fun w_ hS_ => by (first | (go_simp; done) | (go_simp; rfl))⟩) ⟨(rowCell Zr (0) rfl), (rowCell Zr (1) rfl), (rowAt Zn)⟩ ?_
        try simp only [Act.put, List.getElem_toArray, List.getElem_cons_zero, List.getElem_cons_succ, List.setIfInBounds_toArray, List.set_cons_zero, List.set_cons_succ]
        refine wpAnyH_ready (rs := [12]) (by kernel_rfl) (by simp) ?_
        refine AllReadyH.cons rfl (fun K hK => ?_) AllReadyH.nil
        rw [if_pos (by rfl)]
        refine wp_store_row 150 _ _ rfl (r) ((Rl.mk R.n R.nd q1 q2 [] none 0 [] none 0 0 0 Cm.zero [] none 0).cells).toArray rfl rfl 150 _ Zr sizeRld (by rfl) (Rl.one _) ?_
        have N_ := setRow_heap z9 (r) _ ((Rl.mk R.n R.nd q1 q2 [] none 0 [] none 0 0 0 Cm.zero [] none 0).cells).toArray _ _ Zr
        have hP := ogOwnR (cs := ((Rl.mk R.n R.nd q1 q2 [] none 0 [] none 0 0 0 Cm.zero [] none 0).cells).toArray) hP (ogKind hP Zr (by decide))
        have hL := ogOwnR (cs := ((Rl.mk R.n R.nd q1 q2 [] none 0 [] none 0 0 0 Cm.zero [] none 0).cells).toArray) hL (ogKind hL Zr (by decide))
        have hV := ogOwnR (cs := ((Rl.mk R.n R.nd q1 q2 [] none 0 [] none 0 0 0 Cm.zero [] none 0).cells).toArray) hV (ogKind hV Zr (by decide))
        have ee := belowSet (cs := ((Rl.mk R.n R.nd q1 q2 [] none 0 [] none 0 0 0 Cm.zero [] none 0).cells).toArray) ee Zr (by omega)
        have ff := ogRow (cs := ((Rl.mk R.n R.nd q1 q2 [] none 0 [] none 0 0 0 Cm.zero [] none 0).cells).toArray) (by first | (right; omega) | exact Or.inl (Or.inl rfl)) Zr ff
        have Zs := hpR Zs (g' := r) (by omega) ((Rl.mk R.n R.nd q1 q2 [] none 0 [] none 0 0 0 Cm.zero [] none 0).cells).toArray
        have Zo := hpR Zo (g' := r) (by omega) ((Rl.mk R.n R.nd q1 q2 [] none 0 [] none 0 0 0 Cm.zero [] none 0).cells).toArray
        have Zm := hpR Zm (g' := r) (by omega) ((Rl.mk R.n R.nd q1 q2 [] none 0 [] none 0 0 0 Cm.zero [] none 0).cells).toArray
        have Zn := hpR Zn (g' := r) (by omega) ((Rl.mk R.n R.nd q1 q2 [] none 0 [] none 0 0 0 Cm.zero [] none 0).cells).toArray
        clear Zr
        have Zr := N_
        clear N_
        generalize z9.setRow (r) ((Rl.mk R.n R.nd q1 q2 [] none 0 [] none 0 0 0 Cm.zero [] none 0).cells).toArray = z10 at Zr Zs Zo Zm Zn hP hL hV ee ff ⊢
        refine hK.out _ _ ⟨(rowCell Zr (0) rfl), (rowCell Zr (1) rfl), (rowAt Zn)⟩ (fun hH => ?_)
        clear hK K hH
        try simp only [Act.put, List.getElem_toArray, List.getElem_cons_zero, List.getElem_cons_succ, List.setIfInBounds_toArray, List.set_cons_zero, List.set_cons_succ]
        refine wpAnyH_done (by kernel_rfl) ?_ _
        go_upto_region 7 with fail
        refine wp_region_lit ?_
        iterate 27 (first | with_reducible refine isLoad (ty := 40) rfl ?_ | go_step)
        refine wpList_load_mid rfl 40 _ rfl (z5.heap.size) 0 rfl (([.int .u32 (q1 : Int), .int .i64 q2])) _ (rowAt Zn) Tryd.underlying40 rfl sizeRBal ?_
        iterate 27 (first | with_reducible refine isStore (ty := 40) rfl ?_ | go_step)
        refine wpList_store_row rfl 40 _ _ rfl (w.heap.size + 1) ([.int .u32 (q1 : Int), .int .i64 q2]).toArray rfl rfl 40 _ Zo sizeRBal (by rfl) (by simp [Value.oneCell']) ?_
        have N_ := setRow_heap z10 (w.heap.size + 1) _ ([.int .u32 (q1 : Int), .int .i64 q2]).toArray _ _ Zo
        have hP := ogOwnR (cs := ([.int .u32 (q1 : Int), .int .i64 q2]).toArray) hP (ogKind hP Zo (by decide))
        have hL := ogOwnR (cs := ([.int .u32 (q1 : Int), .int .i64 q2]).toArray) hL (ogKind hL Zo (by decide))
        have hV := ogOwnR (cs := ([.int .u32 (q1 : Int), .int .i64 q2]).toArray) hV (ogKind hV Zo (by decide))
        have ee := belowSet (cs := ([.int .u32 (q1 : Int), .int .i64 q2]).toArray) ee Zo (by omega)
        have ff := ogRow (cs := ([.int .u32 (q1 : Int), .int .i64 q2]).toArray) (by first | (right; omega) | exact Or.inl (Or.inl rfl)) Zo ff
        have Zr := hpR Zr (g' := w.heap.size + 1) (by omega) ([.int .u32 (q1 : Int), .int .i64 q2]).toArray
        have Zs := hpR Zs (g' := w.heap.size + 1) (by omega) ([.int .u32 (q1 : Int), .int .i64 q2]).toArray
        have Zm := hpR Zm (g' := w.heap.size + 1) (by omega) ([.int .u32 (q1 : Int), .int .i64 q2]).toArray
        have Zn := hpR Zn (g' := w.heap.size + 1) (by omega) ([.int .u32 (q1 : Int), .int .i64 q2]).toArray
        clear Zo
        have Zo := N_
        clear N_
        generalize z10.setRow (w.heap.size + 1) ([.int .u32 (q1 : Int), .int .i64 q2]).toArray = z11 at Zr Zs Zo Zm Zn hP hL hV ee ff ⊢
        go_wp2_with fail
        refine bodyPost_ret (v := .tuple #[bal q1 q2, .int .i64 0]) (res_ct rfl rfl rfl Zo Tryd.underlying40 rfl sizeRBal) rfl ⟨⟨_, _, _, rfl⟩, ⟨(Rl.mk R.n R.nd q1 q2 [] none 0 [] none 0 0 0 Cm.zero [] none 0), ⟨Zr, hBr, World.ownsRow_nil _ _ _ _, World.ownsRow_nil _ _ _ _, World.ownsRow_nil _ _ _ _, (fun g hg => by cases hg), Nat.zero_le _, Nat.zero_le _, Nat.zero_le _, (fun a ha => by cases ha), CmOk.zero, hq1, ⟨Int.le_refl _, by show (0 : Int) ≤ _; omega⟩, H.out.nn, Int.le_refl _⟩⟩, ff, ee⟩
      · have hq4 : (q3 == 0) = false := by simpa using hq3
        go_upto_region 7 with fail
        clear hq4
        refine wp_region_lit ?_
        iterate 27 (first | with_reducible refine isLoad (ty := 40) rfl ?_ | go_step)
        refine wpList_load_mid rfl 40 _ rfl (z5.heap.size) 0 rfl (([.int .u32 (q1 : Int), .int .i64 q2])) _ (rowAt Zn) Tryd.underlying40 rfl sizeRBal ?_
        iterate 27 (first | with_reducible refine isStore (ty := 40) rfl ?_ | go_step)
        refine wpList_store_row rfl 40 _ _ rfl (w.heap.size + 1) ([.int .u32 (q1 : Int), .int .i64 q2]).toArray rfl rfl 40 _ Zo sizeRBal (by rfl) (by simp [Value.oneCell']) ?_
        have N_ := setRow_heap z8 (w.heap.size + 1) _ ([.int .u32 (q1 : Int), .int .i64 q2]).toArray _ _ Zo
        have hP := ogOwnR (cs := ([.int .u32 (q1 : Int), .int .i64 q2]).toArray) hP (ogKind hP Zo (by decide))
        have hL := ogOwnR (cs := ([.int .u32 (q1 : Int), .int .i64 q2]).toArray) hL (ogKind hL Zo (by decide))
        have hV := ogOwnR (cs := ([.int .u32 (q1 : Int), .int .i64 q2]).toArray) hV (ogKind hV Zo (by decide))
        have ee := belowSet (cs := ([.int .u32 (q1 : Int), .int .i64 q2]).toArray) ee Zo (by omega)
        have ff := ogRow (cs := ([.int .u32 (q1 : Int), .int .i64 q2]).toArray) (by first | (right; omega) | exact Or.inl (Or.inl rfl)) Zo ff
        have Zr := hpR Zr (g' := w.heap.size + 1) (by omega) ([.int .u32 (q1 : Int), .int .i64 q2]).toArray
        have Zs := hpR Zs (g' := w.heap.size + 1) (by omega) ([.int .u32 (q1 : Int), .int .i64 q2]).toArray
        have Zm := hpR Zm (g' := w.heap.size + 1) (by omega) ([.int .u32 (q1 : Int), .int .i64 q2]).toArray
        have Zn := hpR Zn (g' := w.heap.size + 1) (by omega) ([.int .u32 (q1 : Int), .int .i64 q2]).toArray
        clear Zo
        have Zo := N_
        clear N_
        generalize z8.setRow (w.heap.size + 1) ([.int .u32 (q1 : Int), .int .i64 q2]).toArray = z9 at Zr Zs Zo Zm Zn hP hL hV ee ff ⊢
        go_wp2_with fail
        refine bodyPost_ret (v := .tuple #[bal q1 q2, .int .i64 q3]) (res_ct rfl rfl rfl Zo Tryd.underlying40 rfl sizeRBal) rfl ⟨⟨_, _, _, rfl⟩, ⟨R, (H.out.keepF ff ee Zr hP hL hV).more⟩, ff, ee⟩
  | false =>
    have Zr : z2.drew.heap[r]? = some (.cells R.cells.toArray 150) := Zr
    have Zs : z2.drew.heap[w.heap.size]? = some (.cells [.int .u32 (sr : Int), .int .i64 sn].toArray 40) := Zs
    have Zo : z2.drew.heap[w.heap.size + 1]? = some (.cells [.int .u32 0, .int .i64 0].toArray 40) := Zo
    have Zm : z2.drew.heap[gm]? = some (.cells ([.int .u32 (sr : Int), .int .i64 sn]).toArray 40) := Zm
    have hP := World.ownsRow.drew hP
    have hL := World.ownsRow.drew hL
    have hV := World.ownsRow.drew hV
    have ee := belowDrewS ee
    have ff := ogDrew ff
    refine wp_region_held_drew (S := fun z' => z'.rangeAt r (2) ([.int .u32 (R.br : Int), .int .i64 R.bn]) ∧ z'.rangeAt w.heap.size (0) ([.int .u32 (sr : Int), .int .i64 sn])) (by kernel_rfl) ⟨(rowMid Zr (2) (Rl.bal R)), (rowAt Zs)⟩ (fun hH => ?_)
    clear hH
    generalize z2.drew = z3 at Zr Zs Zo Zm hP hL hV ee ff ⊢
    refine wpAnyH_take (i := 0) (v := .pointer (some ⟨r, 0, none⟩)) rfl (by kernel_rfl) (by kernel_rfl) (by kernel_rfl) (fun _ _ _ h => h) (Or.inl ⟨by rfl, fun w_ hS_ => by (first | (go_simp; done) | (go_simp; rfl))⟩) ⟨(rowMid Zr (2) (Rl.bal R)), (rowAt Zs)⟩ ?_
    try simp only [Act.put, List.getElem_toArray, List.getElem_cons_zero, List.getElem_cons_succ, List.setIfInBounds_toArray, List.set_cons_zero, List.set_cons_succ]
    refine wpAnyH_take (i := 1) (v := .pointer (some ⟨r, 0, none⟩)) rfl (by kernel_rfl) (by kernel_rfl) (by kernel_rfl) (fun _ _ _ h => h) (Or.inl ⟨by rfl, fun w_ hS_ => by (first | (go_simp; done) | (go_simp; rfl))⟩) ⟨(rowMid Zr (2) (Rl.bal R)), (rowAt Zs)⟩ ?_
    try simp only [Act.put, List.getElem_toArray, List.getElem_cons_zero, List.getElem_cons_succ, List.setIfInBounds_toArray, List.set_cons_zero, List.set_cons_succ]
    refine wpAnyH_take (i := 2) (v := .pointer (some ⟨r, 2, none⟩)) rfl (by kernel_rfl) (by kernel_rfl) (by kernel_rfl) (fun _ _ _ h => h) (Or.inl ⟨by rfl, fun w_ hS_ => by (first | (go_simp; done) | (go_simp; rfl))⟩) ⟨(rowMid Zr (2) (Rl.bal R)), (rowAt Zs)⟩ ?_
    try simp only [Act.put, List.getElem_toArray, List.getElem_cons_zero, List.getElem_cons_succ, List.setIfInBounds_toArray, List.set_cons_zero, List.set_cons_succ]
    refine wpAnyH_take (i := 3) (v := .agg ([.int .u32 (R.br : Int), .int .i64 R.bn]).toArray) rfl (by kernel_rfl) (by kernel_rfl) (by kernel_rfl) (fun _ _ _ h => h) (yieldsIf_load_mid (by rfl) 40 _ rfl (r) (2) rfl ([.int .u32 (R.br : Int), .int .i64 R.bn]) _ (fun _ h => h.1) Tryd.underlying40 rfl sizeRBal) ⟨(rowMid Zr (2) (Rl.bal R)), (rowAt Zs)⟩ ?_
    try simp only [Act.put, List.getElem_toArray, List.getElem_cons_zero, List.getElem_cons_succ, List.setIfInBounds_toArray, List.set_cons_zero, List.set_cons_succ]
    refine wpAnyH_take (i := 4) (v := .agg ([.int .u32 (sr : Int), .int .i64 sn]).toArray) rfl (by kernel_rfl) (by kernel_rfl) (by kernel_rfl) (fun _ _ _ h => h) (yieldsIf_load_mid (by rfl) 40 _ rfl (w.heap.size) (0) rfl ([.int .u32 (sr : Int), .int .i64 sn]) _ (fun _ h => h.2) Tryd.underlying40 rfl sizeRBal) ⟨(rowMid Zr (2) (Rl.bal R)), (rowAt Zs)⟩ ?_
    try simp only [Act.put, List.getElem_toArray, List.getElem_cons_zero, List.getElem_cons_succ, List.setIfInBounds_toArray, List.set_cons_zero, List.set_cons_succ]
    refine wpAnyH_ready (rs := [5]) (by kernel_rfl) (by simp) ?_
    refine AllReadyH.cons rfl (fun K hK => ?_) AllReadyH.nil
    rw [if_pos (by rfl)]
    go_simp
    go_wp2_with (go_at_call 63; refine (HLS.out z3).mono ?_; rintro e z4 ⟨rfl, t⟩)
    have Zr := hpB Zr t
    have Zs := hpB Zs t
    have Zo := hpB Zo t
    have Zm := hpB Zm t
    have hP := ownBelow hP t
    have hL := ownBelow hL t
    have hV := ownBelow hV t
    have ee := ee.trans (t.mono (Nat.le_trans hB ee.size))
    have ff := ogBelow ff t
    clear t
    refine hK.out _ _ ⟨(rowMid Zr (2) (Rl.bal R)), (rowAt Zs)⟩ (fun hH => ?_)
    clear hK K hH
    try simp only [Act.put, List.getElem_toArray, List.getElem_cons_zero, List.getElem_cons_succ, List.setIfInBounds_toArray, List.set_cons_zero, List.set_cons_succ]
    refine wpAnyH_take (i := 6) (v := .bool true) rfl (by kernel_rfl) (by kernel_rfl) (by kernel_rfl) (fun _ _ _ h => h) (Or.inl ⟨by rfl, fun w_ hS_ => by (first | (go_simp; done) | (go_simp; rfl))⟩) ⟨(rowMid Zr (2) (Rl.bal R)), (rowAt Zs)⟩ ?_
    try simp only [Act.put, List.getElem_toArray, List.getElem_cons_zero, List.getElem_cons_succ, List.setIfInBounds_toArray, List.set_cons_zero, List.set_cons_succ]
    refine wpAnyH_done (by kernel_rfl) ?_ _
    go_upto_region 3 with fail
    refine wp_region_lit ?_
    iterate 27 (first | with_reducible refine isLoad (ty := 40) rfl ?_ | go_step)
    refine wpList_load_mid rfl 40 _ rfl (r) (2) rfl ([.int .u32 (R.br : Int), .int .i64 R.bn]) _ (rowMid Zr (2) (Rl.bal R)) Tryd.underlying40 rfl sizeRBal ?_
    iterate 27 (first | with_reducible refine isStore (ty := 40) rfl ?_ | go_step)
    refine wpList_store_row rfl 40 _ _ rfl (gm) ([.int .u32 (R.br : Int), .int .i64 R.bn]).toArray rfl rfl 40 _ Zm sizeRBal (by rfl) (by simp [Value.oneCell']) ?_
    have N_ := setRow_heap z4 (gm) _ ([.int .u32 (R.br : Int), .int .i64 R.bn]).toArray _ _ Zm
    have hP := ogOwnR (cs := ([.int .u32 (R.br : Int), .int .i64 R.bn]).toArray) hP (ogKind hP Zm (by decide))
    have hL := ogOwnR (cs := ([.int .u32 (R.br : Int), .int .i64 R.bn]).toArray) hL (ogKind hL Zm (by decide))
    have hV := ogOwnR (cs := ([.int .u32 (R.br : Int), .int .i64 R.bn]).toArray) hV (ogKind hV Zm (by decide))
    have ee := belowSet (cs := ([.int .u32 (R.br : Int), .int .i64 R.bn]).toArray) ee Zm (by omega)
    have ff := ogRow (cs := ([.int .u32 (R.br : Int), .int .i64 R.bn]).toArray) (by first | (right; omega) | exact Or.inl (Or.inl rfl)) Zm ff
    have Zr := hpR Zr (g' := gm) (by omega) ([.int .u32 (R.br : Int), .int .i64 R.bn]).toArray
    have Zs := hpR Zs (g' := gm) (by omega) ([.int .u32 (R.br : Int), .int .i64 R.bn]).toArray
    have Zo := hpR Zo (g' := gm) (by omega) ([.int .u32 (R.br : Int), .int .i64 R.bn]).toArray
    clear Zm
    have Zm := N_
    clear N_
    generalize z4.setRow (gm) ([.int .u32 (R.br : Int), .int .i64 R.bn]).toArray = z5 at Zr Zs Zo Zm hP hL hV ee ff ⊢
    obtain ⟨q1, q2, q3, hq1, hNx⟩ := HNX.out R.br R.bn hb4
    have HNX := Lib.hid hNx
    clear hNx HLS
    go_upto_region 4 with fail
    have Zr : z5.drew.heap[r]? = some (.cells R.cells.toArray 150) := Zr
    have Zs : z5.drew.heap[w.heap.size]? = some (.cells [.int .u32 (sr : Int), .int .i64 sn].toArray 40) := Zs
    have Zo : z5.drew.heap[w.heap.size + 1]? = some (.cells [.int .u32 0, .int .i64 0].toArray 40) := Zo
    have Zm : z5.drew.heap[gm]? = some (.cells ([.int .u32 (R.br : Int), .int .i64 R.bn]).toArray 40) := Zm
    have hP := World.ownsRow.drew hP
    have hL := World.ownsRow.drew hL
    have hV := World.ownsRow.drew hV
    have ee := belowDrewS ee
    have ff := ogDrew ff
    refine wp_region_held_drew (S := fun z' => z'.rangeAt gm (0) ([.int .u32 (R.br : Int), .int .i64 R.bn]) ∧ z'.cell? ⟨r, 1, none⟩ = some (.int .i64 R.nd)) (by kernel_rfl) ⟨(rowAt Zm), (rowCell Zr (1) rfl)⟩ (fun hH => ?_)
    clear hH
    generalize z5.drew = z6 at Zr Zs Zo Zm hP hL hV ee ff ⊢
    refine wpAnyH_take (i := 0) (v := .agg ([.int .u32 (R.br : Int), .int .i64 R.bn]).toArray) rfl (by kernel_rfl) (by kernel_rfl) (by kernel_rfl) (fun _ _ _ h => h) (yieldsIf_load_mid (by rfl) 40 _ rfl (gm) (0) rfl ([.int .u32 (R.br : Int), .int .i64 R.bn]) _ (fun _ h => h.1) Tryd.underlying40 rfl sizeRBal) ⟨(rowAt Zm), (rowCell Zr (1) rfl)⟩ ?_
    try simp only [Act.put, List.getElem_toArray, List.getElem_cons_zero, List.getElem_cons_succ, List.setIfInBounds_toArray, List.set_cons_zero, List.set_cons_succ]
    refine wpAnyH_take (i := 1) (v := .pointer (some ⟨r, 0, none⟩)) rfl (by kernel_rfl) (by kernel_rfl) (by kernel_rfl) (fun _ _ _ h => h) (Or.inl ⟨by rfl, fun w_ hS_ => by (first | (go_simp; done) | (go_simp; rfl))⟩) ⟨(rowAt Zm), (rowCell Zr (1) rfl)⟩ ?_
    try simp only [Act.put, List.getElem_toArray, List.getElem_cons_zero, List.getElem_cons_succ, List.setIfInBounds_toArray, List.set_cons_zero, List.set_cons_succ]
    refine wpAnyH_take (i := 2) (v := .pointer (some ⟨r, 0, none⟩)) rfl (by kernel_rfl) (by kernel_rfl) (by kernel_rfl) (fun _ _ _ h => h) (Or.inl ⟨by rfl, fun w_ hS_ => by (first | (go_simp; done) | (go_simp; rfl))⟩) ⟨(rowAt Zm), (rowCell Zr (1) rfl)⟩ ?_
    try simp only [Act.put, List.getElem_toArray, List.getElem_cons_zero, List.getElem_cons_succ, List.setIfInBounds_toArray, List.set_cons_zero, List.set_cons_succ]
    refine wpAnyH_take (i := 3) (v := .pointer (some ⟨r, 1, none⟩)) rfl (by kernel_rfl) (by kernel_rfl) (by kernel_rfl) (fun _ _ _ h => h) (Or.inl ⟨by rfl, fun w_ hS_ => by (first | (go_simp; done) | (go_simp; rfl))⟩) ⟨(rowAt Zm), (rowCell Zr (1) rfl)⟩ ?_
    try simp only [Act.put, List.getElem_toArray, List.getElem_cons_zero, List.getElem_cons_succ, List.setIfInBounds_toArray, List.set_cons_zero, List.set_cons_succ]
    refine wpAnyH_take (i := 4) (v := .int .i64 R.nd) rfl (by kernel_rfl) (by kernel_rfl) (by kernel_rfl) (fun _ _ _ h => h) (Or.inl ⟨by rfl, fun w_ hS_ => by (have c_ := hS_.2; first | (go_simp; done) | (go_simp; rfl))⟩) ⟨(rowAt Zm), (rowCell Zr (1) rfl)⟩ ?_
    try simp only [Act.put, List.getElem_toArray, List.getElem_cons_zero, List.getElem_cons_succ, List.setIfInBounds_toArray, List.set_cons_zero, List.set_cons_succ]
    refine wpAnyH_ready (rs := [5, 9]) (by kernel_rfl) (by simp) ?_
    refine AllReadyH.cons rfl (fun K hK => ?_) (AllReadyH.cons rfl (fun K hK => ?_) AllReadyH.nil)
    · rw [if_pos (by rfl)]
      go_simp
      go_wp2_with (go_at_call 115; refine (HNX.out z6).mono ?_; rintro e z7 ⟨rfl, t⟩)
      have Zr := hpB Zr t
      have Zs := hpB Zs t
      have Zo := hpB Zo t
      have Zm := hpB Zm t
      have hP := ownBelow hP t
      have hL := ownBelow hL t
      have hV := ownBelow hV t
      have ee := ee.trans (t.mono (Nat.le_trans hB ee.size))
      have ff := ogBelow ff t
      clear t
      refine hK.out _ _ ⟨(rowAt Zm), (rowCell Zr (1) rfl)⟩ (fun hH => ?_)
      clear hK K hH
      try simp only [Act.put, List.getElem_toArray, List.getElem_cons_zero, List.getElem_cons_succ, List.setIfInBounds_toArray, List.set_cons_zero, List.set_cons_succ]
      refine wpAnyH_take (i := 6) (v := .tuple #[.agg ([.int .u32 (q1 : Int), .int .i64 q2]).toArray, .int .i64 q3]) rfl (by kernel_rfl) (by kernel_rfl) (by kernel_rfl) (fun _ _ _ h => h) (Or.inl ⟨by rfl, fun w_ hS_ => by (first | (go_simp; done) | (go_simp; rfl))⟩) ⟨(rowAt Zm), (rowCell Zr (1) rfl)⟩ ?_
      try simp only [Act.put, List.getElem_toArray, List.getElem_cons_zero, List.getElem_cons_succ, List.setIfInBounds_toArray, List.set_cons_zero, List.set_cons_succ]
      refine wpAnyH_take (i := 7) (v := .agg ([.int .u32 (q1 : Int), .int .i64 q2]).toArray) rfl (by kernel_rfl) (by kernel_rfl) (by kernel_rfl) (fun _ _ _ h => h) (Or.inl ⟨by rfl, fun w_ hS_ => by (first | (go_simp; done) | (go_simp; rfl))⟩) ⟨(rowAt Zm), (rowCell Zr (1) rfl)⟩ ?_
      try simp only [Act.put, List.getElem_toArray, List.getElem_cons_zero, List.getElem_cons_succ, List.setIfInBounds_toArray, List.set_cons_zero, List.set_cons_succ]
      refine wpAnyH_take (i := 8) (v := .int .i64 q3) rfl (by kernel_rfl) (by kernel_rfl) (by kernel_rfl) (fun _ _ _ h => h) (Or.inl ⟨by rfl, fun w_ hS_ => by (first | (go_simp; done) | (go_simp; rfl))⟩) ⟨(rowAt Zm), (rowCell Zr (1) rfl)⟩ ?_
      try simp only [Act.put, List.getElem_toArray, List.getElem_cons_zero, List.getElem_cons_succ, List.setIfInBounds_toArray, List.set_cons_zero, List.set_cons_succ]
      refine wpAnyH_ready (rs := [9]) (by kernel_rfl) (by simp) ?_
      refine AllReadyH.cons rfl (fun K hK => ?_) AllReadyH.nil
      rw [if_pos (by rfl)]
      go_simp
      have lZr := (Array.getElem?_eq_some_iff.1 Zr).1
      have lZs := (Array.getElem?_eq_some_iff.1 Zs).1
      have lZo := (Array.getElem?_eq_some_iff.1 Zo).1
      have lZm := (Array.getElem?_eq_some_iff.1 Zm).1
      have sz_ := ff.size
      have Zr := hpA Zr (.cells #[.int .u32 0, .int .i64 0] 40)
      have Zs := hpA Zs (.cells #[.int .u32 0, .int .i64 0] 40)
      have Zo := hpA Zo (.cells #[.int .u32 0, .int .i64 0] 40)
      have Zm := hpA Zm (.cells #[.int .u32 0, .int .i64 0] 40)
      have hP := hP.alloc (.cells #[.int .u32 0, .int .i64 0] 40)
      have hL := hL.alloc (.cells #[.int .u32 0, .int .i64 0] 40)
      have hV := hV.alloc (.cells #[.int .u32 0, .int .i64 0] 40)
      have ee := ee.alloc (Nat.le_trans hB ee.size) (.cells #[.int .u32 0, .int .i64 0] 40)
      have ff := ogAlloc ff (.cells #[.int .u32 0, .int .i64 0] 40)
      have Zn := hpN z7 (.cells #[.int .u32 0, .int .i64 0] 40) rfl
      generalize z7.alloc (.cells #[.int .u32 0, .int .i64 0] 40) = z8 at Zr Zs Zo Zm Zn hP hL hV ee ff ⊢
      refine hK.out _ _ ⟨(rowAt Zm), (rowCell Zr (1) rfl)⟩ (fun hH => ?_)
      clear hK K hH
      try simp only [Act.put, List.getElem_toArray, List.getElem_cons_zero, List.getElem_cons_succ, List.setIfInBounds_toArray, List.set_cons_zero, List.set_cons_succ]
      refine wpAnyH_ready (rs := [10]) (by kernel_rfl) (by simp) ?_
      refine AllReadyH.cons rfl (fun K hK => ?_) AllReadyH.nil
      rw [if_pos (by rfl)]
      refine wp_store_row 40 _ _ rfl (z7.heap.size) ([.int .u32 (q1 : Int), .int .i64 q2]).toArray rfl rfl 40 _ Zn sizeRBal (by rfl) (by simp [Value.oneCell']) ?_
      have N_ := setRow_heap z8 (z7.heap.size) _ ([.int .u32 (q1 : Int), .int .i64 q2]).toArray _ _ Zn
      have hP := ogOwnR (cs := ([.int .u32 (q1 : Int), .int .i64 q2]).toArray) hP (ogKind hP Zn (by decide))
      have hL := ogOwnR (cs := ([.int .u32 (q1 : Int), .int .i64 q2]).toArray) hL (ogKind hL Zn (by decide))
      have hV := ogOwnR (cs := ([.int .u32 (q1 : Int), .int .i64 q2]).toArray) hV (ogKind hV Zn (by decide))
      have ee := belowSet (cs := ([.int .u32 (q1 : Int), .int .i64 q2]).toArray) ee Zn (by omega)
      have ff := ogRow (cs := ([.int .u32 (q1 : Int), .int .i64 q2]).toArray) (by first | (right; omega) | exact Or.inl (Or.inl rfl)) Zn ff
      have Zr := hpR Zr (g' := z7.heap.size) (by omega) ([.int .u32 (q1 : Int), .int .i64 q2]).toArray
      have Zs := hpR Zs (g' := z7.heap.size) (by omega) ([.int .u32 (q1 : Int), .int .i64 q2]).toArray
      have Zo := hpR Zo (g' := z7.heap.size) (by omega) ([.int .u32 (q1 : Int), .int .i64 q2]).toArray
      have Zm := hpR Zm (g' := z7.heap.size) (by omega) ([.int .u32 (q1 : Int), .int .i64 q2]).toArray
      clear Zn
      have Zn := N_
      clear N_
      generalize z8.setRow (z7.heap.size) ([.int .u32 (q1 : Int), .int .i64 q2]).toArray = z9 at Zr Zs Zo Zm Zn hP hL hV ee ff ⊢
      refine hK.out _ _ ⟨(rowAt Zm), (rowCell Zr (1) rfl)⟩ (fun hH => ?_)
      clear hK K hH
      try simp only [Act.put, List.getElem_toArray, List.getElem_cons_zero, List.getElem_cons_succ, List.setIfInBounds_toArray, List.set_cons_zero, List.set_cons_succ]
      refine wpAnyH_take (i := 11) (v := .int .i64 q3) rfl (by kernel_rfl) (by kernel_rfl) (by kernel_rfl) (fun _ _ _ h => h) (Or.inl ⟨by rfl, fun w_ hS_ => by (first | (go_simp; done) | (go_simp; rfl))⟩) ⟨(rowAt Zm), (rowCell Zr (1) rfl)⟩ ?_
      try simp only [Act.put, List.getElem_toArray, List.getElem_cons_zero, List.getElem_cons_succ, List.setIfInBounds_toArray, List.set_cons_zero, List.set_cons_succ]
      refine wpAnyH_done (by kernel_rfl) ?_ _
      clear HNX
      by_cases hq3 : q3 = 0
      · subst hq3
        go_upto_region 6 with fail
        have Zr : z9.drew.heap[r]? = some (.cells R.cells.toArray 150) := Zr
        have Zs : z9.drew.heap[w.heap.size]? = some (.cells [.int .u32 (sr : Int), .int .i64 sn].toArray 40) := Zs
        have Zo : z9.drew.heap[w.heap.size + 1]? = some (.cells [.int .u32 0, .int .i64 0].toArray 40) := Zo
        have Zm : z9.drew.heap[gm]? = some (.cells ([.int .u32 (R.br : Int), .int .i64 R.bn]).toArray 40) := Zm
        have Zn : z9.drew.heap[z7.heap.size]? = some (.cells ([.int .u32 (q1 : Int), .int .i64 q2]).toArray 40) := Zn
        have hP := World.ownsRow.drew hP
        have hL := World.ownsRow.drew hL
        have hV := World.ownsRow.drew hV
        have ee := belowDrewS ee
        have ff := ogDrew ff
        refine wp_region_held_drew (S := fun z' => z'.cell? ⟨r, 0, none⟩ = some (.int .i64 R.n) ∧ z'.cell? ⟨r, 1, none⟩ = some (.int .i64 R.nd) ∧ z'.rangeAt z7.heap.size (0) ([.int .u32 (q1 : Int), .int .i64 q2])) (by kernel_rfl) ⟨(rowCell Zr (0) rfl), (rowCell Zr (1) rfl), (rowAt Zn)⟩ (fun hH => ?_)
        clear hH
        generalize z9.drew = z10 at Zr Zs Zo Zm Zn hP hL hV ee ff ⊢
        refine wpAnyH_take (i := 0) (v := .pointer (some ⟨r, 0, none⟩)) rfl (by kernel_rfl) (by kernel_rfl) (by kernel_rfl) (fun _ _ _ h => h) (Or.inl ⟨by rfl, fun w_ hS_ => by (first | (go_simp; done) | (go_simp; rfl))⟩) ⟨(rowCell Zr (0) rfl), (rowCell Zr (1) rfl), (rowAt Zn)⟩ ?_
        try simp only [Act.put, List.getElem_toArray, List.getElem_cons_zero, List.getElem_cons_succ, List.setIfInBounds_toArray, List.set_cons_zero, List.set_cons_succ]
        refine wpAnyH_take (i := 1) (v := .pointer (some ⟨r, 0, none⟩)) rfl (by kernel_rfl) (by kernel_rfl) (by kernel_rfl) (fun _ _ _ h => h) (Or.inl ⟨by rfl, fun w_ hS_ => by (first | (go_simp; done) | (go_simp; rfl))⟩) ⟨(rowCell Zr (0) rfl), (rowCell Zr (1) rfl), (rowAt Zn)⟩ ?_
        try simp only [Act.put, List.getElem_toArray, List.getElem_cons_zero, List.getElem_cons_succ, List.setIfInBounds_toArray, List.set_cons_zero, List.set_cons_succ]
        refine wpAnyH_take (i := 2) (v := .pointer (some ⟨r, 0, none⟩)) rfl (by kernel_rfl) (by kernel_rfl) (by kernel_rfl) (fun _ _ _ h => h) (Or.inl ⟨by rfl, fun w_ hS_ => by (first | (go_simp; done) | (go_simp; rfl))⟩) ⟨(rowCell Zr (0) rfl), (rowCell Zr (1) rfl), (rowAt Zn)⟩ ?_
        try simp only [Act.put, List.getElem_toArray, List.getElem_cons_zero, List.getElem_cons_succ, List.setIfInBounds_toArray, List.set_cons_zero, List.set_cons_succ]
        refine wpAnyH_take (i := 3) (v := .pointer (some ⟨r, 0, none⟩)) rfl (by kernel_rfl) (by kernel_rfl) (by kernel_rfl) (fun _ _ _ h => h) (Or.inl ⟨by rfl, fun w_ hS_ => by (first | (go_simp; done) | (go_simp; rfl))⟩) ⟨(rowCell Zr (0) rfl), (rowCell Zr (1) rfl), (rowAt Zn)⟩ ?_
        try simp only [Act.put, List.getElem_toArray, List.getElem_cons_zero, List.getElem_cons_succ, List.setIfInBounds_toArray, List.set_cons_zero, List.set_cons_succ]
        refine wpAnyH_take (i := 4) (v := .int .i64 R.n) rfl (by kernel_rfl) (by kernel_rfl) (by kernel_rfl) (fun _ _ _ h => h) (Or.inl ⟨by rfl, fun w_ hS_ => by (have c_ := hS_.1; first | (go_simp; done) | (go_simp; rfl))⟩) ⟨(rowCell Zr (0) rfl), (rowCell Zr (1) rfl), (rowAt Zn)⟩ ?_
        try simp only [Act.put, List.getElem_toArray, List.getElem_cons_zero, List.getElem_cons_succ, List.setIfInBounds_toArray, List.set_cons_zero, List.set_cons_succ]
        refine wpAnyH_take (i := 5) (v := .pointer (some ⟨r, 0, none⟩)) rfl (by kernel_rfl) (by kernel_rfl) (by kernel_rfl) (fun _ _ _ h => h) (Or.inl ⟨by rfl, fun w_ hS_ => by (first | (go_simp; done) | (go_simp; rfl))⟩) ⟨(rowCell Zr (0) rfl), (rowCell Zr (1) rfl), (rowAt Zn)⟩ ?_
        try simp only [Act.put, List.getElem_toArray, List.getElem_cons_zero, List.getElem_cons_succ, List.setIfInBounds_toArray, List.set_cons_zero, List.set_cons_succ]
        refine wpAnyH_take (i := 6) (v := .pointer (some ⟨r, 0, none⟩)) rfl (by kernel_rfl) (by kernel_rfl) (by kernel_rfl) (fun _ _ _ h => h) (Or.inl ⟨by rfl, fun w_ hS_ => by (first | (go_simp; done) | (go_simp; rfl))⟩) ⟨(rowCell Zr (0) rfl), (rowCell Zr (1) rfl), (rowAt Zn)⟩ ?_
        try simp only [Act.put, List.getElem_toArray, List.getElem_cons_zero, List.getElem_cons_succ, List.setIfInBounds_toArray, List.set_cons_zero, List.set_cons_succ]
        refine wpAnyH_take (i := 7) (v := .pointer (some ⟨r, 1, none⟩)) rfl (by kernel_rfl) (by kernel_rfl) (by kernel_rfl) (fun _ _ _ h => h) (Or.inl ⟨by rfl, fun w_ hS_ => by (first | (go_simp; done) | (go_simp; rfl))⟩) ⟨(rowCell Zr (0) rfl), (rowCell Zr (1) rfl), (rowAt Zn)⟩ ?_
        try simp only [Act.put, List.getElem_toArray, List.getElem_cons_zero, List.getElem_cons_succ, List.setIfInBounds_toArray, List.set_cons_zero, List.set_cons_succ]
        refine wpAnyH_take (i := 8) (v := .int .i64 R.nd) rfl (by kernel_rfl) (by kernel_rfl) (by kernel_rfl) (fun _ _ _ h => h) (Or.inl ⟨by rfl, fun w_ hS_ => by (have c_ := hS_.2.1; first | (go_simp; done) | (go_simp; rfl))⟩) ⟨(rowCell Zr (0) rfl), (rowCell Zr (1) rfl), (rowAt Zn)⟩ ?_
        try simp only [Act.put, List.getElem_toArray, List.getElem_cons_zero, List.getElem_cons_succ, List.setIfInBounds_toArray, List.set_cons_zero, List.set_cons_succ]
        refine wpAnyH_take (i := 9) (v := .agg ([.int .u32 (q1 : Int), .int .i64 q2]).toArray) rfl (by kernel_rfl) (by kernel_rfl) (by kernel_rfl) (fun _ _ _ h => h) (yieldsIf_load_mid (by rfl) 40 _ rfl (z7.heap.size) (0) rfl ([.int .u32 (q1 : Int), .int .i64 q2]) _ (fun _ h => h.2.2) Tryd.underlying40 rfl sizeRBal) ⟨(rowCell Zr (0) rfl), (rowCell Zr (1) rfl), (rowAt Zn)⟩ ?_
        try simp only [Act.put, List.getElem_toArray, List.getElem_cons_zero, List.getElem_cons_succ, List.setIfInBounds_toArray, List.set_cons_zero, List.set_cons_succ]
        refine wpAnyH_ready (rs := [10]) (by kernel_rfl) (by simp) ?_
        refine AllReadyH.cons rfl (fun K hK => ?_) AllReadyH.nil
        rw [if_pos (by rfl)]
        refine ogBuildH 150 #[(0, .tmp 36), (1, .tmp 40), (2, .tmp 41)] rfl [(0, .int .i64 R.n), (1, .int .i64 R.nd), (2, .agg [.int .u32 (q1 : Int), .int .i64 q2].toArray)] ((Rl.mk R.n R.nd q1 q2 [] none 0 [] none 0 0 0 Cm.zero [] none 0).cells).toArray ?_ ?_ ?_
        · simp only [List.map_toArray, List.map_cons, List.map_nil]; rfl
        · exact builtRl R.n R.nd q1 q2
        refine hK.out _ _ ⟨(rowCell Zr (0) rfl), (rowCell Zr (1) rfl), (rowAt Zn)⟩ (fun hH => ?_)
        clear hK K hH
        try simp only [Act.put, List.getElem_toArray, List.getElem_cons_zero, List.getElem_cons_succ, List.setIfInBounds_toArray, List.set_cons_zero, List.set_cons_succ]
        refine wpAnyH_take (i := 11) (v := .pointer (some ⟨r, 0, none⟩)) rfl (by kernel_rfl) (by kernel_rfl) (by kernel_rfl) (fun _ _ _ h => h) (Or.inl ⟨by rfl, fun w_ hS_ => by (first | (go_simp; done) | (go_simp; rfl))⟩) ⟨(rowCell Zr (0) rfl), (rowCell Zr (1) rfl), (rowAt Zn)⟩ ?_
        try simp only [Act.put, List.getElem_toArray, List.getElem_cons_zero, List.getElem_cons_succ, List.setIfInBounds_toArray, List.set_cons_zero, List.set_cons_succ]
        refine wpAnyH_ready (rs := [12]) (by kernel_rfl) (by simp) ?_
        refine AllReadyH.cons rfl (fun K hK => ?_) AllReadyH.nil
        rw [if_pos (by rfl)]
        refine wp_store_row 150 _ _ rfl (r) ((Rl.mk R.n R.nd q1 q2 [] none 0 [] none 0 0 0 Cm.zero [] none 0).cells).toArray rfl rfl 150 _ Zr sizeRld (by rfl) (Rl.one _) ?_
        have N_ := setRow_heap z10 (r) _ ((Rl.mk R.n R.nd q1 q2 [] none 0 [] none 0 0 0 Cm.zero [] none 0).cells).toArray _ _ Zr
        have hP := ogOwnR (cs := ((Rl.mk R.n R.nd q1 q2 [] none 0 [] none 0 0 0 Cm.zero [] none 0).cells).toArray) hP (ogKind hP Zr (by decide))
        have hL := ogOwnR (cs := ((Rl.mk R.n R.nd q1 q2 [] none 0 [] none 0 0 0 Cm.zero [] none 0).cells).toArray) hL (ogKind hL Zr (by decide))
        have hV := ogOwnR (cs := ((Rl.mk R.n R.nd q1 q2 [] none 0 [] none 0 0 0 Cm.zero [] none 0).cells).toArray) hV (ogKind hV Zr (by decide))
        have ee := belowSet (cs := ((Rl.mk R.n R.nd q1 q2 [] none 0 [] none 0 0 0 Cm.zero [] none 0).cells).toArray) ee Zr (by omega)
        have ff := ogRow (cs := ((Rl.mk R.n R.nd q1 q2 [] none 0 [] none 0 0 0 Cm.zero [] none 0).cells).toArray) (by first | (right; omega) | exact Or.inl (Or.inl rfl)) Zr ff
        have Zs := hpR Zs (g' := r) (by omega) ((Rl.mk R.n R.nd q1 q2 [] none 0 [] none 0 0 0 Cm.zero [] none 0).cells).toArray
        have Zo := hpR Zo (g' := r) (by omega) ((Rl.mk R.n R.nd q1 q2 [] none 0 [] none 0 0 0 Cm.zero [] none 0).cells).toArray
        have Zm := hpR Zm (g' := r) (by omega) ((Rl.mk R.n R.nd q1 q2 [] none 0 [] none 0 0 0 Cm.zero [] none 0).cells).toArray
        have Zn := hpR Zn (g' := r) (by omega) ((Rl.mk R.n R.nd q1 q2 [] none 0 [] none 0 0 0 Cm.zero [] none 0).cells).toArray
        clear Zr
        have Zr := N_
        clear N_
        generalize z10.setRow (r) ((Rl.mk R.n R.nd q1 q2 [] none 0 [] none 0 0 0 Cm.zero [] none 0).cells).toArray = z11 at Zr Zs Zo Zm Zn hP hL hV ee ff ⊢
        refine hK.out _ _ ⟨(rowCell Zr (0) rfl), (rowCell Zr (1) rfl), (rowAt Zn)⟩ (fun hH => ?_)
        clear hK K hH
        try simp only [Act.put, List.getElem_toArray, List.getElem_cons_zero, List.getElem_cons_succ, List.setIfInBounds_toArray, List.set_cons_zero, List.set_cons_succ]
        refine wpAnyH_done (by kernel_rfl) ?_ _
        go_upto_region 7 with fail
        refine wp_region_lit ?_
        iterate 27 (first | with_reducible refine isLoad (ty := 40) rfl ?_ | go_step)
        refine wpList_load_mid rfl 40 _ rfl (z7.heap.size) 0 rfl (([.int .u32 (q1 : Int), .int .i64 q2])) _ (rowAt Zn) Tryd.underlying40 rfl sizeRBal ?_
        iterate 27 (first | with_reducible refine isStore (ty := 40) rfl ?_ | go_step)
        refine wpList_store_row rfl 40 _ _ rfl (w.heap.size + 1) ([.int .u32 (q1 : Int), .int .i64 q2]).toArray rfl rfl 40 _ Zo sizeRBal (by rfl) (by simp [Value.oneCell']) ?_
        have N_ := setRow_heap z11 (w.heap.size + 1) _ ([.int .u32 (q1 : Int), .int .i64 q2]).toArray _ _ Zo
        have hP := ogOwnR (cs := ([.int .u32 (q1 : Int), .int .i64 q2]).toArray) hP (ogKind hP Zo (by decide))
        have hL := ogOwnR (cs := ([.int .u32 (q1 : Int), .int .i64 q2]).toArray) hL (ogKind hL Zo (by decide))
        have hV := ogOwnR (cs := ([.int .u32 (q1 : Int), .int .i64 q2]).toArray) hV (ogKind hV Zo (by decide))
        have ee := belowSet (cs := ([.int .u32 (q1 : Int), .int .i64 q2]).toArray) ee Zo (by omega)
        have ff := ogRow (cs := ([.int .u32 (q1 : Int), .int .i64 q2]).toArray) (by first | (right; omega) | exact Or.inl (Or.inl rfl)) Zo ff
        have Zr := hpR Zr (g' := w.heap.size + 1) (by omega) ([.int .u32 (q1 : Int), .int .i64 q2]).toArray
        have Zs := hpR Zs (g' := w.heap.size + 1) (by omega) ([.int .u32 (q1 : Int), .int .i64 q2]).toArray
        have Zm := hpR Zm (g' := w.heap.size + 1) (by omega) ([.int .u32 (q1 : Int), .int .i64 q2]).toArray
        have Zn := hpR Zn (g' := w.heap.size + 1) (by omega) ([.int .u32 (q1 : Int), .int .i64 q2]).toArray
        clear Zo
        have Zo := N_
        clear N_
        generalize z11.setRow (w.heap.size + 1) ([.int .u32 (q1 : Int), .int .i64 q2]).toArray = z12 at Zr Zs Zo Zm Zn hP hL hV ee ff ⊢
        go_wp2_with fail
        refine bodyPost_ret (v := .tuple #[bal q1 q2, .int .i64 0]) (res_ct rfl rfl rfl Zo Tryd.underlying40 rfl sizeRBal) rfl ⟨⟨_, _, _, rfl⟩, ⟨(Rl.mk R.n R.nd q1 q2 [] none 0 [] none 0 0 0 Cm.zero [] none 0), ⟨Zr, hBr, World.ownsRow_nil _ _ _ _, World.ownsRow_nil _ _ _ _, World.ownsRow_nil _ _ _ _, (fun g hg => by cases hg), Nat.zero_le _, Nat.zero_le _, Nat.zero_le _, (fun a ha => by cases ha), CmOk.zero, hq1, ⟨Int.le_refl _, by show (0 : Int) ≤ _; omega⟩, H.out.nn, Int.le_refl _⟩⟩, ff, ee⟩
      · have hq4 : (q3 == 0) = false := by simpa using hq3
        go_upto_region 7 with fail
        clear hq4
        refine wp_region_lit ?_
        iterate 27 (first | with_reducible refine isLoad (ty := 40) rfl ?_ | go_step)
        refine wpList_load_mid rfl 40 _ rfl (z7.heap.size) 0 rfl (([.int .u32 (q1 : Int), .int .i64 q2])) _ (rowAt Zn) Tryd.underlying40 rfl sizeRBal ?_
        iterate 27 (first | with_reducible refine isStore (ty := 40) rfl ?_ | go_step)
        refine wpList_store_row rfl 40 _ _ rfl (w.heap.size + 1) ([.int .u32 (q1 : Int), .int .i64 q2]).toArray rfl rfl 40 _ Zo sizeRBal (by rfl) (by simp [Value.oneCell']) ?_
        have N_ := setRow_heap z9 (w.heap.size + 1) _ ([.int .u32 (q1 : Int), .int .i64 q2]).toArray _ _ Zo
        have hP := ogOwnR (cs := ([.int .u32 (q1 : Int), .int .i64 q2]).toArray) hP (ogKind hP Zo (by decide))
        have hL := ogOwnR (cs := ([.int .u32 (q1 : Int), .int .i64 q2]).toArray) hL (ogKind hL Zo (by decide))
        have hV := ogOwnR (cs := ([.int .u32 (q1 : Int), .int .i64 q2]).toArray) hV (ogKind hV Zo (by decide))
        have ee := belowSet (cs := ([.int .u32 (q1 : Int), .int .i64 q2]).toArray) ee Zo (by omega)
        have ff := ogRow (cs := ([.int .u32 (q1 : Int), .int .i64 q2]).toArray) (by first | (right; omega) | exact Or.inl (Or.inl rfl)) Zo ff
        have Zr := hpR Zr (g' := w.heap.size + 1) (by omega) ([.int .u32 (q1 : Int), .int .i64 q2]).toArray
        have Zs := hpR Zs (g' := w.heap.size + 1) (by omega) ([.int .u32 (q1 : Int), .int .i64 q2]).toArray
        have Zm := hpR Zm (g' := w.heap.size + 1) (by omega) ([.int .u32 (q1 : Int), .int .i64 q2]).toArray
        have Zn := hpR Zn (g' := w.heap.size + 1) (by omega) ([.int .u32 (q1 : Int), .int .i64 q2]).toArray
        clear Zo
        have Zo := N_
        clear N_
        generalize z9.setRow (w.heap.size + 1) ([.int .u32 (q1 : Int), .int .i64 q2]).toArray = z10 at Zr Zs Zo Zm Zn hP hL hV ee ff ⊢
        go_wp2_with fail
        refine bodyPost_ret (v := .tuple #[bal q1 q2, .int .i64 q3]) (res_ct rfl rfl rfl Zo Tryd.underlying40 rfl sizeRBal) rfl ⟨⟨_, _, _, rfl⟩, ⟨R, (H.out.keepF ff ee Zr hP hL hV).more⟩, ff, ee⟩
    · rw [if_pos (by rfl)]
      go_simp
      have lZr := (Array.getElem?_eq_some_iff.1 Zr).1
      have lZs := (Array.getElem?_eq_some_iff.1 Zs).1
      have lZo := (Array.getElem?_eq_some_iff.1 Zo).1
      have lZm := (Array.getElem?_eq_some_iff.1 Zm).1
      have sz_ := ff.size
      have Zr := hpA Zr (.cells #[.int .u32 0, .int .i64 0] 40)
      have Zs := hpA Zs (.cells #[.int .u32 0, .int .i64 0] 40)
      have Zo := hpA Zo (.cells #[.int .u32 0, .int .i64 0] 40)
      have Zm := hpA Zm (.cells #[.int .u32 0, .int .i64 0] 40)
      have hP := hP.alloc (.cells #[.int .u32 0, .int .i64 0] 40)
      have hL := hL.alloc (.cells #[.int .u32 0, .int .i64 0] 40)
      have hV := hV.alloc (.cells #[.int .u32 0, .int .i64 0] 40)
      have ee := ee.alloc (Nat.le_trans hB ee.size) (.cells #[.int .u32 0, .int .i64 0] 40)
      have ff := ogAlloc ff (.cells #[.int .u32 0, .int .i64 0] 40)
      have Zn := hpN z6 (.cells #[.int .u32 0, .int .i64 0] 40) rfl
      generalize z6.alloc (.cells #[.int .u32 0, .int .i64 0] 40) = z7 at Zr Zs Zo Zm Zn hP hL hV ee ff ⊢
      refine hK.out _ _ ⟨(rowAt Zm), (rowCell Zr (1) rfl)⟩ (fun hH => ?_)
      clear hK K hH
      try simp only [Act.put, List.getElem_toArray, List.getElem_cons_zero, List.getElem_cons_succ, List.setIfInBounds_toArray, List.set_cons_zero, List.set_cons_succ]
      refine wpAnyH_ready (rs := [5]) (by kernel_rfl) (by simp) ?_
      refine AllReadyH.cons rfl (fun K hK => ?_) AllReadyH.nil
      rw [if_pos (by rfl)]
      go_simp
      go_wp2_with (go_at_call 115; refine (HNX.out z7).mono ?_; rintro e z8 ⟨rfl, t⟩)
      have Zr := hpB Zr t
      have Zs := hpB Zs t
      have Zo := hpB Zo t
      have Zm := hpB Zm t
      have Zn := hpB Zn t
      have hP := ownBelow hP t
      have hL := ownBelow hL t
      have hV := ownBelow hV t
      have ee := ee.trans (t.mono (Nat.le_trans hB ee.size))
      have ff := ogBelow ff t
      clear t
      refine hK.out _ _ ⟨(rowAt Zm), (rowCell Zr (1) rfl)⟩ (fun hH => ?_)
      clear hK K hH
      try simp only [Act.put, List.getElem_toArray, List.getElem_cons_zero, List.getElem_cons_succ, List.setIfInBounds_toArray, List.set_cons_zero, List.set_cons_succ]
      refine wpAnyH_take (i := 6) (v := .tuple #[.agg ([.int .u32 (q1 : Int), .int .i64 q2]).toArray, .int .i64 q3]) rfl (by kernel_rfl) (by kernel_rfl) (by kernel_rfl) (fun _ _ _ h => h) (Or.inl ⟨by rfl, fun w_ hS_ => by (first | (go_simp; done) | (go_simp; rfl))⟩) ⟨(rowAt Zm), (rowCell Zr (1) rfl)⟩ ?_
      try simp only [Act.put, List.getElem_toArray, List.getElem_cons_zero, List.getElem_cons_succ, List.setIfInBounds_toArray, List.set_cons_zero, List.set_cons_succ]
      refine wpAnyH_take (i := 7) (v := .agg ([.int .u32 (q1 : Int), .int .i64 q2]).toArray) rfl (by kernel_rfl) (by kernel_rfl) (by kernel_rfl) (fun _ _ _ h => h) (Or.inl ⟨by rfl, fun w_ hS_ => by (first | (go_simp; done) | (go_simp; rfl))⟩) ⟨(rowAt Zm), (rowCell Zr (1) rfl)⟩ ?_
      try simp only [Act.put, List.getElem_toArray, List.getElem_cons_zero, List.getElem_cons_succ, List.setIfInBounds_toArray, List.set_cons_zero, List.set_cons_succ]
      refine wpAnyH_take (i := 8) (v := .int .i64 q3) rfl (by kernel_rfl) (by kernel_rfl) (by kernel_rfl) (fun _ _ _ h => h) (Or.inl ⟨by rfl, fun w_ hS_ => by (first | (go_simp; done) | (go_simp; rfl))⟩) ⟨(rowAt Zm), (rowCell Zr (1) rfl)⟩ ?_
      try simp only [Act.put, List.getElem_toArray, List.getElem_cons_zero, List.getElem_cons_succ, List.setIfInBounds_toArray, List.set_cons_zero, List.set_cons_succ]
      refine wpAnyH_ready (rs := [10]) (by kernel_rfl) (by simp) ?_
      refine AllReadyH.cons rfl (fun K hK => ?_) AllReadyH.nil
      rw [if_pos (by rfl)]
      refine wp_store_row 40 _ _ rfl (z6.heap.size) ([.int .u32 (q1 : Int), .int .i64 q2]).toArray rfl rfl 40 _ Zn sizeRBal (by rfl) (by simp [Value.oneCell']) ?_
      have N_ := setRow_heap z8 (z6.heap.size) _ ([.int .u32 (q1 : Int), .int .i64 q2]).toArray _ _ Zn
      have hP := ogOwnR (cs := ([.int .u32 (q1 : Int), .int .i64 q2]).toArray) hP (ogKind hP Zn (by decide))
      have hL := ogOwnR (cs := ([.int .u32 (q1 : Int), .int .i64 q2]).toArray) hL (ogKind hL Zn (by decide))
      have hV := ogOwnR (cs := ([.int .u32 (q1 : Int), .int .i64 q2]).toArray) hV (ogKind hV Zn (by decide))
      have ee := belowSet (cs := ([.int .u32 (q1 : Int), .int .i64 q2]).toArray) ee Zn (by omega)
      have ff := ogRow (cs := ([.int .u32 (q1 : Int), .int .i64 q2]).toArray) (by first | (right; omega) | exact Or.inl (Or.inl rfl)) Zn ff
      have Zr := hpR Zr (g' := z6.heap.size) (by omega) ([.int .u32 (q1 : Int), .int .i64 q2]).toArray
      have Zs := hpR Zs (g' := z6.heap.size) (by omega) ([.int .u32 (q1 : Int), .int .i64 q2]).toArray
      have Zo := hpR Zo (g' := z6.heap.size) (by omega) ([.int .u32 (q1 : Int), .int .i64 q2]).toArray
      have Zm := hpR Zm (g' := z6.heap.size) (by omega) ([.int .u32 (q1 : Int), .int .i64 q2]).toArray
      clear Zn
      have Zn := N_
      clear N_
      generalize z8.setRow (z6.heap.size) ([.int .u32 (q1 : Int), .int .i64 q2]).toArray = z9 at Zr Zs Zo Zm Zn hP hL hV ee ff ⊢
      refine hK.out _ _ ⟨(rowAt Zm), (rowCell Zr (1) rfl)⟩ (fun hH => ?_)
      clear hK K hH
      try simp only [Act.put, List.getElem_toArray, List.getElem_cons_zero, List.getElem_cons_succ, List.setIfInBounds_toArray, List.set_cons_zero, List.set_cons_succ]
      refine wpAnyH_take (i := 11) (v := .int .i64 q3) rfl (by kernel_rfl) (by kernel_rfl) (by kernel_rfl) (fun _ _ _ h => h) (Or.inl ⟨by rfl, fun w_ hS_ => by (first | (go_simp; done) | (go_simp; rfl))⟩) ⟨(rowAt Zm), (rowCell Zr (1) rfl)⟩ ?_
      try simp only [Act.put, List.getElem_toArray, List.getElem_cons_zero, List.getElem_cons_succ, List.setIfInBounds_toArray, List.set_cons_zero, List.set_cons_succ]
      refine wpAnyH_done (by kernel_rfl) ?_ _
      clear HNX
      by_cases hq3 : q3 = 0
      · subst hq3
        go_upto_region 6 with fail
        have Zr : z9.drew.heap[r]? = some (.cells R.cells.toArray 150) := Zr
        have Zs : z9.drew.heap[w.heap.size]? = some (.cells [.int .u32 (sr : Int), .int .i64 sn].toArray 40) := Zs
        have Zo : z9.drew.heap[w.heap.size + 1]? = some (.cells [.int .u32 0, .int .i64 0].toArray 40) := Zo
        have Zm : z9.drew.heap[gm]? = some (.cells ([.int .u32 (R.br : Int), .int .i64 R.bn]).toArray 40) := Zm
        have Zn : z9.drew.heap[z6.heap.size]? = some (.cells ([.int .u32 (q1 : Int), .int .i64 q2]).toArray 40) := Zn
        have hP := World.ownsRow.drew hP
        have hL := World.ownsRow.drew hL
        have hV := World.ownsRow.drew hV
        have ee := belowDrewS ee
        have ff := ogDrew ff
        refine wp_region_held_drew (S := fun z' => z'.cell? ⟨r, 0, none⟩ = some (.int .i64 R.n) ∧ z'.cell? ⟨r, 1, none⟩ = some (.int .i64 R.nd) ∧ z'.rangeAt z6.heap.size (0) ([.int .u32 (q1 : Int), .int .i64 q2])) (by kernel_rfl) ⟨(rowCell Zr (0) rfl), (rowCell Zr (1) rfl), (rowAt Zn)⟩ (fun hH => ?_)
        clear hH
        generalize z9.drew = z10 at Zr Zs Zo Zm Zn hP hL hV ee ff ⊢
        refine wpAnyH_take (i := 0) (v := .pointer (some ⟨r, 0, none⟩)) rfl (by kernel_rfl) (by kernel_rfl) (by kernel_rfl) (fun _ _ _ h => h) (Or.inl ⟨by rfl, fun w_ hS_ => by (first | (go_simp; done) | (go_simp; rfl))⟩) ⟨(rowCell Zr (0) rfl), (rowCell Zr (1) rfl), (rowAt Zn)⟩ ?_
        try simp only [Act.put, List.getElem_toArray, List.getElem_cons_zero, List.getElem_cons_succ, List.setIfInBounds_toArray, List.set_cons_zero, List.set_cons_succ]
        refine wpAnyH_take (i := 1) (v := .pointer (some ⟨r, 0, none⟩)) rfl (by kernel_rfl) (by kernel_rfl) (by kernel_rfl) (fun _ _ _ h => h) (Or.inl ⟨by rfl, fun w_ hS_ => by (first | (go_simp; done) | (go_simp; rfl))⟩) ⟨(rowCell Zr (0) rfl), (rowCell Zr (1) rfl), (rowAt Zn)⟩ ?_
        try simp only [Act.put, List.getElem_toArray, List.getElem_cons_zero, List.getElem_cons_succ, List.setIfInBounds_toArray, List.set_cons_zero, List.set_cons_succ]
        refine wpAnyH_take (i := 2) (v := .pointer (some ⟨r, 0, none⟩)) rfl (by kernel_rfl) (by kernel_rfl) (by kernel_rfl) (fun _ _ _ h => h) (Or.inl ⟨by rfl, fun w_ hS_ => by (first | (go_simp; done) | (go_simp; rfl))⟩) ⟨(rowCell Zr (0) rfl), (rowCell Zr (1) rfl), (rowAt Zn)⟩ ?_
        try simp only [Act.put, List.getElem_toArray, List.getElem_cons_zero, List.getElem_cons_succ, List.setIfInBounds_toArray, List.set_cons_zero, List.set_cons_succ]
        refine wpAnyH_take (i := 3) (v := .pointer (some ⟨r, 0, none⟩)) rfl (by kernel_rfl) (by kernel_rfl) (by kernel_rfl) (fun _ _ _ h => h) (Or.inl ⟨by rfl, fun w_ hS_ => by (first | (go_simp; done) | (go_simp; rfl))⟩) ⟨(rowCell Zr (0) rfl), (rowCell Zr (1) rfl), (rowAt Zn)⟩ ?_
        try simp only [Act.put, List.getElem_toArray, List.getElem_cons_zero, List.getElem_cons_succ, List.setIfInBounds_toArray, List.set_cons_zero, List.set_cons_succ]
        refine wpAnyH_take (i := 4) (v := .int .i64 R.n) rfl (by kernel_rfl) (by kernel_rfl) (by kernel_rfl) (fun _ _ _ h => h) (Or.inl ⟨by rfl, fun w_ hS_ => by (have c_ := hS_.1; first | (go_simp; done) | (go_simp; rfl))⟩) ⟨(rowCell Zr (0) rfl), (rowCell Zr (1) rfl), (rowAt Zn)⟩ ?_
        try simp only [Act.put, List.getElem_toArray, List.getElem_cons_zero, List.getElem_cons_succ, List.setIfInBounds_toArray, List.set_cons_zero, List.set_cons_succ]
        refine wpAnyH_take (i := 5) (v := .pointer (some ⟨r, 0, none⟩)) rfl (by kernel_rfl) (by kernel_rfl) (by kernel_rfl) (fun _ _ _ h => h) (Or.inl ⟨by rfl, fun w_ hS_ => by (first | (go_simp; done) | (go_simp; rfl))⟩) ⟨(rowCell Zr (0) rfl), (rowCell Zr (1) rfl), (rowAt Zn)⟩ ?_
        try simp only [Act.put, List.getElem_toArray, List.getElem_cons_zero, List.getElem_cons_succ, List.setIfInBounds_toArray, List.set_cons_zero, List.set_cons_succ]
        refine wpAnyH_take (i := 6) (v := .pointer (some ⟨r, 0, none⟩)) rfl (by kernel_rfl) (by kernel_rfl) (by kernel_rfl) (fun _ _ _ h => h) (Or.inl ⟨by rfl, fun w_ hS_ => by (first | (go_simp; done) | (go_simp; rfl))⟩) ⟨(rowCell Zr (0) rfl), (rowCell Zr (1) rfl), (rowAt Zn)⟩ ?_
        try simp only [Act.put, List.getElem_toArray, List.getElem_cons_zero, List.getElem_cons_succ, List.setIfInBounds_toArray, List.set_cons_zero, List.set_cons_succ]
        refine wpAnyH_take (i := 7) (v := .pointer (some ⟨r, 1, none⟩)) rfl (by kernel_rfl) (by kernel_rfl) (by kernel_rfl) (fun _ _ _ h => h) (Or.inl ⟨by rfl, fun w_ hS_ => by (first | (go_simp; done) | (go_simp; rfl))⟩) ⟨(rowCell Zr (0) rfl), (rowCell Zr (1) rfl), (rowAt Zn)⟩ ?_
        try simp only [Act.put, List.getElem_toArray, List.getElem_cons_zero, List.getElem_cons_succ, List.setIfInBounds_toArray, List.set_cons_zero, List.set_cons_succ]
        refine wpAnyH_take (i := 8) (v := .int .i64 R.nd) rfl (by kernel_rfl) (by kernel_rfl) (by kernel_rfl) (fun _ _ _ h => h) (Or.inl ⟨by rfl, fun w_ hS_ => by (have c_ := hS_.2.1; first | (go_simp; done) | (go_simp; rfl))⟩) ⟨(rowCell Zr (0) rfl), (rowCell Zr (1) rfl), (rowAt Zn)⟩ ?_
        try simp only [Act.put, List.getElem_toArray, List.getElem_cons_zero, List.getElem_cons_succ, List.setIfInBounds_toArray, List.set_cons_zero, List.set_cons_succ]
        refine wpAnyH_take (i := 9) (v := .agg ([.int .u32 (q1 : Int), .int .i64 q2]).toArray) rfl (by kernel_rfl) (by kernel_rfl) (by kernel_rfl) (fun _ _ _ h => h) (yieldsIf_load_mid (by rfl) 40 _ rfl (z6.heap.size) (0) rfl ([.int .u32 (q1 : Int), .int .i64 q2]) _ (fun _ h => h.2.2) Tryd.underlying40 rfl sizeRBal) ⟨(rowCell Zr (0) rfl), (rowCell Zr (1) rfl), (rowAt Zn)⟩ ?_
        try simp only [Act.put, List.getElem_toArray, List.getElem_cons_zero, List.getElem_cons_succ, List.setIfInBounds_toArray, List.set_cons_zero, List.set_cons_succ]
        refine wpAnyH_ready (rs := [10]) (by kernel_rfl) (by simp) ?_
        refine AllReadyH.cons rfl (fun K hK => ?_) AllReadyH.nil
        rw [if_pos (by rfl)]
        refine ogBuildH 150 #[(0, .tmp 36), (1, .tmp 40), (2, .tmp 41)] rfl [(0, .int .i64 R.n), (1, .int .i64 R.nd), (2, .agg [.int .u32 (q1 : Int), .int .i64 q2].toArray)] ((Rl.mk R.n R.nd q1 q2 [] none 0 [] none 0 0 0 Cm.zero [] none 0).cells).toArray ?_ ?_ ?_
        · simp only [List.map_toArray, List.map_cons, List.map_nil]; rfl
        · exact builtRl R.n R.nd q1 q2
        refine hK.out _ _ ⟨(rowCell Zr (0) rfl), (rowCell Zr (1) rfl), (rowAt Zn)⟩ (fun hH => ?_)
        clear hK K hH
        try simp only [Act.put, List.getElem_toArray, List.getElem_cons_zero, List.getElem_cons_succ, List.setIfInBounds_toArray, List.set_cons_zero, List.set_cons_succ]
        refine wpAnyH_take (i := 11) (v := .pointer (some ⟨r, 0, none⟩)) rfl (by kernel_rfl) (by kernel_rfl) (by kernel_rfl) (fun _ _ _ h => h) (Or.inl ⟨by rfl, fun w_ hS_ => by (first | (go_simp; done) | (go_simp; rfl))⟩) ⟨(rowCell Zr (0) rfl), (rowCell Zr (1) rfl), (rowAt Zn)⟩ ?_
        try simp only [Act.put, List.getElem_toArray, List.getElem_cons_zero, List.getElem_cons_succ, List.setIfInBounds_toArray, List.set_cons_zero, List.set_cons_succ]
        refine wpAnyH_ready (rs := [12]) (by kernel_rfl) (by simp) ?_
        refine AllReadyH.cons rfl (fun K hK => ?_) AllReadyH.nil
        rw [if_pos (by rfl)]
        refine wp_store_row 150 _ _ rfl (r) ((Rl.mk R.n R.nd q1 q2 [] none 0 [] none 0 0 0 Cm.zero [] none 0).cells).toArray rfl rfl 150 _ Zr sizeRld (by rfl) (Rl.one _) ?_
        have N_ := setRow_heap z10 (r) _ ((Rl.mk R.n R.nd q1 q2 [] none 0 [] none 0 0 0 Cm.zero [] none 0).cells).toArray _ _ Zr
        have hP := ogOwnR (cs := ((Rl.mk R.n R.nd q1 q2 [] none 0 [] none 0 0 0 Cm.zero [] none 0).cells).toArray) hP (ogKind hP Zr (by decide))
        have hL := ogOwnR (cs := ((Rl.mk R.n R.nd q1 q2 [] none 0 [] none 0 0 0 Cm.zero [] none 0).cells).toArray) hL (ogKind hL Zr (by decide))
        have hV := ogOwnR (cs := ((Rl.mk R.n R.nd q1 q2 [] none 0 [] none 0 0 0 Cm.zero [] none 0).cells).toArray) hV (ogKind hV Zr (by decide))
        have ee := belowSet (cs := ((Rl.mk R.n R.nd q1 q2 [] none 0 [] none 0 0 0 Cm.zero [] none 0).cells).toArray) ee Zr (by omega)
        have ff := ogRow (cs := ((Rl.mk R.n R.nd q1 q2 [] none 0 [] none 0 0 0 Cm.zero [] none 0).cells).toArray) (by first | (right; omega) | exact Or.inl (Or.inl rfl)) Zr ff
        have Zs := hpR Zs (g' := r) (by omega) ((Rl.mk R.n R.nd q1 q2 [] none 0 [] none 0 0 0 Cm.zero [] none 0).cells).toArray
        have Zo := hpR Zo (g' := r) (by omega) ((Rl.mk R.n R.nd q1 q2 [] none 0 [] none 0 0 0 Cm.zero [] none 0).cells).toArray
        have Zm := hpR Zm (g' := r) (by omega) ((Rl.mk R.n R.nd q1 q2 [] none 0 [] none 0 0 0 Cm.zero [] none 0).cells).toArray
        have Zn := hpR Zn (g' := r) (by omega) ((Rl.mk R.n R.nd q1 q2 [] none 0 [] none 0 0 0 Cm.zero [] none 0).cells).toArray
        clear Zr
        have Zr := N_
        clear N_
        generalize z10.setRow (r) ((Rl.mk R.n R.nd q1 q2 [] none 0 [] none 0 0 0 Cm.zero [] none 0).cells).toArray = z11 at Zr Zs Zo Zm Zn hP hL hV ee ff ⊢
        refine hK.out _ _ ⟨(rowCell Zr (0) rfl), (rowCell Zr (1) rfl), (rowAt Zn)⟩ (fun hH => ?_)
        clear hK K hH
        try simp only [Act.put, List.getElem_toArray, List.getElem_cons_zero, List.getElem_cons_succ, List.setIfInBounds_toArray, List.set_cons_zero, List.set_cons_succ]
        refine wpAnyH_done (by kernel_rfl) ?_ _
        go_upto_region 7 with fail
        refine wp_region_lit ?_
        iterate 27 (first | with_reducible refine isLoad (ty := 40) rfl ?_ | go_step)
        refine wpList_load_mid rfl 40 _ rfl (z6.heap.size) 0 rfl (([.int .u32 (q1 : Int), .int .i64 q2])) _ (rowAt Zn) Tryd.underlying40 rfl sizeRBal ?_
        iterate 27 (first | with_reducible refine isStore (ty := 40) rfl ?_ | go_step)
        refine wpList_store_row rfl 40 _ _ rfl (w.heap.size + 1) ([.int .u32 (q1 : Int), .int .i64 q2]).toArray rfl rfl 40 _ Zo sizeRBal (by rfl) (by simp [Value.oneCell']) ?_
        have N_ := setRow_heap z11 (w.heap.size + 1) _ ([.int .u32 (q1 : Int), .int .i64 q2]).toArray _ _ Zo
        have hP := ogOwnR (cs := ([.int .u32 (q1 : Int), .int .i64 q2]).toArray) hP (ogKind hP Zo (by decide))
        have hL := ogOwnR (cs := ([.int .u32 (q1 : Int), .int .i64 q2]).toArray) hL (ogKind hL Zo (by decide))
        have hV := ogOwnR (cs := ([.int .u32 (q1 : Int), .int .i64 q2]).toArray) hV (ogKind hV Zo (by decide))
        have ee := belowSet (cs := ([.int .u32 (q1 : Int), .int .i64 q2]).toArray) ee Zo (by omega)
        have ff := ogRow (cs := ([.int .u32 (q1 : Int), .int .i64 q2]).toArray) (by first | (right; omega) | exact Or.inl (Or.inl rfl)) Zo ff
        have Zr := hpR Zr (g' := w.heap.size + 1) (by omega) ([.int .u32 (q1 : Int), .int .i64 q2]).toArray
        have Zs := hpR Zs (g' := w.heap.size + 1) (by omega) ([.int .u32 (q1 : Int), .int .i64 q2]).toArray
        have Zm := hpR Zm (g' := w.heap.size + 1) (by omega) ([.int .u32 (q1 : Int), .int .i64 q2]).toArray
        have Zn := hpR Zn (g' := w.heap.size + 1) (by omega) ([.int .u32 (q1 : Int), .int .i64 q2]).toArray
        clear Zo
        have Zo := N_
        clear N_
        generalize z11.setRow (w.heap.size + 1) ([.int .u32 (q1 : Int), .int .i64 q2]).toArray = z12 at Zr Zs Zo Zm Zn hP hL hV ee ff ⊢
        go_wp2_with fail
        refine bodyPost_ret (v := .tuple #[bal q1 q2, .int .i64 0]) (res_ct rfl rfl rfl Zo Tryd.underlying40 rfl sizeRBal) rfl ⟨⟨_, _, _, rfl⟩, ⟨(Rl.mk R.n R.nd q1 q2 [] none 0 [] none 0 0 0 Cm.zero [] none 0), ⟨Zr, hBr, World.ownsRow_nil _ _ _ _, World.ownsRow_nil _ _ _ _, World.ownsRow_nil _ _ _ _, (fun g hg => by cases hg), Nat.zero_le _, Nat.zero_le _, Nat.zero_le _, (fun a ha => by cases ha), CmOk.zero, hq1, ⟨Int.le_refl _, by show (0 : Int) ≤ _; omega⟩, H.out.nn, Int.le_refl _⟩⟩, ff, ee⟩
      · have hq4 : (q3 == 0) = false := by simpa using hq3
        go_upto_region 7 with fail
        clear hq4
        refine wp_region_lit ?_
        iterate 27 (first | with_reducible refine isLoad (ty := 40) rfl ?_ | go_step)
        refine wpList_load_mid rfl 40 _ rfl (z6.heap.size) 0 rfl (([.int .u32 (q1 : Int), .int .i64 q2])) _ (rowAt Zn) Tryd.underlying40 rfl sizeRBal ?_
        iterate 27 (first | with_reducible refine isStore (ty := 40) rfl ?_ | go_step)
        refine wpList_store_row rfl 40 _ _ rfl (w.heap.size + 1) ([.int .u32 (q1 : Int), .int .i64 q2]).toArray rfl rfl 40 _ Zo sizeRBal (by rfl) (by simp [Value.oneCell']) ?_
        have N_ := setRow_heap z9 (w.heap.size + 1) _ ([.int .u32 (q1 : Int), .int .i64 q2]).toArray _ _ Zo
        have hP := ogOwnR (cs := ([.int .u32 (q1 : Int), .int .i64 q2]).toArray) hP (ogKind hP Zo (by decide))
        have hL := ogOwnR (cs := ([.int .u32 (q1 : Int), .int .i64 q2]).toArray) hL (ogKind hL Zo (by decide))
        have hV := ogOwnR (cs := ([.int .u32 (q1 : Int), .int .i64 q2]).toArray) hV (ogKind hV Zo (by decide))
        have ee := belowSet (cs := ([.int .u32 (q1 : Int), .int .i64 q2]).toArray) ee Zo (by omega)
        have ff := ogRow (cs := ([.int .u32 (q1 : Int), .int .i64 q2]).toArray) (by first | (right; omega) | exact Or.inl (Or.inl rfl)) Zo ff
        have Zr := hpR Zr (g' := w.heap.size + 1) (by omega) ([.int .u32 (q1 : Int), .int .i64 q2]).toArray
        have Zs := hpR Zs (g' := w.heap.size + 1) (by omega) ([.int .u32 (q1 : Int), .int .i64 q2]).toArray
        have Zm := hpR Zm (g' := w.heap.size + 1) (by omega) ([.int .u32 (q1 : Int), .int .i64 q2]).toArray
        have Zn := hpR Zn (g' := w.heap.size + 1) (by omega) ([.int .u32 (q1 : Int), .int .i64 q2]).toArray
        clear Zo
        have Zo := N_
        clear N_
        generalize z9.setRow (w.heap.size + 1) ([.int .u32 (q1 : Int), .int .i64 q2]).toArray = z10 at Zr Zs Zo Zm Zn hP hL hV ee ff ⊢
        go_wp2_with fail
        refine bodyPost_ret (v := .tuple #[bal q1 q2, .int .i64 q3]) (res_ct rfl rfl rfl Zo Tryd.underlying40 rfl sizeRBal) rfl ⟨⟨_, _, _, rfl⟩, ⟨R, (H.out.keepF ff ee Zr hP hL hV).more⟩, ff, ee⟩
set_option maxHeartbeats 6400000 in
theorem rvote (w : World) (B r t : Nat) (R : Rl) (k : Int) (br : Nat) (bn s : Int) (h : RlAt w B r t R) (ht : t ≤ 1000) : Calls Tryd.prog 87 #[.pointer (some ⟨r, 0, none⟩), .int .i64 k, bal br bn, .int .i64 s] w fun e w' => RetB e ∧ (∃ R', RlAt w' B r (t + 1) R') ∧ OgF w w' (RF r R) ∧ Below B w w' := by
  have hlr := h.lt
  have hBr := h.rB
  have hB : B ≤ w.heap.size := by omega
  obtain ⟨w0, hw0⟩ : ∃ w0, w0 = w.alloc (.cells [.int .u32 (br : Int), .int .i64 bn].toArray 40) := ⟨_, rfl⟩
  have ff : OgF w w0 (RF r R) := by rw [hw0]; exact (ogAlloc (OgF.refl _ _) _)
  have ee : Below B w w0 := by rw [hw0]; exact (((Below.refl _ _).alloc (Nat.le_refl _) _).mono hB)
  have Zr : w0.heap[r]? = some (.cells R.cells.toArray 150) := by rw [hw0]; exact (hpA h.blk _)
  have hP : w0.ownsRow B 3 1 (.slice R.PA R.ps.length R.pc) R.ps.length (iv R.ps) := by rw [hw0]; exact (h.pP.alloc _)
  have hL : w0.ownsRow B 43 16 (.slice R.LA R.l.length R.lc) R.l.length (acCells R.l) := by rw [hw0]; exact (h.pL.alloc _)
  have hV : w0.ownsRow B 3 1 (.slice R.VA R.vs.length R.vc) R.vs.length (iv R.vs) := by rw [hw0]; exact (h.pV.alloc _)
  have Zb : w0.heap[w.heap.size]? = some (.cells [.int .u32 (br : Int), .int .i64 bn].toArray 40) := by rw [hw0]; exact (hpN _ _ rfl)
  have H := Lib.hid h
  have hlv := h.lv
  have hap : (Value.slice R.PA R.ps.length R.pc).ownBlock = none ∨ (Value.slice R.PA R.ps.length R.pc).ownBlock ≠ (Value.slice R.VA R.vs.length R.vc).ownBlock := by
    cases hp : (Value.slice R.PA R.ps.length R.pc).ownBlock with
    | none => exact .inl rfl
    | some g => exact .inr fun e_ => h.ap g hp e_.symm
  have hI := run_neRBal br bn R.br R.bn
  generalize (!decide (br = R.br ∧ bn = R.bn)) = d1 at hI
  obtain ⟨i1, hi1, hz10, hz11, hz12⟩ := info_parts infoInt3
  have c0 := rowCell Zr 0 rfl
  have c2 := rowCell Zr 2 rfl
  have c3 := rowCell Zr 3 rfl
  have c7 := rowCell Zr 7 rfl
  have cv := rowCell Zr 18 rfl
  have b0 := rowCell Zb 0 rfl
  have b1 := rowCell Zb 1 rfl
  have HIN : Hid (∀ m, Calls Tryd.prog 116 #[.slice R.VA R.vs.length R.vc, .int .i64 k] (w0.drewN m) fun e w' => e = .returned (.bool (decide (k ∈ R.vs))) ∧ ∃ r, w' = w0.drewN r) := fun m => (rin B R.vc R.VA R.vs k (w0.drewN m) hV (by omega)).mono fun e w' q => ⟨q.1, m, q.2.symm⟩
  generalize decide (k ∈ R.vs) = d6 at HIN
  clear h
  go_enter Tryd.func87, Tryd.ntmps87
  go_upto_region 1 with fail
  change Code.wp _ _ _ _ (w.alloc (.cells [.int .u32 (br : Int), .int .i64 bn].toArray 40))
  rw [← hw0]
  clear hw0
  generalize h2 : (R.sl == 0) = d2
  generalize h3 : (s != R.sl) = d3
  generalize h4 : decide (k < 0) = d4
  generalize h5 : decide (R.n ≤ k) = d5
  cases d1 with
  | true =>
    go_quiet (fail)
    clear c0 c2 c3 c7 cv b0 b1 hI HIN h2 h3 h4 h5
    have Zr : (w0.drewN nq).heap[r]? = some (.cells R.cells.toArray 150) := Zr
    have Zb : (w0.drewN nq).heap[w.heap.size]? = some (.cells [.int .u32 (br : Int), .int .i64 bn].toArray 40) := Zb
    have hP : (w0.drewN nq).ownsRow _ _ _ _ _ _ := hP
    have hL : (w0.drewN nq).ownsRow _ _ _ _ _ _ := hL
    have hV : (w0.drewN nq).ownsRow _ _ _ _ _ _ := hV
    have ee := belowDrewN ee nq
    have ff := ogDrewN ff nq
    generalize w0.drewN nq = z1 at Zr Zb hP hL hV ee ff ⊢
    go_wp2_with fail
    go_ret
    exact ⟨RetB.mk _, ⟨R, (H.out.keepF ff ee Zr hP hL hV).more⟩, ff, ee⟩
  | false =>
    cases d2 with
    | true =>
      go_quiet (fail)
      clear c0 c2 c3 c7 cv b0 b1 hI HIN h2 h3 h4 h5
      have Zr : (w0.drewN nq).heap[r]? = some (.cells R.cells.toArray 150) := Zr
      have Zb : (w0.drewN nq).heap[w.heap.size]? = some (.cells [.int .u32 (br : Int), .int .i64 bn].toArray 40) := Zb
      have hP : (w0.drewN nq).ownsRow _ _ _ _ _ _ := hP
      have hL : (w0.drewN nq).ownsRow _ _ _ _ _ _ := hL
      have hV : (w0.drewN nq).ownsRow _ _ _ _ _ _ := hV
      have ee := belowDrewN ee nq
      have ff := ogDrewN ff nq
      generalize w0.drewN nq = z1 at Zr Zb hP hL hV ee ff ⊢
      go_wp2_with fail
      go_ret
      exact ⟨RetB.mk _, ⟨R, (H.out.keepF ff ee Zr hP hL hV).more⟩, ff, ee⟩
    | false =>
      cases d3 with
      | true =>
        go_quiet (fail)
        clear c0 c2 c3 c7 cv b0 b1 hI HIN h2 h3 h4 h5
        have Zr : (w0.drewN nq).heap[r]? = some (.cells R.cells.toArray 150) := Zr
        have Zb : (w0.drewN nq).heap[w.heap.size]? = some (.cells [.int .u32 (br : Int), .int .i64 bn].toArray 40) := Zb
        have hP : (w0.drewN nq).ownsRow _ _ _ _ _ _ := hP
        have hL : (w0.drewN nq).ownsRow _ _ _ _ _ _ := hL
        have hV : (w0.drewN nq).ownsRow _ _ _ _ _ _ := hV
        have ee := belowDrewN ee nq
        have ff := ogDrewN ff nq
        generalize w0.drewN nq = z1 at Zr Zb hP hL hV ee ff ⊢
        go_wp2_with fail
        go_ret
        exact ⟨RetB.mk _, ⟨R, (H.out.keepF ff ee Zr hP hL hV).more⟩, ff, ee⟩
      | false =>
        cases d4 with
        | true =>
          go_quiet (fail)
          clear c0 c2 c3 c7 cv b0 b1 hI HIN h2 h3 h4 h5
          have Zr : (w0.drewN nq).heap[r]? = some (.cells R.cells.toArray 150) := Zr
          have Zb : (w0.drewN nq).heap[w.heap.size]? = some (.cells [.int .u32 (br : Int), .int .i64 bn].toArray 40) := Zb
          have hP : (w0.drewN nq).ownsRow _ _ _ _ _ _ := hP
          have hL : (w0.drewN nq).ownsRow _ _ _ _ _ _ := hL
          have hV : (w0.drewN nq).ownsRow _ _ _ _ _ _ := hV
          have ee := belowDrewN ee nq
          have ff := ogDrewN ff nq
          generalize w0.drewN nq = z1 at Zr Zb hP hL hV ee ff ⊢
          go_wp2_with fail
          go_ret
          exact ⟨RetB.mk _, ⟨R, (H.out.keepF ff ee Zr hP hL hV).more⟩, ff, ee⟩
        | false =>
          cases d5 with
          | true =>
            go_quiet (fail)
            clear c0 c2 c3 c7 cv b0 b1 hI HIN h2 h3 h4 h5
            have Zr : (w0.drewN nq).heap[r]? = some (.cells R.cells.toArray 150) := Zr
            have Zb : (w0.drewN nq).heap[w.heap.size]? = some (.cells [.int .u32 (br : Int), .int .i64 bn].toArray 40) := Zb
            have hP : (w0.drewN nq).ownsRow _ _ _ _ _ _ := hP
            have hL : (w0.drewN nq).ownsRow _ _ _ _ _ _ := hL
            have hV : (w0.drewN nq).ownsRow _ _ _ _ _ _ := hV
            have ee := belowDrewN ee nq
            have ff := ogDrewN ff nq
            generalize w0.drewN nq = z1 at Zr Zb hP hL hV ee ff ⊢
            go_wp2_with fail
            go_ret
            exact ⟨RetB.mk _, ⟨R, (H.out.keepF ff ee Zr hP hL hV).more⟩, ff, ee⟩
          | false =>
            cases d6 with
            | true =>
              go_quiet ((go_at_call 116; exact HIN.out _))
              clear c0 c2 c3 c7 cv b0 b1 hI HIN h2 h3 h4 h5
              have Zr : (w0.drewN nq).heap[r]? = some (.cells R.cells.toArray 150) := Zr
              have Zb : (w0.drewN nq).heap[w.heap.size]? = some (.cells [.int .u32 (br : Int), .int .i64 bn].toArray 40) := Zb
              have hP : (w0.drewN nq).ownsRow _ _ _ _ _ _ := hP
              have hL : (w0.drewN nq).ownsRow _ _ _ _ _ _ := hL
              have hV : (w0.drewN nq).ownsRow _ _ _ _ _ _ := hV
              have ee := belowDrewN ee nq
              have ff := ogDrewN ff nq
              generalize w0.drewN nq = z1 at Zr Zb hP hL hV ee ff ⊢
              go_wp2_with fail
              go_ret
              exact ⟨RetB.mk _, ⟨R, (H.out.keepF ff ee Zr hP hL hV).more⟩, ff, ee⟩
            | false =>
              go_quiet ((go_at_call 116; exact HIN.out _))
              clear c0 c2 c3 c7 cv b0 b1 hI HIN h2 h3 h4 h5
              have Zr : (w0.drewN nq).heap[r]? = some (.cells R.cells.toArray 150) := Zr
              have Zb : (w0.drewN nq).heap[w.heap.size]? = some (.cells [.int .u32 (br : Int), .int .i64 bn].toArray 40) := Zb
              have hP : (w0.drewN nq).ownsRow _ _ _ _ _ _ := hP
              have hL : (w0.drewN nq).ownsRow _ _ _ _ _ _ := hL
              have hV : (w0.drewN nq).ownsRow _ _ _ _ _ _ := hV
              have ee := belowDrewN ee nq
              have ff := ogDrewN ff nq
              generalize w0.drewN nq = z1 at Zr Zb hP hL hV ee ff ⊢
              go_upto_region 3 with fail
              refine wp_region_lit ?_
              have cv := rowCell Zr 18 rfl
              iterate 18 go_step
              refine wpList_buildSlice rfl 61 3 1 #[(0, .tmp 55)] rfl #[.int .i64 k] i1 (.int .i64 0) Tryd.underlying61 hi1 hz10 (by rw [hz11]; decide) (by rw [hz11]; decide) (by rw [hz11]; simp only [List.map_toArray, List.map_cons, List.map_nil]; exact fillI _ _ (by simp)) ?_
              have lZr := (Array.getElem?_eq_some_iff.1 Zr).1
              have lZb := (Array.getElem?_eq_some_iff.1 Zb).1
              have sz_ := ff.size
              have ne_hP_Zm : (Value.slice R.PA R.ps.length R.pc).ownBlock ≠ some (z1.heap.size) := fun hb_ => by have hh_ := (hP.lt _ hb_).2; omega
              have ne_hV_Zm : (Value.slice R.VA R.vs.length R.vc).ownBlock ≠ some (z1.heap.size) := fun hb_ => by have hh_ := (hV.lt _ hb_).2; omega
              have Zr := hpA Zr (.cells ([.int .i64 k]).toArray 3)
              have Zb := hpA Zb (.cells ([.int .i64 k]).toArray 3)
              have hP := hP.alloc (.cells ([.int .i64 k]).toArray 3)
              have hL := hL.alloc (.cells ([.int .i64 k]).toArray 3)
              have hV := hV.alloc (.cells ([.int .i64 k]).toArray 3)
              have ee := ee.alloc (Nat.le_trans hB ee.size) (.cells ([.int .i64 k]).toArray 3)
              have ff := ogAlloc ff (.cells ([.int .i64 k]).toArray 3)
              have Zm := hpN z1 (.cells ([.int .i64 k]).toArray 3) rfl
              generalize z1.alloc (.cells ([.int .i64 k]).toArray 3) = z2 at Zr Zb Zm hP hL hV ee ff ⊢
              refine wpList_append_ownW _ rfl (.tmp 54) (.tmp 56) 61 rfl B 3 i1 (.int .i64 0) 1 8 Tryd.underlying61 hi1 hz10 hz11 hz12 rfl (by decide) _ _ _ rfl hV ⟨z1.heap.size, 0, none⟩ 1 1 ([.int .i64 k]) rfl rfl (ogRowAdd Zm) (by simp [Value.oneCell']) (by unfold maxLen; omega) (by omega) (Nat.le_trans hB ff.size) ?_
              intro u_ z3 ho_ hg_ hw_
              have hw_ : ∀ g_, u_.ownBlock = some g_ → (Value.slice R.VA R.vs.length R.vc).ownBlock = some g_ ∨ w.heap.size ≤ g_ := fun g_ e_ => by
                rcases hw_ with h_ | h_ | h_
                · rw [h_] at e_; cases e_
                · have h2_ : u_.ownBlock = (Value.slice R.VA R.vs.length R.vc).ownBlock := h_
                  left; rw [← h2_]; exact e_
                · right; rw [h_] at e_; injection e_ with e_; have := ff.size; omega
              clear Zm
              clear Zb
              have Zr := ogHeap Zr hV (by decide) hg_
              have hP := hP.kept hg_ hap
              have hL := hL.kept hg_ (own_ne hV hL (by decide))
              have ee := ee.grown hg_ (Nat.le_trans hB ee.size) (fun g_ hg2_ => by have hh_ := (hV.lt g_ hg2_).1; omega)
              have ff := ogOwnE ff hg_ (fun i_ hi_ => by have hh_ := (hV.lt i_ hi_).1; first | exact Or.inl (Or.inr hi_) | exact Or.inl (Or.inr (Or.inl hi_)) | exact Or.inl (Or.inr (Or.inr (Or.inl hi_))) | exact Or.inl (Or.inr (Or.inr (Or.inr hi_))) | (right; omega) | (left; first | rfl | omega))
              clear hg_ hV
              obtain ⟨A9, c9, hu9, hc9, _, _⟩ := ownShape ho_
              subst hu9
              have hV := ho_
              clear ho_
              clear cv
              have hV : z3.ownsRow B 3 1 (.slice A9 (R.vs ++ [k]).length c9) (R.vs ++ [k]).length (iv (R.vs ++ [k])) := by rw [List.length_append, List.length_singleton, iv_snoc]; exact hV
              have hw_ : ∀ g_, (Value.slice A9 (R.vs ++ [k]).length c9).ownBlock = some g_ → (Value.slice R.VA R.vs.length R.vc).ownBlock = some g_ ∨ w.heap.size ≤ g_ := by rw [List.length_append, List.length_singleton]; exact hw_
              iterate 40 (first | with_reducible refine isStore (ty := 61) rfl ?_ | go_step)
              have f_ : z3.frozen? ⟨r, 18, none⟩ = false := freeAt Zr (18)
              have c_ := rowCell Zr (18) rfl
              iterate 3 go_step
              clear f_ c_
              have N_ : (z3.setCells (r) (18) ([.slice A9 (R.vs.length + 1) c9])).heap[r]? = some (.cells ((Rl.mk R.n R.nd R.br R.bn R.ps R.PA R.pc R.l R.LA R.lc R.af R.sl R.x (R.vs ++ [k]) A9 c9).cells).toArray 150) := (by rw [show ((Rl.mk R.n R.nd R.br R.bn R.ps R.PA R.pc R.l R.LA R.lc R.af R.sl R.x (R.vs ++ [k]) A9 c9).cells) = putAt R.cells 18 [.slice A9 (R.vs.length + 1) c9] by simp only [T.Rl.cells, List.length_append, List.length_singleton]; rfl]; exact hpC _ _ _ _ Zr)
              have hP := ogOwnC hP (ogKind hP Zr (by decide)) ([.slice A9 (R.vs.length + 1) c9]) (18)
              have hL := ogOwnC hL (ogKind hL Zr (by decide)) ([.slice A9 (R.vs.length + 1) c9]) (18)
              have hV := ogOwnC hV (ogKind hV Zr (by decide)) ([.slice A9 (R.vs.length + 1) c9]) (18)
              have ee := belowC (g := r) (by omega) ([.slice A9 (R.vs.length + 1) c9]) (18) z3 ee
              have ff := ogCells (k := r) (by first | (right; omega) | exact Or.inl (Or.inl rfl)) ([.slice A9 (R.vs.length + 1) c9]) (18) z3 ff
              clear Zr
              have Zr := N_
              clear N_
              change wpList _ _ _ _ _ (z3.setCells (r) (18) ([.slice A9 (R.vs.length + 1) c9]))
              generalize z3.setCells (r) (18) ([.slice A9 (R.vs.length + 1) c9]) = z4 at Zr hP hL hV ee ff ⊢
              generalize hvn : R.vs ++ [k] = vn at Zr hV hw_
              have hvl : vn.length ≤ t + 1 := by rw [← hvn, List.length_append, List.length_singleton]; omega
              clear hvn
              go_upto_region 4 with fail
              have c0 := rowCell Zr 0 rfl
              have cv := rowCell Zr 18 rfl
              have hn3 := H.out.nn
              rw [hn3] at c0
              have kk : IntKind.i64.wrap ((3 : Int).tdiv 2 + 1) = 2 := by decide
              go_quiet (fail)
              clear c0 cv kk
              have Zr : (z4.drewN nq).heap[r]? = some (.cells (Rl.mk R.n R.nd R.br R.bn R.ps R.PA R.pc R.l R.LA R.lc R.af R.sl R.x vn A9 c9).cells.toArray 150) := Zr
              have hP : (z4.drewN nq).ownsRow _ _ _ _ _ _ := hP
              have hL : (z4.drewN nq).ownsRow _ _ _ _ _ _ := hL
              have hV : (z4.drewN nq).ownsRow _ _ _ _ _ _ := hV
              have ee := belowDrewN ee nq
              have ff := ogDrewN ff nq
              generalize z4.drewN nq = z5 at Zr hP hL hV ee ff ⊢
              go_wp2_with fail
              go_ret
              refine ⟨RetB.mk _, ⟨(Rl.mk R.n R.nd R.br R.bn R.ps R.PA R.pc R.l R.LA R.lc R.af R.sl R.x vn A9 c9), ⟨Zr, hBr, hP, hL, hV, fun g hg hv => ?_, by have := H.out.lp; show R.ps.length ≤ _; omega, by have := H.out.ll; show R.l.length ≤ _; omega, hvl, fun a ha => (H.out.cl a ha).below ee (Nat.le_refl _), H.out.cx.below ee (Nat.le_refl _), H.out.b4, H.out.sr, H.out.nn, H.out.af⟩⟩, ff, ee⟩
              rcases hw_ g hv with q | q
              · exact H.out.ap g hg q
              · have := (H.out.pP.lt g hg).2; omega
end Go.Proofs.YtbahooohkigcnaaDoor
