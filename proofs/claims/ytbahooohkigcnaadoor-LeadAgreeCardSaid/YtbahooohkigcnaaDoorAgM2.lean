/- How a crew of parishlaw19 lies in memory, and what is kept over steps. No condition. -/
import Derived.Test.YtbahooohkigcnaaDoorAgM1
import Derived.Test.YtbahooohkigcnaaDoorRowLaws
import Derived.Great.BuildSlice
namespace Go.Proofs.YtbahooohkigcnaaDoor
set_option maxRecDepth 20000
open Go.RowKit T
set_option linter.unusedSimpArgs false
set_option linter.unusedVariables false

namespace T
def Ld.votes (L : Ld) (k : Int) (r : Nat) (n s : Int) : Bool := decide (r = L.br ∧ n = L.bn) && !decide (L.sl = 0) && decide (s = L.sl) && decide (0 ≤ k) && decide (k < L.n) && !Q.hasB L.vt k
def Ld.vote (L : Ld) (k : Int) (r : Nat) (n s : Int) : Ld := bif L.votes k r n s then { L with vt := Q.addN L.vt k } else L
def Ld.dones (L : Ld) : Bool := !decide (L.sl = 0) && Q.majB L.vt L.n
def Ld.done (L : Ld) : Ld := bif L.dones then { L with fs := L.sl + 1, sl := 0, x := Cm.zero, l := [], A := none, c := 0 } else L
end T
theorem run_neBal (r : Nat) (n : Int) (r' : Nat) (n' : Int) (w : World) :
    (binOp .neq 28 (.agg #[.int .u32 r, .int .i64 n]) (.agg #[.int .u32 r', .int .i64 n'])).run Tryd.prog w = .ok (.bool (!decide (r = r' ∧ n = n'))) w := by
  rw [run_neq_struct, show (10000 : Nat) = 9998 + 2 from rfl, B.eqBal]; rfl
section
variable (w : World) (h : Nat) (L : Ld)
set_option maxHeartbeats 1600000 in
theorem lleads (hL : LdAt w h L) (hp : L.pr < 18446744073709551616) : Calls Tryd.prog 47 #[.pointer (some ⟨h, 0, none⟩)] w fun e w' => e = .returned (.bool (Q.majB L.pr L.n)) ∧ ∃ m, w' = w.drewN m := by
  have c0 := rowCell hL 0 rfl
  have c4 := rowCell hL 4 rfl
  have HQ := Lib.hid (Ld.leads_q L.pr L.n hp w)
  clear hL hp
  go_enter Tryd.func47, Tryd.ntmps47
  go_wp2_with fail
  go_quiet ((go_at_call 82; exact HQ.out _))
  go_wp2_with fail
  go_ret
  exact ⟨rfl, _, rfl⟩
end
section
variable (w : World) (h : Nat) (L : Ld)
set_option maxHeartbeats 3200000 in
theorem ldone (hL : LdAt w h L) (hv : L.vt < 18446744073709551616) (h1 : 0 ≤ L.sl) (h2 : L.sl ≤ 1000000) : Calls Tryd.prog 39 #[.pointer (some ⟨h, 0, none⟩)] w fun e w' => e = .returned (.bool L.dones) ∧ LdAt w' h L.done ∧ w.grownBy w' (some h) := by
  have HQ := Lib.hid (Ld.leads_q L.vt L.n hv w)
  have HD : Hid (L.done = bif L.dones then { L with fs := L.sl + 1, sl := 0, x := Cm.zero, l := [], A := none, c := 0 } else L) := rfl
  have HE : Hid (L.dones = (!decide (L.sl = 0) && Q.majB L.vt L.n)) := rfl
  generalize L.done = Ln at HD ⊢
  generalize L.dones = b at HD HE ⊢
  by_cases h0 : L.sl = 0
  · have hb : b = false := by rw [HE.out, decide_eq_true h0]; rfl
    subst hb
    have hl : Ln = L := HD.out
    have c7 := rowCell hL 7 (v := .int .i64 0) (by rw [← h0]; rfl)
    have HL := Lib.hid hL
    clear hL HQ HE HD hv h0 h1 h2
    go_enter Tryd.func39, Tryd.ntmps39
    go_wp2_with fail
    go_quiet (fail)
    go_wp2_with fail
    go_ret
    rw [hl]
    exact ⟨rfl, HL.out, lgDrewN (lgRefl _ _) _⟩
  · have c7 := rowCell hL 7 rfl
    have c0 := rowCell hL 0 rfl
    have cv := rowCell hL 18 rfl
    have e7 : (L.sl == 0) = false := by simp; exact h0
    have HL := Lib.hid hL
    have kw : IntKind.i64.wrap (L.sl + 1) = L.sl + 1 := by rw [IntKind.wrap_i64]; omega
    have HE2 : Hid (b = Q.majB L.vt L.n) := by show _ = _; rw [HE.out, decide_eq_false h0]; rfl
    clear HE hv h0 h1 h2
    generalize Q.majB L.vt L.n = m at HQ HE2
    have hbm : b = m := HE2.out
    subst hbm
    clear HE2
    cases b with
    | false =>
      have hl : Ln = L := HD.out
      clear hL HD kw
      go_enter Tryd.func39, Tryd.ntmps39
      go_wp2_with fail
      go_quiet ((go_at_call 82; exact HQ.out _))
      go_wp2_with fail
      go_ret
      rw [hl]
      exact ⟨rfl, HL.out, lgDrewN (lgRefl _ _) _⟩
    | true =>
      have hl : Hid (Ln = { L with fs := L.sl + 1, sl := 0, x := Cm.zero, l := [], A := none, c := 0 }) := HD.out
      have Zl : w.heap[h]? = some (.cells L.cells.toArray 144) := hL
      have ee := lgRefl w h
      clear hL HD HL
      go_enter Tryd.func39, Tryd.ntmps39
      go_wp2_with fail
      go_quiet ((go_at_call 82; exact HQ.out _))
      clear c7 c0 cv e7
      have Zl : (w.drewN nq).heap[h]? = some (.cells L.cells.toArray 144) := Zl
      have ee := lgDrewN ee nq
      generalize w.drewN nq = z1 at Zl ee ⊢
      go_upto_region 3 with fail
      refine wp_region_lit ?_
      have c7 := rowCell Zl 7 rfl
      iterate 40 (first | with_reducible refine isStore (ty := 3) rfl ?_ | go_step)
      have f_ : z1.frozen? ⟨h, 6, none⟩ = false := freeAt Zl 6
      have c_ := rowCell Zl 6 rfl
      iterate 3 go_step
      clear f_ c_
      have N_ : (z1.setCells (h) 6 ([.int .i64 (L.sl + 1)])).heap[h]? = some (.cells ([.int .i64 L.n, .int .i64 L.nd, .int .u32 (L.br : Int), .int .i64 L.bn, .int .u64 (L.pr : Int), .slice L.A L.l.length L.c, .int .i64 (L.sl + 1), .int .i64 L.sl, .int .i64 L.x.k, .int .i64 L.x.s, .int .i64 L.x.q, .slice L.x.A1 L.x.rs.length L.x.c1, .slice L.x.A2 L.x.ws.length L.x.c2, .int .i64 L.x.i, .int .i64 L.x.j, .int .i64 L.x.g, .int .u64 (L.x.st : Int), .bool L.x.y, .int .u64 (L.vt : Int)]).toArray 144) := hpC ([.int .i64 (L.sl + 1)]) 6 _ z1 Zl
      have ee := lgCells (k := h) (by omega) ([.int .i64 (L.sl + 1)]) 6 z1 ee
      clear Zl
      have Zl := N_
      clear N_
      change wpList _ _ _ _ _ (z1.setCells (h) 6 ([.int .i64 (L.sl + 1)]))
      generalize z1.setCells (h) 6 ([.int .i64 (L.sl + 1)]) = z2 at Zl ee ⊢
      clear c7 kw
      iterate 40 (first | with_reducible refine isStore (ty := 3) rfl ?_ | go_step)
      have f_ : z2.frozen? ⟨h, 7, none⟩ = false := freeAt Zl 7
      have c_ := rowCell Zl 7 rfl
      iterate 3 go_step
      clear f_ c_
      have N_ : (z2.setCells (h) 7 ([.int .i64 0])).heap[h]? = some (.cells ([.int .i64 L.n, .int .i64 L.nd, .int .u32 (L.br : Int), .int .i64 L.bn, .int .u64 (L.pr : Int), .slice L.A L.l.length L.c, .int .i64 (L.sl + 1), .int .i64 0, .int .i64 L.x.k, .int .i64 L.x.s, .int .i64 L.x.q, .slice L.x.A1 L.x.rs.length L.x.c1, .slice L.x.A2 L.x.ws.length L.x.c2, .int .i64 L.x.i, .int .i64 L.x.j, .int .i64 L.x.g, .int .u64 (L.x.st : Int), .bool L.x.y, .int .u64 (L.vt : Int)]).toArray 144) := hpC ([.int .i64 0]) 7 _ z2 Zl
      have ee := lgCells (k := h) (by omega) ([.int .i64 0]) 7 z2 ee
      clear Zl
      have Zl := N_
      clear N_
      change wpList _ _ _ _ _ (z2.setCells (h) 7 ([.int .i64 0]))
      generalize z2.setCells (h) 7 ([.int .i64 0]) = z3 at Zl ee ⊢
      iterate 40 (first | with_reducible refine isStore (ty := 37) rfl ?_ | go_step)
      refine wpList_store_mid rfl 37 _ _ rfl (h) 8 (Cm.zero.cells).toArray rfl rfl (rowThere Zl (by simp [T.Ld.cells, T.Cm.cells])) sizeCm (Cm.one _) ?_
      have N_ : (z3.setCells (h) 8 (Cm.zero.cells)).heap[h]? = some (.cells ([.int .i64 L.n, .int .i64 L.nd, .int .u32 (L.br : Int), .int .i64 L.bn, .int .u64 (L.pr : Int), .slice L.A L.l.length L.c, .int .i64 (L.sl + 1), .int .i64 0, .int .i64 0, .int .i64 0, .int .i64 0, .slice none 0 0, .slice none 0 0, .int .i64 0, .int .i64 0, .int .i64 0, .int .u64 0, .bool false, .int .u64 (L.vt : Int)]).toArray 144) := hpC (Cm.zero.cells) 8 _ z3 Zl
      have ee := lgCells (k := h) (by omega) (Cm.zero.cells) 8 z3 ee
      clear Zl
      have Zl := N_
      clear N_
      change wpList _ _ _ _ _ (z3.setCells (h) 8 (Cm.zero.cells))
      generalize z3.setCells (h) 8 (Cm.zero.cells) = z4 at Zl ee ⊢
      iterate 40 (first | with_reducible refine isStore (ty := 22) rfl ?_ | go_step)
      have f_ : z4.frozen? ⟨h, 5, none⟩ = false := freeAt Zl 5
      have c_ := rowCell Zl 5 rfl
      iterate 3 go_step
      clear f_ c_
      have N_ : (z4.setCells (h) 5 ([.slice none 0 0])).heap[h]? = some (.cells ([.int .i64 L.n, .int .i64 L.nd, .int .u32 (L.br : Int), .int .i64 L.bn, .int .u64 (L.pr : Int), .slice none 0 0, .int .i64 (L.sl + 1), .int .i64 0, .int .i64 0, .int .i64 0, .int .i64 0, .slice none 0 0, .slice none 0 0, .int .i64 0, .int .i64 0, .int .i64 0, .int .u64 0, .bool false, .int .u64 (L.vt : Int)]).toArray 144) := hpC ([.slice none 0 0]) 5 _ z4 Zl
      have ee := lgCells (k := h) (by omega) ([.slice none 0 0]) 5 z4 ee
      clear Zl
      have Zl := N_
      clear N_
      change wpList _ _ _ _ _ (z4.setCells (h) 5 ([.slice none 0 0]))
      generalize z4.setCells (h) 5 ([.slice none 0 0]) = z5 at Zl ee ⊢
      go_wp2_with fail
      go_ret
      rw [hl.out]
      exact ⟨rfl, Zl, ee⟩
end
section
variable (w : World) (h : Nat) (L : Ld) (k : Int) (r : Nat) (n s : Int)
set_option maxHeartbeats 6400000 in
theorem lvote_no (hL : LdAt w h L) (hv : L.vt < 18446744073709551616) (hf : L.votes k r n s = false) : Calls Tryd.prog 38 #[.pointer (some ⟨h, 0, none⟩), .int .i64 k, bal r n, .int .i64 s] w fun e w' => e = .returned (.bool false) ∧ Below w.heap.size w w' := by
  have hlt : h < w.heap.size := (Array.getElem?_eq_some_iff.1 hL).1
  have HQ := Lib.hid (fun z => Ld.has_q L.vt k hv z)
  have hI := run_neBal r n L.br L.bn
  have HF : Hid ((decide (r = L.br ∧ n = L.bn) && !decide (L.sl = 0) && decide (s = L.sl) && decide (0 ≤ k) && decide (k < L.n) && !Q.hasB L.vt k) = false) := hf
  obtain ⟨w0, hw0⟩ : ∃ w0, w0 = w.alloc (.cells [.int .u32 (r : Int), .int .i64 n].toArray 28) := ⟨_, rfl⟩
  have ee : Below w.heap.size w w0 := by rw [hw0]; exact (Below.refl _ _).alloc (Nat.le_refl _) _
  have Zl : w0.heap[h]? = some (.cells L.cells.toArray 144) := by rw [hw0]; exact hpA hL _
  have Zb : w0.heap[w.heap.size]? = some (.cells [.int .u32 (r : Int), .int .i64 n].toArray 28) := by rw [hw0]; exact hpN _ _ rfl
  have c0 := rowCell Zl 0 rfl
  have c2 := rowCell Zl 2 rfl
  have c3 := rowCell Zl 3 rfl
  have c7 := rowCell Zl 7 rfl
  have cv := rowCell Zl 18 rfl
  have b0 := rowCell Zb 0 rfl
  have b1 := rowCell Zb 1 rfl
  have HQ := Lib.hid (HQ.out w0)
  clear hL hv hf Zl Zb hlt
  go_enter Tryd.func38, Tryd.ntmps38
  go_upto_region 1 with fail
  change Code.wp _ _ _ _ (w.alloc (.cells [.int .u32 (r : Int), .int .i64 n].toArray 28))
  rw [← hw0]
  clear hw0
  by_cases h1 : r = L.br ∧ n = L.bn
  · rw [decide_eq_true h1] at hI
    by_cases h2 : L.sl = 0
    · rw [h2] at c7
      clear HQ HF h1
      go_quiet (fail)
      go_wp2_with fail
      go_ret
      exact ⟨rfl, belowDrewN ee _⟩
    · have e2 : (L.sl == 0) = false := by simp; exact h2
      by_cases h3 : s = L.sl
      · have e3 : (s != L.sl) = false := by simp; exact h3
        by_cases h4 : 0 ≤ k
        · have e4 : decide (k < 0) = false := decide_eq_false (by omega)
          by_cases h5 : k < L.n
          · have e5 : decide (L.n ≤ k) = false := decide_eq_false (by omega)
            have h6 : Q.hasB L.vt k = true := by
              have := HF.out
              simpa [h1, h2, h3, h4, h5] using this
            rw [h6] at HQ
            clear HF h1 h2 h3 h4 h5 h6
            go_quiet ((go_at_call 80; exact HQ.out _))
            go_wp2_with fail
            go_ret
            exact ⟨rfl, belowDrewN ee _⟩
          · have e5 : decide (L.n ≤ k) = true := decide_eq_true (by omega)
            clear HQ HF h1 h2 h3 h4 h5
            go_quiet (fail)
            go_wp2_with fail
            go_ret
            exact ⟨rfl, belowDrewN ee _⟩
        · have e4 : decide (k < 0) = true := decide_eq_true (by omega)
          clear HQ HF h1 h2 h3 h4
          go_quiet (fail)
          go_wp2_with fail
          go_ret
          exact ⟨rfl, belowDrewN ee _⟩
      · have e3 : (s != L.sl) = true := by simp; exact h3
        clear HQ HF h1 h2 h3
        go_quiet (fail)
        go_wp2_with fail
        go_ret
        exact ⟨rfl, belowDrewN ee _⟩
  · rw [decide_eq_false h1] at hI
    clear HQ HF h1
    go_quiet (fail)
    go_wp2_with fail
    go_ret
    exact ⟨rfl, belowDrewN ee _⟩
set_option maxHeartbeats 6400000 in
theorem lvote_yes (hL : LdAt w h L) (hv : L.vt < 18446744073709551616) (hf : L.votes k r n s = true) : Calls Tryd.prog 38 #[.pointer (some ⟨h, 0, none⟩), .int .i64 k, bal r n, .int .i64 s] w fun e w' => e = .returned (.bool (!Q.majB L.vt L.n && Q.majB (Q.addN L.vt k) L.n)) ∧ LdAt w' h (L.vote k r n s) ∧ w.grownBy w' (some h) := by
  have hlt : h < w.heap.size := (Array.getElem?_eq_some_iff.1 hL).1
  have HQ := Lib.hid (fun z => Ld.has_q L.vt k hv z)
  have HM := Lib.hid (fun z => Ld.leads_q L.vt L.n hv z)
  have HM2 := Lib.hid (fun z => Ld.leads_q (Q.addN L.vt k) L.n (Q.add_lt _ _ hv) z)
  have HA := Lib.hid (fun z => add_any L.vt k z hv)
  have hI := run_neBal r n L.br L.bn
  have HS : Hid (L.vote k r n s = { L with vt := Q.addN L.vt k }) := by show _ = _; unfold Ld.vote; rw [hf]; rfl
  obtain ⟨⟨⟨⟨⟨h1, h2⟩, h3⟩, h4⟩, h5⟩, h6⟩ : ((((decide (r = L.br ∧ n = L.bn) = true ∧ (!decide (L.sl = 0)) = true) ∧ decide (s = L.sl) = true) ∧ decide (0 ≤ k) = true) ∧ decide (k < L.n) = true) ∧ (!Q.hasB L.vt k) = true := by
    simpa only [Ld.votes, Bool.and_eq_true] using hf
  rw [h1] at hI
  rw [Bool.not_eq_true'] at h2 h6
  rw [h6] at HQ
  have e2 : (L.sl == 0) = false := by have := of_decide_eq_false h2; simp; exact this
  have e3 : (s != L.sl) = false := by have := of_decide_eq_true h3; simp; exact this
  have e4 : decide (k < 0) = false := decide_eq_false (by have := of_decide_eq_true h4; omega)
  have e5 : decide (L.n ≤ k) = false := decide_eq_false (by have := of_decide_eq_true h5; omega)
  clear h1 h2 h3 h4 h5 h6 hf hv
  generalize L.vote k r n s = Ln at HS ⊢
  obtain ⟨R, hR⟩ : ∃ R, R = (!Q.majB L.vt L.n && Q.majB (Q.addN L.vt k) L.n) := ⟨_, rfl⟩
  rw [← hR]
  have HR := Lib.hid hR
  clear hR
  obtain ⟨w0, hw0⟩ : ∃ w0, w0 = w.alloc (.cells [.int .u32 (r : Int), .int .i64 n].toArray 28) := ⟨_, rfl⟩
  have ee : w.grownBy w0 (some h) := by rw [hw0]; exact lgAlloc (lgRefl _ _) _
  have Zl : w0.heap[h]? = some (.cells L.cells.toArray 144) := by rw [hw0]; exact hpA hL _
  have Zb : w0.heap[w.heap.size]? = some (.cells [.int .u32 (r : Int), .int .i64 n].toArray 28) := by rw [hw0]; exact hpN _ _ rfl
  have c0 := rowCell Zl 0 rfl
  have c2 := rowCell Zl 2 rfl
  have c3 := rowCell Zl 3 rfl
  have c7 := rowCell Zl 7 rfl
  have cv := rowCell Zl 18 rfl
  have b0 := rowCell Zb 0 rfl
  have b1 := rowCell Zb 1 rfl
  have HQ := Lib.hid (HQ.out w0)
  clear hL hlt Zb
  go_enter Tryd.func38, Tryd.ntmps38
  go_upto_region 1 with fail
  change Code.wp _ _ _ _ (w.alloc (.cells [.int .u32 (r : Int), .int .i64 n].toArray 28))
  rw [← hw0]
  clear hw0
  go_quiet ((go_at_call 80; exact HQ.out _))
  clear c0 c2 c3 c7 cv b0 b1 hI e2 e3 e4 e5 HQ
  have Zl : (w0.drewN nq).heap[h]? = some (.cells L.cells.toArray 144) := Zl
  have ee := lgDrewN ee nq
  generalize w0.drewN nq = z1 at Zl ee ⊢
  go_upto_region 3 with fail
  have c0 := rowCell Zl 0 rfl
  have cv := rowCell Zl 18 rfl
  have HM := Lib.hid (HM.out z1)
  generalize Q.majB L.vt L.n = m1 at HM HR ⊢
  go_quiet ((go_at_call 82; exact HM.out _))
  clear c0 cv HM
  have Zl : (z1.drewN nq).heap[h]? = some (.cells L.cells.toArray 144) := Zl
  have ee := lgDrewN ee nq
  generalize z1.drewN nq = z2 at Zl ee ⊢
  go_upto_region 4 with fail
  refine wp_region_lit ?_
  have cv := rowCell Zl 18 rfl
  go_wp2_with fail
  refine (HA.out z2).mono ?_
  rintro e z3 ⟨rfl, hw_⟩
  rw [← hw_]
  clear hw_ z3 HA cv
  dsimp only
  rename_i hK
  refine hK _ _ ?_
  clear hK
  iterate 40 (first | with_reducible refine isStore (ty := 35) rfl ?_ | go_step)
  have f_ : z2.frozen? ⟨h, 18, none⟩ = false := freeAt Zl 18
  have c_ := rowCell Zl 18 rfl
  iterate 3 go_step
  clear f_ c_
  have N_ : (z2.setCells (h) 18 ([.int .u64 (Q.addN L.vt k : Int)])).heap[h]? = some (.cells ([.int .i64 L.n, .int .i64 L.nd, .int .u32 (L.br : Int), .int .i64 L.bn, .int .u64 (L.pr : Int), .slice L.A L.l.length L.c, .int .i64 L.fs, .int .i64 L.sl, .int .i64 L.x.k, .int .i64 L.x.s, .int .i64 L.x.q, .slice L.x.A1 L.x.rs.length L.x.c1, .slice L.x.A2 L.x.ws.length L.x.c2, .int .i64 L.x.i, .int .i64 L.x.j, .int .i64 L.x.g, .int .u64 (L.x.st : Int), .bool L.x.y, .int .u64 (Q.addN L.vt k : Int)]).toArray 144) := hpC ([.int .u64 (Q.addN L.vt k : Int)]) 18 _ z2 Zl
  have ee := lgCells (k := h) (by omega) ([.int .u64 (Q.addN L.vt k : Int)]) 18 z2 ee
  clear Zl
  have Zl := N_
  clear N_
  change wpList _ _ _ _ _ (z2.setCells (h) 18 ([.int .u64 (Q.addN L.vt k : Int)]))
  generalize z2.setCells (h) 18 ([.int .u64 (Q.addN L.vt k : Int)]) = z4 at Zl ee ⊢
  generalize Q.addN L.vt k = vt2 at HM2 HS HR Zl ⊢
  cases m1 with
  | true =>
    go_upto_region 5 with fail
    go_quiet (fail)
    go_wp2_with fail
    go_ret
    rw [HS.out, HR.out]
    exact ⟨rfl, Zl, lgDrewN ee _⟩
  | false =>
    go_upto_region 5 with fail
    have c0 := rowCell Zl 0 rfl
    have cv := rowCell Zl 18 rfl
    have HM := Lib.hid (HM2.out z4)
    go_quiet ((go_at_call 82; exact HM.out _))
    go_wp2_with fail
    go_ret
    rw [HS.out, HR.out]
    exact ⟨rfl, Zl, lgDrewN ee _⟩
end
end Go.Proofs.YtbahooohkigcnaaDoor

namespace Go.Proofs.YtbahooohkigcnaaDoor
set_option maxRecDepth 20001
open Go.RowKit T
set_option linter.unusedSimpArgs false
set_option linter.unusedVariables false

set_option maxHeartbeats 6400000 in
theorem pick_any (A : Option Addr) (c : Nat) (l : List Ac) (w : World) (B0 : Nat) (hl : l.length ≤ 1000000) (hc : l.length ≤ c) (hR : RowsAt w B0 A 16 (l.map Ac.cells)) (hB : B0 ≤ w.heap.size) :
    Calls Tryd.prog 15 #[.slice A l.length c] w fun e w' => e = .returned (.tuple #[.agg (best (topOf l) l).c.cells.toArray, .bool (best (topOf l) l).ha]) ∧ Below w.heap.size w w' := by
  obtain ⟨n, hn⟩ : ∃ n, n = l.length := ⟨_, rfl⟩
  have HN := Lib.hid hn
  have HR := Lib.hid hR
  rw [← hn] at hc hl ⊢
  clear hn hR
  obtain ⟨w0, hw0⟩ : ∃ w0, w0 = w.alloc (.cells #[.int .i64 0, .int .i64 0, .int .i64 0, .slice none 0 0, .slice none 0 0, .int .i64 0, .int .i64 0, .int .i64 0, .int .u64 0, .bool false] 37) := ⟨_, rfl⟩
  have ee : Below w.heap.size w w0 := by rw [hw0]; exact (Below.refl _ _).alloc (Nat.le_refl _) _
  have Zr : w0.heap[w.heap.size]? = some (.cells #[.int .i64 0, .int .i64 0, .int .i64 0, .slice none 0 0, .slice none 0 0, .int .i64 0, .int .i64 0, .int .i64 0, .int .u64 0, .bool false] 37) := by rw [hw0]; exact hpN _ _ rfl
  go_enter Tryd.func15, Tryd.ntmps15
  go_upto_region 1 with fail
  rw [← hw0]
  clear hw0
  go_wp2_with fail
  go_loopw [4, 12] (fun t i wr => ∃ k : Nat, k ≤ n ∧ i = .int .i64 (k : Int) ∧ t = .int .i64 (topOf (l.take k)) ∧ Hid (wr.heap[w.heap.size]? = some (.cells #[.int .i64 0, .int .i64 0, .int .i64 0, .slice none 0 0, .slice none 0 0, .int .i64 0, .int .i64 0, .int .i64 0, .int .u64 0, .bool false] 37)) ∧ Hid (Below w.heap.size w wr)) (fun _ i _ => n - (intOf i).toNat)
  case atStart => exact ⟨0, Nat.zero_le _, rfl, rfl, Zr, ee⟩
  case round =>
    clear Zr ee
    obtain ⟨k, hk, rfl, rfl, Zr, ee⟩ := hrel
    have Zr := Zr.out
    have ee := ee.out
    by_cases hlt : k < n
    · have hkl : k < l.length := by rw [← HN.out]; exact hlt
      obtain ⟨bo, off, rfl, hbo, hr⟩ := rowsGet HR.out hkl
      have HK : Hid (l.take (k + 1) = l.take k ++ [l[k]'hkl]) := List.take_succ_eq_append_getElem hkl
      have HMEM : Hid (l[k]'hkl ∈ l) := List.getElem_mem hkl
      have hbo : bo < w.heap.size := Nat.lt_of_lt_of_le hbo hB
      generalize l[k] = x at hr HK HMEM
      have HT : Hid (topOf (l.take (k + 1)) = if l.take k = [] then x.sl else if topOf (l.take k) < x.sl then x.sl else topOf (l.take k)) := by
        show _ = _
        rw [HK.out]; exact topOf_snoc _ _
      have HE : Hid (l.take k = [] ↔ k = 0) := by
        constructor
        · intro h
          have h2 : (l.take k).length = 0 := by rw [h]; rfl
          rw [List.length_take] at h2; omega
        · intro h; rw [h]; rfl
      clear HK HMEM
      generalize topOf (l.take k) = u at HT ⊢
      go_upto_region 4 with fail
      refine wp_region_lit ?_
      iterate 27 (first | with_reducible refine isLoad (ty := 39) rfl ?_ | go_step)
      refine wpList_load_mid rfl 39 _ rfl (bo) (off + k * 16) rfl (x.cells) _ (rangeB hr ee hbo) Tryd.underlying39 rfl sizeAc ?_
      have e0s := ee.size
      iterate 3 go_step
      have lZr := (Array.getElem?_eq_some_iff.1 Zr).1
      have Zr := hpA Zr (.cells #[.int .u32 0, .int .i64 0, .int .i64 0, .bool false, .int .u32 0, .int .i64 0, .int .i64 0, .int .i64 0, .int .i64 0, .slice none 0 0, .slice none 0 0, .int .i64 0, .int .i64 0, .int .i64 0, .int .u64 0, .bool false] 39)
      have ee := ee.alloc ee.size (.cells #[.int .u32 0, .int .i64 0, .int .i64 0, .bool false, .int .u32 0, .int .i64 0, .int .i64 0, .int .i64 0, .int .i64 0, .slice none 0 0, .slice none 0 0, .int .i64 0, .int .i64 0, .int .i64 0, .int .u64 0, .bool false] 39)
      have Zi := hpN wr (.cells #[.int .u32 0, .int .i64 0, .int .i64 0, .bool false, .int .u32 0, .int .i64 0, .int .i64 0, .int .i64 0, .int .i64 0, .slice none 0 0, .slice none 0 0, .int .i64 0, .int .i64 0, .int .i64 0, .int .u64 0, .bool false] 39) rfl
      generalize wr.alloc (.cells #[.int .u32 0, .int .i64 0, .int .i64 0, .bool false, .int .u32 0, .int .i64 0, .int .i64 0, .int .i64 0, .int .i64 0, .slice none 0 0, .slice none 0 0, .int .i64 0, .int .i64 0, .int .i64 0, .int .u64 0, .bool false] 39) = z1 at Zr Zi ee ⊢
      iterate 27 (first | with_reducible refine isStore (ty := 39) rfl ?_ | go_step)
      refine wpList_store_row rfl 39 _ _ rfl (wr.heap.size) (x.cells).toArray rfl rfl 39 _ Zi sizeAc (by rfl) (Ac.one _) ?_
      have N_ := setRow_heap z1 (wr.heap.size) _ (x.cells).toArray _ _ Zi
      have ee := belowSet (cs := (x.cells).toArray) ee Zi (by omega)
      have Zr := hpR Zr (g' := wr.heap.size) (by omega) (x.cells).toArray
      clear Zi
      have Zi := N_
      clear N_
      generalize z1.setRow (wr.heap.size) (x.cells).toArray = z2 at Zr Zi ee ⊢
      have i2 := rowCell Zi 2 (v := .int .i64 x.sl) rfl
      clear Zi e0s
      by_cases hk0 : k = 0
      · have HT2 : Hid (topOf (l.take (k + 1)) = x.sl) := by show _ = _; rw [HT.out, if_pos (HE.out.2 hk0)]
        clear HT HE
        have hkb : ((k : Int) == 0) = true := by simp [hk0]
        clear hk0
        go_wp2_with fail
        go_roundw
        case rel => exact ⟨k + 1, by omega, by go_num, by rw [HT2.out], Zr, ee⟩
        case measure => simp [intOf]; omega
      · have hkb : ((k : Int) == 0) = false := by simp [hk0]
        by_cases hs : u < x.sl
        · have HT2 : Hid (topOf (l.take (k + 1)) = x.sl) := by show _ = _; rw [HT.out, if_neg (fun h => hk0 (HE.out.1 h)), if_pos hs]
          clear HT HE hk0
          have f1 : decide (u < x.sl) = true := by simpa using hs
          clear hs
          go_wp2_with fail
          go_roundw
          case rel => exact ⟨k + 1, by omega, by go_num, by rw [HT2.out], Zr, ee⟩
          case measure => simp [intOf]; omega
        · have HT2 : Hid (topOf (l.take (k + 1)) = u) := by show _ = _; rw [HT.out, if_neg (fun h => hk0 (HE.out.1 h)), if_neg hs]
          clear HT HE hk0
          have f1 : decide (u < x.sl) = false := by simpa using hs
          clear hs
          go_wp2_with fail
          go_roundw
          case rel => exact ⟨k + 1, by omega, by go_num, by rw [HT2.out], Zr, ee⟩
          case measure => simp [intOf]; omega
    · obtain rfl : k = n := by omega
      have htk : l.take k = l := by rw [HN.out]; exact List.take_length
      rw [htk]
      clear htk hlt
      obtain ⟨u, hu⟩ : ∃ u, u = topOf l := ⟨_, rfl⟩
      have HU : Hid (topOf l = u) := hu.symm
      rw [← hu]
      clear hu
      go_upto_region 8 with fail
      refine wp_region_lit ?_
      have e0s := ee.size
      iterate 3 go_step
      have lZr := (Array.getElem?_eq_some_iff.1 Zr).1
      have Zr := hpA Zr (.cells #[.int .u32 0, .int .i64 0, .int .i64 0, .bool false, .int .u32 0, .int .i64 0, .int .i64 0, .int .i64 0, .int .i64 0, .slice none 0 0, .slice none 0 0, .int .i64 0, .int .i64 0, .int .i64 0, .int .u64 0, .bool false] 39)
      have ee := ee.alloc ee.size (.cells #[.int .u32 0, .int .i64 0, .int .i64 0, .bool false, .int .u32 0, .int .i64 0, .int .i64 0, .int .i64 0, .int .i64 0, .slice none 0 0, .slice none 0 0, .int .i64 0, .int .i64 0, .int .i64 0, .int .u64 0, .bool false] 39)
      have Zb := hpN wr (.cells #[.int .u32 0, .int .i64 0, .int .i64 0, .bool false, .int .u32 0, .int .i64 0, .int .i64 0, .int .i64 0, .int .i64 0, .slice none 0 0, .slice none 0 0, .int .i64 0, .int .i64 0, .int .i64 0, .int .u64 0, .bool false] 39) rfl
      generalize wr.alloc (.cells #[.int .u32 0, .int .i64 0, .int .i64 0, .bool false, .int .u32 0, .int .i64 0, .int .i64 0, .int .i64 0, .int .i64 0, .slice none 0 0, .slice none 0 0, .int .i64 0, .int .i64 0, .int .i64 0, .int .u64 0, .bool false] 39) = z1 at Zr Zb ee ⊢
      obtain ⟨gb, hg_⟩ : ∃ g_, g_ = wr.heap.size := ⟨_, rfl⟩
      have lgb : w.heap.size < gb := by rw [hg_]; exact lZr
      rw [← hg_] at Zb ⊢
      clear hg_ lZr e0s
      go_wp2_with fail
      clear hk
      go_loopw [30] (fun i wr => ∃ m : Nat, m ≤ k ∧ i = .int .i64 (m : Int) ∧ Hid (wr.heap[w.heap.size]? = some (.cells #[.int .i64 0, .int .i64 0, .int .i64 0, .slice none 0 0, .slice none 0 0, .int .i64 0, .int .i64 0, .int .i64 0, .int .u64 0, .bool false] 37)) ∧ Hid (wr.heap[gb]? = some (.cells (best u (l.take m)).cells.toArray 39)) ∧ Hid (Below w.heap.size w wr)) (fun i _ => k - (intOf i).toNat)
      case atStart => exact ⟨0, Nat.zero_le _, rfl, Zr, Zb, ee⟩
      case round =>
        clear Zr Zb ee
        obtain ⟨m, hm, rfl, Zr, Zb, ee⟩ := hrel
        have Zr := Zr.out
        have Zb := Zb.out
        have ee := ee.out
        by_cases hlt : m < k
        · have hkl : m < l.length := by rw [← HN.out]; exact hlt
          obtain ⟨bo, off, rfl, hbo, hr⟩ := rowsGet HR.out hkl
          have hbo : bo < w.heap.size := Nat.lt_of_lt_of_le hbo hB
          have HBS : Hid (best u (l.take (m + 1)) = bif takes u (best u (l.take m)) (l[m]'hkl) then l[m]'hkl else best u (l.take m)) := by
            show _ = _
            rw [List.take_succ_eq_append_getElem hkl]; exact best_snoc _ _ _
          generalize l[m] = x at hr HBS
          generalize best u (l.take m) = b at HBS Zb
          go_upto_region 11 with fail
          refine wp_region_lit ?_
          iterate 27 (first | with_reducible refine isLoad (ty := 39) rfl ?_ | go_step)
          refine wpList_load_mid rfl 39 _ rfl (bo) (off + m * 16) rfl (x.cells) _ (rangeB hr ee hbo) Tryd.underlying39 rfl sizeAc ?_
          have e0s := ee.size
          iterate 3 go_step
          have lZr := (Array.getElem?_eq_some_iff.1 Zr).1
          have lZb := (Array.getElem?_eq_some_iff.1 Zb).1
          have Zr := hpA Zr (.cells #[.int .u32 0, .int .i64 0, .int .i64 0, .bool false, .int .u32 0, .int .i64 0, .int .i64 0, .int .i64 0, .int .i64 0, .slice none 0 0, .slice none 0 0, .int .i64 0, .int .i64 0, .int .i64 0, .int .u64 0, .bool false] 39)
          have Zb := hpA Zb (.cells #[.int .u32 0, .int .i64 0, .int .i64 0, .bool false, .int .u32 0, .int .i64 0, .int .i64 0, .int .i64 0, .int .i64 0, .slice none 0 0, .slice none 0 0, .int .i64 0, .int .i64 0, .int .i64 0, .int .u64 0, .bool false] 39)
          have ee := ee.alloc ee.size (.cells #[.int .u32 0, .int .i64 0, .int .i64 0, .bool false, .int .u32 0, .int .i64 0, .int .i64 0, .int .i64 0, .int .i64 0, .slice none 0 0, .slice none 0 0, .int .i64 0, .int .i64 0, .int .i64 0, .int .u64 0, .bool false] 39)
          have Zi := hpN wr (.cells #[.int .u32 0, .int .i64 0, .int .i64 0, .bool false, .int .u32 0, .int .i64 0, .int .i64 0, .int .i64 0, .int .i64 0, .slice none 0 0, .slice none 0 0, .int .i64 0, .int .i64 0, .int .i64 0, .int .u64 0, .bool false] 39) rfl
          generalize wr.alloc (.cells #[.int .u32 0, .int .i64 0, .int .i64 0, .bool false, .int .u32 0, .int .i64 0, .int .i64 0, .int .i64 0, .int .i64 0, .slice none 0 0, .slice none 0 0, .int .i64 0, .int .i64 0, .int .i64 0, .int .u64 0, .bool false] 39) = z2 at Zr Zb Zi ee ⊢
          iterate 27 (first | with_reducible refine isStore (ty := 39) rfl ?_ | go_step)
          refine wpList_store_row rfl 39 _ _ rfl (wr.heap.size) (x.cells).toArray rfl rfl 39 _ Zi sizeAc (by rfl) (Ac.one _) ?_
          have N_ := setRow_heap z2 (wr.heap.size) _ (x.cells).toArray _ _ Zi
          have ee := belowSet (cs := (x.cells).toArray) ee Zi (by omega)
          have Zr := hpR Zr (g' := wr.heap.size) (by omega) (x.cells).toArray
          have Zb := hpR Zb (g' := wr.heap.size) (by omega) (x.cells).toArray
          clear Zi
          have Zi := N_
          clear N_
          generalize z2.setRow (wr.heap.size) (x.cells).toArray = z3 at Zr Zb Zi ee ⊢
          have i2 := rowCell Zi 2 (v := .int .i64 x.sl) rfl
          by_cases hs : x.sl = u
          · have f1 : (x.sl == u) = true := by simpa using hs
            cases hx : x.ha with
            | false =>
              have i3 := rowCell Zi 3 (v := .bool false) (by rw [← hx]; rfl)
              have HB2 : Hid (best u (l.take (m + 1)) = b) := by show _ = _; rw [HBS.out]; simp [takes, hx]
              clear HBS hs hx
              go_wp2_with fail
              go_roundw
              case rel => exact ⟨m + 1, by omega, by go_num, Zr, HB2.out ▸ Zb, ee⟩
              case measure => simp [intOf]; omega
            | true =>
              have i3 := rowCell Zi 3 (v := .bool true) (by rw [← hx]; rfl)
              cases hb : b.ha with
              | false =>
                have b3 := rowCell Zb 3 (v := .bool false) (by rw [← hb]; rfl)
                have HB2 : Hid (best u (l.take (m + 1)) = x) := by show _ = _; rw [HBS.out]; simp [takes, hx, hb, hs]
                clear HBS hs hx hb
                go_upto_region 13 with fail
                refine wp_region_lit ?_
                iterate 27 (first | with_reducible refine isLoad (ty := 39) rfl ?_ | go_step)
                refine wpList_load_mid rfl 39 _ rfl (wr.heap.size) 0 rfl ((x.cells)) _ (rowAt Zi) Tryd.underlying39 rfl sizeAc ?_
                iterate 27 (first | with_reducible refine isStore (ty := 39) rfl ?_ | go_step)
                refine wpList_store_row rfl 39 _ _ rfl (gb) (x.cells).toArray rfl rfl 39 _ Zb sizeAc (by rfl) (Ac.one _) ?_
                have N_ := setRow_heap z3 (gb) _ (x.cells).toArray _ _ Zb
                have ee := belowSet (cs := (x.cells).toArray) ee Zb (by omega)
                have Zr := hpR Zr (g' := gb) (by omega) (x.cells).toArray
                have Zi := hpR Zi (g' := gb) (by omega) (x.cells).toArray
                clear Zb
                have Zb := N_
                clear N_
                generalize z3.setRow (gb) (x.cells).toArray = z4 at Zr Zb Zi ee ⊢
                go_wp2_with fail
                go_roundw
                case rel => exact ⟨m + 1, by omega, by go_num, Zr, HB2.out ▸ Zb, ee⟩
                case measure => simp [intOf]; omega
              | true =>
                have b3 := rowCell Zb 3 (v := .bool true) (by rw [← hb]; rfl)
                have b4 := rowCell Zb 4 (v := .int .u32 (b.vr : Int)) rfl
                have b5 := rowCell Zb 5 (v := .int .i64 b.vn) rfl
                have i4 := rowCell Zi 4 (v := .int .u32 (x.vr : Int)) rfl
                have i5 := rowCell Zi 5 (v := .int .i64 x.vn) rfl
                have HLE := Lib.hid (fun z => bless_any b.vr b.vn x.vr x.vn z)
                have HLT : Hid (b.bless x = B.less b.vr b.vn x.vr x.vn) := rfl
                generalize B.less b.vr b.vn x.vr x.vn = ml at HLE HLT
                go_wp2_with fail
                refine (HLE.out z3).mono ?_
                rintro e z4 ⟨rfl, t⟩
                have Zr := hpB Zr t
                have Zb := hpB Zb t
                have Zi := hpB Zi t
                have ee := ee.trans (t.mono ee.size)
                clear t
                clear b3 b4 b5 i2 i3 i4 i5 HLE
                cases ml with
                | false =>
                  have HB2 : Hid (best u (l.take (m + 1)) = b) := by show _ = _; rw [HBS.out]; simp [takes, hx, hb, hs, HLT.out]
                  clear HBS hs hx hb HLT
                  go_wp2_with fail
                  go_roundw
                  case rel => exact ⟨m + 1, by omega, by go_num, Zr, HB2.out ▸ Zb, ee⟩
                  case measure => simp [intOf]; omega
                | true =>
                  have HB2 : Hid (best u (l.take (m + 1)) = x) := by show _ = _; rw [HBS.out]; simp [takes, hx, hb, hs, HLT.out]
                  clear HBS hs hx hb HLT
                  go_upto_region 13 with fail
                  refine wp_region_lit ?_
                  iterate 27 (first | with_reducible refine isLoad (ty := 39) rfl ?_ | go_step)
                  refine wpList_load_mid rfl 39 _ rfl (wr.heap.size) 0 rfl ((x.cells)) _ (rowAt Zi) Tryd.underlying39 rfl sizeAc ?_
                  iterate 27 (first | with_reducible refine isStore (ty := 39) rfl ?_ | go_step)
                  refine wpList_store_row rfl 39 _ _ rfl (gb) (x.cells).toArray rfl rfl 39 _ Zb sizeAc (by rfl) (Ac.one _) ?_
                  have N_ := setRow_heap z4 (gb) _ (x.cells).toArray _ _ Zb
                  have ee := belowSet (cs := (x.cells).toArray) ee Zb (by omega)
                  have Zr := hpR Zr (g' := gb) (by omega) (x.cells).toArray
                  have Zi := hpR Zi (g' := gb) (by omega) (x.cells).toArray
                  clear Zb
                  have Zb := N_
                  clear N_
                  generalize z4.setRow (gb) (x.cells).toArray = z5 at Zr Zb Zi ee ⊢
                  go_wp2_with fail
                  go_roundw
                  case rel => exact ⟨m + 1, by omega, by go_num, Zr, HB2.out ▸ Zb, ee⟩
                  case measure => simp [intOf]; omega
          · have f1 : (x.sl == u) = false := by simpa using hs
            have HB2 : Hid (best u (l.take (m + 1)) = b) := by show _ = _; rw [HBS.out]; simp [takes, hs]
            clear HBS hs
            go_wp2_with fail
            go_roundw
            case rel => exact ⟨m + 1, by omega, by go_num, Zr, HB2.out ▸ Zb, ee⟩
            case measure => simp [intOf]; omega
        · obtain rfl : m = k := by omega
          have htk : l.take m = l := by rw [HN.out]; exact List.take_length
          rw [htk] at Zb
          clear htk hlt
          obtain ⟨b, hb⟩ : ∃ b, b = best u l := ⟨_, rfl⟩
          have HBB : Hid (best u l = b) := hb.symm
          rw [← hb] at Zb
          clear hb
          go_upto_region 15 with fail
          have Zr : wr.drew.heap[w.heap.size]? = some (.cells #[.int .i64 0, .int .i64 0, .int .i64 0, .slice none 0 0, .slice none 0 0, .int .i64 0, .int .i64 0, .int .i64 0, .int .u64 0, .bool false] 37) := Zr
          have Zb : wr.drew.heap[gb]? = some (.cells b.cells.toArray 39) := Zb
          have ee := belowDrewS ee
          refine wp_region_held_drew (S := fun z' => z'.rangeAt gb 6 b.c.cells ∧ z'.cell? ⟨gb, 3, none⟩ = some (.bool b.ha)) (by kernel_rfl) ⟨rowMid Zb 6 (Ac.part b), rowCell Zb 3 rfl⟩ (fun hH => ?_)
          clear hH
          generalize wr.drew = z2 at Zr Zb  ee ⊢
          refine wpAnyH_take (i := 0) (v := .pointer (some ⟨gb, 6, none⟩)) rfl (by kernel_rfl) (by kernel_rfl) (by kernel_rfl) (fun _ _ _ h => h) (Or.inl ⟨by rfl, fun w_ hS_ => by (first | (go_simp; done) | (go_simp; rfl))⟩) ⟨rowMid Zb 6 (Ac.part b), rowCell Zb 3 rfl⟩ ?_
          try simp only [Act.put, List.getElem_toArray, List.getElem_cons_zero, List.getElem_cons_succ, List.setIfInBounds_toArray, List.set_cons_zero, List.set_cons_succ]
          refine wpAnyH_take (i := 1) (v := .agg (b.c.cells).toArray) rfl (by kernel_rfl) (by kernel_rfl) (by kernel_rfl) (fun _ _ _ h => h) (yieldsIf_load_mid (by rfl) 37 _ rfl (gb) (6) rfl (b.c.cells) _ (fun _ h => h.1) Tryd.underlying37 rfl sizeCm) ⟨rowMid Zb 6 (Ac.part b), rowCell Zb 3 rfl⟩ ?_
          try simp only [Act.put, List.getElem_toArray, List.getElem_cons_zero, List.getElem_cons_succ, List.setIfInBounds_toArray, List.set_cons_zero, List.set_cons_succ]
          refine wpAnyH_take (i := 2) (v := .pointer (some ⟨gb, 3, none⟩)) rfl (by kernel_rfl) (by kernel_rfl) (by kernel_rfl) (fun _ _ _ h => h) (Or.inl ⟨by rfl, fun w_ hS_ => by (first | (go_simp; done) | (go_simp; rfl))⟩) ⟨rowMid Zb 6 (Ac.part b), rowCell Zb 3 rfl⟩ ?_
          try simp only [Act.put, List.getElem_toArray, List.getElem_cons_zero, List.getElem_cons_succ, List.setIfInBounds_toArray, List.set_cons_zero, List.set_cons_succ]
          refine wpAnyH_take (i := 3) (v := .bool b.ha) rfl (by kernel_rfl) (by kernel_rfl) (by kernel_rfl) (fun _ _ _ h => h) (Or.inl ⟨by rfl, fun w_ hS_ => by (obtain ⟨h1_, h2_⟩ := hS_; go_simp)⟩) ⟨rowMid Zb 6 (Ac.part b), rowCell Zb 3 rfl⟩ ?_
          try simp only [Act.put, List.getElem_toArray, List.getElem_cons_zero, List.getElem_cons_succ, List.setIfInBounds_toArray, List.set_cons_zero, List.set_cons_succ]
          refine wpAnyH_ready (rs := [4]) (by kernel_rfl) (by simp) ?_
          refine AllReadyH.cons rfl (fun K hK => ?_) AllReadyH.nil
          rw [if_pos (by rfl)]
          refine wp_store_row 37 _ _ rfl (w.heap.size) (b.c.cells).toArray rfl rfl 37 _ Zr sizeCm (by rfl) (Cm.one _) ?_
          have N_ := setRow_heap z2 (w.heap.size) _ (b.c.cells).toArray _ _ Zr
          have ee := belowSet (cs := (b.c.cells).toArray) ee Zr (by omega)
          have Zb := hpR Zb (g' := w.heap.size) (by omega) (b.c.cells).toArray
          clear Zr
          have Zr := N_
          clear N_
          generalize z2.setRow (w.heap.size) (b.c.cells).toArray = z3 at Zr Zb ee ⊢
          refine hK.out _ _ ⟨rowMid Zb 6 (Ac.part b), rowCell Zb 3 rfl⟩ (fun hH => ?_)
          clear hK K hH
          try simp only [Act.put, List.getElem_toArray, List.getElem_cons_zero, List.getElem_cons_succ, List.setIfInBounds_toArray, List.set_cons_zero, List.set_cons_succ]
          refine wpAnyH_take (i := 5) (v := .bool b.ha) rfl (by kernel_rfl) (by kernel_rfl) (by kernel_rfl) (fun _ _ _ h => h) (Or.inl ⟨by rfl, fun w_ hS_ => by (first | (go_simp; done) | (go_simp; rfl))⟩) ⟨rowMid Zb 6 (Ac.part b), rowCell Zb 3 rfl⟩ ?_
          try simp only [Act.put, List.getElem_toArray, List.getElem_cons_zero, List.getElem_cons_succ, List.setIfInBounds_toArray, List.set_cons_zero, List.set_cons_succ]
          refine wpAnyH_done (by kernel_rfl) ?_ _
          go_wp2_with fail
          refine bodyPost_ret (v := .tuple #[.agg b.c.cells.toArray, .bool b.ha]) (res_ct rfl rfl rfl Zr Tryd.underlying37 rfl sizeCm) rfl ⟨by rw [HU.out, HBB.out], ee⟩
end Go.Proofs.YtbahooohkigcnaaDoor

namespace Go.Proofs.YtbahooohkigcnaaDoor
set_option maxRecDepth 20001
open Go.RowKit T
set_option linter.unusedSimpArgs false
set_option linter.unusedVariables false

/-- steps that change the blocks of P alone (and new ones) -/
def Fr (w w' : World) (P : Nat → Prop) : Prop := Below 0 w w' ∧ ∀ i, i < w.heap.size → ¬ P i → w'.heap[i]? = w.heap[i]?
section
variable {w z c z' : World} {h k : Nat} {old cs : Array Value} {t : TypeId} {P : Nat → Prop} {base e sz n : Nat} {v : Value} {xs : List Value}
theorem Fr.refl (w : World) (P : Nat → Prop) : Fr w w P := ⟨(Below.refl 0 w), fun _ _ _ => rfl⟩
theorem frTrans (p : Fr w z P) (q : Fr z c P) : Fr w c P := ⟨p.1.trans q.1, fun i hi hn => (q.2 i (Nat.lt_of_lt_of_le hi p.1.size) hn).trans (p.2 i hi hn)⟩
theorem frBelow (p : Fr w z P) (q : Below z.heap.size z c) : Fr w c P := frTrans p ⟨q.mono (Nat.zero_le _), fun i hi _ => q.block i hi⟩
theorem frAlloc (p : Fr w z P) (o : Obj) : Fr w (z.alloc o) P := frBelow p ((Below.refl _ _).alloc (Nat.le_refl _) o)
theorem frDrew (p : Fr w z P) : Fr w z.drew P := ⟨belowDrewS p.1, p.2⟩
theorem frDrewN (p : Fr w z P) (m : Nat) : Fr w (z.drewN m) P := ⟨belowDrewN p.1 m, p.2⟩
theorem frRow (hk : P k ∨ w.heap.size ≤ k) (hz : z.heap[k]? = some (.cells old t (0, 0))) (p : Fr w z P) : Fr w (z.setRow k cs) P :=
  ⟨belowSet p.1 hz (Nat.zero_le _), fun i hi hn => (setRow_other z k i cs (fun e => by
    rcases hk with hk | hk
    · exact hn (by rw [e]; exact hk)
    · omega)).trans (p.2 i hi hn)⟩
theorem frCells (hk : P k ∨ w.heap.size ≤ k) : ∀ (vs : List Value) (i : Nat) (z : World), Fr w z P → Fr w (z.setCells k i vs) P
  | [], _, _, p => p
  | v :: r, i, z, p => frCells hk r (i + 1) (z.setCell ⟨k, i, none⟩ v) ⟨p.1.setCell (Nat.zero_le _) v, fun j hj hn => (Below.heap_setCell z ⟨k, i, none⟩ v j (fun e => by
    have e2 : j = k := e
    rcases hk with hk | hk
    · exact hn (by rw [e2]; exact hk)
    · omega)).trans (p.2 j hj hn)⟩
theorem frOwnE (p : Fr w z P) (_ : z.ownsRow base e sz v n xs) (hg : z.grownBy z' v.ownBlock) (hP : ∀ i, v.ownBlock = some i → P i ∨ w.heap.size ≤ i) : Fr w z' P :=
  ⟨p.1.grown hg (Nat.zero_le _) (fun _ _ => Nat.zero_le _), fun i hi hn => (hg.block i (Nat.lt_of_lt_of_le hi p.1.size) (fun e => by
    rcases hP i e.symm with h | h
    · exact hn h
    · omega)).trans (p.2 i hi hn)⟩
theorem frGrown (p : Fr w z P) (q : z.grownBy c (some h)) (hk : P h ∨ w.heap.size ≤ h) : Fr w c P :=
  ⟨p.1.grown q (Nat.zero_le _) (fun _ _ => Nat.zero_le _), fun i hi hn => (q.block i (Nat.lt_of_lt_of_le hi p.1.size) (fun e => by
    injection e with e
    rcases hk with hk | hk
    · exact hn (by rw [e]; exact hk)
    · omega)).trans (p.2 i hi hn)⟩
theorem lgKind {m : Nat × Nat} (hu : z.ownsRow base e sz v n xs) (hz : z.heap[k]? = some (.cells old t m)) (hne : t ≠ e) : v.ownBlock ≠ some k := by
  intro hb
  rcases hu.2 with ⟨hv, _⟩ | ⟨g, cap, cur, hv, _, hg, _⟩
  · rw [hv] at hb; cases hb
  · rw [hv] at hb
    have e1 : g = k := by injection hb
    subst e1
    rw [hz] at hg
    injection hg with hg
    injection hg with _ ht _
    exact hne ht
theorem lgOwnC (p : z.ownsRow base e sz v n xs) (hne : v.ownBlock ≠ some k) (vs : List Value) (i : Nat) : (z.setCells k i vs).ownsRow base e sz v n xs := p.kept (lgCells (h := k) (Or.inl rfl) vs i z (lgRefl z k)) (Or.inr hne)
theorem lgOwnR (p : z.ownsRow base e sz v n xs) (hne : v.ownBlock ≠ some k) : (z.setRow k cs).ownsRow base e sz v n xs := p.kept ⟨rfl, rfl, rfl, by rw [setRow_size]; exact Nat.le_refl _, fun i _ hi => setRow_other z k i cs (fun e => hi (by rw [e]))⟩ (Or.inr hne)
theorem lgHeap {m : Nat × Nat} (p : z.heap[k]? = some (.cells cs t m)) (hu : z.ownsRow base e sz v n xs) (hne : t ≠ e) (hg : z.grownBy z' v.ownBlock) : z'.heap[k]? = some (.cells cs t m) :=
  (hg.block k (Array.getElem?_eq_some_iff.1 p).1 (fun e1 => lgKind hu p hne e1.symm)).trans p
theorem lgHeapB {m : Nat × Nat} (p : z.heap[k]? = some (.cells cs t m)) (hne : v.ownBlock ≠ some k) (hg : z.grownBy z' v.ownBlock) : z'.heap[k]? = some (.cells cs t m) :=
  (hg.block k (Array.getElem?_eq_some_iff.1 p).1 (fun e1 => hne e1.symm)).trans p
theorem lgRowAdd {cs : List Value} (p : z.heap[k]? = some (.cells cs.toArray t (0, 0))) : ∀ j u, cs[j]? = some u → z.cell? ((⟨k, 0, none⟩ : Addr).add j) = some u := fun j u hv => by
  rw [Addr.add_mid]; exact rowAt p j u hv
end
theorem run_eqBal9 (r : Nat) (n : Int) (r' : Nat) (n' : Int) (w : World) :
    (binOp .eql 28 (.agg #[.int .u32 r, .int .i64 n]) (.agg #[.int .u32 r', .int .i64 n'])).run Tryd.prog w = .ok (.bool (decide (r = r' ∧ n = n'))) w := B.run_eqBal r n r' n' w
theorem lgFill16 (x : Ac) (cells : Array Value) (hn : cells.size = 16) : Instr.fill (fun i => some (i * 16, 16)) cells [(0, .agg x.cells.toArray)] = some x.cells.toArray := by
  have := Great.fill_whole (s := 16) (by omega) [Value.agg x.cells.toArray] cells (by intro v hv; simp at hv; subst hv; rfl) (by simp [hn])
  simpa [Value.cells] using this
theorem lgInfoAc : (Tryd.prog.info? 39).map (fun i => (i.zero, i.size, i.bytes)) = some (some (.agg #[.int .u32 0, .int .i64 0, .int .i64 0, .bool false, .int .u32 0, .int .i64 0, .int .i64 0, .int .i64 0, .int .i64 0, .slice none 0 0, .slice none 0 0, .int .i64 0, .int .i64 0, .int .i64 0, .int .u64 0, .bool false]), 16, 160) := by kernel_rfl
set_option maxHeartbeats 6400000 in
theorem lpromise_yes (w : World) (B h : Nat) (L : Ld) (k : Int) (a : Ac) (hL : LdAt w h L) (hu : w.ownsRow B 39 16 (.slice L.A L.l.length L.c) L.l.length (acCells L.l)) (hB : B ≤ w.heap.size) (hlen : L.l.length ≤ 100000)
    (hp : L.pr < 18446744073709551616) (hz : ¬ (L.br = 0 ∧ L.bn = 0)) (hF : a.formed = true) (ok : CmOk w w.heap.size a.c) (hT : Tabs w) (h0 : 0 ≤ k) (h1 : k < L.n) (hk : Q.hasB L.pr k = false) :
    Calls Tryd.prog 36 #[.pointer (some ⟨h, 0, none⟩), .int .i64 k, bal L.br L.bn, .agg a.cells.toArray] w fun e w' => e = .returned (.bool true) ∧ ∃ A' c', LdAt w' h { L with pr := Q.addN L.pr k, l := L.l ++ [a], A := A', c := c', fs := max L.fs a.sl } ∧ w'.ownsRow B 39 16 (.slice A' (L.l ++ [a]).length c') (L.l ++ [a]).length (acCells (L.l ++ [a])) ∧ Fr w w' (fun i => i = h ∨ (Value.slice L.A L.l.length L.c).ownBlock = some i) := by
  obtain ⟨i1, hi1, hz10, hz11, hz12⟩ := info_parts lgInfoAc
  have hlt : h < w.heap.size := (Array.getElem?_eq_some_iff.1 hL).1
  have hPown : ∀ i, (Value.slice L.A L.l.length L.c).ownBlock = some i → (fun i => i = h ∨ (Value.slice L.A L.l.length L.c).ownBlock = some i) i ∨ w.heap.size ≤ i := fun i hi => Or.inl (Or.inr hi)
  have hlow : (Value.slice L.A L.l.length L.c).ownBlock ≠ some (w.heap.size + 1) := fun hb => by have := (hu.lt _ hb).2; omega
  have HQ := Lib.hid (fun z => has_any L.pr k z hp)
  rw [hk] at HQ
  have HA := Lib.hid (fun z => add_any L.pr k z hp)
  have HFO := Lib.hid (fun z (hz : Below w.heap.size w z) => c_formed a z w.heap.size hz.size (ok.below hz (Nat.le_refl _)) (hT.below hz))
  rw [hF] at HFO
  have hI := run_neBal L.br L.bn L.br L.bn
  rw [decide_eq_true (⟨rfl, rfl⟩ : L.br = L.br ∧ L.bn = L.bn)] at hI
  have hJ : ∀ z, (binOp .eql 28 (.agg #[.int .u32 (L.br : Int), .int .i64 L.bn]) (.agg #[.int .u32 0, .int .i64 0])).run Tryd.prog z = .ok (.bool false) z := fun z => by
    have := run_eqBal9 L.br L.bn 0 0 z
    rw [decide_eq_false hz] at this
    exact this
  have e4 : decide (k < 0) = false := decide_eq_false (by omega)
  have e5 : decide (L.n ≤ k) = false := decide_eq_false (by omega)
  clear hk hF ok hT hz h0 h1 hp
  obtain ⟨w0, hw0⟩ : ∃ w0, w0 = (w.alloc (.cells [.int .u32 (L.br : Int), .int .i64 L.bn].toArray 28)).alloc (.cells a.cells.toArray 39) := ⟨_, rfl⟩
  have e0 : Below w.heap.size w w0 := by rw [hw0]; exact ((Below.refl _ _).alloc (Nat.le_refl _) _).alloc (by simp) _
  have ee : Fr w w0 (fun i => i = h ∨ (Value.slice L.A L.l.length L.c).ownBlock = some i) := by rw [hw0]; exact frAlloc (frAlloc (Fr.refl _ _) _) _
  have Zl : w0.heap[h]? = some (.cells L.cells.toArray 144) := by rw [hw0]; exact hpA (hpA hL _) _
  have Zb : w0.heap[w.heap.size]? = some (.cells [.int .u32 (L.br : Int), .int .i64 L.bn].toArray 28) := by rw [hw0]; exact hpA (hpN _ _ rfl) _
  have Za : w0.heap[w.heap.size + 1]? = some (.cells a.cells.toArray 39) := by rw [hw0]; exact hpN _ _ (by simp)
  have hu : w0.ownsRow B 39 16 (.slice L.A L.l.length L.c) L.l.length (acCells L.l) := by rw [hw0]; exact (hu.alloc _).alloc _
  go_enter Tryd.func36, Tryd.ntmps36
  go_upto_region 1 with fail
  change Code.wp _ _ _ _ ((w.alloc (.cells [.int .u32 (L.br : Int), .int .i64 L.bn].toArray 28)).alloc (.cells a.cells.toArray 39))
  rw [← hw0]
  clear hw0 hL
  have e0 := belowDrewS e0
  have Zl : w0.drew.heap[h]? = some (.cells L.cells.toArray 144) := Zl
  have Zb : w0.drew.heap[w.heap.size]? = some (.cells [.int .u32 (L.br : Int), .int .i64 L.bn].toArray 28) := Zb
  have Za : w0.drew.heap[w.heap.size + 1]? = some (.cells a.cells.toArray 39) := Za
  have hu := World.ownsRow.drew hu
  have ee := frDrew ee
  refine wp_region_held_drew (S := fun z' => z'.rangeAt h 0 L.cells ∧ z'.rangeAt h 2 [.int .u32 (L.br : Int), .int .i64 L.bn] ∧ z'.rangeAt w.heap.size 0 [.int .u32 (L.br : Int), .int .i64 L.bn] ∧ z'.rangeAt (w.heap.size + 1) 0 a.cells) (by kernel_rfl) ⟨rowAt Zl, rowMid Zl 2 (Ld.ballot L), rowAt Zb, rowAt Za⟩ (fun hH => ?_)
  clear hH
  generalize w0.drew = z1 at Zl Zb Za hu e0 ee ⊢
  refine wpAnyH_take (i := 0) (v := .pointer (some ⟨h, 0, none⟩)) rfl (by kernel_rfl) (by kernel_rfl) (by kernel_rfl) (fun _ _ _ h => h) (Or.inl ⟨by rfl, fun w_ hS_ => by (first | (go_simp; done) | (go_simp; rfl))⟩) ⟨rowAt Zl, rowMid Zl 2 (Ld.ballot L), rowAt Zb, rowAt Za⟩ ?_
  try simp only [Act.put, List.getElem_toArray, List.getElem_cons_zero, List.getElem_cons_succ, List.setIfInBounds_toArray, List.set_cons_zero, List.set_cons_succ]
  refine wpAnyH_take (i := 1) (v := .bool false) rfl (by kernel_rfl) (by kernel_rfl) (by kernel_rfl) (fun _ _ _ h => h) (Or.inl ⟨by rfl, fun w_ hS_ => by (first | (go_simp; done) | (go_simp; rfl))⟩) ⟨rowAt Zl, rowMid Zl 2 (Ld.ballot L), rowAt Zb, rowAt Za⟩ ?_
  try simp only [Act.put, List.getElem_toArray, List.getElem_cons_zero, List.getElem_cons_succ, List.setIfInBounds_toArray, List.set_cons_zero, List.set_cons_succ]
  refine wpAnyH_take (i := 2) (v := .bool false) rfl (by kernel_rfl) (by kernel_rfl) (by kernel_rfl) (fun _ _ _ h => h) (Or.inl ⟨by rfl, fun w_ hS_ => by (first | (go_simp; done) | (go_simp; rfl))⟩) ⟨rowAt Zl, rowMid Zl 2 (Ld.ballot L), rowAt Zb, rowAt Za⟩ ?_
  try simp only [Act.put, List.getElem_toArray, List.getElem_cons_zero, List.getElem_cons_succ, List.setIfInBounds_toArray, List.set_cons_zero, List.set_cons_succ]
  refine wpAnyH_take (i := 3) (v := .agg ([.int .u32 (L.br : Int), .int .i64 L.bn]).toArray) rfl (by kernel_rfl) (by kernel_rfl) (by kernel_rfl) (fun _ _ _ h => h) (yieldsIf_load_mid (by rfl) 28 _ rfl (w.heap.size) 0 rfl ([.int .u32 (L.br : Int), .int .i64 L.bn]) _ (fun _ h => h.2.2.1) Tryd.underlying28 rfl sizeBal) ⟨rowAt Zl, rowMid Zl 2 (Ld.ballot L), rowAt Zb, rowAt Za⟩ ?_
  try simp only [Act.put, List.getElem_toArray, List.getElem_cons_zero, List.getElem_cons_succ, List.setIfInBounds_toArray, List.set_cons_zero, List.set_cons_succ]
  refine wpAnyH_take (i := 4) (v := .pointer (some ⟨h, 0, none⟩)) rfl (by kernel_rfl) (by kernel_rfl) (by kernel_rfl) (fun _ _ _ h => h) (Or.inl ⟨by rfl, fun w_ hS_ => by (first | (go_simp; done) | (go_simp; rfl))⟩) ⟨rowAt Zl, rowMid Zl 2 (Ld.ballot L), rowAt Zb, rowAt Za⟩ ?_
  try simp only [Act.put, List.getElem_toArray, List.getElem_cons_zero, List.getElem_cons_succ, List.setIfInBounds_toArray, List.set_cons_zero, List.set_cons_succ]
  refine wpAnyH_take (i := 5) (v := .pointer (some ⟨h, 0, none⟩)) rfl (by kernel_rfl) (by kernel_rfl) (by kernel_rfl) (fun _ _ _ h => h) (Or.inl ⟨by rfl, fun w_ hS_ => by (first | (go_simp; done) | (go_simp; rfl))⟩) ⟨rowAt Zl, rowMid Zl 2 (Ld.ballot L), rowAt Zb, rowAt Za⟩ ?_
  try simp only [Act.put, List.getElem_toArray, List.getElem_cons_zero, List.getElem_cons_succ, List.setIfInBounds_toArray, List.set_cons_zero, List.set_cons_succ]
  refine wpAnyH_take (i := 6) (v := .pointer (some ⟨h, 2, none⟩)) rfl (by kernel_rfl) (by kernel_rfl) (by kernel_rfl) (fun _ _ _ h => h) (Or.inl ⟨by rfl, fun w_ hS_ => by (first | (go_simp; done) | (go_simp; rfl))⟩) ⟨rowAt Zl, rowMid Zl 2 (Ld.ballot L), rowAt Zb, rowAt Za⟩ ?_
  try simp only [Act.put, List.getElem_toArray, List.getElem_cons_zero, List.getElem_cons_succ, List.setIfInBounds_toArray, List.set_cons_zero, List.set_cons_succ]
  refine wpAnyH_take (i := 7) (v := .agg ([.int .u32 (L.br : Int), .int .i64 L.bn]).toArray) rfl (by kernel_rfl) (by kernel_rfl) (by kernel_rfl) (fun _ _ _ h => h) (yieldsIf_load_mid (by rfl) 28 _ rfl (h) (2) rfl ([.int .u32 (L.br : Int), .int .i64 L.bn]) _ (fun _ h => h.2.1) Tryd.underlying28 rfl sizeBal) ⟨rowAt Zl, rowMid Zl 2 (Ld.ballot L), rowAt Zb, rowAt Za⟩ ?_
  try simp only [Act.put, List.getElem_toArray, List.getElem_cons_zero, List.getElem_cons_succ, List.setIfInBounds_toArray, List.set_cons_zero, List.set_cons_succ]
  refine wpAnyH_take (i := 8) (v := .bool false) rfl (by kernel_rfl) (by kernel_rfl) (by kernel_rfl) (fun _ _ _ h => h) (Or.inl ⟨by rfl, fun w_ hS_ => by (first | (go_simp; done) | (go_simp; rfl))⟩) ⟨rowAt Zl, rowMid Zl 2 (Ld.ballot L), rowAt Zb, rowAt Za⟩ ?_
  try simp only [Act.put, List.getElem_toArray, List.getElem_cons_zero, List.getElem_cons_succ, List.setIfInBounds_toArray, List.set_cons_zero, List.set_cons_succ]
  refine wpAnyH_take (i := 9) (v := .bool false) rfl (by kernel_rfl) (by kernel_rfl) (by kernel_rfl) (fun _ _ _ h => h) (Or.inl ⟨by rfl, fun w_ hS_ => by (first | (go_simp; done) | (go_simp; rfl))⟩) ⟨rowAt Zl, rowMid Zl 2 (Ld.ballot L), rowAt Zb, rowAt Za⟩ ?_
  try simp only [Act.put, List.getElem_toArray, List.getElem_cons_zero, List.getElem_cons_succ, List.setIfInBounds_toArray, List.set_cons_zero, List.set_cons_succ]
  refine wpAnyH_take (i := 10) (v := .bool false) rfl (by kernel_rfl) (by kernel_rfl) (by kernel_rfl) (fun _ _ _ h => h) (Or.inl ⟨by rfl, fun w_ hS_ => by (first | (go_simp; done) | (go_simp; rfl))⟩) ⟨rowAt Zl, rowMid Zl 2 (Ld.ballot L), rowAt Zb, rowAt Za⟩ ?_
  try simp only [Act.put, List.getElem_toArray, List.getElem_cons_zero, List.getElem_cons_succ, List.setIfInBounds_toArray, List.set_cons_zero, List.set_cons_succ]
  refine wpAnyH_take (i := 11) (v := .agg ([.int .u32 (L.br : Int), .int .i64 L.bn]).toArray) rfl (by kernel_rfl) (by kernel_rfl) (by kernel_rfl) (fun _ _ _ h => h) (yieldsIf_load_mid (by rfl) 28 _ rfl (w.heap.size) 0 rfl ([.int .u32 (L.br : Int), .int .i64 L.bn]) _ (fun _ h => h.2.2.1) Tryd.underlying28 rfl sizeBal) ⟨rowAt Zl, rowMid Zl 2 (Ld.ballot L), rowAt Zb, rowAt Za⟩ ?_
  try simp only [Act.put, List.getElem_toArray, List.getElem_cons_zero, List.getElem_cons_succ, List.setIfInBounds_toArray, List.set_cons_zero, List.set_cons_succ]
  refine wpAnyH_take (i := 12) (v := .agg #[.int .u32 0, .int .i64 0]) rfl (by kernel_rfl) (by kernel_rfl) (by kernel_rfl) (fun _ _ _ h => h) (Or.inl ⟨by rfl, fun w_ hS_ => by (first | (go_simp; done) | (go_simp; rfl))⟩) ⟨rowAt Zl, rowMid Zl 2 (Ld.ballot L), rowAt Zb, rowAt Za⟩ ?_
  try simp only [Act.put, List.getElem_toArray, List.getElem_cons_zero, List.getElem_cons_succ, List.setIfInBounds_toArray, List.set_cons_zero, List.set_cons_succ]
  refine wpAnyH_take (i := 13) (v := .bool false) rfl (by kernel_rfl) (by kernel_rfl) (by kernel_rfl) (fun _ _ _ h => h) (Or.inl ⟨by rfl, fun w_ hS_ => by (first | (go_simp; done) | (go_simp; rfl))⟩) ⟨rowAt Zl, rowMid Zl 2 (Ld.ballot L), rowAt Zb, rowAt Za⟩ ?_
  try simp only [Act.put, List.getElem_toArray, List.getElem_cons_zero, List.getElem_cons_succ, List.setIfInBounds_toArray, List.set_cons_zero, List.set_cons_succ]
  refine wpAnyH_take (i := 14) (v := .bool false) rfl (by kernel_rfl) (by kernel_rfl) (by kernel_rfl) (fun _ _ _ h => h) (Or.inl ⟨by rfl, fun w_ hS_ => by (first | (go_simp; done) | (go_simp; rfl))⟩) ⟨rowAt Zl, rowMid Zl 2 (Ld.ballot L), rowAt Zb, rowAt Za⟩ ?_
  try simp only [Act.put, List.getElem_toArray, List.getElem_cons_zero, List.getElem_cons_succ, List.setIfInBounds_toArray, List.set_cons_zero, List.set_cons_succ]
  refine wpAnyH_take (i := 15) (v := .bool false) rfl (by kernel_rfl) (by kernel_rfl) (by kernel_rfl) (fun _ _ _ h => h) (Or.inl ⟨by rfl, fun w_ hS_ => by (first | (go_simp; done) | (go_simp; rfl))⟩) ⟨rowAt Zl, rowMid Zl 2 (Ld.ballot L), rowAt Zb, rowAt Za⟩ ?_
  try simp only [Act.put, List.getElem_toArray, List.getElem_cons_zero, List.getElem_cons_succ, List.setIfInBounds_toArray, List.set_cons_zero, List.set_cons_succ]
  refine wpAnyH_take (i := 16) (v := .agg (a.cells).toArray) rfl (by kernel_rfl) (by kernel_rfl) (by kernel_rfl) (fun _ _ _ h => h) (yieldsIf_load_mid (by rfl) 39 _ rfl (w.heap.size + 1) 0 rfl (a.cells) _ (fun _ h => h.2.2.2) Tryd.underlying39 rfl sizeAc) ⟨rowAt Zl, rowMid Zl 2 (Ld.ballot L), rowAt Zb, rowAt Za⟩ ?_
  try simp only [Act.put, List.getElem_toArray, List.getElem_cons_zero, List.getElem_cons_succ, List.setIfInBounds_toArray, List.set_cons_zero, List.set_cons_succ]
  refine wpAnyH_ready (rs := [17]) (by kernel_rfl) (by simp) ?_
  refine AllReadyH.cons rfl (fun K hK => ?_) AllReadyH.nil
  rw [if_pos (by rfl)]
  go_simp
  go_wp2_with (go_at_call 20; refine (HFO.out z1 e0).mono ?_; rintro e z2 ⟨rfl, t⟩)
  have Zl := hpB Zl t
  have Zb := hpB Zb t
  have Za := hpB Za t
  have hu := ownBelow hu t
  have ee := frBelow ee t
  have e0 := e0.trans (t.mono e0.size)
  clear t
  refine hK.out _ _ ⟨rowAt Zl, rowMid Zl 2 (Ld.ballot L), rowAt Zb, rowAt Za⟩ (fun hH => ?_)
  clear hK K hH
  try simp only [Act.put, List.getElem_toArray, List.getElem_cons_zero, List.getElem_cons_succ, List.setIfInBounds_toArray, List.set_cons_zero, List.set_cons_succ]
  refine wpAnyH_take (i := 18) (v := .bool false) rfl (by kernel_rfl) (by kernel_rfl) (by kernel_rfl) (fun _ _ _ h => h) (Or.inl ⟨by rfl, fun w_ hS_ => by (first | (go_simp; done) | (go_simp; rfl))⟩) ⟨rowAt Zl, rowMid Zl 2 (Ld.ballot L), rowAt Zb, rowAt Za⟩ ?_
  try simp only [Act.put, List.getElem_toArray, List.getElem_cons_zero, List.getElem_cons_succ, List.setIfInBounds_toArray, List.set_cons_zero, List.set_cons_succ]
  refine wpAnyH_take (i := 19) (v := .bool false) rfl (by kernel_rfl) (by kernel_rfl) (by kernel_rfl) (fun _ _ _ h => h) (Or.inl ⟨by rfl, fun w_ hS_ => by (first | (go_simp; done) | (go_simp; rfl))⟩) ⟨rowAt Zl, rowMid Zl 2 (Ld.ballot L), rowAt Zb, rowAt Za⟩ ?_
  try simp only [Act.put, List.getElem_toArray, List.getElem_cons_zero, List.getElem_cons_succ, List.setIfInBounds_toArray, List.set_cons_zero, List.set_cons_succ]
  refine wpAnyH_take (i := 20) (v := .bool false) rfl (by kernel_rfl) (by kernel_rfl) (by kernel_rfl) (fun _ _ _ h => h) (Or.inl ⟨by rfl, fun w_ hS_ => by (first | (go_simp; done) | (go_simp; rfl))⟩) ⟨rowAt Zl, rowMid Zl 2 (Ld.ballot L), rowAt Zb, rowAt Za⟩ ?_
  try simp only [Act.put, List.getElem_toArray, List.getElem_cons_zero, List.getElem_cons_succ, List.setIfInBounds_toArray, List.set_cons_zero, List.set_cons_succ]
  refine wpAnyH_take (i := 21) (v := .int .i64 k) rfl (by kernel_rfl) (by kernel_rfl) (by kernel_rfl) (fun _ _ _ h => h) (Or.inl ⟨by rfl, fun w_ hS_ => by (first | (go_simp; done) | (go_simp; rfl))⟩) ⟨rowAt Zl, rowMid Zl 2 (Ld.ballot L), rowAt Zb, rowAt Za⟩ ?_
  try simp only [Act.put, List.getElem_toArray, List.getElem_cons_zero, List.getElem_cons_succ, List.setIfInBounds_toArray, List.set_cons_zero, List.set_cons_succ]
  refine wpAnyH_take (i := 22) (v := .bool false) rfl (by kernel_rfl) (by kernel_rfl) (by kernel_rfl) (fun _ _ _ h => h) (Or.inl ⟨by rfl, fun w_ hS_ => by (first | (go_simp; done) | (go_simp; rfl))⟩) ⟨rowAt Zl, rowMid Zl 2 (Ld.ballot L), rowAt Zb, rowAt Za⟩ ?_
  try simp only [Act.put, List.getElem_toArray, List.getElem_cons_zero, List.getElem_cons_succ, List.setIfInBounds_toArray, List.set_cons_zero, List.set_cons_succ]
  refine wpAnyH_take (i := 23) (v := .bool false) rfl (by kernel_rfl) (by kernel_rfl) (by kernel_rfl) (fun _ _ _ h => h) (Or.inl ⟨by rfl, fun w_ hS_ => by (first | (go_simp; done) | (go_simp; rfl))⟩) ⟨rowAt Zl, rowMid Zl 2 (Ld.ballot L), rowAt Zb, rowAt Za⟩ ?_
  try simp only [Act.put, List.getElem_toArray, List.getElem_cons_zero, List.getElem_cons_succ, List.setIfInBounds_toArray, List.set_cons_zero, List.set_cons_succ]
  refine wpAnyH_take (i := 24) (v := .bool false) rfl (by kernel_rfl) (by kernel_rfl) (by kernel_rfl) (fun _ _ _ h => h) (Or.inl ⟨by rfl, fun w_ hS_ => by (first | (go_simp; done) | (go_simp; rfl))⟩) ⟨rowAt Zl, rowMid Zl 2 (Ld.ballot L), rowAt Zb, rowAt Za⟩ ?_
  try simp only [Act.put, List.getElem_toArray, List.getElem_cons_zero, List.getElem_cons_succ, List.setIfInBounds_toArray, List.set_cons_zero, List.set_cons_succ]
  refine wpAnyH_take (i := 25) (v := .int .i64 k) rfl (by kernel_rfl) (by kernel_rfl) (by kernel_rfl) (fun _ _ _ h => h) (Or.inl ⟨by rfl, fun w_ hS_ => by (first | (go_simp; done) | (go_simp; rfl))⟩) ⟨rowAt Zl, rowMid Zl 2 (Ld.ballot L), rowAt Zb, rowAt Za⟩ ?_
  try simp only [Act.put, List.getElem_toArray, List.getElem_cons_zero, List.getElem_cons_succ, List.setIfInBounds_toArray, List.set_cons_zero, List.set_cons_succ]
  refine wpAnyH_take (i := 26) (v := .pointer (some ⟨h, 0, none⟩)) rfl (by kernel_rfl) (by kernel_rfl) (by kernel_rfl) (fun _ _ _ h => h) (Or.inl ⟨by rfl, fun w_ hS_ => by (first | (go_simp; done) | (go_simp; rfl))⟩) ⟨rowAt Zl, rowMid Zl 2 (Ld.ballot L), rowAt Zb, rowAt Za⟩ ?_
  try simp only [Act.put, List.getElem_toArray, List.getElem_cons_zero, List.getElem_cons_succ, List.setIfInBounds_toArray, List.set_cons_zero, List.set_cons_succ]
  refine wpAnyH_take (i := 27) (v := .pointer (some ⟨h, 0, none⟩)) rfl (by kernel_rfl) (by kernel_rfl) (by kernel_rfl) (fun _ _ _ h => h) (Or.inl ⟨by rfl, fun w_ hS_ => by (first | (go_simp; done) | (go_simp; rfl))⟩) ⟨rowAt Zl, rowMid Zl 2 (Ld.ballot L), rowAt Zb, rowAt Za⟩ ?_
  try simp only [Act.put, List.getElem_toArray, List.getElem_cons_zero, List.getElem_cons_succ, List.setIfInBounds_toArray, List.set_cons_zero, List.set_cons_succ]
  refine wpAnyH_take (i := 28) (v := .pointer (some ⟨h, 0, none⟩)) rfl (by kernel_rfl) (by kernel_rfl) (by kernel_rfl) (fun _ _ _ h => h) (Or.inl ⟨by rfl, fun w_ hS_ => by (first | (go_simp; done) | (go_simp; rfl))⟩) ⟨rowAt Zl, rowMid Zl 2 (Ld.ballot L), rowAt Zb, rowAt Za⟩ ?_
  try simp only [Act.put, List.getElem_toArray, List.getElem_cons_zero, List.getElem_cons_succ, List.setIfInBounds_toArray, List.set_cons_zero, List.set_cons_succ]
  refine wpAnyH_take (i := 29) (v := .int .i64 L.n) rfl (by kernel_rfl) (by kernel_rfl) (by kernel_rfl) (fun _ _ _ h => h) (Or.inl ⟨by rfl, fun w_ hS_ => by (have c_ := rangeCell0 hS_.1 0 rfl; go_simp)⟩) ⟨rowAt Zl, rowMid Zl 2 (Ld.ballot L), rowAt Zb, rowAt Za⟩ ?_
  try simp only [Act.put, List.getElem_toArray, List.getElem_cons_zero, List.getElem_cons_succ, List.setIfInBounds_toArray, List.set_cons_zero, List.set_cons_succ]
  refine wpAnyH_take (i := 30) (v := .bool false) rfl (by kernel_rfl) (by kernel_rfl) (by kernel_rfl) (fun _ _ _ h => h) (Or.inl ⟨by rfl, fun w_ hS_ => by (first | (go_simp; done) | (go_simp; rfl))⟩) ⟨rowAt Zl, rowMid Zl 2 (Ld.ballot L), rowAt Zb, rowAt Za⟩ ?_
  try simp only [Act.put, List.getElem_toArray, List.getElem_cons_zero, List.getElem_cons_succ, List.setIfInBounds_toArray, List.set_cons_zero, List.set_cons_succ]
  refine wpAnyH_take (i := 31) (v := .bool false) rfl (by kernel_rfl) (by kernel_rfl) (by kernel_rfl) (fun _ _ _ h => h) (Or.inl ⟨by rfl, fun w_ hS_ => by (first | (go_simp; done) | (go_simp; rfl))⟩) ⟨rowAt Zl, rowMid Zl 2 (Ld.ballot L), rowAt Zb, rowAt Za⟩ ?_
  try simp only [Act.put, List.getElem_toArray, List.getElem_cons_zero, List.getElem_cons_succ, List.setIfInBounds_toArray, List.set_cons_zero, List.set_cons_succ]
  refine wpAnyH_take (i := 32) (v := .bool false) rfl (by kernel_rfl) (by kernel_rfl) (by kernel_rfl) (fun _ _ _ h => h) (Or.inl ⟨by rfl, fun w_ hS_ => by (first | (go_simp; done) | (go_simp; rfl))⟩) ⟨rowAt Zl, rowMid Zl 2 (Ld.ballot L), rowAt Zb, rowAt Za⟩ ?_
  try simp only [Act.put, List.getElem_toArray, List.getElem_cons_zero, List.getElem_cons_succ, List.setIfInBounds_toArray, List.set_cons_zero, List.set_cons_succ]
  refine wpAnyH_take (i := 33) (v := .pointer (some ⟨h, 0, none⟩)) rfl (by kernel_rfl) (by kernel_rfl) (by kernel_rfl) (fun _ _ _ h => h) (Or.inl ⟨by rfl, fun w_ hS_ => by (first | (go_simp; done) | (go_simp; rfl))⟩) ⟨rowAt Zl, rowMid Zl 2 (Ld.ballot L), rowAt Zb, rowAt Za⟩ ?_
  try simp only [Act.put, List.getElem_toArray, List.getElem_cons_zero, List.getElem_cons_succ, List.setIfInBounds_toArray, List.set_cons_zero, List.set_cons_succ]
  refine wpAnyH_take (i := 34) (v := .pointer (some ⟨h, 0, none⟩)) rfl (by kernel_rfl) (by kernel_rfl) (by kernel_rfl) (fun _ _ _ h => h) (Or.inl ⟨by rfl, fun w_ hS_ => by (first | (go_simp; done) | (go_simp; rfl))⟩) ⟨rowAt Zl, rowMid Zl 2 (Ld.ballot L), rowAt Zb, rowAt Za⟩ ?_
  try simp only [Act.put, List.getElem_toArray, List.getElem_cons_zero, List.getElem_cons_succ, List.setIfInBounds_toArray, List.set_cons_zero, List.set_cons_succ]
  refine wpAnyH_take (i := 35) (v := .pointer (some ⟨h, 4, none⟩)) rfl (by kernel_rfl) (by kernel_rfl) (by kernel_rfl) (fun _ _ _ h => h) (Or.inl ⟨by rfl, fun w_ hS_ => by (first | (go_simp; done) | (go_simp; rfl))⟩) ⟨rowAt Zl, rowMid Zl 2 (Ld.ballot L), rowAt Zb, rowAt Za⟩ ?_
  try simp only [Act.put, List.getElem_toArray, List.getElem_cons_zero, List.getElem_cons_succ, List.setIfInBounds_toArray, List.set_cons_zero, List.set_cons_succ]
  refine wpAnyH_take (i := 36) (v := .int .u64 (L.pr : Int)) rfl (by kernel_rfl) (by kernel_rfl) (by kernel_rfl) (fun _ _ _ h => h) (Or.inl ⟨by rfl, fun w_ hS_ => by (have c_ := rangeCell0 hS_.1 4 rfl; go_simp)⟩) ⟨rowAt Zl, rowMid Zl 2 (Ld.ballot L), rowAt Zb, rowAt Za⟩ ?_
  try simp only [Act.put, List.getElem_toArray, List.getElem_cons_zero, List.getElem_cons_succ, List.setIfInBounds_toArray, List.set_cons_zero, List.set_cons_succ]
  refine wpAnyH_take (i := 37) (v := .int .i64 k) rfl (by kernel_rfl) (by kernel_rfl) (by kernel_rfl) (fun _ _ _ h => h) (Or.inl ⟨by rfl, fun w_ hS_ => by (first | (go_simp; done) | (go_simp; rfl))⟩) ⟨rowAt Zl, rowMid Zl 2 (Ld.ballot L), rowAt Zb, rowAt Za⟩ ?_
  try simp only [Act.put, List.getElem_toArray, List.getElem_cons_zero, List.getElem_cons_succ, List.setIfInBounds_toArray, List.set_cons_zero, List.set_cons_succ]
  refine wpAnyH_ready (rs := [38]) (by kernel_rfl) (by simp) ?_
  refine AllReadyH.cons rfl (fun K hK => ?_) AllReadyH.nil
  rw [if_pos (by rfl)]
  go_simp
  go_wp2_with (go_at_call 80; refine (HQ.out z2).mono ?_; rintro e z3 ⟨rfl, hw_⟩; rw [← hw_]; clear hw_ z3)
  refine hK.out _ _ ⟨rowAt Zl, rowMid Zl 2 (Ld.ballot L), rowAt Zb, rowAt Za⟩ (fun hH => ?_)
  clear hK K hH
  try simp only [Act.put, List.getElem_toArray, List.getElem_cons_zero, List.getElem_cons_succ, List.setIfInBounds_toArray, List.set_cons_zero, List.set_cons_succ]
  refine wpAnyH_take (i := 39) (v := .bool false) rfl (by kernel_rfl) (by kernel_rfl) (by kernel_rfl) (fun _ _ _ h => h) (Or.inl ⟨by rfl, fun w_ hS_ => by (first | (go_simp; done) | (go_simp; rfl))⟩) ⟨rowAt Zl, rowMid Zl 2 (Ld.ballot L), rowAt Zb, rowAt Za⟩ ?_
  try simp only [Act.put, List.getElem_toArray, List.getElem_cons_zero, List.getElem_cons_succ, List.setIfInBounds_toArray, List.set_cons_zero, List.set_cons_succ]
  refine wpAnyH_done (by kernel_rfl) ?_ _
  clear e0 HQ HFO hI hJ e4 e5
  go_upto_region 3 with fail
  refine wp_region_lit ?_
  have c4 := rowCell Zl 4 rfl
  go_wp2_with fail
  refine (HA.out z2).mono ?_
  rintro e z4 ⟨rfl, hw_⟩
  rw [← hw_]
  clear hw_ z4 HA c4
  dsimp only
  rename_i hK
  refine hK _ _ ?_
  clear hK
  iterate 40 (first | with_reducible refine isStore (ty := 35) rfl ?_ | go_step)
  have f_ : z2.frozen? ⟨h, 4, none⟩ = false := freeAt Zl 4
  have c_ := rowCell Zl 4 rfl
  iterate 3 go_step
  clear f_ c_
  have hu := lgOwnC hu (lgKind hu Zl (by decide)) ([.int .u64 (Q.addN L.pr k : Int)]) 4
  have N_ : (z2.setCells (h) 4 ([.int .u64 (Q.addN L.pr k : Int)])).heap[h]? = some (.cells ([.int .i64 L.n, .int .i64 L.nd, .int .u32 (L.br : Int), .int .i64 L.bn, .int .u64 (Q.addN L.pr k : Int), .slice L.A L.l.length L.c, .int .i64 L.fs, .int .i64 L.sl, .int .i64 L.x.k, .int .i64 L.x.s, .int .i64 L.x.q, .slice L.x.A1 L.x.rs.length L.x.c1, .slice L.x.A2 L.x.ws.length L.x.c2, .int .i64 L.x.i, .int .i64 L.x.j, .int .i64 L.x.g, .int .u64 (L.x.st : Int), .bool L.x.y, .int .u64 (L.vt : Int)]).toArray 144) := hpC ([.int .u64 (Q.addN L.pr k : Int)]) 4 _ z2 Zl
  have ee := frCells (k := h) (by first | (right; omega) | (left; left; rfl)) ([.int .u64 (Q.addN L.pr k : Int)]) 4 z2 ee
  have Zb := hpCo (g' := h) (by omega) ([.int .u64 (Q.addN L.pr k : Int)]) 4 z2 Zb
  have Za := hpCo (g' := h) (by omega) ([.int .u64 (Q.addN L.pr k : Int)]) 4 z2 Za
  clear Zl
  have Zl := N_
  clear N_
  change wpList _ _ _ _ _ (z2.setCells (h) 4 ([.int .u64 (Q.addN L.pr k : Int)]))
  generalize z2.setCells (h) 4 ([.int .u64 (Q.addN L.pr k : Int)]) = z5 at Zl Zb Za hu ee ⊢
  generalize hvt : Q.addN L.pr k = pr2 at Zl ⊢
  go_upto_region 4 with fail
  have Zl : z5.drew.heap[h]? = some (.cells ([.int .i64 L.n, .int .i64 L.nd, .int .u32 (L.br : Int), .int .i64 L.bn, .int .u64 (pr2 : Int), .slice L.A L.l.length L.c, .int .i64 L.fs, .int .i64 L.sl, .int .i64 L.x.k, .int .i64 L.x.s, .int .i64 L.x.q, .slice L.x.A1 L.x.rs.length L.x.c1, .slice L.x.A2 L.x.ws.length L.x.c2, .int .i64 L.x.i, .int .i64 L.x.j, .int .i64 L.x.g, .int .u64 (L.x.st : Int), .bool L.x.y, .int .u64 (L.vt : Int)]).toArray 144) := Zl
  have Zb : z5.drew.heap[w.heap.size]? = some (.cells [.int .u32 (L.br : Int), .int .i64 L.bn].toArray 28) := Zb
  have Za : z5.drew.heap[w.heap.size + 1]? = some (.cells a.cells.toArray 39) := Za
  have hu := World.ownsRow.drew hu
  have ee := frDrew ee
  refine wp_region_held_drew (S := fun z' => z'.rangeAt (w.heap.size + 1) 0 a.cells) (by kernel_rfl) (rowAt Za) (fun hH => ?_)
  clear hH
  generalize z5.drew = z6 at Zl Zb Za hu ee ⊢
  refine wpAnyH_take (i := 0) (v := .pointer (some ⟨h, 0, none⟩)) rfl (by kernel_rfl) (by kernel_rfl) (by kernel_rfl) (fun _ _ _ h => h) (Or.inl ⟨by rfl, fun w_ hS_ => by (first | (go_simp; done) | (go_simp; rfl))⟩) (rowAt Za) ?_
  try simp only [Act.put, List.getElem_toArray, List.getElem_cons_zero, List.getElem_cons_succ, List.setIfInBounds_toArray, List.set_cons_zero, List.set_cons_succ]
  refine wpAnyH_take (i := 1) (v := .pointer (some ⟨h, 0, none⟩)) rfl (by kernel_rfl) (by kernel_rfl) (by kernel_rfl) (fun _ _ _ h => h) (Or.inl ⟨by rfl, fun w_ hS_ => by (first | (go_simp; done) | (go_simp; rfl))⟩) (rowAt Za) ?_
  try simp only [Act.put, List.getElem_toArray, List.getElem_cons_zero, List.getElem_cons_succ, List.setIfInBounds_toArray, List.set_cons_zero, List.set_cons_succ]
  refine wpAnyH_take (i := 2) (v := .pointer (some ⟨h, 0, none⟩)) rfl (by kernel_rfl) (by kernel_rfl) (by kernel_rfl) (fun _ _ _ h => h) (Or.inl ⟨by rfl, fun w_ hS_ => by (first | (go_simp; done) | (go_simp; rfl))⟩) (rowAt Za) ?_
  try simp only [Act.put, List.getElem_toArray, List.getElem_cons_zero, List.getElem_cons_succ, List.setIfInBounds_toArray, List.set_cons_zero, List.set_cons_succ]
  refine wpAnyH_take (i := 3) (v := .pointer (some ⟨h, 5, none⟩)) rfl (by kernel_rfl) (by kernel_rfl) (by kernel_rfl) (fun _ _ _ h => h) (Or.inl ⟨by rfl, fun w_ hS_ => by (first | (go_simp; done) | (go_simp; rfl))⟩) (rowAt Za) ?_
  try simp only [Act.put, List.getElem_toArray, List.getElem_cons_zero, List.getElem_cons_succ, List.setIfInBounds_toArray, List.set_cons_zero, List.set_cons_succ]
  refine wpAnyH_take (i := 5) (v := .agg (a.cells).toArray) rfl (by kernel_rfl) (by kernel_rfl) (by kernel_rfl) (fun _ _ _ h => h) (yieldsIf_load_mid (by rfl) 39 _ rfl (w.heap.size + 1) 0 rfl (a.cells) _ (fun _ h => h) Tryd.underlying39 rfl sizeAc) (rowAt Za) ?_
  try simp only [Act.put, List.getElem_toArray, List.getElem_cons_zero, List.getElem_cons_succ, List.setIfInBounds_toArray, List.set_cons_zero, List.set_cons_succ]
  refine wpAnyH_ready (rs := [4, 6]) (by kernel_rfl) (by simp) ?_
  refine AllReadyH.cons rfl (fun K hK => ?_) (AllReadyH.cons rfl (fun K hK => ?_) AllReadyH.nil)
  · rw [if_pos (by rfl)]
    have c_ := rowCell Zl 5 (v := .slice L.A L.l.length L.c) rfl
    go_simp
    clear c_
    refine hK.out _ _ (rowAt Za) (fun hH => ?_)
    clear hK K hH
    try simp only [Act.put, List.getElem_toArray, List.getElem_cons_zero, List.getElem_cons_succ, List.setIfInBounds_toArray, List.set_cons_zero, List.set_cons_succ]
    refine wpAnyH_ready (rs := [6]) (by kernel_rfl) (by simp) ?_
    refine AllReadyH.cons rfl (fun K hK => ?_) AllReadyH.nil
    rw [if_pos (by rfl)]
    refine wp_buildSlice 22 39 1 #[(0, .tmp 63)] rfl a.cells.toArray i1 (.agg #[.int .u32 0, .int .i64 0, .int .i64 0, .bool false, .int .u32 0, .int .i64 0, .int .i64 0, .int .i64 0, .int .i64 0, .slice none 0 0, .slice none 0 0, .int .i64 0, .int .i64 0, .int .i64 0, .int .u64 0, .bool false]) Tryd.underlying22 hi1 hz10 (by rw [hz11]; decide) (by rw [hz11]; decide) (by rw [hz11]; simp only [List.map_toArray, List.map_cons, List.map_nil]; exact lgFill16 _ _ (by simp)) ?_
    have lZl := (Array.getElem?_eq_some_iff.1 Zl).1
    have lZb := (Array.getElem?_eq_some_iff.1 Zb).1
    have lZa := (Array.getElem?_eq_some_iff.1 Za).1
    have Zl := hpA Zl (.cells a.cells.toArray 39)
    have Zb := hpA Zb (.cells a.cells.toArray 39)
    have Za := hpA Za (.cells a.cells.toArray 39)
    have hu := hu.alloc (.cells a.cells.toArray 39)
    have sz6 := ee.1.size
    have ee := frAlloc ee (.cells a.cells.toArray 39)
    have Zn := hpN z6 (.cells a.cells.toArray 39) rfl
    generalize z6.alloc (.cells a.cells.toArray 39) = z7 at Zl Zb Za Zn hu ee ⊢
    refine hK.out _ _ (rowAt Za) (fun hH => ?_)
    clear hK K hH
    try simp only [Act.put, List.getElem_toArray, List.getElem_cons_zero, List.getElem_cons_succ, List.setIfInBounds_toArray, List.set_cons_zero, List.set_cons_succ]
    refine wpAnyH_ready (rs := [7]) (by kernel_rfl) (by simp) ?_
    refine AllReadyH.cons rfl (fun K hK => ?_) AllReadyH.nil
    rw [if_pos (by rfl)]
    refine wp_append_own _ (.tmp 62) (.tmp 64) 22 rfl B 39 i1 (.agg #[.int .u32 0, .int .i64 0, .int .i64 0, .bool false, .int .u32 0, .int .i64 0, .int .i64 0, .int .i64 0, .int .i64 0, .slice none 0 0, .slice none 0 0, .int .i64 0, .int .i64 0, .int .i64 0, .int .u64 0, .bool false]) 16 160 Tryd.underlying22 hi1 hz10 hz11 hz12 rfl (by decide) _ _ _ rfl hu ⟨z6.heap.size, 0, none⟩ 1 1 a.cells rfl rfl (lgRowAdd Zn) (by intro u hu_; exact (Array.all_eq_true_iff_forall_mem.1 (Ac.one a)) u (by simpa using hu_)) (by unfold maxLen; omega) (by omega) (Nat.le_trans hB ee.1.size) ?_
    intro u_ z8 ho_ hg_ _
    clear Zn
    have Zl := lgHeap Zl hu (by decide) hg_
    have Zb := lgHeap Zb hu (by decide) hg_
    have Za := lgHeapB Za hlow hg_
    have ee := frOwnE ee hu hg_ (by first | omega | exact hPown)
    clear hg_ hu
    obtain ⟨A9, c9, hu9, _, _, _⟩ := ownShape ho_
    subst hu9
    have hu := ho_
    clear ho_
    refine hK.out _ _ (rowAt Za) (fun hH => ?_)
    clear hK K hH
    try simp only [Act.put, List.getElem_toArray, List.getElem_cons_zero, List.getElem_cons_succ, List.setIfInBounds_toArray, List.set_cons_zero, List.set_cons_succ]
    refine wpAnyH_take (i := 8) (v := .pointer (some ⟨h, 0, none⟩)) rfl (by kernel_rfl) (by kernel_rfl) (by kernel_rfl) (fun _ _ _ h => h) (Or.inl ⟨by rfl, fun w_ hS_ => by (first | (go_simp; done) | (go_simp; rfl))⟩) (rowAt Za) ?_
    try simp only [Act.put, List.getElem_toArray, List.getElem_cons_zero, List.getElem_cons_succ, List.setIfInBounds_toArray, List.set_cons_zero, List.set_cons_succ]
    refine wpAnyH_take (i := 9) (v := .pointer (some ⟨h, 5, none⟩)) rfl (by kernel_rfl) (by kernel_rfl) (by kernel_rfl) (fun _ _ _ h => h) (Or.inl ⟨by rfl, fun w_ hS_ => by (first | (go_simp; done) | (go_simp; rfl))⟩) (rowAt Za) ?_
    try simp only [Act.put, List.getElem_toArray, List.getElem_cons_zero, List.getElem_cons_succ, List.setIfInBounds_toArray, List.set_cons_zero, List.set_cons_succ]
    refine wpAnyH_ready (rs := [10]) (by kernel_rfl) (by simp) ?_
    refine AllReadyH.cons rfl (fun K hK => ?_) AllReadyH.nil
    rw [if_pos (by rfl)]
    have f_ : z8.frozen? ⟨h, 5, none⟩ = false := freeAt Zl 5
    have c_ := rowCell Zl 5 rfl
    go_simp
    clear f_ c_
    have hu := lgOwnC hu (lgKind hu Zl (by decide)) ([.slice A9 (L.l.length + 1) c9]) 5
    have N_ : (z8.setCells (h) 5 ([.slice A9 (L.l.length + 1) c9])).heap[h]? = some (.cells ([.int .i64 L.n, .int .i64 L.nd, .int .u32 (L.br : Int), .int .i64 L.bn, .int .u64 (pr2 : Int), .slice A9 (L.l.length + 1) c9, .int .i64 L.fs, .int .i64 L.sl, .int .i64 L.x.k, .int .i64 L.x.s, .int .i64 L.x.q, .slice L.x.A1 L.x.rs.length L.x.c1, .slice L.x.A2 L.x.ws.length L.x.c2, .int .i64 L.x.i, .int .i64 L.x.j, .int .i64 L.x.g, .int .u64 (L.x.st : Int), .bool L.x.y, .int .u64 (L.vt : Int)]).toArray 144) := hpC ([.slice A9 (L.l.length + 1) c9]) 5 _ z8 Zl
    have ee := frCells (k := h) (by first | (right; omega) | (left; left; rfl)) ([.slice A9 (L.l.length + 1) c9]) 5 z8 ee
    have Zb := hpCo (g' := h) (by omega) ([.slice A9 (L.l.length + 1) c9]) 5 z8 Zb
    have Za := hpCo (g' := h) (by omega) ([.slice A9 (L.l.length + 1) c9]) 5 z8 Za
    clear Zl
    have Zl := N_
    clear N_
    change K _ (z8.setCells (h) 5 [.slice A9 (L.l.length + 1) c9])
    generalize z8.setCells (h) 5 [.slice A9 (L.l.length + 1) c9] = z9 at Zl Zb Za hu ee ⊢
    refine hK.out _ _ (rowAt Za) (fun hH => ?_)
    clear hK K hH
    try simp only [Act.put, List.getElem_toArray, List.getElem_cons_zero, List.getElem_cons_succ, List.setIfInBounds_toArray, List.set_cons_zero, List.set_cons_succ]
    refine wpAnyH_done (by kernel_rfl) ?_ _
    clear hi1 hz10 hz11 hz12 hlow hPown
    go_upto_region 5 with fail
    have c6 := rowCell Zl 6 rfl
    have a2 := rowCell Za 2 (v := .int .i64 a.sl) rfl
    go_still_tail 10, (by kernel_rfl)
    have Zl : z9.drew.heap[h]? = some (.cells ([.int .i64 L.n, .int .i64 L.nd, .int .u32 (L.br : Int), .int .i64 L.bn, .int .u64 (pr2 : Int), .slice A9 (L.l.length + 1) c9, .int .i64 L.fs, .int .i64 L.sl, .int .i64 L.x.k, .int .i64 L.x.s, .int .i64 L.x.q, .slice L.x.A1 L.x.rs.length L.x.c1, .slice L.x.A2 L.x.ws.length L.x.c2, .int .i64 L.x.i, .int .i64 L.x.j, .int .i64 L.x.g, .int .u64 (L.x.st : Int), .bool L.x.y, .int .u64 (L.vt : Int)]).toArray 144) := Zl
    have Zb : z9.drew.heap[w.heap.size]? = some (.cells [.int .u32 (L.br : Int), .int .i64 L.bn].toArray 28) := Zb
    have Za : z9.drew.heap[w.heap.size + 1]? = some (.cells a.cells.toArray 39) := Za
    have hu := World.ownsRow.drew hu
    have ee := frDrew ee
    change wpList _ _ _ _ _ z9.drew
    generalize z9.drew = z10 at Zl Zb Za hu ee ⊢
    clear c6 a2
    iterate 40 (first | with_reducible refine isStore (ty := 3) rfl ?_ | go_step)
    have f_ : z10.frozen? ⟨h, 6, none⟩ = false := freeAt Zl 6
    have c_ := rowCell Zl 6 rfl
    iterate 3 go_step
    clear f_ c_
    have hu := lgOwnC hu (lgKind hu Zl (by decide)) ([.int .i64 (max L.fs a.sl)]) 6
    have N_ : (z10.setCells (h) 6 ([.int .i64 (max L.fs a.sl)])).heap[h]? = some (.cells ([.int .i64 L.n, .int .i64 L.nd, .int .u32 (L.br : Int), .int .i64 L.bn, .int .u64 (pr2 : Int), .slice A9 (L.l.length + 1) c9, .int .i64 (max L.fs a.sl), .int .i64 L.sl, .int .i64 L.x.k, .int .i64 L.x.s, .int .i64 L.x.q, .slice L.x.A1 L.x.rs.length L.x.c1, .slice L.x.A2 L.x.ws.length L.x.c2, .int .i64 L.x.i, .int .i64 L.x.j, .int .i64 L.x.g, .int .u64 (L.x.st : Int), .bool L.x.y, .int .u64 (L.vt : Int)]).toArray 144) := hpC ([.int .i64 (max L.fs a.sl)]) 6 _ z10 Zl
    have ee := frCells (k := h) (by first | (right; omega) | (left; left; rfl)) ([.int .i64 (max L.fs a.sl)]) 6 z10 ee
    have Zb := hpCo (g' := h) (by omega) ([.int .i64 (max L.fs a.sl)]) 6 z10 Zb
    have Za := hpCo (g' := h) (by omega) ([.int .i64 (max L.fs a.sl)]) 6 z10 Za
    clear Zl
    have Zl := N_
    clear N_
    change wpList _ _ _ _ _ (z10.setCells (h) 6 ([.int .i64 (max L.fs a.sl)]))
    generalize z10.setCells (h) 6 ([.int .i64 (max L.fs a.sl)]) = z11 at Zl Zb Za hu ee ⊢
    go_wp2_with fail
    go_ret
    have hlen2 : (L.l ++ [a]).length = L.l.length + 1 := by simp
    refine ⟨rfl, A9, c9, ?_, by rw [hlen2, acCells_snoc]; exact hu, ee⟩
    rw [hvt]
    unfold LdAt T.Ld.cells
    simp only [hlen2]
    exact Zl
  · rw [if_pos (by rfl)]
    refine wp_buildSlice 22 39 1 #[(0, .tmp 63)] rfl a.cells.toArray i1 (.agg #[.int .u32 0, .int .i64 0, .int .i64 0, .bool false, .int .u32 0, .int .i64 0, .int .i64 0, .int .i64 0, .int .i64 0, .slice none 0 0, .slice none 0 0, .int .i64 0, .int .i64 0, .int .i64 0, .int .u64 0, .bool false]) Tryd.underlying22 hi1 hz10 (by rw [hz11]; decide) (by rw [hz11]; decide) (by rw [hz11]; simp only [List.map_toArray, List.map_cons, List.map_nil]; exact lgFill16 _ _ (by simp)) ?_
    have lZl := (Array.getElem?_eq_some_iff.1 Zl).1
    have lZb := (Array.getElem?_eq_some_iff.1 Zb).1
    have lZa := (Array.getElem?_eq_some_iff.1 Za).1
    have Zl := hpA Zl (.cells a.cells.toArray 39)
    have Zb := hpA Zb (.cells a.cells.toArray 39)
    have Za := hpA Za (.cells a.cells.toArray 39)
    have hu := hu.alloc (.cells a.cells.toArray 39)
    have sz6 := ee.1.size
    have ee := frAlloc ee (.cells a.cells.toArray 39)
    have Zn := hpN z6 (.cells a.cells.toArray 39) rfl
    generalize z6.alloc (.cells a.cells.toArray 39) = z7 at Zl Zb Za Zn hu ee ⊢
    refine hK.out _ _ (rowAt Za) (fun hH => ?_)
    clear hK K hH
    try simp only [Act.put, List.getElem_toArray, List.getElem_cons_zero, List.getElem_cons_succ, List.setIfInBounds_toArray, List.set_cons_zero, List.set_cons_succ]
    refine wpAnyH_ready (rs := [4]) (by kernel_rfl) (by simp) ?_
    refine AllReadyH.cons rfl (fun K hK => ?_) AllReadyH.nil
    rw [if_pos (by rfl)]
    have c_ := rowCell Zl 5 (v := .slice L.A L.l.length L.c) rfl
    go_simp
    clear c_
    refine hK.out _ _ (rowAt Za) (fun hH => ?_)
    clear hK K hH
    try simp only [Act.put, List.getElem_toArray, List.getElem_cons_zero, List.getElem_cons_succ, List.setIfInBounds_toArray, List.set_cons_zero, List.set_cons_succ]
    refine wpAnyH_ready (rs := [7]) (by kernel_rfl) (by simp) ?_
    refine AllReadyH.cons rfl (fun K hK => ?_) AllReadyH.nil
    rw [if_pos (by rfl)]
    refine wp_append_own _ (.tmp 62) (.tmp 64) 22 rfl B 39 i1 (.agg #[.int .u32 0, .int .i64 0, .int .i64 0, .bool false, .int .u32 0, .int .i64 0, .int .i64 0, .int .i64 0, .int .i64 0, .slice none 0 0, .slice none 0 0, .int .i64 0, .int .i64 0, .int .i64 0, .int .u64 0, .bool false]) 16 160 Tryd.underlying22 hi1 hz10 hz11 hz12 rfl (by decide) _ _ _ rfl hu ⟨z6.heap.size, 0, none⟩ 1 1 a.cells rfl rfl (lgRowAdd Zn) (by intro u hu_; exact (Array.all_eq_true_iff_forall_mem.1 (Ac.one a)) u (by simpa using hu_)) (by unfold maxLen; omega) (by omega) (Nat.le_trans hB ee.1.size) ?_
    intro u_ z8 ho_ hg_ _
    clear Zn
    have Zl := lgHeap Zl hu (by decide) hg_
    have Zb := lgHeap Zb hu (by decide) hg_
    have Za := lgHeapB Za hlow hg_
    have ee := frOwnE ee hu hg_ (by first | omega | exact hPown)
    clear hg_ hu
    obtain ⟨A9, c9, hu9, _, _, _⟩ := ownShape ho_
    subst hu9
    have hu := ho_
    clear ho_
    refine hK.out _ _ (rowAt Za) (fun hH => ?_)
    clear hK K hH
    try simp only [Act.put, List.getElem_toArray, List.getElem_cons_zero, List.getElem_cons_succ, List.setIfInBounds_toArray, List.set_cons_zero, List.set_cons_succ]
    refine wpAnyH_take (i := 8) (v := .pointer (some ⟨h, 0, none⟩)) rfl (by kernel_rfl) (by kernel_rfl) (by kernel_rfl) (fun _ _ _ h => h) (Or.inl ⟨by rfl, fun w_ hS_ => by (first | (go_simp; done) | (go_simp; rfl))⟩) (rowAt Za) ?_
    try simp only [Act.put, List.getElem_toArray, List.getElem_cons_zero, List.getElem_cons_succ, List.setIfInBounds_toArray, List.set_cons_zero, List.set_cons_succ]
    refine wpAnyH_take (i := 9) (v := .pointer (some ⟨h, 5, none⟩)) rfl (by kernel_rfl) (by kernel_rfl) (by kernel_rfl) (fun _ _ _ h => h) (Or.inl ⟨by rfl, fun w_ hS_ => by (first | (go_simp; done) | (go_simp; rfl))⟩) (rowAt Za) ?_
    try simp only [Act.put, List.getElem_toArray, List.getElem_cons_zero, List.getElem_cons_succ, List.setIfInBounds_toArray, List.set_cons_zero, List.set_cons_succ]
    refine wpAnyH_ready (rs := [10]) (by kernel_rfl) (by simp) ?_
    refine AllReadyH.cons rfl (fun K hK => ?_) AllReadyH.nil
    rw [if_pos (by rfl)]
    have f_ : z8.frozen? ⟨h, 5, none⟩ = false := freeAt Zl 5
    have c_ := rowCell Zl 5 rfl
    go_simp
    clear f_ c_
    have hu := lgOwnC hu (lgKind hu Zl (by decide)) ([.slice A9 (L.l.length + 1) c9]) 5
    have N_ : (z8.setCells (h) 5 ([.slice A9 (L.l.length + 1) c9])).heap[h]? = some (.cells ([.int .i64 L.n, .int .i64 L.nd, .int .u32 (L.br : Int), .int .i64 L.bn, .int .u64 (pr2 : Int), .slice A9 (L.l.length + 1) c9, .int .i64 L.fs, .int .i64 L.sl, .int .i64 L.x.k, .int .i64 L.x.s, .int .i64 L.x.q, .slice L.x.A1 L.x.rs.length L.x.c1, .slice L.x.A2 L.x.ws.length L.x.c2, .int .i64 L.x.i, .int .i64 L.x.j, .int .i64 L.x.g, .int .u64 (L.x.st : Int), .bool L.x.y, .int .u64 (L.vt : Int)]).toArray 144) := hpC ([.slice A9 (L.l.length + 1) c9]) 5 _ z8 Zl
    have ee := frCells (k := h) (by first | (right; omega) | (left; left; rfl)) ([.slice A9 (L.l.length + 1) c9]) 5 z8 ee
    have Zb := hpCo (g' := h) (by omega) ([.slice A9 (L.l.length + 1) c9]) 5 z8 Zb
    have Za := hpCo (g' := h) (by omega) ([.slice A9 (L.l.length + 1) c9]) 5 z8 Za
    clear Zl
    have Zl := N_
    clear N_
    change K _ (z8.setCells (h) 5 [.slice A9 (L.l.length + 1) c9])
    generalize z8.setCells (h) 5 [.slice A9 (L.l.length + 1) c9] = z9 at Zl Zb Za hu ee ⊢
    refine hK.out _ _ (rowAt Za) (fun hH => ?_)
    clear hK K hH
    try simp only [Act.put, List.getElem_toArray, List.getElem_cons_zero, List.getElem_cons_succ, List.setIfInBounds_toArray, List.set_cons_zero, List.set_cons_succ]
    refine wpAnyH_done (by kernel_rfl) ?_ _
    clear hi1 hz10 hz11 hz12 hlow hPown
    go_upto_region 5 with fail
    have c6 := rowCell Zl 6 rfl
    have a2 := rowCell Za 2 (v := .int .i64 a.sl) rfl
    go_still_tail 10, (by kernel_rfl)
    have Zl : z9.drew.heap[h]? = some (.cells ([.int .i64 L.n, .int .i64 L.nd, .int .u32 (L.br : Int), .int .i64 L.bn, .int .u64 (pr2 : Int), .slice A9 (L.l.length + 1) c9, .int .i64 L.fs, .int .i64 L.sl, .int .i64 L.x.k, .int .i64 L.x.s, .int .i64 L.x.q, .slice L.x.A1 L.x.rs.length L.x.c1, .slice L.x.A2 L.x.ws.length L.x.c2, .int .i64 L.x.i, .int .i64 L.x.j, .int .i64 L.x.g, .int .u64 (L.x.st : Int), .bool L.x.y, .int .u64 (L.vt : Int)]).toArray 144) := Zl
    have Zb : z9.drew.heap[w.heap.size]? = some (.cells [.int .u32 (L.br : Int), .int .i64 L.bn].toArray 28) := Zb
    have Za : z9.drew.heap[w.heap.size + 1]? = some (.cells a.cells.toArray 39) := Za
    have hu := World.ownsRow.drew hu
    have ee := frDrew ee
    change wpList _ _ _ _ _ z9.drew
    generalize z9.drew = z10 at Zl Zb Za hu ee ⊢
    clear c6 a2
    iterate 40 (first | with_reducible refine isStore (ty := 3) rfl ?_ | go_step)
    have f_ : z10.frozen? ⟨h, 6, none⟩ = false := freeAt Zl 6
    have c_ := rowCell Zl 6 rfl
    iterate 3 go_step
    clear f_ c_
    have hu := lgOwnC hu (lgKind hu Zl (by decide)) ([.int .i64 (max L.fs a.sl)]) 6
    have N_ : (z10.setCells (h) 6 ([.int .i64 (max L.fs a.sl)])).heap[h]? = some (.cells ([.int .i64 L.n, .int .i64 L.nd, .int .u32 (L.br : Int), .int .i64 L.bn, .int .u64 (pr2 : Int), .slice A9 (L.l.length + 1) c9, .int .i64 (max L.fs a.sl), .int .i64 L.sl, .int .i64 L.x.k, .int .i64 L.x.s, .int .i64 L.x.q, .slice L.x.A1 L.x.rs.length L.x.c1, .slice L.x.A2 L.x.ws.length L.x.c2, .int .i64 L.x.i, .int .i64 L.x.j, .int .i64 L.x.g, .int .u64 (L.x.st : Int), .bool L.x.y, .int .u64 (L.vt : Int)]).toArray 144) := hpC ([.int .i64 (max L.fs a.sl)]) 6 _ z10 Zl
    have ee := frCells (k := h) (by first | (right; omega) | (left; left; rfl)) ([.int .i64 (max L.fs a.sl)]) 6 z10 ee
    have Zb := hpCo (g' := h) (by omega) ([.int .i64 (max L.fs a.sl)]) 6 z10 Zb
    have Za := hpCo (g' := h) (by omega) ([.int .i64 (max L.fs a.sl)]) 6 z10 Za
    clear Zl
    have Zl := N_
    clear N_
    change wpList _ _ _ _ _ (z10.setCells (h) 6 ([.int .i64 (max L.fs a.sl)]))
    generalize z10.setCells (h) 6 ([.int .i64 (max L.fs a.sl)]) = z11 at Zl Zb Za hu ee ⊢
    go_wp2_with fail
    go_ret
    have hlen2 : (L.l ++ [a]).length = L.l.length + 1 := by simp
    refine ⟨rfl, A9, c9, ?_, by rw [hlen2, acCells_snoc]; exact hu, ee⟩
    rw [hvt]
    unfold LdAt T.Ld.cells
    simp only [hlen2]
    exact Zl
namespace T
/-- what is proposed -/
def Ld.what (L : Ld) (s : Int) (x : Cm) : Cm := bif (best (topOf L.l) L.l).ha && decide (s = L.fs) then (best (topOf L.l) L.l).c else x
end T
set_option maxHeartbeats 6400000 in
theorem lpropose_yes (w : World) (h : Nat) (L : Ld) (s : Int) (x : Cm) (hL : LdAt w h L) (hR : ∀ z, w.grownBy z (some h) → RowsAt z z.heap.size L.A 16 (L.l.map Ac.cells)) (hl1 : L.l.length ≤ 1000000) (hl2 : L.l.length ≤ L.c)
    (hp : L.pr < 18446744073709551616) (hm : Q.majB L.pr L.n = true) (h0 : L.sl = 0) (h1 : L.fs ≤ s) (h2 : s ≤ 1000000) (ok : CmOk w w.heap.size x) (hf : x.formed = true) (hT : Tabs w) :
    Calls Tryd.prog 37 #[.pointer (some ⟨h, 0, none⟩), .int .i64 s, .agg x.cells.toArray] w fun e w' => e = .returned (.tuple #[.agg (L.what s x).cells.toArray, .bool true]) ∧ LdAt w' h { L with sl := s, x := L.what s x, vt := 0 } ∧ w.grownBy w' (some h) := by
  have hlt : h < w.heap.size := (Array.getElem?_eq_some_iff.1 hL).1
  have HPK := Lib.hid (fun z (hz : RowsAt z z.heap.size L.A 16 (L.l.map Ac.cells)) => pick_any L.A L.c L.l z z.heap.size hl1 hl2 hz (Nat.le_refl _))
  have HR := Lib.hid hR
  have HCF := Lib.hid (fun z (hz : Below w.heap.size w z) => c_cformed x z w.heap.size hz.size (ok.below hz (Nat.le_refl _)) (hT.below hz))
  rw [hf] at HCF
  have HLE := Lib.hid (fun z (hz : LdAt z h L) => lleads z h L hz hp)
  rw [hm] at HLE
  have HS : Hid (L.what s x = bif (best (topOf L.l) L.l).ha && decide (s = L.fs) then (best (topOf L.l) L.l).c else x) := rfl
  generalize L.what s x = X at HS ⊢
  generalize best (topOf L.l) L.l = bb at HPK HS
  obtain ⟨bpr, bpn, bsl, ba, bvr, bvn, y⟩ := bb
  simp only at HPK HS
  have e1 : decide (s < L.fs) = false := decide_eq_false (by omega)
  have e2 : decide (1000000 < s) = false := decide_eq_false (by omega)
  clear hf hm hp h1 h2 hl1 hl2 ok hT hR
  obtain ⟨w0, hw0⟩ : ∃ w0, w0 = (w.alloc (.cells x.cells.toArray 37)).alloc (.cells #[.int .i64 0, .int .i64 0, .int .i64 0, .slice none 0 0, .slice none 0 0, .int .i64 0, .int .i64 0, .int .i64 0, .int .u64 0, .bool false] 37) := ⟨_, rfl⟩
  have e0 : Below w.heap.size w w0 := by rw [hw0]; exact ((Below.refl _ _).alloc (Nat.le_refl _) _).alloc (by simp) _
  have ee : w.grownBy w0 (some h) := by rw [hw0]; exact lgAlloc (lgAlloc (lgRefl _ _) _) _
  have Zl : w0.heap[h]? = some (.cells L.cells.toArray 144) := by rw [hw0]; exact hpA (hpA hL _) _
  have Zx : w0.heap[w.heap.size]? = some (.cells x.cells.toArray 37) := by rw [hw0]; exact hpA (hpN _ _ rfl) _
  have Zr : w0.heap[w.heap.size + 1]? = some (.cells #[.int .i64 0, .int .i64 0, .int .i64 0, .slice none 0 0, .slice none 0 0, .int .i64 0, .int .i64 0, .int .i64 0, .int .u64 0, .bool false] 37) := by rw [hw0]; exact hpN _ _ (by simp)
  go_enter Tryd.func37, Tryd.ntmps37
  go_upto_region 1 with fail
  change Code.wp _ _ _ _ ((w.alloc (.cells x.cells.toArray 37)).alloc (.cells #[.int .i64 0, .int .i64 0, .int .i64 0, .slice none 0 0, .slice none 0 0, .int .i64 0, .int .i64 0, .int .i64 0, .int .u64 0, .bool false] 37))
  rw [← hw0]
  clear hw0 hL
  refine wp_region_lit ?_
  go_wp2_with fail
  refine (HLE.out w0 Zl).mono ?_
  rintro e z0 ⟨rfl, n_, rfl⟩
  have ee := lgDrewN ee n_
  have e0 := belowDrewN e0 n_
  have Zl : (w0.drewN n_).heap[h]? = some (.cells L.cells.toArray 144) := Zl
  have Zx : (w0.drewN n_).heap[w.heap.size]? = some (.cells x.cells.toArray 37) := Zx
  have Zr : (w0.drewN n_).heap[w.heap.size + 1]? = some (.cells #[.int .i64 0, .int .i64 0, .int .i64 0, .slice none 0 0, .slice none 0 0, .int .i64 0, .int .i64 0, .int .i64 0, .int .u64 0, .bool false] 37) := Zr
  generalize w0.drewN n_ = z1 at Zl Zx Zr ee e0 ⊢
  clear HLE
  dsimp only
  rename_i hK
  refine hK _ _ ?_
  clear hK
  have c7 := rowCell Zl 7 (v := .int .i64 0) (by rw [← h0]; rfl)
  have c6 := rowCell Zl 6 rfl
  iterate 90 (first | with_reducible refine isLoad (ty := 37) rfl ?_ | go_step)
  refine wpList_load_g (by rfl) 37 _ rfl (w.heap.size) 0 rfl (x.cells) _ (rowAt Zx) Tryd.underlying37 rfl sizeCm ?_
  clear c7 c6 e1 e2
  go_wp2_with fail
  refine (HCF.out z1 e0).mono ?_
  rintro e z2 ⟨rfl, t⟩
  clear e0 HCF
  have Zl := hpB Zl t
  have Zx := hpB Zx t
  have Zr := hpB Zr t
  have ee := lgBelow ee t
  clear t
  go_upto_region 3 with fail
  refine wp_region_lit ?_
  have c5 := rowCell Zl 5 rfl
  have hRz := HR.out _ ee
  go_wp2_with fail
  have szA := ee.size
  refine (HPK.out z2 hRz).mono ?_
  rintro e z3 ⟨rfl, t⟩
  clear HPK HR hRz c5 szA
  have Zl := hpB Zl t
  have Zx := hpB Zx t
  have Zr := hpB Zr t
  have ee := lgBelow ee t
  clear t
  dsimp only
  rename_i hK
  refine hK _ _ ?_
  clear hK
  iterate 12 go_step
  have kZl := (Array.getElem?_eq_some_iff.1 Zl).1
  have kZx := (Array.getElem?_eq_some_iff.1 Zx).1
  have kZr := (Array.getElem?_eq_some_iff.1 Zr).1
  have szB := ee.size
  have lZl := (Array.getElem?_eq_some_iff.1 Zl).1
  have lZx := (Array.getElem?_eq_some_iff.1 Zx).1
  have lZr := (Array.getElem?_eq_some_iff.1 Zr).1
  have Zl := hpA Zl (.cells #[.int .i64 0, .int .i64 0, .int .i64 0, .slice none 0 0, .slice none 0 0, .int .i64 0, .int .i64 0, .int .i64 0, .int .u64 0, .bool false] 37)
  have Zx := hpA Zx (.cells #[.int .i64 0, .int .i64 0, .int .i64 0, .slice none 0 0, .slice none 0 0, .int .i64 0, .int .i64 0, .int .i64 0, .int .u64 0, .bool false] 37)
  have Zr := hpA Zr (.cells #[.int .i64 0, .int .i64 0, .int .i64 0, .slice none 0 0, .slice none 0 0, .int .i64 0, .int .i64 0, .int .i64 0, .int .u64 0, .bool false] 37)
  have sz3 := ee.size
  have ee := lgAlloc ee (.cells #[.int .i64 0, .int .i64 0, .int .i64 0, .slice none 0 0, .slice none 0 0, .int .i64 0, .int .i64 0, .int .i64 0, .int .u64 0, .bool false] 37)
  have Zn := hpN z3 (.cells #[.int .i64 0, .int .i64 0, .int .i64 0, .slice none 0 0, .slice none 0 0, .int .i64 0, .int .i64 0, .int .i64 0, .int .u64 0, .bool false] 37) rfl
  generalize z3.alloc (.cells #[.int .i64 0, .int .i64 0, .int .i64 0, .slice none 0 0, .slice none 0 0, .int .i64 0, .int .i64 0, .int .i64 0, .int .u64 0, .bool false] 37) = z4 at Zl Zx Zr Zn ee ⊢
  iterate 27 (first | with_reducible refine isStore (ty := 37) rfl ?_ | go_step)
  refine wpList_store_row rfl 37 _ _ rfl (z3.heap.size) (y.cells).toArray rfl rfl 37 _ Zn sizeCm (by rfl) (Cm.one _) ?_
  have N_ := setRow_heap z4 (z3.heap.size) _ (y.cells).toArray _ _ Zn
  have ee := lgRow (cs := (y.cells).toArray) (by omega) Zn ee
  have Zl := hpR Zl (g' := z3.heap.size) (by omega) (y.cells).toArray
  have Zx := hpR Zx (g' := z3.heap.size) (by omega) (y.cells).toArray
  have Zr := hpR Zr (g' := z3.heap.size) (by omega) (y.cells).toArray
  clear Zn
  have Zn := N_
  clear N_
  generalize z4.setRow (z3.heap.size) (y.cells).toArray = z5 at Zl Zx Zr Zn ee ⊢
  go_upto_region 4 with fail
  cases ba with
  | false =>
    have HS2 : Hid (X = x) := HS.out
    clear HS
    have szC := ee.size
    go_upto_region 6 with fail
    have Zl : z5.drew.heap[h]? = some (.cells L.cells.toArray 144) := Zl
    have Zx : z5.drew.heap[w.heap.size]? = some (.cells x.cells.toArray 37) := Zx
    have Zr : z5.drew.heap[w.heap.size + 1]? = some (.cells #[.int .i64 0, .int .i64 0, .int .i64 0, .slice none 0 0, .slice none 0 0, .int .i64 0, .int .i64 0, .int .i64 0, .int .u64 0, .bool false] 37) := Zr
    have Zn : z5.drew.heap[z3.heap.size]? = some (.cells (y.cells).toArray 37) := Zn
    have ee := lgDrew ee
    refine wp_region_held_drew (S := fun z' => z'.rangeAt w.heap.size 0 x.cells) (by kernel_rfl) (rowAt Zx) (fun hH => ?_)
    clear hH
    generalize z5.drew = z6 at Zl Zx Zr Zn  ee ⊢
    refine wpAnyH_take (i := 0) (v := .pointer (some ⟨h, 0, none⟩)) rfl (by kernel_rfl) (by kernel_rfl) (by kernel_rfl) (fun _ _ _ h => h) (Or.inl ⟨by rfl, fun w_ hS_ => by (first | (go_simp; done) | (go_simp; rfl))⟩) (rowAt Zx) ?_
    try simp only [Act.put, List.getElem_toArray, List.getElem_cons_zero, List.getElem_cons_succ, List.setIfInBounds_toArray, List.set_cons_zero, List.set_cons_succ]
    refine wpAnyH_take (i := 1) (v := .pointer (some ⟨h, 0, none⟩)) rfl (by kernel_rfl) (by kernel_rfl) (by kernel_rfl) (fun _ _ _ h => h) (Or.inl ⟨by rfl, fun w_ hS_ => by (first | (go_simp; done) | (go_simp; rfl))⟩) (rowAt Zx) ?_
    try simp only [Act.put, List.getElem_toArray, List.getElem_cons_zero, List.getElem_cons_succ, List.setIfInBounds_toArray, List.set_cons_zero, List.set_cons_succ]
    refine wpAnyH_take (i := 2) (v := .pointer (some ⟨h, 0, none⟩)) rfl (by kernel_rfl) (by kernel_rfl) (by kernel_rfl) (fun _ _ _ h => h) (Or.inl ⟨by rfl, fun w_ hS_ => by (first | (go_simp; done) | (go_simp; rfl))⟩) (rowAt Zx) ?_
    try simp only [Act.put, List.getElem_toArray, List.getElem_cons_zero, List.getElem_cons_succ, List.setIfInBounds_toArray, List.set_cons_zero, List.set_cons_succ]
    refine wpAnyH_take (i := 3) (v := .int .i64 s) rfl (by kernel_rfl) (by kernel_rfl) (by kernel_rfl) (fun _ _ _ h => h) (Or.inl ⟨by rfl, fun w_ hS_ => by (first | (go_simp; done) | (go_simp; rfl))⟩) (rowAt Zx) ?_
    try simp only [Act.put, List.getElem_toArray, List.getElem_cons_zero, List.getElem_cons_succ, List.setIfInBounds_toArray, List.set_cons_zero, List.set_cons_succ]
    refine wpAnyH_take (i := 4) (v := .agg (x.cells).toArray) rfl (by kernel_rfl) (by kernel_rfl) (by kernel_rfl) (fun _ _ _ h => h) (yieldsIf_load_mid (by rfl) 37 _ rfl (w.heap.size) 0 rfl (x.cells) _ (fun _ h => h) Tryd.underlying37 rfl sizeCm) (rowAt Zx) ?_
    try simp only [Act.put, List.getElem_toArray, List.getElem_cons_zero, List.getElem_cons_succ, List.setIfInBounds_toArray, List.set_cons_zero, List.set_cons_succ]
    refine wpAnyH_take (i := 5) (v := .pointer (some ⟨h, 0, none⟩)) rfl (by kernel_rfl) (by kernel_rfl) (by kernel_rfl) (fun _ _ _ h => h) (Or.inl ⟨by rfl, fun w_ hS_ => by (first | (go_simp; done) | (go_simp; rfl))⟩) (rowAt Zx) ?_
    try simp only [Act.put, List.getElem_toArray, List.getElem_cons_zero, List.getElem_cons_succ, List.setIfInBounds_toArray, List.set_cons_zero, List.set_cons_succ]
    refine wpAnyH_take (i := 6) (v := .pointer (some ⟨h, 7, none⟩)) rfl (by kernel_rfl) (by kernel_rfl) (by kernel_rfl) (fun _ _ _ h => h) (Or.inl ⟨by rfl, fun w_ hS_ => by (first | (go_simp; done) | (go_simp; rfl))⟩) (rowAt Zx) ?_
    try simp only [Act.put, List.getElem_toArray, List.getElem_cons_zero, List.getElem_cons_succ, List.setIfInBounds_toArray, List.set_cons_zero, List.set_cons_succ]
    refine wpAnyH_ready (rs := [7]) (by kernel_rfl) (by simp) ?_
    refine AllReadyH.cons rfl (fun K hK => ?_) AllReadyH.nil
    rw [if_pos (by rfl)]
    have f_ : z6.frozen? ⟨h, 7, none⟩ = false := freeAt Zl 7
    have c_ := rowCell Zl 7 rfl
    go_simp
    clear f_ c_
    have N_ : (z6.setCells (h) 7 ([.int .i64 s])).heap[h]? = some (.cells ([.int .i64 L.n, .int .i64 L.nd, .int .u32 (L.br : Int), .int .i64 L.bn, .int .u64 (L.pr : Int), .slice L.A L.l.length L.c, .int .i64 L.fs, .int .i64 s, .int .i64 L.x.k, .int .i64 L.x.s, .int .i64 L.x.q, .slice L.x.A1 L.x.rs.length L.x.c1, .slice L.x.A2 L.x.ws.length L.x.c2, .int .i64 L.x.i, .int .i64 L.x.j, .int .i64 L.x.g, .int .u64 (L.x.st : Int), .bool L.x.y, .int .u64 (L.vt : Int)]).toArray 144) := hpC ([.int .i64 s]) 7 _ z6 Zl
    have ee := lgCells (k := h) (by omega) ([.int .i64 s]) 7 z6 ee
    have Zx := hpCo (g' := h) (by omega) ([.int .i64 s]) 7 z6 Zx
    have Zr := hpCo (g' := h) (by omega) ([.int .i64 s]) 7 z6 Zr
    have Zn := hpCo (g' := h) (by omega) ([.int .i64 s]) 7 z6 Zn
    clear Zl
    have Zl := N_
    clear N_
    change K _ (z6.setCells (h) 7 [.int .i64 s])
    generalize z6.setCells (h) 7 [.int .i64 s] = z7 at Zl Zx Zr Zn ee ⊢
    refine hK.out _ _ (rowAt Zx) (fun hH => ?_)
    clear hK K hH
    try simp only [Act.put, List.getElem_toArray, List.getElem_cons_zero, List.getElem_cons_succ, List.setIfInBounds_toArray, List.set_cons_zero, List.set_cons_succ]
    refine wpAnyH_take (i := 8) (v := .pointer (some ⟨h, 0, none⟩)) rfl (by kernel_rfl) (by kernel_rfl) (by kernel_rfl) (fun _ _ _ h => h) (Or.inl ⟨by rfl, fun w_ hS_ => by (first | (go_simp; done) | (go_simp; rfl))⟩) (rowAt Zx) ?_
    try simp only [Act.put, List.getElem_toArray, List.getElem_cons_zero, List.getElem_cons_succ, List.setIfInBounds_toArray, List.set_cons_zero, List.set_cons_succ]
    refine wpAnyH_take (i := 9) (v := .pointer (some ⟨h, 8, none⟩)) rfl (by kernel_rfl) (by kernel_rfl) (by kernel_rfl) (fun _ _ _ h => h) (Or.inl ⟨by rfl, fun w_ hS_ => by (first | (go_simp; done) | (go_simp; rfl))⟩) (rowAt Zx) ?_
    try simp only [Act.put, List.getElem_toArray, List.getElem_cons_zero, List.getElem_cons_succ, List.setIfInBounds_toArray, List.set_cons_zero, List.set_cons_succ]
    refine wpAnyH_ready (rs := [10]) (by kernel_rfl) (by simp) ?_
    refine AllReadyH.cons rfl (fun K hK => ?_) AllReadyH.nil
    rw [if_pos (by rfl)]
    refine wp_store_mid 37 _ _ rfl (h) 8 (x.cells).toArray rfl rfl (rowThere Zl (by simp [T.Ld.cells, T.Cm.cells])) sizeCm (Cm.one _) ?_
    have N_ : (z7.setCells (h) 8 (x.cells)).heap[h]? = some (.cells ([.int .i64 L.n, .int .i64 L.nd, .int .u32 (L.br : Int), .int .i64 L.bn, .int .u64 (L.pr : Int), .slice L.A L.l.length L.c, .int .i64 L.fs, .int .i64 s, .int .i64 x.k, .int .i64 x.s, .int .i64 x.q, .slice x.A1 x.rs.length x.c1, .slice x.A2 x.ws.length x.c2, .int .i64 x.i, .int .i64 x.j, .int .i64 x.g, .int .u64 (x.st : Int), .bool x.y, .int .u64 (L.vt : Int)]).toArray 144) := hpC (x.cells) 8 _ z7 Zl
    have ee := lgCells (k := h) (by omega) (x.cells) 8 z7 ee
    have Zx := hpCo (g' := h) (by omega) (x.cells) 8 z7 Zx
    have Zr := hpCo (g' := h) (by omega) (x.cells) 8 z7 Zr
    have Zn := hpCo (g' := h) (by omega) (x.cells) 8 z7 Zn
    clear Zl
    have Zl := N_
    clear N_
    change K _ (z7.setCells (h) 8 (x.cells))
    generalize z7.setCells (h) 8 (x.cells) = z8 at Zl Zx Zr Zn ee ⊢
    refine hK.out _ _ (rowAt Zx) (fun hH => ?_)
    clear hK K hH
    try simp only [Act.put, List.getElem_toArray, List.getElem_cons_zero, List.getElem_cons_succ, List.setIfInBounds_toArray, List.set_cons_zero, List.set_cons_succ]
    refine wpAnyH_take (i := 11) (v := .pointer (some ⟨h, 0, none⟩)) rfl (by kernel_rfl) (by kernel_rfl) (by kernel_rfl) (fun _ _ _ h => h) (Or.inl ⟨by rfl, fun w_ hS_ => by (first | (go_simp; done) | (go_simp; rfl))⟩) (rowAt Zx) ?_
    try simp only [Act.put, List.getElem_toArray, List.getElem_cons_zero, List.getElem_cons_succ, List.setIfInBounds_toArray, List.set_cons_zero, List.set_cons_succ]
    refine wpAnyH_take (i := 12) (v := .pointer (some ⟨h, 18, none⟩)) rfl (by kernel_rfl) (by kernel_rfl) (by kernel_rfl) (fun _ _ _ h => h) (Or.inl ⟨by rfl, fun w_ hS_ => by (first | (go_simp; done) | (go_simp; rfl))⟩) (rowAt Zx) ?_
    try simp only [Act.put, List.getElem_toArray, List.getElem_cons_zero, List.getElem_cons_succ, List.setIfInBounds_toArray, List.set_cons_zero, List.set_cons_succ]
    refine wpAnyH_ready (rs := [13]) (by kernel_rfl) (by simp) ?_
    refine AllReadyH.cons rfl (fun K hK => ?_) AllReadyH.nil
    rw [if_pos (by rfl)]
    have f_ : z8.frozen? ⟨h, 18, none⟩ = false := freeAt Zl 18
    have c_ := rowCell Zl 18 rfl
    go_simp
    clear f_ c_
    have N_ : (z8.setCells (h) 18 ([.int .u64 0])).heap[h]? = some (.cells ([.int .i64 L.n, .int .i64 L.nd, .int .u32 (L.br : Int), .int .i64 L.bn, .int .u64 (L.pr : Int), .slice L.A L.l.length L.c, .int .i64 L.fs, .int .i64 s, .int .i64 x.k, .int .i64 x.s, .int .i64 x.q, .slice x.A1 x.rs.length x.c1, .slice x.A2 x.ws.length x.c2, .int .i64 x.i, .int .i64 x.j, .int .i64 x.g, .int .u64 (x.st : Int), .bool x.y, .int .u64 0]).toArray 144) := hpC ([.int .u64 0]) 18 _ z8 Zl
    have ee := lgCells (k := h) (by omega) ([.int .u64 0]) 18 z8 ee
    have Zx := hpCo (g' := h) (by omega) ([.int .u64 0]) 18 z8 Zx
    have Zr := hpCo (g' := h) (by omega) ([.int .u64 0]) 18 z8 Zr
    have Zn := hpCo (g' := h) (by omega) ([.int .u64 0]) 18 z8 Zn
    clear Zl
    have Zl := N_
    clear N_
    change K _ (z8.setCells (h) 18 [.int .u64 0])
    generalize z8.setCells (h) 18 [.int .u64 0] = z9 at Zl Zx Zr Zn ee ⊢
    refine hK.out _ _ (rowAt Zx) (fun hH => ?_)
    clear hK K hH
    try simp only [Act.put, List.getElem_toArray, List.getElem_cons_zero, List.getElem_cons_succ, List.setIfInBounds_toArray, List.set_cons_zero, List.set_cons_succ]
    refine wpAnyH_done (by kernel_rfl) ?_ _
    go_upto_region 7 with fail
    refine wp_region_lit ?_
    iterate 27 (first | with_reducible refine isLoad (ty := 37) rfl ?_ | go_step)
    refine wpList_load_mid rfl 37 _ rfl (w.heap.size) 0 rfl (x.cells) _ (rowAt Zx) Tryd.underlying37 rfl sizeCm ?_
    iterate 27 (first | with_reducible refine isStore (ty := 37) rfl ?_ | go_step)
    refine wpList_store_row rfl 37 _ _ rfl (w.heap.size + 1) (x.cells).toArray rfl rfl 37 _ Zr sizeCm (by rfl) (Cm.one _) ?_
    have N_ := setRow_heap z9 (w.heap.size + 1) _ (x.cells).toArray _ _ Zr
    have ee := lgRow (cs := (x.cells).toArray) (by omega) Zr ee
    have Zl := hpR Zl (g' := w.heap.size + 1) (by omega) (x.cells).toArray
    have Zx := hpR Zx (g' := w.heap.size + 1) (by omega) (x.cells).toArray
    have Zn := hpR Zn (g' := w.heap.size + 1) (by omega) (x.cells).toArray
    clear Zr
    have Zr := N_
    clear N_
    generalize z9.setRow (w.heap.size + 1) (x.cells).toArray = z10 at Zl Zx Zr Zn ee ⊢
    go_wp2_with fail
    refine bodyPost_ret (v := .tuple #[.agg x.cells.toArray, .bool true]) (res_ct rfl rfl rfl Zr Tryd.underlying37 rfl sizeCm) rfl ?_
    rw [HS2.out]
    exact ⟨rfl, Zl, ee⟩
  | true =>
    by_cases hsf : s = L.fs
    · have HS2 : Hid (X = y) := by show _ = _; rw [HS.out, decide_eq_true hsf]; rfl
      clear HS
      have c6 := rowCell Zl 6 rfl
      have e6 : (s == L.fs) = true := by simp; exact hsf
      clear hsf
      have szD := ee.size
      go_upto_region 5 with fail
      clear e6 c6
      refine wp_region_lit ?_
      iterate 27 (first | with_reducible refine isLoad (ty := 37) rfl ?_ | go_step)
      refine wpList_load_mid rfl 37 _ rfl (z3.heap.size) 0 rfl ((y.cells)) _ (rowAt Zn) Tryd.underlying37 rfl sizeCm ?_
      iterate 27 (first | with_reducible refine isStore (ty := 37) rfl ?_ | go_step)
      refine wpList_store_row rfl 37 _ _ rfl (w.heap.size) (y.cells).toArray rfl rfl 37 _ Zx sizeCm (by rfl) (Cm.one _) ?_
      have N_ := setRow_heap z5 (w.heap.size) _ (y.cells).toArray _ _ Zx
      have ee := lgRow (cs := (y.cells).toArray) (by omega) Zx ee
      have Zl := hpR Zl (g' := w.heap.size) (by omega) (y.cells).toArray
      have Zr := hpR Zr (g' := w.heap.size) (by omega) (y.cells).toArray
      have Zn := hpR Zn (g' := w.heap.size) (by omega) (y.cells).toArray
      clear Zx
      have Zx := N_
      clear N_
      generalize z5.setRow (w.heap.size) (y.cells).toArray = z6 at Zl Zx Zr Zn ee ⊢
      have szC := ee.size
      go_upto_region 6 with fail
      have Zl : z6.drew.heap[h]? = some (.cells L.cells.toArray 144) := Zl
      have Zx : z6.drew.heap[w.heap.size]? = some (.cells (y.cells).toArray 37) := Zx
      have Zr : z6.drew.heap[w.heap.size + 1]? = some (.cells #[.int .i64 0, .int .i64 0, .int .i64 0, .slice none 0 0, .slice none 0 0, .int .i64 0, .int .i64 0, .int .i64 0, .int .u64 0, .bool false] 37) := Zr
      have Zn : z6.drew.heap[z3.heap.size]? = some (.cells (y.cells).toArray 37) := Zn
      have ee := lgDrew ee
      refine wp_region_held_drew (S := fun z' => z'.rangeAt w.heap.size 0 y.cells) (by kernel_rfl) (rowAt Zx) (fun hH => ?_)
      clear hH
      generalize z6.drew = z7 at Zl Zx Zr Zn  ee ⊢
      refine wpAnyH_take (i := 0) (v := .pointer (some ⟨h, 0, none⟩)) rfl (by kernel_rfl) (by kernel_rfl) (by kernel_rfl) (fun _ _ _ h => h) (Or.inl ⟨by rfl, fun w_ hS_ => by (first | (go_simp; done) | (go_simp; rfl))⟩) (rowAt Zx) ?_
      try simp only [Act.put, List.getElem_toArray, List.getElem_cons_zero, List.getElem_cons_succ, List.setIfInBounds_toArray, List.set_cons_zero, List.set_cons_succ]
      refine wpAnyH_take (i := 1) (v := .pointer (some ⟨h, 0, none⟩)) rfl (by kernel_rfl) (by kernel_rfl) (by kernel_rfl) (fun _ _ _ h => h) (Or.inl ⟨by rfl, fun w_ hS_ => by (first | (go_simp; done) | (go_simp; rfl))⟩) (rowAt Zx) ?_
      try simp only [Act.put, List.getElem_toArray, List.getElem_cons_zero, List.getElem_cons_succ, List.setIfInBounds_toArray, List.set_cons_zero, List.set_cons_succ]
      refine wpAnyH_take (i := 2) (v := .pointer (some ⟨h, 0, none⟩)) rfl (by kernel_rfl) (by kernel_rfl) (by kernel_rfl) (fun _ _ _ h => h) (Or.inl ⟨by rfl, fun w_ hS_ => by (first | (go_simp; done) | (go_simp; rfl))⟩) (rowAt Zx) ?_
      try simp only [Act.put, List.getElem_toArray, List.getElem_cons_zero, List.getElem_cons_succ, List.setIfInBounds_toArray, List.set_cons_zero, List.set_cons_succ]
      refine wpAnyH_take (i := 3) (v := .int .i64 s) rfl (by kernel_rfl) (by kernel_rfl) (by kernel_rfl) (fun _ _ _ h => h) (Or.inl ⟨by rfl, fun w_ hS_ => by (first | (go_simp; done) | (go_simp; rfl))⟩) (rowAt Zx) ?_
      try simp only [Act.put, List.getElem_toArray, List.getElem_cons_zero, List.getElem_cons_succ, List.setIfInBounds_toArray, List.set_cons_zero, List.set_cons_succ]
      refine wpAnyH_take (i := 4) (v := .agg ((y.cells)).toArray) rfl (by kernel_rfl) (by kernel_rfl) (by kernel_rfl) (fun _ _ _ h => h) (yieldsIf_load_mid (by rfl) 37 _ rfl (w.heap.size) 0 rfl ((y.cells)) _ (fun _ h => h) Tryd.underlying37 rfl sizeCm) (rowAt Zx) ?_
      try simp only [Act.put, List.getElem_toArray, List.getElem_cons_zero, List.getElem_cons_succ, List.setIfInBounds_toArray, List.set_cons_zero, List.set_cons_succ]
      refine wpAnyH_take (i := 5) (v := .pointer (some ⟨h, 0, none⟩)) rfl (by kernel_rfl) (by kernel_rfl) (by kernel_rfl) (fun _ _ _ h => h) (Or.inl ⟨by rfl, fun w_ hS_ => by (first | (go_simp; done) | (go_simp; rfl))⟩) (rowAt Zx) ?_
      try simp only [Act.put, List.getElem_toArray, List.getElem_cons_zero, List.getElem_cons_succ, List.setIfInBounds_toArray, List.set_cons_zero, List.set_cons_succ]
      refine wpAnyH_take (i := 6) (v := .pointer (some ⟨h, 7, none⟩)) rfl (by kernel_rfl) (by kernel_rfl) (by kernel_rfl) (fun _ _ _ h => h) (Or.inl ⟨by rfl, fun w_ hS_ => by (first | (go_simp; done) | (go_simp; rfl))⟩) (rowAt Zx) ?_
      try simp only [Act.put, List.getElem_toArray, List.getElem_cons_zero, List.getElem_cons_succ, List.setIfInBounds_toArray, List.set_cons_zero, List.set_cons_succ]
      refine wpAnyH_ready (rs := [7]) (by kernel_rfl) (by simp) ?_
      refine AllReadyH.cons rfl (fun K hK => ?_) AllReadyH.nil
      rw [if_pos (by rfl)]
      have f_ : z7.frozen? ⟨h, 7, none⟩ = false := freeAt Zl 7
      have c_ := rowCell Zl 7 rfl
      go_simp
      clear f_ c_
      have N_ : (z7.setCells (h) 7 ([.int .i64 s])).heap[h]? = some (.cells ([.int .i64 L.n, .int .i64 L.nd, .int .u32 (L.br : Int), .int .i64 L.bn, .int .u64 (L.pr : Int), .slice L.A L.l.length L.c, .int .i64 L.fs, .int .i64 s, .int .i64 L.x.k, .int .i64 L.x.s, .int .i64 L.x.q, .slice L.x.A1 L.x.rs.length L.x.c1, .slice L.x.A2 L.x.ws.length L.x.c2, .int .i64 L.x.i, .int .i64 L.x.j, .int .i64 L.x.g, .int .u64 (L.x.st : Int), .bool L.x.y, .int .u64 (L.vt : Int)]).toArray 144) := hpC ([.int .i64 s]) 7 _ z7 Zl
      have ee := lgCells (k := h) (by omega) ([.int .i64 s]) 7 z7 ee
      have Zx := hpCo (g' := h) (by omega) ([.int .i64 s]) 7 z7 Zx
      have Zr := hpCo (g' := h) (by omega) ([.int .i64 s]) 7 z7 Zr
      have Zn := hpCo (g' := h) (by omega) ([.int .i64 s]) 7 z7 Zn
      clear Zl
      have Zl := N_
      clear N_
      change K _ (z7.setCells (h) 7 [.int .i64 s])
      generalize z7.setCells (h) 7 [.int .i64 s] = z8 at Zl Zx Zr Zn ee ⊢
      refine hK.out _ _ (rowAt Zx) (fun hH => ?_)
      clear hK K hH
      try simp only [Act.put, List.getElem_toArray, List.getElem_cons_zero, List.getElem_cons_succ, List.setIfInBounds_toArray, List.set_cons_zero, List.set_cons_succ]
      refine wpAnyH_take (i := 8) (v := .pointer (some ⟨h, 0, none⟩)) rfl (by kernel_rfl) (by kernel_rfl) (by kernel_rfl) (fun _ _ _ h => h) (Or.inl ⟨by rfl, fun w_ hS_ => by (first | (go_simp; done) | (go_simp; rfl))⟩) (rowAt Zx) ?_
      try simp only [Act.put, List.getElem_toArray, List.getElem_cons_zero, List.getElem_cons_succ, List.setIfInBounds_toArray, List.set_cons_zero, List.set_cons_succ]
      refine wpAnyH_take (i := 9) (v := .pointer (some ⟨h, 8, none⟩)) rfl (by kernel_rfl) (by kernel_rfl) (by kernel_rfl) (fun _ _ _ h => h) (Or.inl ⟨by rfl, fun w_ hS_ => by (first | (go_simp; done) | (go_simp; rfl))⟩) (rowAt Zx) ?_
      try simp only [Act.put, List.getElem_toArray, List.getElem_cons_zero, List.getElem_cons_succ, List.setIfInBounds_toArray, List.set_cons_zero, List.set_cons_succ]
      refine wpAnyH_ready (rs := [10]) (by kernel_rfl) (by simp) ?_
      refine AllReadyH.cons rfl (fun K hK => ?_) AllReadyH.nil
      rw [if_pos (by rfl)]
      refine wp_store_mid 37 _ _ rfl (h) 8 (y.cells).toArray rfl rfl (rowThere Zl (by simp [T.Ld.cells, T.Cm.cells])) sizeCm (Cm.one _) ?_
      have N_ : (z8.setCells (h) 8 (y.cells)).heap[h]? = some (.cells ([.int .i64 L.n, .int .i64 L.nd, .int .u32 (L.br : Int), .int .i64 L.bn, .int .u64 (L.pr : Int), .slice L.A L.l.length L.c, .int .i64 L.fs, .int .i64 s, .int .i64 y.k, .int .i64 y.s, .int .i64 y.q, .slice y.A1 y.rs.length y.c1, .slice y.A2 y.ws.length y.c2, .int .i64 y.i, .int .i64 y.j, .int .i64 y.g, .int .u64 (y.st : Int), .bool y.y, .int .u64 (L.vt : Int)]).toArray 144) := hpC (y.cells) 8 _ z8 Zl
      have ee := lgCells (k := h) (by omega) (y.cells) 8 z8 ee
      have Zx := hpCo (g' := h) (by omega) (y.cells) 8 z8 Zx
      have Zr := hpCo (g' := h) (by omega) (y.cells) 8 z8 Zr
      have Zn := hpCo (g' := h) (by omega) (y.cells) 8 z8 Zn
      clear Zl
      have Zl := N_
      clear N_
      change K _ (z8.setCells (h) 8 (y.cells))
      generalize z8.setCells (h) 8 (y.cells) = z9 at Zl Zx Zr Zn ee ⊢
      refine hK.out _ _ (rowAt Zx) (fun hH => ?_)
      clear hK K hH
      try simp only [Act.put, List.getElem_toArray, List.getElem_cons_zero, List.getElem_cons_succ, List.setIfInBounds_toArray, List.set_cons_zero, List.set_cons_succ]
      refine wpAnyH_take (i := 11) (v := .pointer (some ⟨h, 0, none⟩)) rfl (by kernel_rfl) (by kernel_rfl) (by kernel_rfl) (fun _ _ _ h => h) (Or.inl ⟨by rfl, fun w_ hS_ => by (first | (go_simp; done) | (go_simp; rfl))⟩) (rowAt Zx) ?_
      try simp only [Act.put, List.getElem_toArray, List.getElem_cons_zero, List.getElem_cons_succ, List.setIfInBounds_toArray, List.set_cons_zero, List.set_cons_succ]
      refine wpAnyH_take (i := 12) (v := .pointer (some ⟨h, 18, none⟩)) rfl (by kernel_rfl) (by kernel_rfl) (by kernel_rfl) (fun _ _ _ h => h) (Or.inl ⟨by rfl, fun w_ hS_ => by (first | (go_simp; done) | (go_simp; rfl))⟩) (rowAt Zx) ?_
      try simp only [Act.put, List.getElem_toArray, List.getElem_cons_zero, List.getElem_cons_succ, List.setIfInBounds_toArray, List.set_cons_zero, List.set_cons_succ]
      refine wpAnyH_ready (rs := [13]) (by kernel_rfl) (by simp) ?_
      refine AllReadyH.cons rfl (fun K hK => ?_) AllReadyH.nil
      rw [if_pos (by rfl)]
      have f_ : z9.frozen? ⟨h, 18, none⟩ = false := freeAt Zl 18
      have c_ := rowCell Zl 18 rfl
      go_simp
      clear f_ c_
      have N_ : (z9.setCells (h) 18 ([.int .u64 0])).heap[h]? = some (.cells ([.int .i64 L.n, .int .i64 L.nd, .int .u32 (L.br : Int), .int .i64 L.bn, .int .u64 (L.pr : Int), .slice L.A L.l.length L.c, .int .i64 L.fs, .int .i64 s, .int .i64 y.k, .int .i64 y.s, .int .i64 y.q, .slice y.A1 y.rs.length y.c1, .slice y.A2 y.ws.length y.c2, .int .i64 y.i, .int .i64 y.j, .int .i64 y.g, .int .u64 (y.st : Int), .bool y.y, .int .u64 0]).toArray 144) := hpC ([.int .u64 0]) 18 _ z9 Zl
      have ee := lgCells (k := h) (by omega) ([.int .u64 0]) 18 z9 ee
      have Zx := hpCo (g' := h) (by omega) ([.int .u64 0]) 18 z9 Zx
      have Zr := hpCo (g' := h) (by omega) ([.int .u64 0]) 18 z9 Zr
      have Zn := hpCo (g' := h) (by omega) ([.int .u64 0]) 18 z9 Zn
      clear Zl
      have Zl := N_
      clear N_
      change K _ (z9.setCells (h) 18 [.int .u64 0])
      generalize z9.setCells (h) 18 [.int .u64 0] = z10 at Zl Zx Zr Zn ee ⊢
      refine hK.out _ _ (rowAt Zx) (fun hH => ?_)
      clear hK K hH
      try simp only [Act.put, List.getElem_toArray, List.getElem_cons_zero, List.getElem_cons_succ, List.setIfInBounds_toArray, List.set_cons_zero, List.set_cons_succ]
      refine wpAnyH_done (by kernel_rfl) ?_ _
      go_upto_region 7 with fail
      refine wp_region_lit ?_
      iterate 27 (first | with_reducible refine isLoad (ty := 37) rfl ?_ | go_step)
      refine wpList_load_mid rfl 37 _ rfl (w.heap.size) 0 rfl ((y.cells)) _ (rowAt Zx) Tryd.underlying37 rfl sizeCm ?_
      iterate 27 (first | with_reducible refine isStore (ty := 37) rfl ?_ | go_step)
      refine wpList_store_row rfl 37 _ _ rfl (w.heap.size + 1) (y.cells).toArray rfl rfl 37 _ Zr sizeCm (by rfl) (Cm.one _) ?_
      have N_ := setRow_heap z10 (w.heap.size + 1) _ (y.cells).toArray _ _ Zr
      have ee := lgRow (cs := (y.cells).toArray) (by omega) Zr ee
      have Zl := hpR Zl (g' := w.heap.size + 1) (by omega) (y.cells).toArray
      have Zx := hpR Zx (g' := w.heap.size + 1) (by omega) (y.cells).toArray
      have Zn := hpR Zn (g' := w.heap.size + 1) (by omega) (y.cells).toArray
      clear Zr
      have Zr := N_
      clear N_
      generalize z10.setRow (w.heap.size + 1) (y.cells).toArray = z11 at Zl Zx Zr Zn ee ⊢
      go_wp2_with fail
      refine bodyPost_ret (v := .tuple #[.agg y.cells.toArray, .bool true]) (res_ct rfl rfl rfl Zr Tryd.underlying37 rfl sizeCm) rfl ?_
      rw [HS2.out]
      exact ⟨rfl, Zl, ee⟩
    · have HS2 : Hid (X = x) := by show _ = _; rw [HS.out, decide_eq_false hsf]; rfl
      clear HS
      have c6 := rowCell Zl 6 rfl
      have e6 : (s == L.fs) = false := by simp; exact hsf
      clear hsf
      have szC := ee.size
      go_upto_region 6 with fail
      have Zl : z5.drew.heap[h]? = some (.cells L.cells.toArray 144) := Zl
      have Zx : z5.drew.heap[w.heap.size]? = some (.cells x.cells.toArray 37) := Zx
      have Zr : z5.drew.heap[w.heap.size + 1]? = some (.cells #[.int .i64 0, .int .i64 0, .int .i64 0, .slice none 0 0, .slice none 0 0, .int .i64 0, .int .i64 0, .int .i64 0, .int .u64 0, .bool false] 37) := Zr
      have Zn : z5.drew.heap[z3.heap.size]? = some (.cells (y.cells).toArray 37) := Zn
      have ee := lgDrew ee
      refine wp_region_held_drew (S := fun z' => z'.rangeAt w.heap.size 0 x.cells) (by kernel_rfl) (rowAt Zx) (fun hH => ?_)
      clear hH
      generalize z5.drew = z6 at Zl Zx Zr Zn  ee ⊢
      refine wpAnyH_take (i := 0) (v := .pointer (some ⟨h, 0, none⟩)) rfl (by kernel_rfl) (by kernel_rfl) (by kernel_rfl) (fun _ _ _ h => h) (Or.inl ⟨by rfl, fun w_ hS_ => by (first | (go_simp; done) | (go_simp; rfl))⟩) (rowAt Zx) ?_
      try simp only [Act.put, List.getElem_toArray, List.getElem_cons_zero, List.getElem_cons_succ, List.setIfInBounds_toArray, List.set_cons_zero, List.set_cons_succ]
      refine wpAnyH_take (i := 1) (v := .pointer (some ⟨h, 0, none⟩)) rfl (by kernel_rfl) (by kernel_rfl) (by kernel_rfl) (fun _ _ _ h => h) (Or.inl ⟨by rfl, fun w_ hS_ => by (first | (go_simp; done) | (go_simp; rfl))⟩) (rowAt Zx) ?_
      try simp only [Act.put, List.getElem_toArray, List.getElem_cons_zero, List.getElem_cons_succ, List.setIfInBounds_toArray, List.set_cons_zero, List.set_cons_succ]
      refine wpAnyH_take (i := 2) (v := .pointer (some ⟨h, 0, none⟩)) rfl (by kernel_rfl) (by kernel_rfl) (by kernel_rfl) (fun _ _ _ h => h) (Or.inl ⟨by rfl, fun w_ hS_ => by (first | (go_simp; done) | (go_simp; rfl))⟩) (rowAt Zx) ?_
      try simp only [Act.put, List.getElem_toArray, List.getElem_cons_zero, List.getElem_cons_succ, List.setIfInBounds_toArray, List.set_cons_zero, List.set_cons_succ]
      refine wpAnyH_take (i := 3) (v := .int .i64 s) rfl (by kernel_rfl) (by kernel_rfl) (by kernel_rfl) (fun _ _ _ h => h) (Or.inl ⟨by rfl, fun w_ hS_ => by (first | (go_simp; done) | (go_simp; rfl))⟩) (rowAt Zx) ?_
      try simp only [Act.put, List.getElem_toArray, List.getElem_cons_zero, List.getElem_cons_succ, List.setIfInBounds_toArray, List.set_cons_zero, List.set_cons_succ]
      refine wpAnyH_take (i := 4) (v := .agg (x.cells).toArray) rfl (by kernel_rfl) (by kernel_rfl) (by kernel_rfl) (fun _ _ _ h => h) (yieldsIf_load_mid (by rfl) 37 _ rfl (w.heap.size) 0 rfl (x.cells) _ (fun _ h => h) Tryd.underlying37 rfl sizeCm) (rowAt Zx) ?_
      try simp only [Act.put, List.getElem_toArray, List.getElem_cons_zero, List.getElem_cons_succ, List.setIfInBounds_toArray, List.set_cons_zero, List.set_cons_succ]
      refine wpAnyH_take (i := 5) (v := .pointer (some ⟨h, 0, none⟩)) rfl (by kernel_rfl) (by kernel_rfl) (by kernel_rfl) (fun _ _ _ h => h) (Or.inl ⟨by rfl, fun w_ hS_ => by (first | (go_simp; done) | (go_simp; rfl))⟩) (rowAt Zx) ?_
      try simp only [Act.put, List.getElem_toArray, List.getElem_cons_zero, List.getElem_cons_succ, List.setIfInBounds_toArray, List.set_cons_zero, List.set_cons_succ]
      refine wpAnyH_take (i := 6) (v := .pointer (some ⟨h, 7, none⟩)) rfl (by kernel_rfl) (by kernel_rfl) (by kernel_rfl) (fun _ _ _ h => h) (Or.inl ⟨by rfl, fun w_ hS_ => by (first | (go_simp; done) | (go_simp; rfl))⟩) (rowAt Zx) ?_
      try simp only [Act.put, List.getElem_toArray, List.getElem_cons_zero, List.getElem_cons_succ, List.setIfInBounds_toArray, List.set_cons_zero, List.set_cons_succ]
      refine wpAnyH_ready (rs := [7]) (by kernel_rfl) (by simp) ?_
      refine AllReadyH.cons rfl (fun K hK => ?_) AllReadyH.nil
      rw [if_pos (by rfl)]
      have f_ : z6.frozen? ⟨h, 7, none⟩ = false := freeAt Zl 7
      have c_ := rowCell Zl 7 rfl
      go_simp
      clear f_ c_
      have N_ : (z6.setCells (h) 7 ([.int .i64 s])).heap[h]? = some (.cells ([.int .i64 L.n, .int .i64 L.nd, .int .u32 (L.br : Int), .int .i64 L.bn, .int .u64 (L.pr : Int), .slice L.A L.l.length L.c, .int .i64 L.fs, .int .i64 s, .int .i64 L.x.k, .int .i64 L.x.s, .int .i64 L.x.q, .slice L.x.A1 L.x.rs.length L.x.c1, .slice L.x.A2 L.x.ws.length L.x.c2, .int .i64 L.x.i, .int .i64 L.x.j, .int .i64 L.x.g, .int .u64 (L.x.st : Int), .bool L.x.y, .int .u64 (L.vt : Int)]).toArray 144) := hpC ([.int .i64 s]) 7 _ z6 Zl
      have ee := lgCells (k := h) (by omega) ([.int .i64 s]) 7 z6 ee
      have Zx := hpCo (g' := h) (by omega) ([.int .i64 s]) 7 z6 Zx
      have Zr := hpCo (g' := h) (by omega) ([.int .i64 s]) 7 z6 Zr
      have Zn := hpCo (g' := h) (by omega) ([.int .i64 s]) 7 z6 Zn
      clear Zl
      have Zl := N_
      clear N_
      change K _ (z6.setCells (h) 7 [.int .i64 s])
      generalize z6.setCells (h) 7 [.int .i64 s] = z7 at Zl Zx Zr Zn ee ⊢
      refine hK.out _ _ (rowAt Zx) (fun hH => ?_)
      clear hK K hH
      try simp only [Act.put, List.getElem_toArray, List.getElem_cons_zero, List.getElem_cons_succ, List.setIfInBounds_toArray, List.set_cons_zero, List.set_cons_succ]
      refine wpAnyH_take (i := 8) (v := .pointer (some ⟨h, 0, none⟩)) rfl (by kernel_rfl) (by kernel_rfl) (by kernel_rfl) (fun _ _ _ h => h) (Or.inl ⟨by rfl, fun w_ hS_ => by (first | (go_simp; done) | (go_simp; rfl))⟩) (rowAt Zx) ?_
      try simp only [Act.put, List.getElem_toArray, List.getElem_cons_zero, List.getElem_cons_succ, List.setIfInBounds_toArray, List.set_cons_zero, List.set_cons_succ]
      refine wpAnyH_take (i := 9) (v := .pointer (some ⟨h, 8, none⟩)) rfl (by kernel_rfl) (by kernel_rfl) (by kernel_rfl) (fun _ _ _ h => h) (Or.inl ⟨by rfl, fun w_ hS_ => by (first | (go_simp; done) | (go_simp; rfl))⟩) (rowAt Zx) ?_
      try simp only [Act.put, List.getElem_toArray, List.getElem_cons_zero, List.getElem_cons_succ, List.setIfInBounds_toArray, List.set_cons_zero, List.set_cons_succ]
      refine wpAnyH_ready (rs := [10]) (by kernel_rfl) (by simp) ?_
      refine AllReadyH.cons rfl (fun K hK => ?_) AllReadyH.nil
      rw [if_pos (by rfl)]
      refine wp_store_mid 37 _ _ rfl (h) 8 (x.cells).toArray rfl rfl (rowThere Zl (by simp [T.Ld.cells, T.Cm.cells])) sizeCm (Cm.one _) ?_
      have N_ : (z7.setCells (h) 8 (x.cells)).heap[h]? = some (.cells ([.int .i64 L.n, .int .i64 L.nd, .int .u32 (L.br : Int), .int .i64 L.bn, .int .u64 (L.pr : Int), .slice L.A L.l.length L.c, .int .i64 L.fs, .int .i64 s, .int .i64 x.k, .int .i64 x.s, .int .i64 x.q, .slice x.A1 x.rs.length x.c1, .slice x.A2 x.ws.length x.c2, .int .i64 x.i, .int .i64 x.j, .int .i64 x.g, .int .u64 (x.st : Int), .bool x.y, .int .u64 (L.vt : Int)]).toArray 144) := hpC (x.cells) 8 _ z7 Zl
      have ee := lgCells (k := h) (by omega) (x.cells) 8 z7 ee
      have Zx := hpCo (g' := h) (by omega) (x.cells) 8 z7 Zx
      have Zr := hpCo (g' := h) (by omega) (x.cells) 8 z7 Zr
      have Zn := hpCo (g' := h) (by omega) (x.cells) 8 z7 Zn
      clear Zl
      have Zl := N_
      clear N_
      change K _ (z7.setCells (h) 8 (x.cells))
      generalize z7.setCells (h) 8 (x.cells) = z8 at Zl Zx Zr Zn ee ⊢
      refine hK.out _ _ (rowAt Zx) (fun hH => ?_)
      clear hK K hH
      try simp only [Act.put, List.getElem_toArray, List.getElem_cons_zero, List.getElem_cons_succ, List.setIfInBounds_toArray, List.set_cons_zero, List.set_cons_succ]
      refine wpAnyH_take (i := 11) (v := .pointer (some ⟨h, 0, none⟩)) rfl (by kernel_rfl) (by kernel_rfl) (by kernel_rfl) (fun _ _ _ h => h) (Or.inl ⟨by rfl, fun w_ hS_ => by (first | (go_simp; done) | (go_simp; rfl))⟩) (rowAt Zx) ?_
      try simp only [Act.put, List.getElem_toArray, List.getElem_cons_zero, List.getElem_cons_succ, List.setIfInBounds_toArray, List.set_cons_zero, List.set_cons_succ]
      refine wpAnyH_take (i := 12) (v := .pointer (some ⟨h, 18, none⟩)) rfl (by kernel_rfl) (by kernel_rfl) (by kernel_rfl) (fun _ _ _ h => h) (Or.inl ⟨by rfl, fun w_ hS_ => by (first | (go_simp; done) | (go_simp; rfl))⟩) (rowAt Zx) ?_
      try simp only [Act.put, List.getElem_toArray, List.getElem_cons_zero, List.getElem_cons_succ, List.setIfInBounds_toArray, List.set_cons_zero, List.set_cons_succ]
      refine wpAnyH_ready (rs := [13]) (by kernel_rfl) (by simp) ?_
      refine AllReadyH.cons rfl (fun K hK => ?_) AllReadyH.nil
      rw [if_pos (by rfl)]
      have f_ : z8.frozen? ⟨h, 18, none⟩ = false := freeAt Zl 18
      have c_ := rowCell Zl 18 rfl
      go_simp
      clear f_ c_
      have N_ : (z8.setCells (h) 18 ([.int .u64 0])).heap[h]? = some (.cells ([.int .i64 L.n, .int .i64 L.nd, .int .u32 (L.br : Int), .int .i64 L.bn, .int .u64 (L.pr : Int), .slice L.A L.l.length L.c, .int .i64 L.fs, .int .i64 s, .int .i64 x.k, .int .i64 x.s, .int .i64 x.q, .slice x.A1 x.rs.length x.c1, .slice x.A2 x.ws.length x.c2, .int .i64 x.i, .int .i64 x.j, .int .i64 x.g, .int .u64 (x.st : Int), .bool x.y, .int .u64 0]).toArray 144) := hpC ([.int .u64 0]) 18 _ z8 Zl
      have ee := lgCells (k := h) (by omega) ([.int .u64 0]) 18 z8 ee
      have Zx := hpCo (g' := h) (by omega) ([.int .u64 0]) 18 z8 Zx
      have Zr := hpCo (g' := h) (by omega) ([.int .u64 0]) 18 z8 Zr
      have Zn := hpCo (g' := h) (by omega) ([.int .u64 0]) 18 z8 Zn
      clear Zl
      have Zl := N_
      clear N_
      change K _ (z8.setCells (h) 18 [.int .u64 0])
      generalize z8.setCells (h) 18 [.int .u64 0] = z9 at Zl Zx Zr Zn ee ⊢
      refine hK.out _ _ (rowAt Zx) (fun hH => ?_)
      clear hK K hH
      try simp only [Act.put, List.getElem_toArray, List.getElem_cons_zero, List.getElem_cons_succ, List.setIfInBounds_toArray, List.set_cons_zero, List.set_cons_succ]
      refine wpAnyH_done (by kernel_rfl) ?_ _
      go_upto_region 7 with fail
      refine wp_region_lit ?_
      iterate 27 (first | with_reducible refine isLoad (ty := 37) rfl ?_ | go_step)
      refine wpList_load_mid rfl 37 _ rfl (w.heap.size) 0 rfl (x.cells) _ (rowAt Zx) Tryd.underlying37 rfl sizeCm ?_
      iterate 27 (first | with_reducible refine isStore (ty := 37) rfl ?_ | go_step)
      refine wpList_store_row rfl 37 _ _ rfl (w.heap.size + 1) (x.cells).toArray rfl rfl 37 _ Zr sizeCm (by rfl) (Cm.one _) ?_
      have N_ := setRow_heap z9 (w.heap.size + 1) _ (x.cells).toArray _ _ Zr
      have ee := lgRow (cs := (x.cells).toArray) (by omega) Zr ee
      have Zl := hpR Zl (g' := w.heap.size + 1) (by omega) (x.cells).toArray
      have Zx := hpR Zx (g' := w.heap.size + 1) (by omega) (x.cells).toArray
      have Zn := hpR Zn (g' := w.heap.size + 1) (by omega) (x.cells).toArray
      clear Zr
      have Zr := N_
      clear N_
      generalize z9.setRow (w.heap.size + 1) (x.cells).toArray = z10 at Zl Zx Zr Zn ee ⊢
      go_wp2_with fail
      refine bodyPost_ret (v := .tuple #[.agg x.cells.toArray, .bool true]) (res_ct rfl rfl rfl Zr Tryd.underlying37 rfl sizeCm) rfl ?_
      rw [HS2.out]
      exact ⟨rfl, Zl, ee⟩
end Go.Proofs.YtbahooohkigcnaaDoor

namespace Go.Proofs.YtbahooohkigcnaaDoor
set_option maxRecDepth 20001
open Go.RowKit T Px
set_option linter.unusedSimpArgs false
set_option linter.unusedVariables false
namespace Ag
/-- a command that bears no slices -/
def flatC (x : Cm) : Prop := x.rs = [] ∧ x.ws = [] ∧ x.A1 = none ∧ x.c1 = 0 ∧ x.A2 = none ∧ x.c2 = 0
theorem okFlat {w : World} {B : Nat} {x : Cm} (h : flatC x) : CmOk w B x := by
  obtain ⟨h1, h2, h3, h4, h5, h6⟩ := h
  unfold CmOk
  rw [h1, h2, h3, h4, h5, h6]
  exact TxOk.zero
theorem flatC_zero : flatC Cm.zero := ⟨rfl, rfl, rfl, rfl, rfl, rfl⟩
def stampC (i j : Int) : Cm := ⟨2, 0, 0, [], [], none, 0, none, 0, i, j, 0, 1, false⟩
theorem flatC_stamp (i j : Int) : flatC (stampC i j) := ⟨rfl, rfl, rfl, rfl, rfl, rfl⟩
theorem stamp_formed {i j : Int} (h1 : 1 ≤ i) (h2 : i ≤ 8) (h3 : 1 ≤ j) (h4 : j ≤ 1048576) : (stampC i j).formed = true := by
  unfold Cm.formed T.cformed stampC
  simp [T.idb]
  exact ⟨h1, h2, h3, h4⟩
def updF {α : Type} (f : Nat → α) (i : Nat) (a : α) : Nat → α := fun k => if k = i then a else f k
theorem updF_same {α : Type} (f : Nat → α) (i : Nat) (a : α) : updF f i a i = a := by simp [updF]
theorem updF_ne {α : Type} (f : Nat → α) {i k : Nat} (a : α) (h : k ≠ i) : updF f i a k = f k := by simp [updF, h]
/-- a leader among replicas -/
structure Lok (n t : Nat) (A : Nat → Ac) (P : List Pr) (V : Vt) (i : Nat) (l : Ld) : Prop where
  num : l.n = (n : Int)
  nd : l.nd = (i : Int)
  br : l.br ≤ t
  z : l.br = 0 → l.bn = 0 ∧ l.pr = 0 ∧ l.sl = 0
  nz : l.br ≠ 0 → l.bn = (i : Int)
  pw : l.pr < 18446744073709551616 ∧ l.vt < 18446744073709551616
  ln : l.l.length ≤ 5
  fl : (∀ S ∈ l.l, flatC S.c) ∧ flatC l.x
  ev : ∀ j, j < n → Q.hasB l.pr (j : Int) = true → ∃ S, Ev A P V l.br l.bn j S ∧ 1 ≤ S.sl ∧ (S ∈ l.l ∧ S.sl ≤ l.fs ∨ S.sl < l.fs)
  top : l.l ≠ [] → topOf l.l = l.fs
  lhs : ∀ S ∈ l.l, S.ha = true → ∃ p ∈ P, p.br = S.vr ∧ p.bn = S.vn ∧ p.s = S.sl ∧ p.x = S.c
  own : ∀ p ∈ P, p.br = l.br → p.bn = l.bn → p.s < l.fs ∨ (l.sl ≠ 0 ∧ p.s = l.sl)
  slr : 0 ≤ l.sl ∧ l.sl ≤ 1000000
  pro : l.sl ≠ 0 → l.fs ≤ l.sl ∧ l.sl ≤ (A i).sl ∧ ∃ p ∈ P, p.br = l.br ∧ p.bn = l.bn ∧ p.s = l.sl ∧ p.x = l.x ∧ ∀ j, j < n → Q.hasB l.vt (j : Int) = true → V p.br p.bn p.s j = true
/-- all of it, behind t steps -/
structure Cinv (n t : Nat) (A : Nat → Ac) (L : Nat → Ld) (X : Nat → List Cm) (P : List Pr) (V : Vt) : Prop where
  core : Inv n A P V
  ac : ∀ j, j < n → flatC (A j).c ∧ (A j).sl ≤ (t : Int) + 1 ∧ 1 ≤ (A j).sl ∧ (A j).pr ≤ t
  ps : ∀ p ∈ P, flatC p.x ∧ 1 ≤ p.br ∧ 0 ≤ p.bn ∧ p.bn < (n : Int) ∧ ∀ i : Nat, (i : Int) = p.bn → p.br ≤ (L i).br
  xl : ∀ j, j < n → ((X j).length : Int) = (A j).sl - 1 ∧ ∀ (s : Nat) (x : Cm), (X j)[s]? = some x → flatC x ∧ ∃ p ∈ P, p.s = (s : Int) + 1 ∧ p.x = x ∧ Chosen n V p
  ld : ∀ i, i < n → Lok n t A P V i (L i)
theorem Lok.upA {n t : Nat} {A : Nat → Ac} {P : List Pr} {V : Vt} {i : Nat} {l : Ld} (h : Lok n t A P V i l) (k : Nat) {a : Ac} (hu : Up (A k) a) : Lok n t (upd A k a) P V i l := by
  refine { h with ev := fun j hj hb => ?_, pro := fun hs => ?_ }
  · obtain ⟨S, h1, h2⟩ := h.ev j hj hb
    exact ⟨S, h1.up k hu, h2⟩
  · obtain ⟨h1, h2, h3⟩ := h.pro hs
    refine ⟨h1, ?_, h3⟩
    by_cases e : i = k
    · subst e
      rw [upd_same]
      exact Int.le_trans h2 hu.sl
    · rw [upd_ne A a e]; exact h2
theorem Lok.more {n t : Nat} {A : Nat → Ac} {P : List Pr} {V : Vt} {i : Nat} {l : Ld} (h : Lok n t A P V i l) : Lok n (t + 1) A P V i l := { h with br := by have := h.br; omega }
theorem Lok.voted {n t : Nat} {A : Nat → Ac} {P : List Pr} {V : Vt} {i : Nat} {l : Ld} (h : Lok n t A P V i l) {k : Nat} {p : Pr} (hw : (A k).how p.br p.bn p.s p.x = 3) (hf : (A k).formed = true) :
    Lok n t (upd A k ((A k).vote p.br p.bn p.s p.x)) P (vote V p.br p.bn p.s k) i l := by
  have h0 := h.upA k (up_vote hf p.br p.bn p.s p.x)
  refine { h0 with ev := fun j hj hb => ?_, pro := fun hs => ?_ }
  · obtain ⟨S, h1, h2⟩ := h.ev j hj hb
    exact ⟨S, h1.vote hw hf, h2⟩
  · obtain ⟨h1, h2, q, hq, r1, r2, r3, r4, r5⟩ := h0.pro hs
    exact ⟨h1, h2, q, hq, r1, r2, r3, r4, fun j hj hb => vote_old (r5 j hj hb)⟩
theorem Lok.new {n t : Nat} {A : Nat → Ac} {P : List Pr} {V : Vt} {i : Nat} {l : Ld} (h : Lok n t A P V i l) {p : Pr} (hn : ∀ k, V p.br p.bn p.s k = false) (h1 : 1 ≤ p.br) (hne : p.bn ≠ (i : Int)) : Lok n t A (P ++ [p]) V i l := by
  refine { h with ev := fun j hj hb => ?_, lhs := fun S hS hh => ?_, own := fun q hq e1 e2 => ?_, pro := fun hs => ?_ }
  · obtain ⟨S, h1, h2⟩ := h.ev j hj hb
    exact ⟨S, h1.new hn, h2⟩
  · obtain ⟨q, hq, r⟩ := h.lhs S hS hh
    exact ⟨q, List.mem_append_left _ hq, r⟩
  · rcases List.mem_append.1 hq with hq | hq
    · exact h.own q hq e1 e2
    · rw [List.mem_singleton.1 hq] at e1 e2
      exact absurd (e2.trans (h.nz (by omega))) hne
  · obtain ⟨h1, h2, q, hq, r⟩ := h.pro hs
    exact ⟨h1, h2, q, List.mem_append_left _ hq, r⟩
/-- a promise is asked for, and given or not -/
theorem Cinv.prep {n t : Nat} {A : Nat → Ac} {L : Nat → Ld} {X : Nat → List Cm} {P : List Pr} {V : Vt} (h : Cinv n t A L X P V) {j : Nat} (hj : j < n) {br : Nat} (hbr : br ≤ t) (bn : Int) : Cinv n t (upd A j ((A j).prep br bn)) L X P V := by
  obtain ⟨e1, e2, e3, e4, e5⟩ := prep_same (A j) br bn
  have hu := up_prep (h.core.fm j hj) br bn
  refine ⟨h.core.prep hj br bn, fun k hk => ?_, h.ps, fun k hk => ?_, fun i hi => (h.ld i hi).upA j hu⟩
  · by_cases e : k = j
    · subst e
      rw [upd_same, e1, e5]
      obtain ⟨a1, a2, a3, a4⟩ := h.ac k hk
      refine ⟨a1, a2, a3, ?_⟩
      unfold Ac.prep
      cases (A k).may br bn with
      | false => exact a4
      | true => exact hbr
    · rw [upd_ne A _ e]; exact h.ac k hk
  · by_cases e : k = j
    · subst e
      rw [upd_same, e1]; exact h.xl k hk
    · rw [upd_ne A _ e]; exact h.xl k hk
/-- a leader that has begun the ballot (br, i) -/
def begun (n i : Nat) (br : Nat) : Ld := ⟨(n : Int), (i : Int), br, (i : Int), 0, [], none, 0, 0, 0, Cm.zero, 0⟩
theorem has0 (j : Nat) : Q.hasB 0 (j : Int) = false := by unfold Q.hasB; simp
theorem Cinv.start {n t : Nat} {A : Nat → Ac} {L : Nat → Ld} {X : Nat → List Cm} {P : List Pr} {V : Vt} (h : Cinv n t A L X P V) {i : Nat} (hi : i < n) {br : Nat} (hb : (L i).br < br) (hbt : br ≤ t + 1) : Cinv n (t + 1) A (updF L i (begun n i br)) X P V := by
  refine ⟨h.core, fun j hj => ?_, fun p hp => ?_, h.xl, fun k hk => ?_⟩
  · obtain ⟨a1, a2, a3, a4⟩ := h.ac j hj
    exact ⟨a1, by omega, a3, by omega⟩
  · obtain ⟨a1, a2, a3, a4, a5⟩ := h.ps p hp
    refine ⟨a1, a2, a3, a4, fun k hk => ?_⟩
    by_cases e : k = i
    · subst e
      rw [updF_same]
      have := a5 k hk
      show p.br ≤ br
      omega
    · rw [updF_ne L _ e]; exact a5 k hk
  · by_cases e : k = i
    · subst e
      rw [updF_same]
      refine ⟨rfl, rfl, hbt, fun h0 => ?_, fun _ => rfl, ⟨(show (0 : Nat) < 18446744073709551616 by decide), (show (0 : Nat) < 18446744073709551616 by decide)⟩, by simp [begun], ⟨fun S hS => by simp [begun] at hS, flatC_zero⟩, fun j hj hb => ?_, fun h0 => absurd rfl h0, fun S hS => by simp [begun] at hS, fun p hp e1 e2 => ?_, ⟨(show (0 : Int) ≤ 0 by decide), (show (0 : Int) ≤ 1000000 by decide)⟩, fun h0 => absurd rfl h0⟩
      · have : br = 0 := h0
        omega
      · have : Q.hasB 0 (j : Int) = true := hb
        rw [has0] at this; exact absurd this (by simp)
      · have e1' : p.br = br := e1
        have := (h.ps p hp).2.2.2.2 k e2.symm
        omega
    · rw [updF_ne L _ e]; exact (h.ld k hk).more
/-- a leader that counts a promise -/
def promised (l : Ld) (j : Nat) (a : Ac) (A' : Option Addr) (c' : Nat) : Ld := { l with pr := Q.addN l.pr (j : Int), l := l.l ++ [a], A := A', c := c', fs := max l.fs a.sl }
theorem has_add (s j k : Nat) (hj : j < 64) : Q.hasB (Q.addN s (j : Int)) (k : Int) = (Q.hasB s (k : Int) || decide (k = j)) := by
  unfold Q.hasB Q.addN
  rw [if_pos ⟨by omega, by omega⟩, Int.toNat_natCast, Int.toNat_natCast, Nat.testBit_or, Nat.testBit_two_pow]
  by_cases e : k = j
  · subst e
    simp
    omega
  · have : ¬ j = k := fun h => e h.symm
    simp [this, e]
theorem Cinv.promise {n t : Nat} {A : Nat → Ac} {L : Nat → Ld} {X : Nat → List Cm} {P : List Pr} {V : Vt} (h : Cinv n t A L X P V) (h5 : n ≤ 5) {i j : Nat} (hi : i < n) (hj : j < n) (hz : (L i).br ≠ 0) (hs : (L i).sl = 0) (hf : (L i).l = [] → (L i).fs = 0) (h4 : (L i).l.length ≤ 4)
    (hm : (A j).may (L i).br (L i).bn = true) (A' : Option Addr) (c' : Nat) :
    Cinv n t (upd A j ((A j).prep (L i).br (L i).bn)) (updF L i (promised (L i) j ((A j).prep (L i).br (L i).bn) A' c')) X P V := by
  have hE := Ev.made h.core hj hm
  have h0 := h.prep hj (br := (L i).br) (h.ld i hi).br (L i).bn
  obtain ⟨e1, _, _, _, e5⟩ := prep_same (A j) (L i).br (L i).bn
  have hsl := (h.ac j hj).2.2.1
  refine ⟨h0.core, h0.ac, fun p hp => ?_, h0.xl, fun k hk => ?_⟩
  · obtain ⟨a1, a2, a3, a4, a5⟩ := h.ps p hp
    refine ⟨a1, a2, a3, a4, fun k hk => ?_⟩
    by_cases e : k = i
    · subst e
      rw [updF_same]; exact a5 k hk
    · rw [updF_ne L _ e]; exact a5 k hk
  · by_cases e : k = i
    · subst e
      rw [updF_same]
      have hl := h0.ld k hk
      have hcl : flatC ((A j).prep (L k).br (L k).bn).c := by rw [e5]; exact (h.ac j hj).1
      generalize hP : (A j).prep (L k).br (L k).bn = S0 at hE hl hcl e1 h0 ⊢
      have hS0 : 1 ≤ S0.sl := by rw [e1]; exact hsl
      refine { num := hl.num, nd := hl.nd, br := hl.br, z := fun q => absurd q hz, nz := hl.nz, pw := ⟨Q.add_lt _ _ hl.pw.1, hl.pw.2⟩, ln := ?_, fl := ⟨fun S hS => ?_, hl.fl.2⟩, ev := fun m hm hb => ?_, top := fun _ => ?_, lhs := fun S hS hh => ?_, own := fun p hp e1 e2 => ?_, slr := hl.slr, pro := fun q => absurd hs q }
      · show ((L k).l ++ [S0]).length ≤ 5
        simp; omega
      · have hS : S ∈ (L k).l ++ [S0] := hS
        rcases List.mem_append.1 hS with hS | hS
        · exact hl.fl.1 S hS
        · rw [List.mem_singleton.1 hS]; exact hcl
      · have hb : Q.hasB (Q.addN (L k).pr (j : Int)) (m : Int) = true := hb
        rw [has_add _ _ _ (by omega), Bool.or_eq_true, decide_eq_true_eq] at hb
        show ∃ S, Ev _ P V (L k).br (L k).bn m S ∧ 1 ≤ S.sl ∧ (S ∈ (L k).l ++ [S0] ∧ S.sl ≤ max (L k).fs S0.sl ∨ S.sl < max (L k).fs S0.sl)
        rcases hb with hb | rfl
        · obtain ⟨S, g1, g2, g3⟩ := hl.ev m hm hb
          refine ⟨S, g1, g2, ?_⟩
          rcases g3 with ⟨g3, g4⟩ | g3
          · exact .inl ⟨List.mem_append_left _ g3, by omega⟩
          · exact .inr (by omega)
        · exact ⟨S0, hE, hS0, .inl ⟨List.mem_append_right _ (List.mem_singleton.2 rfl), by omega⟩⟩
      · show topOf ((L k).l ++ [S0]) = max (L k).fs S0.sl
        rw [topOf_snoc]
        by_cases q : (L k).l = []
        · rw [if_pos q, hf q]; omega
        · rw [if_neg q, hl.top q]
          split <;> omega
      · have hS : S ∈ (L k).l ++ [S0] := hS
        rcases List.mem_append.1 hS with hS | hS
        · exact hl.lhs S hS hh
        · rw [List.mem_singleton.1 hS] at hh ⊢
          exact hE.hs hh
      · rcases hl.own p hp e1 e2 with q | q
        · left
          show p.s < max (L k).fs S0.sl
          omega
        · exact absurd hs q.1
    · rw [updF_ne L _ e]; exact h0.ld k hk
/-- a majority by bits, a majority by count -/
theorem count_cnt (s : Nat) : ∀ n, Q.cnt s n = Px.cnt n (fun j => Q.hasB s (j : Int) || decide (64 ≤ j) && s.testBit j)
  | 0 => rfl
  | n + 1 => by
    rw [Q.cnt, cnt_succ, count_cnt s n]
    congr 1
    have : (Q.hasB s (n : Int) || decide (64 ≤ n) && s.testBit n) = s.testBit n := by
      unfold Q.hasB
      rw [Int.toNat_natCast]
      by_cases h : n ≤ 63
      · have h1 : decide ((n : Int) ≤ 63) = true := decide_eq_true (by omega)
        have h2 : decide (64 ≤ n) = false := decide_eq_false (by omega)
        rw [h1, h2]; simp
      · have h1 : decide ((n : Int) ≤ 63) = false := decide_eq_false (by omega)
        have h2 : decide (64 ≤ n) = true := decide_eq_true (by omega)
        rw [h1, h2]; simp
    rw [this]
theorem maj_cnt {s n : Nat} (h5 : n ≤ 5) (h : Q.majB s (n : Int) = true) : n < 2 * Px.cnt n (fun j => Q.hasB s (j : Int)) := by
  have hc : Q.clampN (n : Int) = n := by unfold Q.clampN; omega
  unfold Q.majB Q.leastN Q.countN at h
  rw [hc, Bool.and_eq_true, decide_eq_true_eq, decide_eq_true_eq, count_cnt] at h
  have e : Px.cnt n (fun j => Q.hasB s (j : Int) || decide (64 ≤ j) && s.testBit j) = Px.cnt n (fun j => Q.hasB s (j : Int)) := cnt_congr fun j hj => by
    rw [decide_eq_false (by omega : ¬ 64 ≤ j)]; simp
  rw [e] at h
  omega
/-- a leader that proposes -/
def proposed (l : Ld) (s : Int) (x : Cm) : Ld := { l with sl := s, x := l.what s x, vt := 0 }
theorem Cinv.propose {n t : Nat} {A : Nat → Ac} {L : Nat → Ld} {X : Nat → List Cm} {P : List Pr} {V : Vt} (h : Cinv n t A L X P V) (h5 : n ≤ 5) {i : Nat} (hi : i < n) (hm : Q.majB (L i).pr (n : Int) = true) (hs : (L i).sl = 0) (hfs : (L i).fs ≤ (A i).sl) (ht : t < 1000000) {x : Cm} (hx : flatC x) :
    Cinv n t A (updF L i (proposed (L i) (A i).sl x)) X (P ++ [⟨(L i).br, (L i).bn, (A i).sl, (L i).what (A i).sl x⟩]) V := by
  have hl := h.ld i hi
  have hmaj := maj_cnt h5 hm
  obtain ⟨_, a2, a3, _⟩ := h.ac i hi
  -- a majority: so there is a ballot
  have hbr : (L i).br ≠ 0 := fun q => by
    rw [(hl.z q).2.1] at hmaj
    have : Px.cnt n (fun j => Q.hasB 0 (j : Int)) = Px.cnt n (fun _ => false) := cnt_congr fun j _ => has0 j
    rw [this] at hmaj
    have : ∀ m, Px.cnt m (fun _ => false) = 0 := fun m => by
      induction m with
      | zero => rfl
      | succ m ih => rw [cnt_succ, ih]; simp
    rw [this] at hmaj; omega
  have hbn := hl.nz hbr
  generalize hsn : (A i).sl = s at hfs a2 a3 ⊢
  have hwf : flatC ((L i).what s x) := by
    unfold Ld.what
    cases hb : ((best (topOf (L i).l) (L i).l).ha && decide (s = (L i).fs)) with
    | false => exact hx
    | true =>
      rw [Bool.and_eq_true] at hb
      exact hl.fl.1 _ ((best_spec _ _).1 hb.1).1
  have hno : ∀ q ∈ P, ¬ (q.br = (L i).br ∧ q.bn = (L i).bn ∧ q.s = s) := fun q hq e => by
    rcases hl.own q hq e.1 e.2.1 with r | r
    · omega
    · exact absurd hs r.1
  have hV : ∀ k, V (L i).br (L i).bn s k = false := fun k => by
    cases hv : V (L i).br (L i).bn s k with
    | false => rfl
    | true =>
      obtain ⟨q, hq, r⟩ := h.core.vp _ _ _ _ hv
      exact absurd r (hno q hq)
  have hnew := Inv.new h.core ⟨(L i).br, (L i).bn, s, (L i).what s x⟩ (fun j => Q.hasB (L i).pr (j : Int)) (if s = (L i).fs then (L i).l else []) hmaj
    (fun j hj hb => by
      obtain ⟨S, g1, g2, g3⟩ := hl.ev j hj hb
      refine ⟨S, g1, ?_, fun e => ?_⟩
      · show S.sl ≤ s; omega
      · have e : S.sl = s := e
        rw [if_pos (by omega)]
        rcases g3 with g3 | g3
        · exact g3.1
        · omega)
    (fun S hS hh => by
      by_cases e : s = (L i).fs
      · rw [if_pos e] at hS; exact hl.lhs S hS hh
      · rw [if_neg e] at hS; exact absurd hS (by simp))
    (fun hb => by
      show (L i).what s x = (best s (if s = (L i).fs then (L i).l else [])).c
      have hb : (best s (if s = (L i).fs then (L i).l else [])).ha = true := hb
      by_cases e : s = (L i).fs
      · rw [if_pos e] at hb ⊢
        have hne : (L i).l ≠ [] := fun q => by rw [q] at hb; exact absurd hb (by simp [best_nil, Ac.zero])
        have htop : topOf (L i).l = s := by rw [hl.top hne, e]
        unfold Ld.what
        rw [htop, hb, decide_eq_true e]; rfl
      · rw [if_neg e] at hb; exact absurd hb (by simp [best_nil, Ac.zero]))
    hno
  refine ⟨hnew, h.ac, fun p hp => ?_, fun j hj => ?_, fun k hk => ?_⟩
  · rcases List.mem_append.1 hp with hp | hp
    · obtain ⟨a1, a2, a3, a4, a5⟩ := h.ps p hp
      refine ⟨a1, a2, a3, a4, fun k hk => ?_⟩
      by_cases e : k = i
      · subst e
        rw [updF_same]; exact a5 k hk
      · rw [updF_ne L _ e]; exact a5 k hk
    · rw [List.mem_singleton.1 hp]
      refine ⟨hwf, by show 1 ≤ (L i).br; omega, by show 0 ≤ (L i).bn; omega, by show (L i).bn < (n : Int); omega, fun k hk => ?_⟩
      have e : k = i := by
        have : (k : Int) = (L i).bn := hk
        omega
      subst e
      rw [updF_same]; exact Nat.le_refl _
  · obtain ⟨x1, x2⟩ := h.xl j hj
    refine ⟨x1, fun s x hx => ?_⟩
    obtain ⟨g1, p, hp, g2⟩ := x2 s x hx
    exact ⟨g1, p, List.mem_append_left _ hp, g2⟩
  · by_cases e : k = i
    · subst e
      rw [updF_same]
      refine { num := hl.num, nd := hl.nd, br := hl.br, z := fun q => absurd q hbr, nz := hl.nz, pw := ⟨hl.pw.1, by show (0 : Nat) < _; decide⟩, ln := hl.ln, fl := ⟨hl.fl.1, hwf⟩, ev := fun j hj hb => ?_, top := hl.top, lhs := fun S hS hh => ?_, own := fun p hp e1 e2 => ?_, slr := ⟨by show 0 ≤ s; omega, by show s ≤ 1000000; omega⟩, pro := fun _ => ?_ }
      · obtain ⟨S, g1, g2⟩ := hl.ev j hj hb
        exact ⟨S, g1.new hV, g2⟩
      · obtain ⟨q, hq, r⟩ := hl.lhs S hS hh
        exact ⟨q, List.mem_append_left _ hq, r⟩
      · rcases List.mem_append.1 hp with hp | hp
        · rcases hl.own p hp e1 e2 with r | r
          · exact .inl r
          · exact absurd hs r.1
        · rw [List.mem_singleton.1 hp]
          right
          refine ⟨?_, rfl⟩
          show s ≠ 0; omega
      · refine ⟨hfs, ?_, _, List.mem_append_right _ (List.mem_singleton.2 rfl), rfl, rfl, rfl, rfl, fun j hj hb => ?_⟩
        · show s ≤ (A k).sl; omega
        · have hb : Q.hasB 0 (j : Int) = true := hb
          rw [has0] at hb; exact absurd hb (by simp)
    · rw [updF_ne L _ e]
      refine (h.ld k hk).new hV ?_ ?_
      · show 1 ≤ (L i).br; omega
      · show (L i).bn ≠ (k : Int)
        rw [hbn]; omega
/-- a vote is asked for -/
theorem Cinv.voteNo {n t : Nat} {A : Nat → Ac} {br : Nat} {bn s : Int} {x : Cm} {j : Nat} (hw : (A j).how br bn s x ≠ 3) : upd A j ((A j).vote br bn s x) = A := by rw [vote_no hw, upd_self]
theorem Cinv.vote {n t : Nat} {A : Nat → Ac} {L : Nat → Ld} {X : Nat → List Cm} {P : List Pr} {V : Vt} (h : Cinv n t A L X P V) (h5 : n ≤ 5) {i j : Nat} (hi : i < n) (hj : j < n) (hs : (L i).sl ≠ 0) (hw : (A j).how (L i).br (L i).bn (L i).sl (L i).x = 3) :
    ∃ V', Cinv n t (upd A j ((A j).vote (L i).br (L i).bn (L i).sl (L i).x)) (updF L i ((L i).vote (j : Int) (L i).br (L i).bn (L i).sl)) X P V' := by
  have hl := h.ld i hi
  obtain ⟨h1, h2, p, hp, r1, r2, r3, r4, r5⟩ := hl.pro hs
  rw [← r1, ← r2, ← r3, ← r4] at hw ⊢
  have hf := h.core.fm j hj
  have ev := vote_eq hw
  have hsl := (Ac.how_three hw).2.2
  refine ⟨Px.vote V p.br p.bn p.s j, h.core.vote hj hp hw, fun k hk => ?_, fun q hq => ?_, fun k hk => ?_, fun k hk => ?_⟩
  · by_cases e : k = j
    · subst e
      rw [upd_same, ev]
      obtain ⟨a1, a2, a3, a4⟩ := h.ac k hk
      refine ⟨(h.ps p hp).1, ?_, ?_, ?_⟩
      · show p.s ≤ _; omega
      · show 1 ≤ p.s; omega
      · show p.br ≤ t
        have := hl.br; omega
    · rw [upd_ne A _ e]; exact h.ac k hk
  · obtain ⟨a1, a2, a3, a4, a5⟩ := h.ps q hq
    refine ⟨a1, a2, a3, a4, fun k hk => ?_⟩
    by_cases e : k = i
    · subst e
      rw [updF_same]
      have e9 : ((L k).vote (j : Int) p.br p.bn p.s).br = (L k).br := by unfold Ld.vote; cases (L k).votes (j : Int) p.br p.bn p.s <;> rfl
      rw [e9]; exact a5 k hk
    · rw [updF_ne L _ e]; exact a5 k hk
  · obtain ⟨x1, x2⟩ := h.xl k hk
    refine ⟨?_, fun s x hx => ?_⟩
    · by_cases e : k = j
      · subst e
        rw [upd_same, ev]
        show _ = p.s - 1
        omega
      · rw [upd_ne A _ e]; exact x1
    · obtain ⟨g1, q, hq, g2, g3, g4⟩ := x2 s x hx
      refine ⟨g1, q, hq, g2, g3, Nat.lt_of_lt_of_le g4 (Nat.mul_le_mul_left 2 (cnt_mono fun m hm hv => vote_old hv))⟩
  · have hk0 := (h.ld k hk).voted hw hf
    by_cases e : k = i
    · subst e
      rw [updF_same]
      unfold Ld.vote
      cases hv : (L k).votes (j : Int) p.br p.bn p.s with
      | false => exact hk0
      | true =>
        rw [cond_true]
        refine { hk0 with pw := ⟨hk0.pw.1, Q.add_lt _ _ hk0.pw.2⟩, pro := fun q => ?_ }
        obtain ⟨g1, g2, q', hq', s1, s2, s3, s4, s5⟩ := hk0.pro q
        refine ⟨g1, g2, q', hq', s1, s2, s3, s4, fun m hm hb => ?_⟩
        have hb : Q.hasB (Q.addN (L k).vt (j : Int)) (m : Int) = true := hb
        rw [has_add _ _ _ (by omega), Bool.or_eq_true, decide_eq_true_eq] at hb
        rcases hb with hb | rfl
        · exact s5 m hm hb
        · have e1 : q'.br = p.br := s1.trans r1.symm
          have e2 : q'.bn = p.bn := s2.trans r2.symm
          have e3 : q'.s = p.s := s3.trans r3.symm
          rw [e1, e2, e3]; exact vote_same _ _ _ _ _
    · rw [updF_ne L _ e]; exact hk0
/-- a proposal that a majority has voted for: let go; what was proposed is chosen -/
theorem Cinv.done {n t : Nat} {A : Nat → Ac} {L : Nat → Ld} {X : Nat → List Cm} {P : List Pr} {V : Vt} (h : Cinv n t A L X P V) (h5 : n ≤ 5) {i : Nat} (hi : i < n) (hs : (L i).sl ≠ 0) (hm : Q.majB (L i).vt (n : Int) = true) :
    Cinv n t A (updF L i (L i).done) X P V ∧ flatC (L i).x ∧ 1 ≤ (L i).sl ∧ (L i).sl ≤ (A i).sl ∧ ∃ p ∈ P, p.s = (L i).sl ∧ p.x = (L i).x ∧ Chosen n V p := by
  have hl := h.ld i hi
  obtain ⟨h1, h2, p, hp, r1, r2, r3, r4, r5⟩ := hl.pro hs
  have hd : (L i).dones = true := by unfold Ld.dones; rw [decide_eq_false hs, hl.num, hm]; rfl
  have ed : (L i).done = { L i with fs := (L i).sl + 1, sl := 0, x := Cm.zero, l := [], A := none, c := 0 } := by unfold Ld.done; rw [hd]; rfl
  refine ⟨⟨h.core, h.ac, fun q hq => ?_, h.xl, fun k hk => ?_⟩, hl.fl.2, ?_, h2, p, hp, r3, r4, Nat.lt_of_lt_of_le (maj_cnt h5 hm) (Nat.mul_le_mul_left 2 (cnt_mono fun j hj hb => r5 j hj hb))⟩
  · obtain ⟨a1, a2, a3, a4, a5⟩ := h.ps q hq
    refine ⟨a1, a2, a3, a4, fun k hk => ?_⟩
    by_cases e : k = i
    · subst e
      rw [updF_same, ed]; exact a5 k hk
    · rw [updF_ne L _ e]; exact a5 k hk
  · by_cases e : k = i
    · subst e
      rw [updF_same, ed]
      refine { num := hl.num, nd := hl.nd, br := hl.br, z := fun q => absurd (hl.z q).2.2 hs, nz := hl.nz, pw := hl.pw, ln := by simp, fl := ⟨fun S hS => by simp at hS, flatC_zero⟩, ev := fun j hj hb => ?_, top := fun q => absurd rfl q, lhs := fun S hS => by simp at hS, own := fun q hq e1 e2 => ?_, slr := ⟨Int.le_refl _, (show (0 : Int) ≤ 1000000 by decide)⟩, pro := fun q => absurd rfl q }
      · obtain ⟨S, g1, g2, g3⟩ := hl.ev j hj hb
        refine ⟨S, g1, g2, .inr ?_⟩
        show S.sl < (L k).sl + 1
        omega
      · left
        show q.s < (L k).sl + 1
        rcases hl.own q hq e1 e2 with g | g
        · omega
        · omega
    · rw [updF_ne L _ e]; exact h.ld k hk
  · have := hl.slr; omega
/-- a replica learns what is chosen in its open slot -/
theorem Cinv.learn {n t : Nat} {A : Nat → Ac} {L : Nat → Ld} {X : Nat → List Cm} {P : List Pr} {V : Vt} (h : Cinv n t A L X P V) {j : Nat} (hj : j < n) (hsl : (A j).sl ≤ (t : Int)) (ht : t < 1000000) {x : Cm} (hx : flatC x) (hc : ∃ p ∈ P, p.s = (A j).sl ∧ p.x = x ∧ Chosen n V p) :
    (A j).learns (A j).sl = true ∧ Cinv n t (upd A j ((A j).learn (A j).sl)) L (updF X j (X j ++ [x])) P V := by
  have hf := h.core.fm j hj
  have hls : (A j).learns (A j).sl = true := (Ac.learns_iff _ _).2 ⟨hf, rfl, by omega⟩
  refine ⟨hls, ?_⟩
  have el := learn_eq hls
  have hu := up_learn hf (A j).sl
  obtain ⟨a1, a2, a3, a4⟩ := h.ac j hj
  refine ⟨h.core.learn hj _, fun k hk => ?_, h.ps, fun k hk => ?_, fun i hi => (h.ld i hi).upA j hu⟩
  · by_cases e : k = j
    · subst e
      rw [upd_same, el]
      refine ⟨flatC_zero, ?_, ?_, a4⟩
      · show (A k).sl + 1 ≤ _; omega
      · show 1 ≤ (A k).sl + 1; omega
    · rw [upd_ne A _ e]; exact h.ac k hk
  · obtain ⟨x1, x2⟩ := h.xl k hk
    by_cases e : k = j
    · subst e
      rw [upd_same, updF_same, el]
      refine ⟨?_, fun s y hy => ?_⟩
      · rw [List.length_append]
        show (((X k).length + 1 : Nat) : Int) = (A k).sl + 1 - 1
        omega
      · rw [List.getElem?_append] at hy
        by_cases hlt : s < (X k).length
        · rw [if_pos hlt] at hy; exact x2 s y hy
        · rw [if_neg hlt] at hy
          have h9 := (List.getElem?_eq_some_iff.1 hy).1
          have hs0 : s - (X k).length = 0 := by simp at h9; omega
          rw [hs0] at hy
          obtain rfl : x = y := by simpa using hy
          obtain ⟨p, hp, q1, q2, q3⟩ := hc
          exact ⟨hx, p, hp, by omega, q2, q3⟩
    · rw [upd_ne A _ e, updF_ne X _ e]; exact ⟨x1, x2⟩
/-- a step that does nothing more -/
theorem Cinv.more {n t : Nat} {A : Nat → Ac} {L : Nat → Ld} {X : Nat → List Cm} {P : List Pr} {V : Vt} (h : Cinv n t A L X P V) : Cinv n (t + 1) A L X P V :=
  ⟨h.core, fun j hj => by obtain ⟨a1, a2, a3, a4⟩ := h.ac j hj; exact ⟨a1, by omega, a3, by omega⟩, h.ps, h.xl, fun i hi => (h.ld i hi).more⟩
/-- what any two have learnt is the same -/
theorem Cinv.agree {n t : Nat} {A : Nat → Ac} {L : Nat → Ld} {X : Nat → List Cm} {P : List Pr} {V : Vt} (h : Cinv n t A L X P V) {i j s : Nat} (hi : i < n) (hj : j < n) {x y : Cm} (hx : (X i)[s]? = some x) (hy : (X j)[s]? = some y) : x = y ∧ flatC x := by
  obtain ⟨f1, p, hp, p1, p2, p3⟩ := (h.xl i hi).2 s x hx
  obtain ⟨f2, q, hq, q1, q2, q3⟩ := (h.xl j hj).2 s y hy
  exact ⟨by rw [← p2, ← q2]; exact chosen_one h.core hp hq (by omega) p3 q3, f1⟩
/-- what was chosen in a slot that is learnt is what was learnt -/
theorem Cinv.known {n t : Nat} {A : Nat → Ac} {L : Nat → Ld} {X : Nat → List Cm} {P : List Pr} {V : Vt} (h : Cinv n t A L X P V) {i : Nat} (hi : i < n) {s : Int} {x : Cm} (h1 : 1 ≤ s) (h2 : s < (A i).sl) (hc : ∃ p ∈ P, p.s = s ∧ p.x = x ∧ Chosen n V p) :
    ∃ k : Nat, s = (k : Int) + 1 ∧ (X i)[k]? = some x := by
  obtain ⟨x1, x2⟩ := h.xl i hi
  refine ⟨(s - 1).toNat, by omega, ?_⟩
  have hlt : (s - 1).toNat < (X i).length := by omega
  rw [List.getElem?_eq_getElem hlt]
  obtain ⟨_, p, hp, p1, p2, p3⟩ := x2 _ _ (List.getElem?_eq_getElem hlt)
  obtain ⟨q, hq, q1, q2, q3⟩ := hc
  have := chosen_one h.core hp hq (by omega) p3 q3
  rw [← p2, this, q2]
/-- at first -/
theorem Cinv.first (n : Nat) (h5 : n ≤ 5) : Cinv n 0 (fun _ => Ac.new) (fun i => Ld.new (n : Int) (i : Int)) (fun _ => []) [] (fun _ _ _ _ => false) := by
  refine ⟨Inv.first n, fun j hj => ⟨flatC_zero, (show (1 : Int) ≤ 0 + 1 by decide), (show (1 : Int) ≤ 1 by decide), Nat.le_refl _⟩, by simp, fun j hj => ⟨rfl, by simp⟩, fun i hi => ?_⟩
  refine ⟨rfl, rfl, Nat.le_refl _, fun _ => ⟨rfl, rfl, rfl⟩, fun q => absurd rfl q, ⟨(show (0 : Nat) < 18446744073709551616 by decide), (show (0 : Nat) < 18446744073709551616 by decide)⟩, by simp [Ld.new], ⟨fun S hS => by simp [Ld.new] at hS, flatC_zero⟩, fun j hj hb => ?_, fun q => absurd rfl q, fun S hS => by simp [Ld.new] at hS, by simp, ⟨(show (0 : Int) ≤ 0 by decide), (show (0 : Int) ≤ 1000000 by decide)⟩, fun q => absurd rfl q⟩
  have hb : Q.hasB 0 (j : Int) = true := hb
  rw [has0] at hb; exact absurd hb (by simp)
end Ag
end Go.Proofs.YtbahooohkigcnaaDoor

namespace Go.Proofs.YtbahooohkigcnaaDoor
set_option maxRecDepth 20001
open Go.RowKit
set_option linter.unusedSimpArgs false
set_option linter.unusedVariables false
/-- all cells, one struct behind the other -/
def flat {α : Type} (enc : α → List Value) (l : List α) : List Value := l.flatMap enc
section
variable {α : Type} {enc : α → List Value} {sz : Nat}
theorem flat_nil : flat enc [] = [] := rfl
theorem flat_snoc (l : List α) (a : α) : flat enc (l ++ [a]) = flat enc l ++ enc a := by simp [flat]
theorem flat_app (l m : List α) : flat enc (l ++ m) = flat enc l ++ flat enc m := by simp [flat]
theorem flat_cons (a : α) (l : List α) : flat enc (a :: l) = enc a ++ flat enc l := by simp [flat]
theorem flat_len (hs : ∀ a, (enc a).length = sz) (l : List α) : (flat enc l).length = l.length * sz := by
  induction l with
  | nil => simp [flat]
  | cons a t ih => rw [flat_cons, List.length_append, hs, ih, List.length_cons, Nat.add_mul]; omega
theorem list_split {l : List α} {k : Nat} {x : α} (h : l[k]? = some x) : l = l.take k ++ x :: l.drop (k + 1) ∧ k < l.length := by
  obtain ⟨hk, rfl⟩ := List.getElem?_eq_some_iff.1 h
  exact ⟨by rw [List.getElem_cons_drop, List.take_append_drop], hk⟩
theorem flat_split (hs : ∀ a, (enc a).length = sz) {l : List α} {k : Nat} {x : α} (h : l[k]? = some x) :
    flat enc l = flat enc (l.take k) ++ (enc x ++ flat enc (l.drop (k + 1))) ∧ (flat enc (l.take k)).length = k * sz := by
  obtain ⟨e, hk⟩ := list_split h
  refine ⟨?_, by rw [flat_len hs, List.length_take, Nat.min_eq_left (by omega)]⟩
  conv => lhs; rw [e]
  rw [flat_app, flat_cons]
theorem flat_at (hs : ∀ a, (enc a).length = sz) {l : List α} {k : Nat} {x : α} (h : l[k]? = some x) (j : Nat) (v : Value) (hv : (enc x)[j]? = some v) : (flat enc l)[k * sz + j]? = some v := by
  obtain ⟨e, hl⟩ := flat_split hs h
  have hj : j < (enc x).length := (List.getElem?_eq_some_iff.1 hv).1
  rw [e, List.getElem?_append_right (by omega), hl, show k * sz + j - k * sz = j by omega, List.getElem?_append_left hj]
  exact hv
theorem putAt_mid (a b c : List Value) : ∀ (vs : List Value), vs.length = b.length → putAt (a ++ (b ++ c)) a.length vs = a ++ (vs ++ c) := by
  intro vs
  induction vs generalizing a b with
  | nil => intro h; have : b = [] := List.length_eq_zero_iff.1 (by simpa using h.symm); subst this; rfl
  | cons v r ih =>
    intro h
    match b, h with
    | b0 :: b', h =>
      have h' : r.length = b'.length := by simpa using h
      rw [putAt]
      rw [show (a ++ (b0 :: b' ++ c)).set a.length v = (a ++ [v]) ++ (b' ++ c) by rw [List.set_append_right _ _ (Nat.le_refl _)]; simp]
      rw [show a.length + 1 = (a ++ [v]).length by simp, ih (a ++ [v]) b' h']
      simp
theorem set_split {l : List α} {k : Nat} {x : α} (h : l[k]? = some x) (y : α) : l.set k y = l.take k ++ y :: l.drop (k + 1) := by
  obtain ⟨e, hk⟩ := list_split h
  rw [List.set_eq_take_append_cons_drop, if_pos hk]
theorem flat_set (hs : ∀ a, (enc a).length = sz) {l : List α} {k : Nat} {x : α} (h : l[k]? = some x) (y : α) : flat enc (l.set k y) = flat enc (l.take k) ++ (enc y ++ flat enc (l.drop (k + 1))) := by
  rw [set_split h y, flat_app, flat_cons]
/-- a whole struct put in another one's place -/
theorem flat_put (hs : ∀ a, (enc a).length = sz) {l : List α} {k : Nat} {x : α} (h : l[k]? = some x) (y : α) : putAt (flat enc l) (k * sz) (enc y) = flat enc (l.set k y) := by
  obtain ⟨e, hl⟩ := flat_split hs h
  rw [flat_set hs h y, e, ← hl]
  exact putAt_mid _ _ _ _ (by rw [hs, hs])
/-- one cell put -/
theorem flat_set1 (hs : ∀ a, (enc a).length = sz) {l : List α} {k : Nat} {x : α} (h : l[k]? = some x) (j : Nat) (hj : j < sz) (v : Value) (y : α) (hy : enc y = (enc x).set j v) : (flat enc l).set (k * sz + j) v = flat enc (l.set k y) := by
  obtain ⟨e, hl⟩ := flat_split hs h
  rw [flat_set hs h y, e, hy, List.set_append_right _ _ (by omega), hl, show k * sz + j - k * sz = j by omega, List.set_append_left _ _ (by rw [hs]; exact hj)]
end
/-- rows that are owned: the slice, its cells -/
theorem flatOwn {α : Type} {enc : α → List Value} {sz : Nat} (hs : ∀ a, (enc a).length = sz) (hpos : 0 < sz) {w : World} {base e : Nat} {v : Value} {l : List α} (h : w.ownsRow base e sz v l.length (flat enc l)) :
    ∃ (A : Option Addr) (c : Nat), v = .slice A l.length c ∧ l.length ≤ c ∧ RowsAt w w.heap.size A sz (l.map enc) ∧ (l.length ≠ 0 → ∃ g, A = some ⟨g, 0, none⟩ ∧ base ≤ g ∧ g < w.heap.size) := by
  rcases h.2 with ⟨rfl, h0⟩ | ⟨g, cap, cur, rfl, hb, hg, hc, hm, _⟩
  · have : l = [] := List.length_eq_zero_iff.1 h0
    subst this
    exact ⟨none, 0, rfl, Nat.le_refl _, RowsAt.nil, fun h => absurd rfl h⟩
  · have hgs : g < w.heap.size := (Array.getElem?_eq_some_iff.1 hg).1
    refine ⟨some ⟨g, 0, none⟩, cap, rfl, hc, fun i cs hi => ?_, fun _ => ⟨g, rfl, hb, hgs⟩⟩
    rw [List.getElem?_map] at hi
    cases hx : l[i]? with
    | none => rw [hx] at hi; simp at hi
    | some x =>
      rw [hx] at hi
      simp at hi
      subst hi
      refine ⟨g, 0, rfl, hgs, fun j u hu => ?_⟩
      have hc := h.cells (g := g) rfl (i * sz + j) u (flat_at hs hx j u hu)
      rw [Addr.add_mid] at hc
      simpa [Nat.add_assoc] using hc
/-- one struct of owned rows, as a range -/
theorem flatRange {α : Type} {enc : α → List Value} {sz : Nat} (hs : ∀ a, (enc a).length = sz) {w : World} {base e g n c : Nat} {l : List α} (h : w.ownsRow base e sz (.slice (some ⟨g, 0, none⟩) n c) n (flat enc l)) {k : Nat} {x : α} (hk : l[k]? = some x) : w.rangeAt g (k * sz) (enc x) := fun j v hv => by
  have hc := h.cells (g := g) rfl (k * sz + j) v (flat_at hs hk j v hv)
  rwa [Addr.add_mid, Nat.zero_add] at hc
/-- one struct of a row in a block -/
theorem flatMid {α : Type} {enc : α → List Value} {sz : Nat} (hs : ∀ a, (enc a).length = sz) {w : World} {g : Nat} {t : TypeId} {l : List α} (h : w.heap[g]? = some (.cells (flat enc l).toArray t (0, 0))) {k : Nat} {x : α} (hk : l[k]? = some x) : w.rangeAt g (k * sz) (enc x) :=
  rowMid h (k * sz) (fun j v hv => flat_at hs hk j v hv)
end Go.Proofs.YtbahooohkigcnaaDoor

namespace Go.Proofs.YtbahooohkigcnaaDoor
set_option maxRecDepth 20001
open Go.RowKit
set_option linter.unusedSimpArgs false
set_option linter.unusedVariables false
/-- the blocks of P may have changed, and new ones may be there; all else is as it was -/
def OgF (w w' : World) (P : Nat → Prop) : Prop := Below 0 w w' ∧ ∀ i, i < w.heap.size → ¬ P i → w'.heap[i]? = w.heap[i]?
section
variable {w z c z' : World} {h k : Nat} {old cs : Array Value} {t : TypeId} {P : Nat → Prop} {base e sz n : Nat} {v : Value} {xs : List Value} {B : Nat}
theorem OgF.refl (w : World) (P : Nat → Prop) : OgF w w P := ⟨Below.refl 0 w, fun _ _ _ => rfl⟩
theorem OgF.size (p : OgF w z P) : w.heap.size ≤ z.heap.size := p.1.size
theorem ogTrans {Q : Nat → Prop} (p : OgF w z P) (q : OgF z c Q) (hQ : ∀ i, Q i → P i ∨ w.heap.size ≤ i) : OgF w c P :=
  ⟨p.1.trans q.1, fun i hi hn => (q.2 i (Nat.lt_of_lt_of_le hi p.1.size) (fun hq => by
    rcases hQ i hq with h | h
    · exact hn h
    · omega)).trans (p.2 i hi hn)⟩
theorem ogBelow (p : OgF w z P) (q : Below z.heap.size z c) : OgF w c P := ⟨p.1.trans (q.mono (Nat.zero_le _)), fun i hi hn => (q.block i (Nat.lt_of_lt_of_le hi p.1.size)).trans (p.2 i hi hn)⟩
theorem ogOf (q : Below w.heap.size w z) (P : Nat → Prop) : OgF w z P := ogBelow (OgF.refl w P) q
theorem ogAlloc (p : OgF w z P) (o : Obj) : OgF w (z.alloc o) P := ogBelow p ((Below.refl _ _).alloc (Nat.le_refl _) o)
theorem ogDrew (p : OgF w z P) : OgF w z.drew P := ⟨belowDrewS p.1, p.2⟩
theorem ogDrewN (p : OgF w z P) (m : Nat) : OgF w (z.drewN m) P := ⟨belowDrewN p.1 m, p.2⟩
theorem ogRow (hk : P k ∨ w.heap.size ≤ k) (hz : z.heap[k]? = some (.cells old t (0, 0))) (p : OgF w z P) : OgF w (z.setRow k cs) P :=
  ⟨belowSet p.1 hz (Nat.zero_le _), fun i hi hn => (setRow_other z k i cs (fun e => by
    rcases hk with hk | hk
    · exact hn (by rw [e]; exact hk)
    · omega)).trans (p.2 i hi hn)⟩
theorem ogCells (hk : P k ∨ w.heap.size ≤ k) : ∀ (vs : List Value) (i : Nat) (z : World), OgF w z P → OgF w (z.setCells k i vs) P
  | [], _, _, p => p
  | v :: r, i, z, p => ogCells hk r (i + 1) (z.setCell ⟨k, i, none⟩ v) ⟨p.1.setCell (Nat.zero_le _) v, fun j hj hn => (Below.heap_setCell z ⟨k, i, none⟩ v j (fun e => by
    have e2 : j = k := e
    rcases hk with hk | hk
    · exact hn (by rw [e2]; exact hk)
    · omega)).trans (p.2 j hj hn)⟩
theorem ogOwnE (p : OgF w z P) (hg : z.grownBy z' v.ownBlock) (hP : ∀ i, v.ownBlock = some i → P i ∨ w.heap.size ≤ i) : OgF w z' P :=
  ⟨p.1.grown hg (Nat.zero_le _) (fun _ _ => Nat.zero_le _), fun i hi hn => (hg.block i (Nat.lt_of_lt_of_le hi p.1.size) (fun e => by
    rcases hP i e.symm with h | h
    · exact hn h
    · omega)).trans (p.2 i hi hn)⟩
theorem ogGrown (p : OgF w z P) (q : z.grownBy c (some h)) (hk : P h ∨ w.heap.size ≤ h) : OgF w c P :=
  ⟨p.1.grown q (Nat.zero_le _) (fun _ _ => Nat.zero_le _), fun i hi hn => (q.block i (Nat.lt_of_lt_of_le hi p.1.size) (fun e => by
    injection e with e
    rcases hk with hk | hk
    · exact hn (by rw [e]; exact hk)
    · omega)).trans (p.2 i hi hn)⟩
theorem OgF.toGrown {g : Nat} (p : OgF w z (fun i => i = g)) : w.grownBy z (some g) :=
  ⟨p.1.os, p.1.tape, p.1.output, p.1.size, fun i hi hne => p.2 i hi (fun e => hne (by rw [e]))⟩
theorem OgF.toBelow (p : OgF w z P) (hP : ∀ i, P i → B ≤ i) (hB : B ≤ w.heap.size) : Below B w z :=
  ⟨p.1.os, p.1.tape, p.1.output, p.1.size, fun i hi => p.2 i (Nat.lt_of_lt_of_le hi hB) (fun h => by have := hP i h; omega)⟩
theorem OgF.heap {o : Obj} (q : OgF w z P) (p : w.heap[k]? = some o) (hn : ¬ P k) : z.heap[k]? = some o := (q.2 k (Array.getElem?_eq_some_iff.1 p).1 hn).trans p
theorem OgF.own (q : OgF w z P) (p : w.ownsRow base e sz v n xs) (hn : ∀ i, v.ownBlock = some i → ¬ P i) : z.ownsRow base e sz v n xs := by
  rcases p.2 with h0 | ⟨g, cap, cur, hv, hb', hg, rest⟩
  · exact ⟨p.1, Or.inl h0⟩
  · exact ⟨p.1, Or.inr ⟨g, cap, cur, hv, hb', q.heap hg (hn g (by rw [hv]; rfl)), rest⟩⟩
theorem ogKind {m : Nat × Nat} (hu : z.ownsRow base e sz v n xs) (hz : z.heap[k]? = some (.cells old t m)) (hne : t ≠ e) : v.ownBlock ≠ some k := by
  intro hb
  rcases hu.2 with ⟨hv, _⟩ | ⟨g, cap, cur, hv, _, hg, _⟩
  · rw [hv] at hb; cases hb
  · rw [hv] at hb
    have e1 : g = k := by injection hb
    subst e1
    rw [hz] at hg
    injection hg with hg
    injection hg with _ ht _
    exact hne ht
theorem ogCellsG (k : Nat) : ∀ (vs : List Value) (i : Nat) (z : World), z.grownBy (z.setCells k i vs) (some k)
  | [], _, z => ⟨rfl, rfl, rfl, Nat.le_refl _, fun _ _ _ => rfl⟩
  | v :: r, i, z => by
    have h1 := ogCellsG k r (i + 1) (z.setCell ⟨k, i, none⟩ v)
    have hs : (z.setCell ⟨k, i, none⟩ v).heap.size = z.heap.size := by simp
    exact ⟨h1.os, h1.tape, h1.output, by have := h1.size; rw [hs] at this; exact this, fun j hj hne => (h1.block j (by rw [hs]; exact hj) hne).trans (Below.heap_setCell z ⟨k, i, none⟩ v j (fun e => hne (by rw [e])))⟩
theorem ogOwnC (p : z.ownsRow base e sz v n xs) (hne : v.ownBlock ≠ some k) (vs : List Value) (i : Nat) : (z.setCells k i vs).ownsRow base e sz v n xs := p.kept (ogCellsG k vs i z) (Or.inr hne)
theorem ogOwnR (p : z.ownsRow base e sz v n xs) (hne : v.ownBlock ≠ some k) : (z.setRow k cs).ownsRow base e sz v n xs := p.kept ⟨rfl, rfl, rfl, by rw [setRow_size]; exact Nat.le_refl _, fun i _ hi => setRow_other z k i cs (fun e => hi (by rw [e]))⟩ (Or.inr hne)
theorem ogHeap {m : Nat × Nat} (p : z.heap[k]? = some (.cells cs t m)) (hu : z.ownsRow base e sz v n xs) (hne : t ≠ e) (hg : z.grownBy z' v.ownBlock) : z'.heap[k]? = some (.cells cs t m) :=
  (hg.block k (Array.getElem?_eq_some_iff.1 p).1 (fun e1 => ogKind hu p hne e1.symm)).trans p
theorem ogHeapB {m : Nat × Nat} (p : z.heap[k]? = some (.cells cs t m)) (hne : v.ownBlock ≠ some k) (hg : z.grownBy z' v.ownBlock) : z'.heap[k]? = some (.cells cs t m) :=
  (hg.block k (Array.getElem?_eq_some_iff.1 p).1 (fun e1 => hne e1.symm)).trans p
theorem ogRowAdd {cs : List Value} (p : z.heap[k]? = some (.cells cs.toArray t (0, 0))) : ∀ j u, cs[j]? = some u → z.cell? ((⟨k, 0, none⟩ : Addr).add j) = some u := fun j u hv => by
  rw [Addr.add_mid]; exact rowAt p j u hv
theorem ogHeapG {o : Obj} {g : Nat} (p : w.heap[k]? = some o) (q : w.grownBy z (some g)) (hne : k ≠ g) : z.heap[k]? = some o := (q.block k (Array.getElem?_eq_some_iff.1 p).1 (fun e => hne (by injection e))).trans p
theorem ogFill {s : Nat} (hs : 0 < s) (x : List Value) (hx : x.length = s) (cells : Array Value) (hn : cells.size = s) : Instr.fill (fun i => some (i * s, s)) cells [(0, .agg x.toArray)] = some x.toArray := by
  have := Great.fill_whole (s := s) hs [Value.agg x.toArray] cells (by intro v hv; simp at hv; subst hv; simpa [Value.cells] using hx) (by simp [hn])
  simpa [Value.cells] using this
theorem ogCell0 {b : Nat} {cs : List Value} (h : w.rangeAt b 0 cs) (j : Nat) {v : Value} (hv : cs[j]? = some v) : w.cell? ⟨b, j, none⟩ = some v := by
  have := h j v hv
  rwa [Nat.zero_add] at this
theorem ownPtr {A : Option Addr} {m cc : Nat} (h : w.ownsRow base e sz (.slice A m cc) n xs) (hn : n ≠ 0) : ∃ g, A = some ⟨g, 0, none⟩ ∧ base ≤ g ∧ g < w.heap.size ∧ m = n := by
  rcases h.2 with ⟨_, h0⟩ | ⟨g, cap, cur, hv, hb, hg, _⟩
  · exact absurd h0 hn
  · injection hv with h1 h2 h3
    exact ⟨g, h1, hb, (Array.getElem?_eq_some_iff.1 hg).1, h2⟩
theorem ogBuild {P : Program} {ops : Array Oper} {rest : List Oper} {o : Oper} {a : Act} {w : World} {Q : Exit → Act → World → Prop} (hg : o.guard = none) (t : TypeId) (parts : Array (Nat × Operand)) (ho : o.op = .build t parts) (vs : List (Nat × Value)) (cells : Array Value) (hv : (parts.map fun (i, x) => (i, a.eval x)).toList = vs)
    (hf : P.built t vs = some cells) (h : wpList P ops Q rest (a.put o.dst (.agg cells)) w) : wpList P ops Q (o :: rest) a w :=
  wpList_build hg t parts ho (by rw [hv, hf]; rfl) (by rw [hv, hf]; exact h)
theorem ogBuildH {P : Program} {o : Oper} {a : Act} {w : World} {K : Act → World → Prop} {Q : Exit → Act → World → Prop} (t : TypeId) (parts : Array (Nat × Operand)) (ho : o.op = .build t parts) (vs : List (Nat × Value)) (cells : Array Value) (hv : (parts.map fun (i, x) => (i, a.eval x)).toList = vs)
    (hf : P.built t vs = some cells) (h : K (a.put o.dst (.agg cells)) w) : o.wp P a w K Q :=
  wp_build t parts ho (by rw [hv, hf]; rfl) (by rw [hv, hf]; exact h)
/-- an array's element that is stored anew -/
theorem ogPut {α : Type} {enc : α → List Value} {s : Nat} (hs : ∀ a, (enc a).length = s) {g : Nat} {l : List α} {x : α} (hz : z.heap[g]? = some (.cells (flat enc l).toArray t (0, 0))) {k : Nat} (hk : l[k]? = some x) (y : α) :
    (z.setCells g (k * s) (enc y)).heap[g]? = some (.cells (flat enc (l.set k y)).toArray t (0, 0)) := by
  rw [← flat_put hs hk y]
  exact hpC (enc y) (k * s) (flat enc l) z hz
theorem flatThere {α : Type} {enc : α → List Value} {s : Nat} (hs : ∀ a, (enc a).length = s) {g : Nat} {l : List α} {x : α} (hz : z.heap[g]? = some (.cells (flat enc l).toArray t (0, 0))) {k : Nat} (hk : l[k]? = some x) : z.there g (k * s) s := by
  refine rowThere hz ?_
  rw [flat_len hs]
  have := (List.getElem?_eq_some_iff.1 hk).1
  calc k * s + s = (k + 1) * s := by rw [Nat.add_mul]; omega
    _ ≤ l.length * s := Nat.mul_le_mul_right _ (by omega)
end
end Go.Proofs.YtbahooohkigcnaaDoor

namespace Go.Proofs.YtbahooohkigcnaaDoor
set_option maxRecDepth 20001
open Go.RowKit
set_option linter.unusedSimpArgs false
set_option linter.unusedVariables false
section
variable {P : Program} (w : World)
theorem append_whereS (base : Nat) (t ty e : TypeId) (i : TypeInfo) (z : Value) (size bytes : Nat) (ht : P.underlying t = some (.slice e)) (hi : P.info? e = some i) (hz : i.zero = some z)
    (hsize : i.size = size) (hby : i.bytes = bytes) (hzs : z.cells.size = size) (hsz : 0 < size)
    (v : Value) (n : Nat) (xs : List Value) (hown : w.ownsRow base e size v n xs)
    (a : Addr) (m c : Nat) (news : List Value) (hl : news.length = m * size) (hnews : ∀ j u, news[j]? = some u → w.cell? (a.add j) = some u) (h1 : ∀ u ∈ news, u.oneCell' = true)
    (h63 : n + m ≤ maxLen) (hbytes : (n + m) * bytes ≤ 140737488355328)
    (v' : Value) (w' : World) (hrun : (Builtin.append_ #[t, t] ty #[v, .slice (some a) m c]).run P w = .ok v' w') : v'.ownBlock = none ∨ v'.ownBlock = v.ownBlock ∨ v'.ownBlock = some w.heap.size := by
  subst hby
  subst hsize
  have hsmall : n + m ≤ 9223372036854775807 := by simp only [maxLen] at h63; omega
  rcases hown.2 with ⟨rfl, rfl⟩ | ⟨g, cap, cur, rfl, hbg, hg, hnc, hcm, hcs, htake⟩
  · by_cases hm : m = 0
    · subst hm
      have hr : (Builtin.append_ #[t, t] ty #[.slice none 0 0, .slice (some a) 0 c]).run P w = .ok (.slice none 0 0) w := by
        simp [Builtin.append_, run_underlying ht, sizeOf, typeInfo, hi, Builtin.lenOf, Builtin.firstCells, loadCells, loadCellsFrom]
      rw [hr] at hrun
      injection hrun with h1 h2
      subst h1
      exact .inl rfl
    · have hr := run_append_nil (P := P) w t ty e i z ht hi hz a m c news hl hnews (by omega) (by omega) (by have hb := hbytes; simp only [Nat.zero_add] at hb; omega)
      rw [hr] at hrun
      injection hrun with h1 h2
      subst h1
      exact .inr (.inr rfl)
  · by_cases hroom : n + m ≤ cap
    · have hfit : n * i.size + news.length ≤ cur.size := by rw [hl, hcs, ← Nat.add_mul]; exact Nat.mul_le_mul_right _ hroom
      have hr := run_append_room (P := P) w t ty e i ht hi g n cap cur hg a m c news hl hnews h1 hroom hfit
      rw [hr] at hrun
      injection hrun with h1 h2
      subst h1
      exact .inr (.inl rfl)
    · have holds : ∀ j u, xs[j]? = some u → w.cell? ((⟨g, 0, none⟩ : Addr).add j) = some u := hown.cells (g := g) rfl
      have hr := run_append_grow (P := P) w t ty e i z ht hi hz ⟨g, 0, none⟩ n cap xs hown.1 holds a m c news hl hnews (by omega) (by omega) (growslice_fits (by omega) hbytes)
      rw [hr] at hrun
      injection hrun with h1 h2
      subst h1
      exact .inr (.inr rfl)
theorem wp_append_ownW {o : Oper} {a : Act} {K : Act → World → Prop} {Q : Exit → Act → World → Prop} (s x : Operand) (t : TypeId)
    (ho : o.op = .call { callee := .builtin .append, args := #[s, x], argTypes := #[t, t] })
    (base : Nat) (e : TypeId) (i : TypeInfo) (z : Value) (size bytes : Nat) (ht : P.underlying t = some (.slice e)) (hi : P.info? e = some i) (hz : i.zero = some z)
    (hsize : i.size = size) (hby : i.bytes = bytes) (hzs : z.cells.size = size) (hsz : 0 < size)
    (v : Value) (n : Nat) (xs : List Value) (hs : a.eval s = v) (hown : w.ownsRow base e size v n xs)
    (ad : Addr) (m c : Nat) (news : List Value) (hx : a.eval x = .slice (some ad) m c) (hl : news.length = m * size) (hnews : ∀ j u, news[j]? = some u → w.cell? (ad.add j) = some u) (h1 : ∀ u ∈ news, u.oneCell' = true)
    (h63 : n + m ≤ maxLen) (hbytes : (n + m) * bytes ≤ 140737488355328) (hbase : base ≤ w.heap.size)
    (h : ∀ v' w', w'.ownsRow base e size v' (n + m) (xs ++ news) → w.grownBy w' v.ownBlock → (v'.ownBlock = none ∨ v'.ownBlock = v.ownBlock ∨ v'.ownBlock = some w.heap.size) → K (a.put o.dst v') w') : o.wp P a w K Q := by
  obtain ⟨v', w', hr, h2, h3, h4⟩ := run_append_own (P := P) w base t o.type e i z size bytes ht hi hz hsize hby hzs hsz v n xs hown ad m c news hl hnews h1 h63 hbytes hbase
  have hw := append_whereS w base t o.type e i z size bytes ht hi hz hsize hby hzs hsz v n xs hown ad m c news hl hnews h1 h63 hbytes v' w' hr
  unfold Oper.wp execOp
  simp only [ho, resolve, invoke, builtin, Sem.run_bind, Sem.run_pure, Result.andThen_ok, List.map_toArray, List.map_cons, List.map_nil, hs, hx, hr]
  exact h v' w' h2 h3 hw
theorem wpList_append_ownW {ops : Array Oper} {rest : List Oper} {o : Oper} {a : Act} {Q : Exit → Act → World → Prop} (hgd : o.guard = none) (s x : Operand) (t : TypeId)
    (ho : o.op = .call { callee := .builtin .append, args := #[s, x], argTypes := #[t, t] })
    (base : Nat) (e : TypeId) (i : TypeInfo) (z : Value) (size bytes : Nat) (ht : P.underlying t = some (.slice e)) (hi : P.info? e = some i) (hz : i.zero = some z)
    (hsize : i.size = size) (hby : i.bytes = bytes) (hzs : z.cells.size = size) (hsz : 0 < size)
    (v : Value) (n : Nat) (xs : List Value) (hs : a.eval s = v) (hown : w.ownsRow base e size v n xs)
    (ad : Addr) (m c : Nat) (news : List Value) (hx : a.eval x = .slice (some ad) m c) (hl : news.length = m * size) (hnews : ∀ j u, news[j]? = some u → w.cell? (ad.add j) = some u) (h1 : ∀ u ∈ news, u.oneCell' = true)
    (h63 : n + m ≤ maxLen) (hbytes : (n + m) * bytes ≤ 140737488355328) (hbase : base ≤ w.heap.size)
    (h : ∀ v' w', w'.ownsRow base e size v' (n + m) (xs ++ news) → w.grownBy w' v.ownBlock → (v'.ownBlock = none ∨ v'.ownBlock = v.ownBlock ∨ v'.ownBlock = some w.heap.size) → wpList P ops Q rest (a.put o.dst v') w') : wpList P ops Q (o :: rest) a w :=
  wpList_plain hgd fun _ hK => wp_append_ownW w s x t ho base e i z size bytes ht hi hz hsize hby hzs hsz v n xs hs hown ad m c news hx hl hnews h1 h63 hbytes hbase fun v' w' h2 h3 h4 => hK _ _ (h v' w' h2 h3 h4)
end
end Go.Proofs.YtbahooohkigcnaaDoor

namespace Go.Proofs.YtbahooohkigcnaaDoor
set_option maxRecDepth 20001
open Go.RowKit T
set_option linter.unusedSimpArgs false
set_option linter.unusedVariables false

set_option maxHeartbeats 6400000 in
theorem lpromise_w (w : World) (B h : Nat) (L : Ld) (k : Int) (a : Ac) (hL : LdAt w h L) (hu : w.ownsRow B 39 16 (.slice L.A L.l.length L.c) L.l.length (acCells L.l)) (hB : B ≤ w.heap.size) (hlen : L.l.length ≤ 100000)
    (hp : L.pr < 18446744073709551616) (hz : ¬ (L.br = 0 ∧ L.bn = 0)) (hF : a.formed = true) (ok : CmOk w w.heap.size a.c) (hT : Tabs w) (h0 : 0 ≤ k) (h1 : k < L.n) (hk : Q.hasB L.pr k = false) :
    Calls Tryd.prog 36 #[.pointer (some ⟨h, 0, none⟩), .int .i64 k, bal L.br L.bn, .agg a.cells.toArray] w fun e w' => e = .returned (.bool true) ∧ ∃ A' c', LdAt w' h { L with pr := Q.addN L.pr k, l := L.l ++ [a], A := A', c := c', fs := max L.fs a.sl } ∧ w'.ownsRow B 39 16 (.slice A' (L.l ++ [a]).length c') (L.l ++ [a]).length (acCells (L.l ++ [a])) ∧ ((Value.slice A' (L.l ++ [a]).length c').ownBlock = (Value.slice L.A L.l.length L.c).ownBlock ∨ ∀ g, (Value.slice A' (L.l ++ [a]).length c').ownBlock = some g → w.heap.size ≤ g) ∧ Fr w w' (fun i => i = h ∨ (Value.slice L.A L.l.length L.c).ownBlock = some i) := by
  obtain ⟨i1, hi1, hz10, hz11, hz12⟩ := info_parts lgInfoAc
  have hlt : h < w.heap.size := (Array.getElem?_eq_some_iff.1 hL).1
  have hPown : ∀ i, (Value.slice L.A L.l.length L.c).ownBlock = some i → (fun i => i = h ∨ (Value.slice L.A L.l.length L.c).ownBlock = some i) i ∨ w.heap.size ≤ i := fun i hi => Or.inl (Or.inr hi)
  have hlow : (Value.slice L.A L.l.length L.c).ownBlock ≠ some (w.heap.size + 1) := fun hb => by have := (hu.lt _ hb).2; omega
  have HQ := Lib.hid (fun z => has_any L.pr k z hp)
  rw [hk] at HQ
  have HA := Lib.hid (fun z => add_any L.pr k z hp)
  have HFO := Lib.hid (fun z (hz : Below w.heap.size w z) => c_formed a z w.heap.size hz.size (ok.below hz (Nat.le_refl _)) (hT.below hz))
  rw [hF] at HFO
  have hI := run_neBal L.br L.bn L.br L.bn
  rw [decide_eq_true (⟨rfl, rfl⟩ : L.br = L.br ∧ L.bn = L.bn)] at hI
  have hJ : ∀ z, (binOp .eql 28 (.agg #[.int .u32 (L.br : Int), .int .i64 L.bn]) (.agg #[.int .u32 0, .int .i64 0])).run Tryd.prog z = .ok (.bool false) z := fun z => by
    have := run_eqBal9 L.br L.bn 0 0 z
    rw [decide_eq_false hz] at this
    exact this
  have e4 : decide (k < 0) = false := decide_eq_false (by omega)
  have e5 : decide (L.n ≤ k) = false := decide_eq_false (by omega)
  clear hk hF ok hT hz h0 h1 hp
  obtain ⟨w0, hw0⟩ : ∃ w0, w0 = (w.alloc (.cells [.int .u32 (L.br : Int), .int .i64 L.bn].toArray 28)).alloc (.cells a.cells.toArray 39) := ⟨_, rfl⟩
  have e0 : Below w.heap.size w w0 := by rw [hw0]; exact ((Below.refl _ _).alloc (Nat.le_refl _) _).alloc (by simp) _
  have ee : Fr w w0 (fun i => i = h ∨ (Value.slice L.A L.l.length L.c).ownBlock = some i) := by rw [hw0]; exact frAlloc (frAlloc (Fr.refl _ _) _) _
  have Zl : w0.heap[h]? = some (.cells L.cells.toArray 144) := by rw [hw0]; exact hpA (hpA hL _) _
  have Zb : w0.heap[w.heap.size]? = some (.cells [.int .u32 (L.br : Int), .int .i64 L.bn].toArray 28) := by rw [hw0]; exact hpA (hpN _ _ rfl) _
  have Za : w0.heap[w.heap.size + 1]? = some (.cells a.cells.toArray 39) := by rw [hw0]; exact hpN _ _ (by simp)
  have hu : w0.ownsRow B 39 16 (.slice L.A L.l.length L.c) L.l.length (acCells L.l) := by rw [hw0]; exact (hu.alloc _).alloc _
  go_enter Tryd.func36, Tryd.ntmps36
  go_upto_region 1 with fail
  change Code.wp _ _ _ _ ((w.alloc (.cells [.int .u32 (L.br : Int), .int .i64 L.bn].toArray 28)).alloc (.cells a.cells.toArray 39))
  rw [← hw0]
  clear hw0 hL
  have e0 := belowDrewS e0
  have Zl : w0.drew.heap[h]? = some (.cells L.cells.toArray 144) := Zl
  have Zb : w0.drew.heap[w.heap.size]? = some (.cells [.int .u32 (L.br : Int), .int .i64 L.bn].toArray 28) := Zb
  have Za : w0.drew.heap[w.heap.size + 1]? = some (.cells a.cells.toArray 39) := Za
  have hu := World.ownsRow.drew hu
  have ee := frDrew ee
  refine wp_region_held_drew (S := fun z' => z'.rangeAt h 0 L.cells ∧ z'.rangeAt h 2 [.int .u32 (L.br : Int), .int .i64 L.bn] ∧ z'.rangeAt w.heap.size 0 [.int .u32 (L.br : Int), .int .i64 L.bn] ∧ z'.rangeAt (w.heap.size + 1) 0 a.cells) (by kernel_rfl) ⟨rowAt Zl, rowMid Zl 2 (Ld.ballot L), rowAt Zb, rowAt Za⟩ (fun hH => ?_)
  clear hH
  generalize w0.drew = z1 at Zl Zb Za hu e0 ee ⊢
  refine wpAnyH_take (i := 0) (v := .pointer (some ⟨h, 0, none⟩)) rfl (by kernel_rfl) (by kernel_rfl) (by kernel_rfl) (fun _ _ _ h => h) (Or.inl ⟨by rfl, fun w_ hS_ => by (first | (go_simp; done) | (go_simp; rfl))⟩) ⟨rowAt Zl, rowMid Zl 2 (Ld.ballot L), rowAt Zb, rowAt Za⟩ ?_
  try simp only [Act.put, List.getElem_toArray, List.getElem_cons_zero, List.getElem_cons_succ, List.setIfInBounds_toArray, List.set_cons_zero, List.set_cons_succ]
  refine wpAnyH_take (i := 1) (v := .bool false) rfl (by kernel_rfl) (by kernel_rfl) (by kernel_rfl) (fun _ _ _ h => h) (Or.inl ⟨by rfl, fun w_ hS_ => by (first | (go_simp; done) | (go_simp; rfl))⟩) ⟨rowAt Zl, rowMid Zl 2 (Ld.ballot L), rowAt Zb, rowAt Za⟩ ?_
  try simp only [Act.put, List.getElem_toArray, List.getElem_cons_zero, List.getElem_cons_succ, List.setIfInBounds_toArray, List.set_cons_zero, List.set_cons_succ]
  refine wpAnyH_take (i := 2) (v := .bool false) rfl (by kernel_rfl) (by kernel_rfl) (by kernel_rfl) (fun _ _ _ h => h) (Or.inl ⟨by rfl, fun w_ hS_ => by (first | (go_simp; done) | (go_simp; rfl))⟩) ⟨rowAt Zl, rowMid Zl 2 (Ld.ballot L), rowAt Zb, rowAt Za⟩ ?_
  try simp only [Act.put, List.getElem_toArray, List.getElem_cons_zero, List.getElem_cons_succ, List.setIfInBounds_toArray, List.set_cons_zero, List.set_cons_succ]
  refine wpAnyH_take (i := 3) (v := .agg ([.int .u32 (L.br : Int), .int .i64 L.bn]).toArray) rfl (by kernel_rfl) (by kernel_rfl) (by kernel_rfl) (fun _ _ _ h => h) (yieldsIf_load_mid (by rfl) 28 _ rfl (w.heap.size) 0 rfl ([.int .u32 (L.br : Int), .int .i64 L.bn]) _ (fun _ h => h.2.2.1) Tryd.underlying28 rfl sizeBal) ⟨rowAt Zl, rowMid Zl 2 (Ld.ballot L), rowAt Zb, rowAt Za⟩ ?_
  try simp only [Act.put, List.getElem_toArray, List.getElem_cons_zero, List.getElem_cons_succ, List.setIfInBounds_toArray, List.set_cons_zero, List.set_cons_succ]
  refine wpAnyH_take (i := 4) (v := .pointer (some ⟨h, 0, none⟩)) rfl (by kernel_rfl) (by kernel_rfl) (by kernel_rfl) (fun _ _ _ h => h) (Or.inl ⟨by rfl, fun w_ hS_ => by (first | (go_simp; done) | (go_simp; rfl))⟩) ⟨rowAt Zl, rowMid Zl 2 (Ld.ballot L), rowAt Zb, rowAt Za⟩ ?_
  try simp only [Act.put, List.getElem_toArray, List.getElem_cons_zero, List.getElem_cons_succ, List.setIfInBounds_toArray, List.set_cons_zero, List.set_cons_succ]
  refine wpAnyH_take (i := 5) (v := .pointer (some ⟨h, 0, none⟩)) rfl (by kernel_rfl) (by kernel_rfl) (by kernel_rfl) (fun _ _ _ h => h) (Or.inl ⟨by rfl, fun w_ hS_ => by (first | (go_simp; done) | (go_simp; rfl))⟩) ⟨rowAt Zl, rowMid Zl 2 (Ld.ballot L), rowAt Zb, rowAt Za⟩ ?_
  try simp only [Act.put, List.getElem_toArray, List.getElem_cons_zero, List.getElem_cons_succ, List.setIfInBounds_toArray, List.set_cons_zero, List.set_cons_succ]
  refine wpAnyH_take (i := 6) (v := .pointer (some ⟨h, 2, none⟩)) rfl (by kernel_rfl) (by kernel_rfl) (by kernel_rfl) (fun _ _ _ h => h) (Or.inl ⟨by rfl, fun w_ hS_ => by (first | (go_simp; done) | (go_simp; rfl))⟩) ⟨rowAt Zl, rowMid Zl 2 (Ld.ballot L), rowAt Zb, rowAt Za⟩ ?_
  try simp only [Act.put, List.getElem_toArray, List.getElem_cons_zero, List.getElem_cons_succ, List.setIfInBounds_toArray, List.set_cons_zero, List.set_cons_succ]
  refine wpAnyH_take (i := 7) (v := .agg ([.int .u32 (L.br : Int), .int .i64 L.bn]).toArray) rfl (by kernel_rfl) (by kernel_rfl) (by kernel_rfl) (fun _ _ _ h => h) (yieldsIf_load_mid (by rfl) 28 _ rfl (h) (2) rfl ([.int .u32 (L.br : Int), .int .i64 L.bn]) _ (fun _ h => h.2.1) Tryd.underlying28 rfl sizeBal) ⟨rowAt Zl, rowMid Zl 2 (Ld.ballot L), rowAt Zb, rowAt Za⟩ ?_
  try simp only [Act.put, List.getElem_toArray, List.getElem_cons_zero, List.getElem_cons_succ, List.setIfInBounds_toArray, List.set_cons_zero, List.set_cons_succ]
  refine wpAnyH_take (i := 8) (v := .bool false) rfl (by kernel_rfl) (by kernel_rfl) (by kernel_rfl) (fun _ _ _ h => h) (Or.inl ⟨by rfl, fun w_ hS_ => by (first | (go_simp; done) | (go_simp; rfl))⟩) ⟨rowAt Zl, rowMid Zl 2 (Ld.ballot L), rowAt Zb, rowAt Za⟩ ?_
  try simp only [Act.put, List.getElem_toArray, List.getElem_cons_zero, List.getElem_cons_succ, List.setIfInBounds_toArray, List.set_cons_zero, List.set_cons_succ]
  refine wpAnyH_take (i := 9) (v := .bool false) rfl (by kernel_rfl) (by kernel_rfl) (by kernel_rfl) (fun _ _ _ h => h) (Or.inl ⟨by rfl, fun w_ hS_ => by (first | (go_simp; done) | (go_simp; rfl))⟩) ⟨rowAt Zl, rowMid Zl 2 (Ld.ballot L), rowAt Zb, rowAt Za⟩ ?_
  try simp only [Act.put, List.getElem_toArray, List.getElem_cons_zero, List.getElem_cons_succ, List.setIfInBounds_toArray, List.set_cons_zero, List.set_cons_succ]
  refine wpAnyH_take (i := 10) (v := .bool false) rfl (by kernel_rfl) (by kernel_rfl) (by kernel_rfl) (fun _ _ _ h => h) (Or.inl ⟨by rfl, fun w_ hS_ => by (first | (go_simp; done) | (go_simp; rfl))⟩) ⟨rowAt Zl, rowMid Zl 2 (Ld.ballot L), rowAt Zb, rowAt Za⟩ ?_
  try simp only [Act.put, List.getElem_toArray, List.getElem_cons_zero, List.getElem_cons_succ, List.setIfInBounds_toArray, List.set_cons_zero, List.set_cons_succ]
  refine wpAnyH_take (i := 11) (v := .agg ([.int .u32 (L.br : Int), .int .i64 L.bn]).toArray) rfl (by kernel_rfl) (by kernel_rfl) (by kernel_rfl) (fun _ _ _ h => h) (yieldsIf_load_mid (by rfl) 28 _ rfl (w.heap.size) 0 rfl ([.int .u32 (L.br : Int), .int .i64 L.bn]) _ (fun _ h => h.2.2.1) Tryd.underlying28 rfl sizeBal) ⟨rowAt Zl, rowMid Zl 2 (Ld.ballot L), rowAt Zb, rowAt Za⟩ ?_
  try simp only [Act.put, List.getElem_toArray, List.getElem_cons_zero, List.getElem_cons_succ, List.setIfInBounds_toArray, List.set_cons_zero, List.set_cons_succ]
  refine wpAnyH_take (i := 12) (v := .agg #[.int .u32 0, .int .i64 0]) rfl (by kernel_rfl) (by kernel_rfl) (by kernel_rfl) (fun _ _ _ h => h) (Or.inl ⟨by rfl, fun w_ hS_ => by (first | (go_simp; done) | (go_simp; rfl))⟩) ⟨rowAt Zl, rowMid Zl 2 (Ld.ballot L), rowAt Zb, rowAt Za⟩ ?_
  try simp only [Act.put, List.getElem_toArray, List.getElem_cons_zero, List.getElem_cons_succ, List.setIfInBounds_toArray, List.set_cons_zero, List.set_cons_succ]
  refine wpAnyH_take (i := 13) (v := .bool false) rfl (by kernel_rfl) (by kernel_rfl) (by kernel_rfl) (fun _ _ _ h => h) (Or.inl ⟨by rfl, fun w_ hS_ => by (first | (go_simp; done) | (go_simp; rfl))⟩) ⟨rowAt Zl, rowMid Zl 2 (Ld.ballot L), rowAt Zb, rowAt Za⟩ ?_
  try simp only [Act.put, List.getElem_toArray, List.getElem_cons_zero, List.getElem_cons_succ, List.setIfInBounds_toArray, List.set_cons_zero, List.set_cons_succ]
  refine wpAnyH_take (i := 14) (v := .bool false) rfl (by kernel_rfl) (by kernel_rfl) (by kernel_rfl) (fun _ _ _ h => h) (Or.inl ⟨by rfl, fun w_ hS_ => by (first | (go_simp; done) | (go_simp; rfl))⟩) ⟨rowAt Zl, rowMid Zl 2 (Ld.ballot L), rowAt Zb, rowAt Za⟩ ?_
  try simp only [Act.put, List.getElem_toArray, List.getElem_cons_zero, List.getElem_cons_succ, List.setIfInBounds_toArray, List.set_cons_zero, List.set_cons_succ]
  refine wpAnyH_take (i := 15) (v := .bool false) rfl (by kernel_rfl) (by kernel_rfl) (by kernel_rfl) (fun _ _ _ h => h) (Or.inl ⟨by rfl, fun w_ hS_ => by (first | (go_simp; done) | (go_simp; rfl))⟩) ⟨rowAt Zl, rowMid Zl 2 (Ld.ballot L), rowAt Zb, rowAt Za⟩ ?_
  try simp only [Act.put, List.getElem_toArray, List.getElem_cons_zero, List.getElem_cons_succ, List.setIfInBounds_toArray, List.set_cons_zero, List.set_cons_succ]
  refine wpAnyH_take (i := 16) (v := .agg (a.cells).toArray) rfl (by kernel_rfl) (by kernel_rfl) (by kernel_rfl) (fun _ _ _ h => h) (yieldsIf_load_mid (by rfl) 39 _ rfl (w.heap.size + 1) 0 rfl (a.cells) _ (fun _ h => h.2.2.2) Tryd.underlying39 rfl sizeAc) ⟨rowAt Zl, rowMid Zl 2 (Ld.ballot L), rowAt Zb, rowAt Za⟩ ?_
  try simp only [Act.put, List.getElem_toArray, List.getElem_cons_zero, List.getElem_cons_succ, List.setIfInBounds_toArray, List.set_cons_zero, List.set_cons_succ]
  refine wpAnyH_ready (rs := [17]) (by kernel_rfl) (by simp) ?_
  refine AllReadyH.cons rfl (fun K hK => ?_) AllReadyH.nil
  rw [if_pos (by rfl)]
  go_simp
  go_wp2_with (go_at_call 20; refine (HFO.out z1 e0).mono ?_; rintro e z2 ⟨rfl, t⟩)
  have Zl := hpB Zl t
  have Zb := hpB Zb t
  have Za := hpB Za t
  have hu := ownBelow hu t
  have ee := frBelow ee t
  have e0 := e0.trans (t.mono e0.size)
  clear t
  refine hK.out _ _ ⟨rowAt Zl, rowMid Zl 2 (Ld.ballot L), rowAt Zb, rowAt Za⟩ (fun hH => ?_)
  clear hK K hH
  try simp only [Act.put, List.getElem_toArray, List.getElem_cons_zero, List.getElem_cons_succ, List.setIfInBounds_toArray, List.set_cons_zero, List.set_cons_succ]
  refine wpAnyH_take (i := 18) (v := .bool false) rfl (by kernel_rfl) (by kernel_rfl) (by kernel_rfl) (fun _ _ _ h => h) (Or.inl ⟨by rfl, fun w_ hS_ => by (first | (go_simp; done) | (go_simp; rfl))⟩) ⟨rowAt Zl, rowMid Zl 2 (Ld.ballot L), rowAt Zb, rowAt Za⟩ ?_
  try simp only [Act.put, List.getElem_toArray, List.getElem_cons_zero, List.getElem_cons_succ, List.setIfInBounds_toArray, List.set_cons_zero, List.set_cons_succ]
  refine wpAnyH_take (i := 19) (v := .bool false) rfl (by kernel_rfl) (by kernel_rfl) (by kernel_rfl) (fun _ _ _ h => h) (Or.inl ⟨by rfl, fun w_ hS_ => by (first | (go_simp; done) | (go_simp; rfl))⟩) ⟨rowAt Zl, rowMid Zl 2 (Ld.ballot L), rowAt Zb, rowAt Za⟩ ?_
  try simp only [Act.put, List.getElem_toArray, List.getElem_cons_zero, List.getElem_cons_succ, List.setIfInBounds_toArray, List.set_cons_zero, List.set_cons_succ]
  refine wpAnyH_take (i := 20) (v := .bool false) rfl (by kernel_rfl) (by kernel_rfl) (by kernel_rfl) (fun _ _ _ h => h) (Or.inl ⟨by rfl, fun w_ hS_ => by (first | (go_simp; done) | (go_simp; rfl))⟩) ⟨rowAt Zl, rowMid Zl 2 (Ld.ballot L), rowAt Zb, rowAt Za⟩ ?_
  try simp only [Act.put, List.getElem_toArray, List.getElem_cons_zero, List.getElem_cons_succ, List.setIfInBounds_toArray, List.set_cons_zero, List.set_cons_succ]
  refine wpAnyH_take (i := 21) (v := .int .i64 k) rfl (by kernel_rfl) (by kernel_rfl) (by kernel_rfl) (fun _ _ _ h => h) (Or.inl ⟨by rfl, fun w_ hS_ => by (first | (go_simp; done) | (go_simp; rfl))⟩) ⟨rowAt Zl, rowMid Zl 2 (Ld.ballot L), rowAt Zb, rowAt Za⟩ ?_
  try simp only [Act.put, List.getElem_toArray, List.getElem_cons_zero, List.getElem_cons_succ, List.setIfInBounds_toArray, List.set_cons_zero, List.set_cons_succ]
  refine wpAnyH_take (i := 22) (v := .bool false) rfl (by kernel_rfl) (by kernel_rfl) (by kernel_rfl) (fun _ _ _ h => h) (Or.inl ⟨by rfl, fun w_ hS_ => by (first | (go_simp; done) | (go_simp; rfl))⟩) ⟨rowAt Zl, rowMid Zl 2 (Ld.ballot L), rowAt Zb, rowAt Za⟩ ?_
  try simp only [Act.put, List.getElem_toArray, List.getElem_cons_zero, List.getElem_cons_succ, List.setIfInBounds_toArray, List.set_cons_zero, List.set_cons_succ]
  refine wpAnyH_take (i := 23) (v := .bool false) rfl (by kernel_rfl) (by kernel_rfl) (by kernel_rfl) (fun _ _ _ h => h) (Or.inl ⟨by rfl, fun w_ hS_ => by (first | (go_simp; done) | (go_simp; rfl))⟩) ⟨rowAt Zl, rowMid Zl 2 (Ld.ballot L), rowAt Zb, rowAt Za⟩ ?_
  try simp only [Act.put, List.getElem_toArray, List.getElem_cons_zero, List.getElem_cons_succ, List.setIfInBounds_toArray, List.set_cons_zero, List.set_cons_succ]
  refine wpAnyH_take (i := 24) (v := .bool false) rfl (by kernel_rfl) (by kernel_rfl) (by kernel_rfl) (fun _ _ _ h => h) (Or.inl ⟨by rfl, fun w_ hS_ => by (first | (go_simp; done) | (go_simp; rfl))⟩) ⟨rowAt Zl, rowMid Zl 2 (Ld.ballot L), rowAt Zb, rowAt Za⟩ ?_
  try simp only [Act.put, List.getElem_toArray, List.getElem_cons_zero, List.getElem_cons_succ, List.setIfInBounds_toArray, List.set_cons_zero, List.set_cons_succ]
  refine wpAnyH_take (i := 25) (v := .int .i64 k) rfl (by kernel_rfl) (by kernel_rfl) (by kernel_rfl) (fun _ _ _ h => h) (Or.inl ⟨by rfl, fun w_ hS_ => by (first | (go_simp; done) | (go_simp; rfl))⟩) ⟨rowAt Zl, rowMid Zl 2 (Ld.ballot L), rowAt Zb, rowAt Za⟩ ?_
  try simp only [Act.put, List.getElem_toArray, List.getElem_cons_zero, List.getElem_cons_succ, List.setIfInBounds_toArray, List.set_cons_zero, List.set_cons_succ]
  refine wpAnyH_take (i := 26) (v := .pointer (some ⟨h, 0, none⟩)) rfl (by kernel_rfl) (by kernel_rfl) (by kernel_rfl) (fun _ _ _ h => h) (Or.inl ⟨by rfl, fun w_ hS_ => by (first | (go_simp; done) | (go_simp; rfl))⟩) ⟨rowAt Zl, rowMid Zl 2 (Ld.ballot L), rowAt Zb, rowAt Za⟩ ?_
  try simp only [Act.put, List.getElem_toArray, List.getElem_cons_zero, List.getElem_cons_succ, List.setIfInBounds_toArray, List.set_cons_zero, List.set_cons_succ]
  refine wpAnyH_take (i := 27) (v := .pointer (some ⟨h, 0, none⟩)) rfl (by kernel_rfl) (by kernel_rfl) (by kernel_rfl) (fun _ _ _ h => h) (Or.inl ⟨by rfl, fun w_ hS_ => by (first | (go_simp; done) | (go_simp; rfl))⟩) ⟨rowAt Zl, rowMid Zl 2 (Ld.ballot L), rowAt Zb, rowAt Za⟩ ?_
  try simp only [Act.put, List.getElem_toArray, List.getElem_cons_zero, List.getElem_cons_succ, List.setIfInBounds_toArray, List.set_cons_zero, List.set_cons_succ]
  refine wpAnyH_take (i := 28) (v := .pointer (some ⟨h, 0, none⟩)) rfl (by kernel_rfl) (by kernel_rfl) (by kernel_rfl) (fun _ _ _ h => h) (Or.inl ⟨by rfl, fun w_ hS_ => by (first | (go_simp; done) | (go_simp; rfl))⟩) ⟨rowAt Zl, rowMid Zl 2 (Ld.ballot L), rowAt Zb, rowAt Za⟩ ?_
  try simp only [Act.put, List.getElem_toArray, List.getElem_cons_zero, List.getElem_cons_succ, List.setIfInBounds_toArray, List.set_cons_zero, List.set_cons_succ]
  refine wpAnyH_take (i := 29) (v := .int .i64 L.n) rfl (by kernel_rfl) (by kernel_rfl) (by kernel_rfl) (fun _ _ _ h => h) (Or.inl ⟨by rfl, fun w_ hS_ => by (have c_ := rangeCell0 hS_.1 0 rfl; go_simp)⟩) ⟨rowAt Zl, rowMid Zl 2 (Ld.ballot L), rowAt Zb, rowAt Za⟩ ?_
  try simp only [Act.put, List.getElem_toArray, List.getElem_cons_zero, List.getElem_cons_succ, List.setIfInBounds_toArray, List.set_cons_zero, List.set_cons_succ]
  refine wpAnyH_take (i := 30) (v := .bool false) rfl (by kernel_rfl) (by kernel_rfl) (by kernel_rfl) (fun _ _ _ h => h) (Or.inl ⟨by rfl, fun w_ hS_ => by (first | (go_simp; done) | (go_simp; rfl))⟩) ⟨rowAt Zl, rowMid Zl 2 (Ld.ballot L), rowAt Zb, rowAt Za⟩ ?_
  try simp only [Act.put, List.getElem_toArray, List.getElem_cons_zero, List.getElem_cons_succ, List.setIfInBounds_toArray, List.set_cons_zero, List.set_cons_succ]
  refine wpAnyH_take (i := 31) (v := .bool false) rfl (by kernel_rfl) (by kernel_rfl) (by kernel_rfl) (fun _ _ _ h => h) (Or.inl ⟨by rfl, fun w_ hS_ => by (first | (go_simp; done) | (go_simp; rfl))⟩) ⟨rowAt Zl, rowMid Zl 2 (Ld.ballot L), rowAt Zb, rowAt Za⟩ ?_
  try simp only [Act.put, List.getElem_toArray, List.getElem_cons_zero, List.getElem_cons_succ, List.setIfInBounds_toArray, List.set_cons_zero, List.set_cons_succ]
  refine wpAnyH_take (i := 32) (v := .bool false) rfl (by kernel_rfl) (by kernel_rfl) (by kernel_rfl) (fun _ _ _ h => h) (Or.inl ⟨by rfl, fun w_ hS_ => by (first | (go_simp; done) | (go_simp; rfl))⟩) ⟨rowAt Zl, rowMid Zl 2 (Ld.ballot L), rowAt Zb, rowAt Za⟩ ?_
  try simp only [Act.put, List.getElem_toArray, List.getElem_cons_zero, List.getElem_cons_succ, List.setIfInBounds_toArray, List.set_cons_zero, List.set_cons_succ]
  refine wpAnyH_take (i := 33) (v := .pointer (some ⟨h, 0, none⟩)) rfl (by kernel_rfl) (by kernel_rfl) (by kernel_rfl) (fun _ _ _ h => h) (Or.inl ⟨by rfl, fun w_ hS_ => by (first | (go_simp; done) | (go_simp; rfl))⟩) ⟨rowAt Zl, rowMid Zl 2 (Ld.ballot L), rowAt Zb, rowAt Za⟩ ?_
  try simp only [Act.put, List.getElem_toArray, List.getElem_cons_zero, List.getElem_cons_succ, List.setIfInBounds_toArray, List.set_cons_zero, List.set_cons_succ]
  refine wpAnyH_take (i := 34) (v := .pointer (some ⟨h, 0, none⟩)) rfl (by kernel_rfl) (by kernel_rfl) (by kernel_rfl) (fun _ _ _ h => h) (Or.inl ⟨by rfl, fun w_ hS_ => by (first | (go_simp; done) | (go_simp; rfl))⟩) ⟨rowAt Zl, rowMid Zl 2 (Ld.ballot L), rowAt Zb, rowAt Za⟩ ?_
  try simp only [Act.put, List.getElem_toArray, List.getElem_cons_zero, List.getElem_cons_succ, List.setIfInBounds_toArray, List.set_cons_zero, List.set_cons_succ]
  refine wpAnyH_take (i := 35) (v := .pointer (some ⟨h, 4, none⟩)) rfl (by kernel_rfl) (by kernel_rfl) (by kernel_rfl) (fun _ _ _ h => h) (Or.inl ⟨by rfl, fun w_ hS_ => by (first | (go_simp; done) | (go_simp; rfl))⟩) ⟨rowAt Zl, rowMid Zl 2 (Ld.ballot L), rowAt Zb, rowAt Za⟩ ?_
  try simp only [Act.put, List.getElem_toArray, List.getElem_cons_zero, List.getElem_cons_succ, List.setIfInBounds_toArray, List.set_cons_zero, List.set_cons_succ]
  refine wpAnyH_take (i := 36) (v := .int .u64 (L.pr : Int)) rfl (by kernel_rfl) (by kernel_rfl) (by kernel_rfl) (fun _ _ _ h => h) (Or.inl ⟨by rfl, fun w_ hS_ => by (have c_ := rangeCell0 hS_.1 4 rfl; go_simp)⟩) ⟨rowAt Zl, rowMid Zl 2 (Ld.ballot L), rowAt Zb, rowAt Za⟩ ?_
  try simp only [Act.put, List.getElem_toArray, List.getElem_cons_zero, List.getElem_cons_succ, List.setIfInBounds_toArray, List.set_cons_zero, List.set_cons_succ]
  refine wpAnyH_take (i := 37) (v := .int .i64 k) rfl (by kernel_rfl) (by kernel_rfl) (by kernel_rfl) (fun _ _ _ h => h) (Or.inl ⟨by rfl, fun w_ hS_ => by (first | (go_simp; done) | (go_simp; rfl))⟩) ⟨rowAt Zl, rowMid Zl 2 (Ld.ballot L), rowAt Zb, rowAt Za⟩ ?_
  try simp only [Act.put, List.getElem_toArray, List.getElem_cons_zero, List.getElem_cons_succ, List.setIfInBounds_toArray, List.set_cons_zero, List.set_cons_succ]
  refine wpAnyH_ready (rs := [38]) (by kernel_rfl) (by simp) ?_
  refine AllReadyH.cons rfl (fun K hK => ?_) AllReadyH.nil
  rw [if_pos (by rfl)]
  go_simp
  go_wp2_with (go_at_call 80; refine (HQ.out z2).mono ?_; rintro e z3 ⟨rfl, hw_⟩; rw [← hw_]; clear hw_ z3)
  refine hK.out _ _ ⟨rowAt Zl, rowMid Zl 2 (Ld.ballot L), rowAt Zb, rowAt Za⟩ (fun hH => ?_)
  clear hK K hH
  try simp only [Act.put, List.getElem_toArray, List.getElem_cons_zero, List.getElem_cons_succ, List.setIfInBounds_toArray, List.set_cons_zero, List.set_cons_succ]
  refine wpAnyH_take (i := 39) (v := .bool false) rfl (by kernel_rfl) (by kernel_rfl) (by kernel_rfl) (fun _ _ _ h => h) (Or.inl ⟨by rfl, fun w_ hS_ => by (first | (go_simp; done) | (go_simp; rfl))⟩) ⟨rowAt Zl, rowMid Zl 2 (Ld.ballot L), rowAt Zb, rowAt Za⟩ ?_
  try simp only [Act.put, List.getElem_toArray, List.getElem_cons_zero, List.getElem_cons_succ, List.setIfInBounds_toArray, List.set_cons_zero, List.set_cons_succ]
  refine wpAnyH_done (by kernel_rfl) ?_ _
  clear e0 HQ HFO hI hJ e4 e5
  go_upto_region 3 with fail
  refine wp_region_lit ?_
  have c4 := rowCell Zl 4 rfl
  go_wp2_with fail
  refine (HA.out z2).mono ?_
  rintro e z4 ⟨rfl, hw_⟩
  rw [← hw_]
  clear hw_ z4 HA c4
  dsimp only
  rename_i hK
  refine hK _ _ ?_
  clear hK
  iterate 40 (first | with_reducible refine isStore (ty := 35) rfl ?_ | go_step)
  have f_ : z2.frozen? ⟨h, 4, none⟩ = false := freeAt Zl 4
  have c_ := rowCell Zl 4 rfl
  iterate 3 go_step
  clear f_ c_
  have hu := lgOwnC hu (lgKind hu Zl (by decide)) ([.int .u64 (Q.addN L.pr k : Int)]) 4
  have N_ : (z2.setCells (h) 4 ([.int .u64 (Q.addN L.pr k : Int)])).heap[h]? = some (.cells ([.int .i64 L.n, .int .i64 L.nd, .int .u32 (L.br : Int), .int .i64 L.bn, .int .u64 (Q.addN L.pr k : Int), .slice L.A L.l.length L.c, .int .i64 L.fs, .int .i64 L.sl, .int .i64 L.x.k, .int .i64 L.x.s, .int .i64 L.x.q, .slice L.x.A1 L.x.rs.length L.x.c1, .slice L.x.A2 L.x.ws.length L.x.c2, .int .i64 L.x.i, .int .i64 L.x.j, .int .i64 L.x.g, .int .u64 (L.x.st : Int), .bool L.x.y, .int .u64 (L.vt : Int)]).toArray 144) := hpC ([.int .u64 (Q.addN L.pr k : Int)]) 4 _ z2 Zl
  have ee := frCells (k := h) (by first | (right; omega) | (left; left; rfl)) ([.int .u64 (Q.addN L.pr k : Int)]) 4 z2 ee
  have Zb := hpCo (g' := h) (by omega) ([.int .u64 (Q.addN L.pr k : Int)]) 4 z2 Zb
  have Za := hpCo (g' := h) (by omega) ([.int .u64 (Q.addN L.pr k : Int)]) 4 z2 Za
  clear Zl
  have Zl := N_
  clear N_
  change wpList _ _ _ _ _ (z2.setCells (h) 4 ([.int .u64 (Q.addN L.pr k : Int)]))
  generalize z2.setCells (h) 4 ([.int .u64 (Q.addN L.pr k : Int)]) = z5 at Zl Zb Za hu ee ⊢
  generalize hvt : Q.addN L.pr k = pr2 at Zl ⊢
  go_upto_region 4 with fail
  have Zl : z5.drew.heap[h]? = some (.cells ([.int .i64 L.n, .int .i64 L.nd, .int .u32 (L.br : Int), .int .i64 L.bn, .int .u64 (pr2 : Int), .slice L.A L.l.length L.c, .int .i64 L.fs, .int .i64 L.sl, .int .i64 L.x.k, .int .i64 L.x.s, .int .i64 L.x.q, .slice L.x.A1 L.x.rs.length L.x.c1, .slice L.x.A2 L.x.ws.length L.x.c2, .int .i64 L.x.i, .int .i64 L.x.j, .int .i64 L.x.g, .int .u64 (L.x.st : Int), .bool L.x.y, .int .u64 (L.vt : Int)]).toArray 144) := Zl
  have Zb : z5.drew.heap[w.heap.size]? = some (.cells [.int .u32 (L.br : Int), .int .i64 L.bn].toArray 28) := Zb
  have Za : z5.drew.heap[w.heap.size + 1]? = some (.cells a.cells.toArray 39) := Za
  have hu := World.ownsRow.drew hu
  have ee := frDrew ee
  refine wp_region_held_drew (S := fun z' => z'.rangeAt (w.heap.size + 1) 0 a.cells) (by kernel_rfl) (rowAt Za) (fun hH => ?_)
  clear hH
  generalize z5.drew = z6 at Zl Zb Za hu ee ⊢
  refine wpAnyH_take (i := 0) (v := .pointer (some ⟨h, 0, none⟩)) rfl (by kernel_rfl) (by kernel_rfl) (by kernel_rfl) (fun _ _ _ h => h) (Or.inl ⟨by rfl, fun w_ hS_ => by (first | (go_simp; done) | (go_simp; rfl))⟩) (rowAt Za) ?_
  try simp only [Act.put, List.getElem_toArray, List.getElem_cons_zero, List.getElem_cons_succ, List.setIfInBounds_toArray, List.set_cons_zero, List.set_cons_succ]
  refine wpAnyH_take (i := 1) (v := .pointer (some ⟨h, 0, none⟩)) rfl (by kernel_rfl) (by kernel_rfl) (by kernel_rfl) (fun _ _ _ h => h) (Or.inl ⟨by rfl, fun w_ hS_ => by (first | (go_simp; done) | (go_simp; rfl))⟩) (rowAt Za) ?_
  try simp only [Act.put, List.getElem_toArray, List.getElem_cons_zero, List.getElem_cons_succ, List.setIfInBounds_toArray, List.set_cons_zero, List.set_cons_succ]
  refine wpAnyH_take (i := 2) (v := .pointer (some ⟨h, 0, none⟩)) rfl (by kernel_rfl) (by kernel_rfl) (by kernel_rfl) (fun _ _ _ h => h) (Or.inl ⟨by rfl, fun w_ hS_ => by (first | (go_simp; done) | (go_simp; rfl))⟩) (rowAt Za) ?_
  try simp only [Act.put, List.getElem_toArray, List.getElem_cons_zero, List.getElem_cons_succ, List.setIfInBounds_toArray, List.set_cons_zero, List.set_cons_succ]
  refine wpAnyH_take (i := 3) (v := .pointer (some ⟨h, 5, none⟩)) rfl (by kernel_rfl) (by kernel_rfl) (by kernel_rfl) (fun _ _ _ h => h) (Or.inl ⟨by rfl, fun w_ hS_ => by (first | (go_simp; done) | (go_simp; rfl))⟩) (rowAt Za) ?_
  try simp only [Act.put, List.getElem_toArray, List.getElem_cons_zero, List.getElem_cons_succ, List.setIfInBounds_toArray, List.set_cons_zero, List.set_cons_succ]
  refine wpAnyH_take (i := 5) (v := .agg (a.cells).toArray) rfl (by kernel_rfl) (by kernel_rfl) (by kernel_rfl) (fun _ _ _ h => h) (yieldsIf_load_mid (by rfl) 39 _ rfl (w.heap.size + 1) 0 rfl (a.cells) _ (fun _ h => h) Tryd.underlying39 rfl sizeAc) (rowAt Za) ?_
  try simp only [Act.put, List.getElem_toArray, List.getElem_cons_zero, List.getElem_cons_succ, List.setIfInBounds_toArray, List.set_cons_zero, List.set_cons_succ]
  refine wpAnyH_ready (rs := [4, 6]) (by kernel_rfl) (by simp) ?_
  refine AllReadyH.cons rfl (fun K hK => ?_) (AllReadyH.cons rfl (fun K hK => ?_) AllReadyH.nil)
  · rw [if_pos (by rfl)]
    have c_ := rowCell Zl 5 (v := .slice L.A L.l.length L.c) rfl
    go_simp
    clear c_
    refine hK.out _ _ (rowAt Za) (fun hH => ?_)
    clear hK K hH
    try simp only [Act.put, List.getElem_toArray, List.getElem_cons_zero, List.getElem_cons_succ, List.setIfInBounds_toArray, List.set_cons_zero, List.set_cons_succ]
    refine wpAnyH_ready (rs := [6]) (by kernel_rfl) (by simp) ?_
    refine AllReadyH.cons rfl (fun K hK => ?_) AllReadyH.nil
    rw [if_pos (by rfl)]
    refine wp_buildSlice 22 39 1 #[(0, .tmp 63)] rfl a.cells.toArray i1 (.agg #[.int .u32 0, .int .i64 0, .int .i64 0, .bool false, .int .u32 0, .int .i64 0, .int .i64 0, .int .i64 0, .int .i64 0, .slice none 0 0, .slice none 0 0, .int .i64 0, .int .i64 0, .int .i64 0, .int .u64 0, .bool false]) Tryd.underlying22 hi1 hz10 (by rw [hz11]; decide) (by rw [hz11]; decide) (by rw [hz11]; simp only [List.map_toArray, List.map_cons, List.map_nil]; exact lgFill16 _ _ (by simp)) ?_
    have lZl := (Array.getElem?_eq_some_iff.1 Zl).1
    have lZb := (Array.getElem?_eq_some_iff.1 Zb).1
    have lZa := (Array.getElem?_eq_some_iff.1 Za).1
    have Zl := hpA Zl (.cells a.cells.toArray 39)
    have Zb := hpA Zb (.cells a.cells.toArray 39)
    have Za := hpA Za (.cells a.cells.toArray 39)
    have hu := hu.alloc (.cells a.cells.toArray 39)
    have sz6 := ee.1.size
    have ee := frAlloc ee (.cells a.cells.toArray 39)
    have Zn := hpN z6 (.cells a.cells.toArray 39) rfl
    generalize z6.alloc (.cells a.cells.toArray 39) = z7 at Zl Zb Za Zn hu ee ⊢
    refine hK.out _ _ (rowAt Za) (fun hH => ?_)
    clear hK K hH
    try simp only [Act.put, List.getElem_toArray, List.getElem_cons_zero, List.getElem_cons_succ, List.setIfInBounds_toArray, List.set_cons_zero, List.set_cons_succ]
    refine wpAnyH_ready (rs := [7]) (by kernel_rfl) (by simp) ?_
    refine AllReadyH.cons rfl (fun K hK => ?_) AllReadyH.nil
    rw [if_pos (by rfl)]
    refine wp_append_ownW _ (.tmp 62) (.tmp 64) 22 rfl B 39 i1 (.agg #[.int .u32 0, .int .i64 0, .int .i64 0, .bool false, .int .u32 0, .int .i64 0, .int .i64 0, .int .i64 0, .int .i64 0, .slice none 0 0, .slice none 0 0, .int .i64 0, .int .i64 0, .int .i64 0, .int .u64 0, .bool false]) 16 160 Tryd.underlying22 hi1 hz10 hz11 hz12 rfl (by decide) _ _ _ rfl hu ⟨z6.heap.size, 0, none⟩ 1 1 a.cells rfl rfl (lgRowAdd Zn) (by intro u hu_; exact (Array.all_eq_true_iff_forall_mem.1 (Ac.one a)) u (by simpa using hu_)) (by unfold maxLen; omega) (by omega) (Nat.le_trans hB ee.1.size) ?_
    intro u_ z8 ho_ hg_ hw_
    have hw_ : u_.ownBlock = (Value.slice L.A L.l.length L.c).ownBlock ∨ ∀ g, u_.ownBlock = some g → w.heap.size ≤ g := by
      rcases hw_ with h_ | h_ | h_
      · exact .inr (fun g e_ => by rw [h_] at e_; cases e_)
      · exact .inl h_
      · exact .inr (fun g e_ => by rw [h_] at e_; injection e_ with e_; have := ee.1.size; omega)
    clear Zn
    have Zl := lgHeap Zl hu (by decide) hg_
    have Zb := lgHeap Zb hu (by decide) hg_
    have Za := lgHeapB Za hlow hg_
    have ee := frOwnE ee hu hg_ (by first | omega | exact hPown)
    clear hg_ hu
    obtain ⟨A9, c9, hu9, _, _, _⟩ := ownShape ho_
    subst hu9
    have hu := ho_
    clear ho_
    refine hK.out _ _ (rowAt Za) (fun hH => ?_)
    clear hK K hH
    try simp only [Act.put, List.getElem_toArray, List.getElem_cons_zero, List.getElem_cons_succ, List.setIfInBounds_toArray, List.set_cons_zero, List.set_cons_succ]
    refine wpAnyH_take (i := 8) (v := .pointer (some ⟨h, 0, none⟩)) rfl (by kernel_rfl) (by kernel_rfl) (by kernel_rfl) (fun _ _ _ h => h) (Or.inl ⟨by rfl, fun w_ hS_ => by (first | (go_simp; done) | (go_simp; rfl))⟩) (rowAt Za) ?_
    try simp only [Act.put, List.getElem_toArray, List.getElem_cons_zero, List.getElem_cons_succ, List.setIfInBounds_toArray, List.set_cons_zero, List.set_cons_succ]
    refine wpAnyH_take (i := 9) (v := .pointer (some ⟨h, 5, none⟩)) rfl (by kernel_rfl) (by kernel_rfl) (by kernel_rfl) (fun _ _ _ h => h) (Or.inl ⟨by rfl, fun w_ hS_ => by (first | (go_simp; done) | (go_simp; rfl))⟩) (rowAt Za) ?_
    try simp only [Act.put, List.getElem_toArray, List.getElem_cons_zero, List.getElem_cons_succ, List.setIfInBounds_toArray, List.set_cons_zero, List.set_cons_succ]
    refine wpAnyH_ready (rs := [10]) (by kernel_rfl) (by simp) ?_
    refine AllReadyH.cons rfl (fun K hK => ?_) AllReadyH.nil
    rw [if_pos (by rfl)]
    have f_ : z8.frozen? ⟨h, 5, none⟩ = false := freeAt Zl 5
    have c_ := rowCell Zl 5 rfl
    go_simp
    clear f_ c_
    have hu := lgOwnC hu (lgKind hu Zl (by decide)) ([.slice A9 (L.l.length + 1) c9]) 5
    have N_ : (z8.setCells (h) 5 ([.slice A9 (L.l.length + 1) c9])).heap[h]? = some (.cells ([.int .i64 L.n, .int .i64 L.nd, .int .u32 (L.br : Int), .int .i64 L.bn, .int .u64 (pr2 : Int), .slice A9 (L.l.length + 1) c9, .int .i64 L.fs, .int .i64 L.sl, .int .i64 L.x.k, .int .i64 L.x.s, .int .i64 L.x.q, .slice L.x.A1 L.x.rs.length L.x.c1, .slice L.x.A2 L.x.ws.length L.x.c2, .int .i64 L.x.i, .int .i64 L.x.j, .int .i64 L.x.g, .int .u64 (L.x.st : Int), .bool L.x.y, .int .u64 (L.vt : Int)]).toArray 144) := hpC ([.slice A9 (L.l.length + 1) c9]) 5 _ z8 Zl
    have ee := frCells (k := h) (by first | (right; omega) | (left; left; rfl)) ([.slice A9 (L.l.length + 1) c9]) 5 z8 ee
    have Zb := hpCo (g' := h) (by omega) ([.slice A9 (L.l.length + 1) c9]) 5 z8 Zb
    have Za := hpCo (g' := h) (by omega) ([.slice A9 (L.l.length + 1) c9]) 5 z8 Za
    clear Zl
    have Zl := N_
    clear N_
    change K _ (z8.setCells (h) 5 [.slice A9 (L.l.length + 1) c9])
    generalize z8.setCells (h) 5 [.slice A9 (L.l.length + 1) c9] = z9 at Zl Zb Za hu ee ⊢
    refine hK.out _ _ (rowAt Za) (fun hH => ?_)
    clear hK K hH
    try simp only [Act.put, List.getElem_toArray, List.getElem_cons_zero, List.getElem_cons_succ, List.setIfInBounds_toArray, List.set_cons_zero, List.set_cons_succ]
    refine wpAnyH_done (by kernel_rfl) ?_ _
    clear hi1 hz10 hz11 hz12 hlow hPown
    go_upto_region 5 with fail
    have c6 := rowCell Zl 6 rfl
    have a2 := rowCell Za 2 (v := .int .i64 a.sl) rfl
    go_still_tail 10, (by kernel_rfl)
    have Zl : z9.drew.heap[h]? = some (.cells ([.int .i64 L.n, .int .i64 L.nd, .int .u32 (L.br : Int), .int .i64 L.bn, .int .u64 (pr2 : Int), .slice A9 (L.l.length + 1) c9, .int .i64 L.fs, .int .i64 L.sl, .int .i64 L.x.k, .int .i64 L.x.s, .int .i64 L.x.q, .slice L.x.A1 L.x.rs.length L.x.c1, .slice L.x.A2 L.x.ws.length L.x.c2, .int .i64 L.x.i, .int .i64 L.x.j, .int .i64 L.x.g, .int .u64 (L.x.st : Int), .bool L.x.y, .int .u64 (L.vt : Int)]).toArray 144) := Zl
    have Zb : z9.drew.heap[w.heap.size]? = some (.cells [.int .u32 (L.br : Int), .int .i64 L.bn].toArray 28) := Zb
    have Za : z9.drew.heap[w.heap.size + 1]? = some (.cells a.cells.toArray 39) := Za
    have hu := World.ownsRow.drew hu
    have ee := frDrew ee
    change wpList _ _ _ _ _ z9.drew
    generalize z9.drew = z10 at Zl Zb Za hu ee ⊢
    clear c6 a2
    iterate 40 (first | with_reducible refine isStore (ty := 3) rfl ?_ | go_step)
    have f_ : z10.frozen? ⟨h, 6, none⟩ = false := freeAt Zl 6
    have c_ := rowCell Zl 6 rfl
    iterate 3 go_step
    clear f_ c_
    have hu := lgOwnC hu (lgKind hu Zl (by decide)) ([.int .i64 (max L.fs a.sl)]) 6
    have N_ : (z10.setCells (h) 6 ([.int .i64 (max L.fs a.sl)])).heap[h]? = some (.cells ([.int .i64 L.n, .int .i64 L.nd, .int .u32 (L.br : Int), .int .i64 L.bn, .int .u64 (pr2 : Int), .slice A9 (L.l.length + 1) c9, .int .i64 (max L.fs a.sl), .int .i64 L.sl, .int .i64 L.x.k, .int .i64 L.x.s, .int .i64 L.x.q, .slice L.x.A1 L.x.rs.length L.x.c1, .slice L.x.A2 L.x.ws.length L.x.c2, .int .i64 L.x.i, .int .i64 L.x.j, .int .i64 L.x.g, .int .u64 (L.x.st : Int), .bool L.x.y, .int .u64 (L.vt : Int)]).toArray 144) := hpC ([.int .i64 (max L.fs a.sl)]) 6 _ z10 Zl
    have ee := frCells (k := h) (by first | (right; omega) | (left; left; rfl)) ([.int .i64 (max L.fs a.sl)]) 6 z10 ee
    have Zb := hpCo (g' := h) (by omega) ([.int .i64 (max L.fs a.sl)]) 6 z10 Zb
    have Za := hpCo (g' := h) (by omega) ([.int .i64 (max L.fs a.sl)]) 6 z10 Za
    clear Zl
    have Zl := N_
    clear N_
    change wpList _ _ _ _ _ (z10.setCells (h) 6 ([.int .i64 (max L.fs a.sl)]))
    generalize z10.setCells (h) 6 ([.int .i64 (max L.fs a.sl)]) = z11 at Zl Zb Za hu ee ⊢
    go_wp2_with fail
    go_ret
    have hlen2 : (L.l ++ [a]).length = L.l.length + 1 := by simp
    refine ⟨rfl, A9, c9, ?_, by rw [hlen2, acCells_snoc]; exact hu, by rw [hlen2]; exact hw_, ee⟩
    rw [hvt]
    unfold LdAt T.Ld.cells
    simp only [hlen2]
    exact Zl
  · rw [if_pos (by rfl)]
    refine wp_buildSlice 22 39 1 #[(0, .tmp 63)] rfl a.cells.toArray i1 (.agg #[.int .u32 0, .int .i64 0, .int .i64 0, .bool false, .int .u32 0, .int .i64 0, .int .i64 0, .int .i64 0, .int .i64 0, .slice none 0 0, .slice none 0 0, .int .i64 0, .int .i64 0, .int .i64 0, .int .u64 0, .bool false]) Tryd.underlying22 hi1 hz10 (by rw [hz11]; decide) (by rw [hz11]; decide) (by rw [hz11]; simp only [List.map_toArray, List.map_cons, List.map_nil]; exact lgFill16 _ _ (by simp)) ?_
    have lZl := (Array.getElem?_eq_some_iff.1 Zl).1
    have lZb := (Array.getElem?_eq_some_iff.1 Zb).1
    have lZa := (Array.getElem?_eq_some_iff.1 Za).1
    have Zl := hpA Zl (.cells a.cells.toArray 39)
    have Zb := hpA Zb (.cells a.cells.toArray 39)
    have Za := hpA Za (.cells a.cells.toArray 39)
    have hu := hu.alloc (.cells a.cells.toArray 39)
    have sz6 := ee.1.size
    have ee := frAlloc ee (.cells a.cells.toArray 39)
    have Zn := hpN z6 (.cells a.cells.toArray 39) rfl
    generalize z6.alloc (.cells a.cells.toArray 39) = z7 at Zl Zb Za Zn hu ee ⊢
    refine hK.out _ _ (rowAt Za) (fun hH => ?_)
    clear hK K hH
    try simp only [Act.put, List.getElem_toArray, List.getElem_cons_zero, List.getElem_cons_succ, List.setIfInBounds_toArray, List.set_cons_zero, List.set_cons_succ]
    refine wpAnyH_ready (rs := [4]) (by kernel_rfl) (by simp) ?_
    refine AllReadyH.cons rfl (fun K hK => ?_) AllReadyH.nil
    rw [if_pos (by rfl)]
    have c_ := rowCell Zl 5 (v := .slice L.A L.l.length L.c) rfl
    go_simp
    clear c_
    refine hK.out _ _ (rowAt Za) (fun hH => ?_)
    clear hK K hH
    try simp only [Act.put, List.getElem_toArray, List.getElem_cons_zero, List.getElem_cons_succ, List.setIfInBounds_toArray, List.set_cons_zero, List.set_cons_succ]
    refine wpAnyH_ready (rs := [7]) (by kernel_rfl) (by simp) ?_
    refine AllReadyH.cons rfl (fun K hK => ?_) AllReadyH.nil
    rw [if_pos (by rfl)]
    refine wp_append_ownW _ (.tmp 62) (.tmp 64) 22 rfl B 39 i1 (.agg #[.int .u32 0, .int .i64 0, .int .i64 0, .bool false, .int .u32 0, .int .i64 0, .int .i64 0, .int .i64 0, .int .i64 0, .slice none 0 0, .slice none 0 0, .int .i64 0, .int .i64 0, .int .i64 0, .int .u64 0, .bool false]) 16 160 Tryd.underlying22 hi1 hz10 hz11 hz12 rfl (by decide) _ _ _ rfl hu ⟨z6.heap.size, 0, none⟩ 1 1 a.cells rfl rfl (lgRowAdd Zn) (by intro u hu_; exact (Array.all_eq_true_iff_forall_mem.1 (Ac.one a)) u (by simpa using hu_)) (by unfold maxLen; omega) (by omega) (Nat.le_trans hB ee.1.size) ?_
    intro u_ z8 ho_ hg_ hw_
    have hw_ : u_.ownBlock = (Value.slice L.A L.l.length L.c).ownBlock ∨ ∀ g, u_.ownBlock = some g → w.heap.size ≤ g := by
      rcases hw_ with h_ | h_ | h_
      · exact .inr (fun g e_ => by rw [h_] at e_; cases e_)
      · exact .inl h_
      · exact .inr (fun g e_ => by rw [h_] at e_; injection e_ with e_; have := ee.1.size; omega)
    clear Zn
    have Zl := lgHeap Zl hu (by decide) hg_
    have Zb := lgHeap Zb hu (by decide) hg_
    have Za := lgHeapB Za hlow hg_
    have ee := frOwnE ee hu hg_ (by first | omega | exact hPown)
    clear hg_ hu
    obtain ⟨A9, c9, hu9, _, _, _⟩ := ownShape ho_
    subst hu9
    have hu := ho_
    clear ho_
    refine hK.out _ _ (rowAt Za) (fun hH => ?_)
    clear hK K hH
    try simp only [Act.put, List.getElem_toArray, List.getElem_cons_zero, List.getElem_cons_succ, List.setIfInBounds_toArray, List.set_cons_zero, List.set_cons_succ]
    refine wpAnyH_take (i := 8) (v := .pointer (some ⟨h, 0, none⟩)) rfl (by kernel_rfl) (by kernel_rfl) (by kernel_rfl) (fun _ _ _ h => h) (Or.inl ⟨by rfl, fun w_ hS_ => by (first | (go_simp; done) | (go_simp; rfl))⟩) (rowAt Za) ?_
    try simp only [Act.put, List.getElem_toArray, List.getElem_cons_zero, List.getElem_cons_succ, List.setIfInBounds_toArray, List.set_cons_zero, List.set_cons_succ]
    refine wpAnyH_take (i := 9) (v := .pointer (some ⟨h, 5, none⟩)) rfl (by kernel_rfl) (by kernel_rfl) (by kernel_rfl) (fun _ _ _ h => h) (Or.inl ⟨by rfl, fun w_ hS_ => by (first | (go_simp; done) | (go_simp; rfl))⟩) (rowAt Za) ?_
    try simp only [Act.put, List.getElem_toArray, List.getElem_cons_zero, List.getElem_cons_succ, List.setIfInBounds_toArray, List.set_cons_zero, List.set_cons_succ]
    refine wpAnyH_ready (rs := [10]) (by kernel_rfl) (by simp) ?_
    refine AllReadyH.cons rfl (fun K hK => ?_) AllReadyH.nil
    rw [if_pos (by rfl)]
    have f_ : z8.frozen? ⟨h, 5, none⟩ = false := freeAt Zl 5
    have c_ := rowCell Zl 5 rfl
    go_simp
    clear f_ c_
    have hu := lgOwnC hu (lgKind hu Zl (by decide)) ([.slice A9 (L.l.length + 1) c9]) 5
    have N_ : (z8.setCells (h) 5 ([.slice A9 (L.l.length + 1) c9])).heap[h]? = some (.cells ([.int .i64 L.n, .int .i64 L.nd, .int .u32 (L.br : Int), .int .i64 L.bn, .int .u64 (pr2 : Int), .slice A9 (L.l.length + 1) c9, .int .i64 L.fs, .int .i64 L.sl, .int .i64 L.x.k, .int .i64 L.x.s, .int .i64 L.x.q, .slice L.x.A1 L.x.rs.length L.x.c1, .slice L.x.A2 L.x.ws.length L.x.c2, .int .i64 L.x.i, .int .i64 L.x.j, .int .i64 L.x.g, .int .u64 (L.x.st : Int), .bool L.x.y, .int .u64 (L.vt : Int)]).toArray 144) := hpC ([.slice A9 (L.l.length + 1) c9]) 5 _ z8 Zl
    have ee := frCells (k := h) (by first | (right; omega) | (left; left; rfl)) ([.slice A9 (L.l.length + 1) c9]) 5 z8 ee
    have Zb := hpCo (g' := h) (by omega) ([.slice A9 (L.l.length + 1) c9]) 5 z8 Zb
    have Za := hpCo (g' := h) (by omega) ([.slice A9 (L.l.length + 1) c9]) 5 z8 Za
    clear Zl
    have Zl := N_
    clear N_
    change K _ (z8.setCells (h) 5 [.slice A9 (L.l.length + 1) c9])
    generalize z8.setCells (h) 5 [.slice A9 (L.l.length + 1) c9] = z9 at Zl Zb Za hu ee ⊢
    refine hK.out _ _ (rowAt Za) (fun hH => ?_)
    clear hK K hH
    try simp only [Act.put, List.getElem_toArray, List.getElem_cons_zero, List.getElem_cons_succ, List.setIfInBounds_toArray, List.set_cons_zero, List.set_cons_succ]
    refine wpAnyH_done (by kernel_rfl) ?_ _
    clear hi1 hz10 hz11 hz12 hlow hPown
    go_upto_region 5 with fail
    have c6 := rowCell Zl 6 rfl
    have a2 := rowCell Za 2 (v := .int .i64 a.sl) rfl
    go_still_tail 10, (by kernel_rfl)
    have Zl : z9.drew.heap[h]? = some (.cells ([.int .i64 L.n, .int .i64 L.nd, .int .u32 (L.br : Int), .int .i64 L.bn, .int .u64 (pr2 : Int), .slice A9 (L.l.length + 1) c9, .int .i64 L.fs, .int .i64 L.sl, .int .i64 L.x.k, .int .i64 L.x.s, .int .i64 L.x.q, .slice L.x.A1 L.x.rs.length L.x.c1, .slice L.x.A2 L.x.ws.length L.x.c2, .int .i64 L.x.i, .int .i64 L.x.j, .int .i64 L.x.g, .int .u64 (L.x.st : Int), .bool L.x.y, .int .u64 (L.vt : Int)]).toArray 144) := Zl
    have Zb : z9.drew.heap[w.heap.size]? = some (.cells [.int .u32 (L.br : Int), .int .i64 L.bn].toArray 28) := Zb
    have Za : z9.drew.heap[w.heap.size + 1]? = some (.cells a.cells.toArray 39) := Za
    have hu := World.ownsRow.drew hu
    have ee := frDrew ee
    change wpList _ _ _ _ _ z9.drew
    generalize z9.drew = z10 at Zl Zb Za hu ee ⊢
    clear c6 a2
    iterate 40 (first | with_reducible refine isStore (ty := 3) rfl ?_ | go_step)
    have f_ : z10.frozen? ⟨h, 6, none⟩ = false := freeAt Zl 6
    have c_ := rowCell Zl 6 rfl
    iterate 3 go_step
    clear f_ c_
    have hu := lgOwnC hu (lgKind hu Zl (by decide)) ([.int .i64 (max L.fs a.sl)]) 6
    have N_ : (z10.setCells (h) 6 ([.int .i64 (max L.fs a.sl)])).heap[h]? = some (.cells ([.int .i64 L.n, .int .i64 L.nd, .int .u32 (L.br : Int), .int .i64 L.bn, .int .u64 (pr2 : Int), .slice A9 (L.l.length + 1) c9, .int .i64 (max L.fs a.sl), .int .i64 L.sl, .int .i64 L.x.k, .int .i64 L.x.s, .int .i64 L.x.q, .slice L.x.A1 L.x.rs.length L.x.c1, .slice L.x.A2 L.x.ws.length L.x.c2, .int .i64 L.x.i, .int .i64 L.x.j, .int .i64 L.x.g, .int .u64 (L.x.st : Int), .bool L.x.y, .int .u64 (L.vt : Int)]).toArray 144) := hpC ([.int .i64 (max L.fs a.sl)]) 6 _ z10 Zl
    have ee := frCells (k := h) (by first | (right; omega) | (left; left; rfl)) ([.int .i64 (max L.fs a.sl)]) 6 z10 ee
    have Zb := hpCo (g' := h) (by omega) ([.int .i64 (max L.fs a.sl)]) 6 z10 Zb
    have Za := hpCo (g' := h) (by omega) ([.int .i64 (max L.fs a.sl)]) 6 z10 Za
    clear Zl
    have Zl := N_
    clear N_
    change wpList _ _ _ _ _ (z10.setCells (h) 6 ([.int .i64 (max L.fs a.sl)]))
    generalize z10.setCells (h) 6 ([.int .i64 (max L.fs a.sl)]) = z11 at Zl Zb Za hu ee ⊢
    go_wp2_with fail
    go_ret
    have hlen2 : (L.l ++ [a]).length = L.l.length + 1 := by simp
    refine ⟨rfl, A9, c9, ?_, by rw [hlen2, acCells_snoc]; exact hu, by rw [hlen2]; exact hw_, ee⟩
    rw [hvt]
    unfold LdAt T.Ld.cells
    simp only [hlen2]
    exact Zl
end Go.Proofs.YtbahooohkigcnaaDoor

namespace Go.Proofs.YtbahooohkigcnaaDoor
set_option maxRecDepth 20001
open Go.RowKit T
set_option linter.unusedSimpArgs false
set_option linter.unusedVariables false

theorem ogPart0 {w : World} {b m : Nat} {cs part : List Value} (h : w.rangeAt b 0 cs) (hp : ∀ j v, part[j]? = some v → cs[m + j]? = some v) : w.rangeAt b m part := fun j v hv => by
  have := rangePart h hp j v hv
  rwa [Nat.zero_add] at this
theorem res_c {P : Program} {fn : Func} {p : Tmp} {ty : TypeId} (h : fn.results = #[.cell p ty]) {tmps : Array Value} {w : World} {g : Nat} {t : TypeId} {cs : List Value} {d : TypeDesc}
    (hp : tmps.getD p undef = .pointer (some ⟨g, 0, none⟩)) (hg : w.heap[g]? = some (.cells cs.toArray t (0, 0)))
    (hu : P.underlying ty = some d) (hd : d.isRow = true) (hi : (P.info? ty).map (·.size) = some cs.length) : (results fn tmps).run P w = .ok (.agg cs.toArray) w := by
  have hp' : tmps[p]?.getD undef = .pointer (some ⟨g, 0, none⟩) := by simpa using hp
  simp [results, h, hp', asAddr, run_loadVar_mid w g 0 ty cs d (rowAt hg) hu hd hi]
theorem res_tct {P : Program} {fn : Func} {u p v : Tmp} {ty : TypeId} (h : fn.results = #[.tmp u, .cell p ty, .tmp v]) {tmps : Array Value} {w : World} {g : Nat} {t : TypeId} {cs : List Value} {d : TypeDesc} {a b : Value}
    (ha : tmps.getD u undef = a) (hp : tmps.getD p undef = .pointer (some ⟨g, 0, none⟩)) (hb : tmps.getD v undef = b) (hg : w.heap[g]? = some (.cells cs.toArray t (0, 0)))
    (hu : P.underlying ty = some d) (hd : d.isRow = true) (hi : (P.info? ty).map (·.size) = some cs.length) : (results fn tmps).run P w = .ok (.tuple #[a, .agg cs.toArray, b]) w := by
  have hp' : tmps[p]?.getD undef = .pointer (some ⟨g, 0, none⟩) := by simpa using hp
  have ha' : tmps[u]?.getD undef = a := by simpa using ha
  have hb' : tmps[v]?.getD undef = b := by simpa using hb
  simp [results, h, hp', ha', hb', asAddr, run_loadVar_mid w g 0 ty cs d (rowAt hg) hu hd hi]
set_option maxHeartbeats 1600000 in
theorem lballot (w : World) (h : Nat) (L : Ld) (hL : LdAt w h L) : Calls Tryd.prog 43 #[.pointer (some ⟨h, 0, none⟩)] w fun e w' => e = .returned (bal L.br L.bn) ∧ Below w.heap.size w w' := by
  obtain ⟨w0, hw0⟩ : ∃ w0, w0 = w.alloc (.cells #[.int .u32 0, .int .i64 0] 28) := ⟨_, rfl⟩
  have hlt : h < w.heap.size := (Array.getElem?_eq_some_iff.1 hL).1
  have ee : Below w.heap.size w w0 := by rw [hw0]; exact (Below.refl _ _).alloc (Nat.le_refl _) _
  have Zl : w0.heap[h]? = some (.cells L.cells.toArray 144) := by rw [hw0]; exact hpA hL _
  have Zr : w0.heap[w.heap.size]? = some (.cells #[.int .u32 0, .int .i64 0] 28) := by rw [hw0]; exact hpN _ _ rfl
  go_enter Tryd.func43, Tryd.ntmps43
  go_upto_region 3 with fail
  change Code.wp _ _ _ _ (w.alloc (.cells #[.int .u32 0, .int .i64 0] 28))
  rw [← hw0]
  clear hw0 hL
  refine wp_region_lit ?_
  iterate 27 (first | with_reducible refine isLoad (ty := 28) rfl ?_ | go_step)
  refine wpList_load_mid rfl 28 _ rfl (h) (2) rfl ([.int .u32 (L.br : Int), .int .i64 L.bn]) _ (rowMid Zl (2) (Ld.ballot L)) Tryd.underlying28 rfl sizeBal ?_
  iterate 27 (first | with_reducible refine isStore (ty := 28) rfl ?_ | go_step)
  refine wpList_store_row rfl 28 _ _ rfl (w.heap.size) ([.int .u32 (L.br : Int), .int .i64 L.bn]).toArray rfl rfl 28 _ Zr sizeBal (by rfl) (by simp [Value.oneCell']) ?_
  have N_ := setRow_heap w0 (w.heap.size) _ ([.int .u32 (L.br : Int), .int .i64 L.bn]).toArray _ _ Zr
  have ee := belowSet (cs := ([.int .u32 (L.br : Int), .int .i64 L.bn]).toArray) ee Zr (by omega)
  have Zl := hpR Zl (g' := w.heap.size) (by omega) ([.int .u32 (L.br : Int), .int .i64 L.bn]).toArray
  clear Zr
  have Zr := N_
  clear N_
  generalize w0.setRow (w.heap.size) ([.int .u32 (L.br : Int), .int .i64 L.bn]).toArray = z1 at Zl Zr ee ⊢
  go_wp2_with fail
  refine bodyPost_ret (v := bal L.br L.bn) (res_c rfl rfl Zr Tryd.underlying28 rfl sizeBal) rfl ⟨rfl, ee⟩
set_option maxHeartbeats 1600000 in
theorem lproposal_no (w : World) (h : Nat) (L : Ld) (hL : LdAt w h L) (hs : L.sl = 0) : Calls Tryd.prog 42 #[.pointer (some ⟨h, 0, none⟩)] w fun e w' => e = .returned (.tuple #[.int .i64 0, .agg Cm.zero.cells.toArray, .bool false]) ∧ Below w.heap.size w w' := by
  obtain ⟨w0, hw0⟩ : ∃ w0, w0 = w.alloc (.cells #[.int .i64 0, .int .i64 0, .int .i64 0, .slice none 0 0, .slice none 0 0, .int .i64 0, .int .i64 0, .int .i64 0, .int .u64 0, .bool false] 37) := ⟨_, rfl⟩
  have hlt : h < w.heap.size := (Array.getElem?_eq_some_iff.1 hL).1
  have ee : Below w.heap.size w w0 := by rw [hw0]; exact (Below.refl _ _).alloc (Nat.le_refl _) _
  have Zl : w0.heap[h]? = some (.cells L.cells.toArray 144) := by rw [hw0]; exact hpA hL _
  have Zr : w0.heap[w.heap.size]? = some (.cells #[.int .i64 0, .int .i64 0, .int .i64 0, .slice none 0 0, .slice none 0 0, .int .i64 0, .int .i64 0, .int .i64 0, .int .u64 0, .bool false] 37) := by rw [hw0]; exact hpN _ _ rfl
  go_enter Tryd.func42, Tryd.ntmps42
  go_upto_region 1 with fail
  change Code.wp _ _ _ _ (w.alloc (.cells #[.int .i64 0, .int .i64 0, .int .i64 0, .slice none 0 0, .slice none 0 0, .int .i64 0, .int .i64 0, .int .i64 0, .int .u64 0, .bool false] 37))
  rw [← hw0]
  clear hw0 hL
  have c7 := rowCell Zl 7 (v := .int .i64 0) (by rw [← hs]; rfl)
  clear hs
  go_upto_region 2 with fail
  clear c7
  refine wp_region_lit ?_
  iterate 27 (first | with_reducible refine isStore (ty := 37) rfl ?_ | go_step)
  refine wpList_store_row rfl 37 _ _ rfl (w.heap.size) (Cm.zero.cells).toArray rfl rfl 37 _ Zr sizeCm (by rfl) (Cm.one _) ?_
  have N_ := setRow_heap w0 (w.heap.size) _ (Cm.zero.cells).toArray _ _ Zr
  have ee := belowSet (cs := (Cm.zero.cells).toArray) ee Zr (by omega)
  have Zl := hpR Zl (g' := w.heap.size) (by omega) (Cm.zero.cells).toArray
  clear Zr
  have Zr := N_
  clear N_
  generalize w0.setRow (w.heap.size) (Cm.zero.cells).toArray = z1 at Zl Zr ee ⊢
  go_wp2_with fail
  refine bodyPost_ret (v := .tuple #[.int .i64 0, .agg Cm.zero.cells.toArray, .bool false]) (res_tct rfl rfl rfl rfl Zr Tryd.underlying37 rfl sizeCm) rfl ⟨rfl, ee⟩
set_option maxHeartbeats 1600000 in
theorem lproposal_yes (w : World) (h : Nat) (L : Ld) (hL : LdAt w h L) (hs : L.sl ≠ 0) : Calls Tryd.prog 42 #[.pointer (some ⟨h, 0, none⟩)] w fun e w' => e = .returned (.tuple #[.int .i64 L.sl, .agg L.x.cells.toArray, .bool true]) ∧ Below w.heap.size w w' := by
  obtain ⟨w0, hw0⟩ : ∃ w0, w0 = w.alloc (.cells #[.int .i64 0, .int .i64 0, .int .i64 0, .slice none 0 0, .slice none 0 0, .int .i64 0, .int .i64 0, .int .i64 0, .int .u64 0, .bool false] 37) := ⟨_, rfl⟩
  have hlt : h < w.heap.size := (Array.getElem?_eq_some_iff.1 hL).1
  have ee : Below w.heap.size w w0 := by rw [hw0]; exact (Below.refl _ _).alloc (Nat.le_refl _) _
  have Zl : w0.heap[h]? = some (.cells L.cells.toArray 144) := by rw [hw0]; exact hpA hL _
  have Zr : w0.heap[w.heap.size]? = some (.cells #[.int .i64 0, .int .i64 0, .int .i64 0, .slice none 0 0, .slice none 0 0, .int .i64 0, .int .i64 0, .int .i64 0, .int .u64 0, .bool false] 37) := by rw [hw0]; exact hpN _ _ rfl
  go_enter Tryd.func42, Tryd.ntmps42
  go_upto_region 1 with fail
  change Code.wp _ _ _ _ (w.alloc (.cells #[.int .i64 0, .int .i64 0, .int .i64 0, .slice none 0 0, .slice none 0 0, .int .i64 0, .int .i64 0, .int .i64 0, .int .u64 0, .bool false] 37))
  rw [← hw0]
  clear hw0 hL
  have c7 := rowCell Zl 7 (v := .int .i64 L.sl) rfl
  have e7 : (L.sl == 0) = false := by simpa using hs
  clear hs
  go_upto_region 3 with fail
  clear c7 e7
  have Zl : w0.drew.heap[h]? = some (.cells L.cells.toArray 144) := Zl
  have Zr : w0.drew.heap[w.heap.size]? = some (.cells #[.int .i64 0, .int .i64 0, .int .i64 0, .slice none 0 0, .slice none 0 0, .int .i64 0, .int .i64 0, .int .i64 0, .int .u64 0, .bool false] 37) := Zr
  have ee := belowDrewS ee
  refine wp_region_held_drew (S := fun z' => z'.rangeAt h 0 L.cells) (by kernel_rfl) (rowAt Zl) (fun hH => ?_)
  clear hH
  generalize w0.drew = z1 at Zl Zr ee ⊢
  refine wpAnyH_take (i := 0) (v := .pointer (some ⟨h, 0, none⟩)) rfl (by kernel_rfl) (by kernel_rfl) (by kernel_rfl) (fun _ _ _ h => h) (Or.inl ⟨by rfl, fun w_ hS_ => by (first | (go_simp; done) | (go_simp; rfl))⟩) (rowAt Zl) ?_
  try simp only [Act.put, List.getElem_toArray, List.getElem_cons_zero, List.getElem_cons_succ, List.setIfInBounds_toArray, List.set_cons_zero, List.set_cons_succ]
  refine wpAnyH_take (i := 1) (v := .pointer (some ⟨h, 0, none⟩)) rfl (by kernel_rfl) (by kernel_rfl) (by kernel_rfl) (fun _ _ _ h => h) (Or.inl ⟨by rfl, fun w_ hS_ => by (first | (go_simp; done) | (go_simp; rfl))⟩) (rowAt Zl) ?_
  try simp only [Act.put, List.getElem_toArray, List.getElem_cons_zero, List.getElem_cons_succ, List.setIfInBounds_toArray, List.set_cons_zero, List.set_cons_succ]
  refine wpAnyH_take (i := 2) (v := .pointer (some ⟨h, 7, none⟩)) rfl (by kernel_rfl) (by kernel_rfl) (by kernel_rfl) (fun _ _ _ h => h) (Or.inl ⟨by rfl, fun w_ hS_ => by (first | (go_simp; done) | (go_simp; rfl))⟩) (rowAt Zl) ?_
  try simp only [Act.put, List.getElem_toArray, List.getElem_cons_zero, List.getElem_cons_succ, List.setIfInBounds_toArray, List.set_cons_zero, List.set_cons_succ]
  refine wpAnyH_take (i := 3) (v := .int .i64 L.sl) rfl (by kernel_rfl) (by kernel_rfl) (by kernel_rfl) (fun _ _ _ h => h) (Or.inl ⟨by rfl, fun w_ hS_ => by (have c_ := ogCell0 hS_ 7 rfl; first | (go_simp; done) | (go_simp; rfl))⟩) (rowAt Zl) ?_
  try simp only [Act.put, List.getElem_toArray, List.getElem_cons_zero, List.getElem_cons_succ, List.setIfInBounds_toArray, List.set_cons_zero, List.set_cons_succ]
  refine wpAnyH_take (i := 4) (v := .pointer (some ⟨h, 0, none⟩)) rfl (by kernel_rfl) (by kernel_rfl) (by kernel_rfl) (fun _ _ _ h => h) (Or.inl ⟨by rfl, fun w_ hS_ => by (first | (go_simp; done) | (go_simp; rfl))⟩) (rowAt Zl) ?_
  try simp only [Act.put, List.getElem_toArray, List.getElem_cons_zero, List.getElem_cons_succ, List.setIfInBounds_toArray, List.set_cons_zero, List.set_cons_succ]
  refine wpAnyH_take (i := 5) (v := .pointer (some ⟨h, 0, none⟩)) rfl (by kernel_rfl) (by kernel_rfl) (by kernel_rfl) (fun _ _ _ h => h) (Or.inl ⟨by rfl, fun w_ hS_ => by (first | (go_simp; done) | (go_simp; rfl))⟩) (rowAt Zl) ?_
  try simp only [Act.put, List.getElem_toArray, List.getElem_cons_zero, List.getElem_cons_succ, List.setIfInBounds_toArray, List.set_cons_zero, List.set_cons_succ]
  refine wpAnyH_take (i := 6) (v := .pointer (some ⟨h, 8, none⟩)) rfl (by kernel_rfl) (by kernel_rfl) (by kernel_rfl) (fun _ _ _ h => h) (Or.inl ⟨by rfl, fun w_ hS_ => by (first | (go_simp; done) | (go_simp; rfl))⟩) (rowAt Zl) ?_
  try simp only [Act.put, List.getElem_toArray, List.getElem_cons_zero, List.getElem_cons_succ, List.setIfInBounds_toArray, List.set_cons_zero, List.set_cons_succ]
  refine wpAnyH_take (i := 7) (v := .agg (L.x.cells).toArray) rfl (by kernel_rfl) (by kernel_rfl) (by kernel_rfl) (fun _ _ _ h => h) (yieldsIf_load_mid (by rfl) 37 _ rfl (h) (8) rfl (L.x.cells) _ (fun _ h => ogPart0 h (Ld.cmd L)) Tryd.underlying37 rfl sizeCm) (rowAt Zl) ?_
  try simp only [Act.put, List.getElem_toArray, List.getElem_cons_zero, List.getElem_cons_succ, List.setIfInBounds_toArray, List.set_cons_zero, List.set_cons_succ]
  refine wpAnyH_take (i := 8) (v := .int .i64 L.sl) rfl (by kernel_rfl) (by kernel_rfl) (by kernel_rfl) (fun _ _ _ h => h) (Or.inl ⟨by rfl, fun w_ hS_ => by (first | (go_simp; done) | (go_simp; rfl))⟩) (rowAt Zl) ?_
  try simp only [Act.put, List.getElem_toArray, List.getElem_cons_zero, List.getElem_cons_succ, List.setIfInBounds_toArray, List.set_cons_zero, List.set_cons_succ]
  refine wpAnyH_ready (rs := [9]) (by kernel_rfl) (by simp) ?_
  refine AllReadyH.cons rfl (fun K hK => ?_) AllReadyH.nil
  rw [if_pos (by rfl)]
  refine wp_store_row 37 _ _ rfl (w.heap.size) (L.x.cells).toArray rfl rfl 37 _ Zr sizeCm (by rfl) (Cm.one _) ?_
  have N_ := setRow_heap z1 (w.heap.size) _ (L.x.cells).toArray _ _ Zr
  have ee := belowSet (cs := (L.x.cells).toArray) ee Zr (by omega)
  have Zl := hpR Zl (g' := w.heap.size) (by omega) (L.x.cells).toArray
  clear Zr
  have Zr := N_
  clear N_
  generalize z1.setRow (w.heap.size) (L.x.cells).toArray = z2 at Zl Zr ee ⊢
  refine hK.out _ _ (rowAt Zl) (fun hH => ?_)
  clear hK K hH
  try simp only [Act.put, List.getElem_toArray, List.getElem_cons_zero, List.getElem_cons_succ, List.setIfInBounds_toArray, List.set_cons_zero, List.set_cons_succ]
  refine wpAnyH_take (i := 10) (v := .bool true) rfl (by kernel_rfl) (by kernel_rfl) (by kernel_rfl) (fun _ _ _ h => h) (Or.inl ⟨by rfl, fun w_ hS_ => by (first | (go_simp; done) | (go_simp; rfl))⟩) (rowAt Zl) ?_
  try simp only [Act.put, List.getElem_toArray, List.getElem_cons_zero, List.getElem_cons_succ, List.setIfInBounds_toArray, List.set_cons_zero, List.set_cons_succ]
  refine wpAnyH_done (by kernel_rfl) ?_ _
  go_wp2_with fail
  refine bodyPost_ret (v := .tuple #[.int .i64 L.sl, .agg L.x.cells.toArray, .bool true]) (res_tct rfl rfl rfl rfl Zr Tryd.underlying37 rfl sizeCm) rfl ⟨rfl, ee⟩
/-- does a leader propose? -/
def T.Ld.proposes (L : Ld) (s : Int) (x : Cm) : Bool := Q.majB L.pr L.n && !decide (0 < L.sl) && !decide (s < L.fs) && !decide (1000000 < s) && x.formed
set_option maxHeartbeats 6400000 in
theorem lpropose_no (w : World) (h : Nat) (L : Ld) (s : Int) (x : Cm) (hL : LdAt w h L) (hp : L.pr < 18446744073709551616) (ok : CmOk w w.heap.size x) (hT : Tabs w) (hno : L.proposes s x = false) :
    Calls Tryd.prog 37 #[.pointer (some ⟨h, 0, none⟩), .int .i64 s, .agg x.cells.toArray] w fun e w' => e = .returned (.tuple #[.agg Cm.zero.cells.toArray, .bool false]) ∧ Below w.heap.size w w' := by
  have hlt : h < w.heap.size := (Array.getElem?_eq_some_iff.1 hL).1
  have HCF := Lib.hid (fun z (hz : Below w.heap.size w z) => c_cformed x z w.heap.size hz.size (ok.below hz (Nat.le_refl _)) (hT.below hz))
  have HLE := Lib.hid (fun z (hz : LdAt z h L) => lleads z h L hz hp)
  have HNO := Lib.hid hno
  unfold T.Ld.proposes at HNO
  clear hno ok hT hp
  generalize Q.majB L.pr L.n = m1 at HLE HNO
  generalize x.formed = m5 at HCF HNO
  obtain ⟨w0, hw0⟩ : ∃ w0, w0 = (w.alloc (.cells x.cells.toArray 37)).alloc (.cells #[.int .i64 0, .int .i64 0, .int .i64 0, .slice none 0 0, .slice none 0 0, .int .i64 0, .int .i64 0, .int .i64 0, .int .u64 0, .bool false] 37) := ⟨_, rfl⟩
  have ee : Below w.heap.size w w0 := by rw [hw0]; exact ((Below.refl _ _).alloc (Nat.le_refl _) _).alloc (by simp) _
  have Zl : w0.heap[h]? = some (.cells L.cells.toArray 144) := by rw [hw0]; exact hpA (hpA hL _) _
  have Zx : w0.heap[w.heap.size]? = some (.cells x.cells.toArray 37) := by rw [hw0]; exact hpA (hpN _ _ rfl) _
  have Zr : w0.heap[w.heap.size + 1]? = some (.cells #[.int .i64 0, .int .i64 0, .int .i64 0, .slice none 0 0, .slice none 0 0, .int .i64 0, .int .i64 0, .int .i64 0, .int .u64 0, .bool false] 37) := by rw [hw0]; exact hpN _ _ (by simp)
  go_enter Tryd.func37, Tryd.ntmps37
  go_upto_region 1 with fail
  change Code.wp _ _ _ _ ((w.alloc (.cells x.cells.toArray 37)).alloc (.cells #[.int .i64 0, .int .i64 0, .int .i64 0, .slice none 0 0, .slice none 0 0, .int .i64 0, .int .i64 0, .int .i64 0, .int .u64 0, .bool false] 37))
  rw [← hw0]
  clear hw0 hL
  refine wp_region_lit ?_
  go_wp2_with fail
  refine (HLE.out w0 Zl).mono ?_
  rintro e z1 ⟨rfl, n_, rfl⟩
  have Zl : (w0.drewN n_).heap[h]? = some (.cells L.cells.toArray 144) := Zl
  have Zx : (w0.drewN n_).heap[w.heap.size]? = some (.cells x.cells.toArray 37) := Zx
  have Zr : (w0.drewN n_).heap[w.heap.size + 1]? = some (.cells #[.int .i64 0, .int .i64 0, .int .i64 0, .slice none 0 0, .slice none 0 0, .int .i64 0, .int .i64 0, .int .i64 0, .int .u64 0, .bool false] 37) := Zr
  have ee := belowDrewN ee n_
  generalize w0.drewN n_ = z2 at Zl Zx Zr ee ⊢
  clear HLE
  try dsimp only
  rename_i hK
  refine hK _ _ ?_
  clear hK
  have c7 := rowCell Zl 7 (v := .int .i64 L.sl) rfl
  have c6 := rowCell Zl 6 (v := .int .i64 L.fs) rfl
  cases m1 with
  | false =>
    go_upto_region 2 with fail
    refine wp_region_lit ?_
    clear c6 c7
    iterate 27 (first | with_reducible refine isStore (ty := 37) rfl ?_ | go_step)
    refine wpList_store_row rfl 37 _ _ rfl (w.heap.size + 1) (Cm.zero.cells).toArray rfl rfl 37 _ Zr sizeCm (by rfl) (Cm.one _) ?_
    have N_ := setRow_heap z2 (w.heap.size + 1) _ (Cm.zero.cells).toArray _ _ Zr
    have ee := belowSet (cs := (Cm.zero.cells).toArray) ee Zr (by omega)
    have Zl := hpR Zl (g' := w.heap.size + 1) (by omega) (Cm.zero.cells).toArray
    have Zx := hpR Zx (g' := w.heap.size + 1) (by omega) (Cm.zero.cells).toArray
    clear Zr
    have Zr := N_
    clear N_
    generalize z2.setRow (w.heap.size + 1) (Cm.zero.cells).toArray = z3 at Zl Zx Zr ee ⊢
    go_wp2_with fail
    refine bodyPost_ret (v := .tuple #[.agg Cm.zero.cells.toArray, .bool false]) (res_ct rfl rfl rfl Zr Tryd.underlying37 rfl sizeCm) rfl ⟨rfl, ee⟩
  | true =>
    generalize hm2 : decide (0 < L.sl) = m2 at HNO
    cases m2 with
    | true =>
      go_upto_region 2 with fail
      refine wp_region_lit ?_
      clear c6 c7
      iterate 27 (first | with_reducible refine isStore (ty := 37) rfl ?_ | go_step)
      refine wpList_store_row rfl 37 _ _ rfl (w.heap.size + 1) (Cm.zero.cells).toArray rfl rfl 37 _ Zr sizeCm (by rfl) (Cm.one _) ?_
      have N_ := setRow_heap z2 (w.heap.size + 1) _ (Cm.zero.cells).toArray _ _ Zr
      have ee := belowSet (cs := (Cm.zero.cells).toArray) ee Zr (by omega)
      have Zl := hpR Zl (g' := w.heap.size + 1) (by omega) (Cm.zero.cells).toArray
      have Zx := hpR Zx (g' := w.heap.size + 1) (by omega) (Cm.zero.cells).toArray
      clear Zr
      have Zr := N_
      clear N_
      generalize z2.setRow (w.heap.size + 1) (Cm.zero.cells).toArray = z3 at Zl Zx Zr ee ⊢
      go_wp2_with fail
      refine bodyPost_ret (v := .tuple #[.agg Cm.zero.cells.toArray, .bool false]) (res_ct rfl rfl rfl Zr Tryd.underlying37 rfl sizeCm) rfl ⟨rfl, ee⟩
    | false =>
      generalize hm3 : decide (s < L.fs) = m3 at HNO
      cases m3 with
      | true =>
        go_upto_region 2 with fail
        refine wp_region_lit ?_
        clear c6 c7
        iterate 27 (first | with_reducible refine isStore (ty := 37) rfl ?_ | go_step)
        refine wpList_store_row rfl 37 _ _ rfl (w.heap.size + 1) (Cm.zero.cells).toArray rfl rfl 37 _ Zr sizeCm (by rfl) (Cm.one _) ?_
        have N_ := setRow_heap z2 (w.heap.size + 1) _ (Cm.zero.cells).toArray _ _ Zr
        have ee := belowSet (cs := (Cm.zero.cells).toArray) ee Zr (by omega)
        have Zl := hpR Zl (g' := w.heap.size + 1) (by omega) (Cm.zero.cells).toArray
        have Zx := hpR Zx (g' := w.heap.size + 1) (by omega) (Cm.zero.cells).toArray
        clear Zr
        have Zr := N_
        clear N_
        generalize z2.setRow (w.heap.size + 1) (Cm.zero.cells).toArray = z3 at Zl Zx Zr ee ⊢
        go_wp2_with fail
        refine bodyPost_ret (v := .tuple #[.agg Cm.zero.cells.toArray, .bool false]) (res_ct rfl rfl rfl Zr Tryd.underlying37 rfl sizeCm) rfl ⟨rfl, ee⟩
      | false =>
        generalize hm4 : decide (1000000 < s) = m4 at HNO
        cases m4 with
        | true =>
          go_upto_region 2 with fail
          refine wp_region_lit ?_
          clear c6 c7
          iterate 27 (first | with_reducible refine isStore (ty := 37) rfl ?_ | go_step)
          refine wpList_store_row rfl 37 _ _ rfl (w.heap.size + 1) (Cm.zero.cells).toArray rfl rfl 37 _ Zr sizeCm (by rfl) (Cm.one _) ?_
          have N_ := setRow_heap z2 (w.heap.size + 1) _ (Cm.zero.cells).toArray _ _ Zr
          have ee := belowSet (cs := (Cm.zero.cells).toArray) ee Zr (by omega)
          have Zl := hpR Zl (g' := w.heap.size + 1) (by omega) (Cm.zero.cells).toArray
          have Zx := hpR Zx (g' := w.heap.size + 1) (by omega) (Cm.zero.cells).toArray
          clear Zr
          have Zr := N_
          clear N_
          generalize z2.setRow (w.heap.size + 1) (Cm.zero.cells).toArray = z3 at Zl Zx Zr ee ⊢
          go_wp2_with fail
          refine bodyPost_ret (v := .tuple #[.agg Cm.zero.cells.toArray, .bool false]) (res_ct rfl rfl rfl Zr Tryd.underlying37 rfl sizeCm) rfl ⟨rfl, ee⟩
        | false =>
          obtain rfl : m5 = false := by have := HNO.out; simpa using this
          iterate 90 (first | with_reducible refine isLoad (ty := 37) rfl ?_ | go_step)
          refine wpList_load_g (by rfl) 37 _ rfl (w.heap.size) 0 rfl (x.cells) _ (rowAt Zx) Tryd.underlying37 rfl sizeCm ?_
          clear c6 c7
          go_wp2_with fail
          refine (HCF.out z2 ee).mono ?_
          rintro e z3 ⟨rfl, t⟩
          have Zl := hpB Zl t
          have Zx := hpB Zx t
          have Zr := hpB Zr t
          have ee := ee.trans (t.mono ee.size)
          clear t
          go_upto_region 2 with fail
          refine wp_region_lit ?_
          iterate 27 (first | with_reducible refine isStore (ty := 37) rfl ?_ | go_step)
          refine wpList_store_row rfl 37 _ _ rfl (w.heap.size + 1) (Cm.zero.cells).toArray rfl rfl 37 _ Zr sizeCm (by rfl) (Cm.one _) ?_
          have N_ := setRow_heap z3 (w.heap.size + 1) _ (Cm.zero.cells).toArray _ _ Zr
          have ee := belowSet (cs := (Cm.zero.cells).toArray) ee Zr (by omega)
          have Zl := hpR Zl (g' := w.heap.size + 1) (by omega) (Cm.zero.cells).toArray
          have Zx := hpR Zx (g' := w.heap.size + 1) (by omega) (Cm.zero.cells).toArray
          clear Zr
          have Zr := N_
          clear N_
          generalize z3.setRow (w.heap.size + 1) (Cm.zero.cells).toArray = z4 at Zl Zx Zr ee ⊢
          go_wp2_with fail
          refine bodyPost_ret (v := .tuple #[.agg Cm.zero.cells.toArray, .bool false]) (res_ct rfl rfl rfl Zr Tryd.underlying37 rfl sizeCm) rfl ⟨rfl, ee⟩
end Go.Proofs.YtbahooohkigcnaaDoor

namespace Go.Proofs.YtbahooohkigcnaaDoor
set_option maxRecDepth 20001
open Go.RowKit T
set_option linter.unusedSimpArgs false
set_option linter.unusedVariables false
namespace Ag
def pv (b : Nat) : Value := .pointer (some ⟨b, 0, none⟩)
/-- a crew's cells -/
def crC (n : Nat) (A : Nat → Ac) (H : Nat → Value) (S : Nat → Value) (k : Nat) : List Value :=
  .int .i64 (n : Int) :: ((A 0).cells ++ ((A 1).cells ++ ((A 2).cells ++ ((A 3).cells ++ ((A 4).cells ++ [H 0, H 1, H 2, H 3, H 4, S 0, S 1, S 2, S 3, S 4, .int .i64 (k : Int)])))))
theorem crC_len (n : Nat) (A : Nat → Ac) (H S : Nat → Value) (k : Nat) : (crC n A H S k).length = 92 := rfl
theorem crA (n : Nat) (A : Nat → Ac) (H S : Nat → Value) (k j : Nat) (hj : j < 5) : ∀ i v, (A j).cells[i]? = some v → (crC n A H S k)[1 + j * 16 + i]? = some v := by
  have key : ∀ (p q c : List Value) (m : Nat), m = p.length → ∀ i v, c[i]? = some v → (p ++ (c ++ q))[m + i]? = some v := fun p q c m hm i v h => by
    have hi := (List.getElem?_eq_some_iff.1 h).1
    rw [List.getElem?_append_right (by omega), show m + i - p.length = i by omega, List.getElem?_append_left hi]; exact h
  match j, hj with
  | 0, _ => exact key [.int .i64 (n : Int)] _ (A 0).cells _ rfl
  | 1, _ => exact key (.int .i64 (n : Int) :: (A 0).cells) _ (A 1).cells _ rfl
  | 2, _ => exact key (.int .i64 (n : Int) :: ((A 0).cells ++ (A 1).cells)) _ (A 2).cells _ rfl
  | 3, _ => exact key (.int .i64 (n : Int) :: ((A 0).cells ++ ((A 1).cells ++ (A 2).cells))) _ (A 3).cells _ rfl
  | 4, _ => exact key (.int .i64 (n : Int) :: ((A 0).cells ++ ((A 1).cells ++ ((A 2).cells ++ (A 3).cells)))) _ (A 4).cells _ rfl
theorem crH (n : Nat) (A : Nat → Ac) (H S : Nat → Value) (k j : Nat) (hj : j < 5) : (crC n A H S k)[81 + j]? = some (H j) := by
  match j, hj with
  | 0, _ => rfl
  | 1, _ => rfl
  | 2, _ => rfl
  | 3, _ => rfl
  | 4, _ => rfl
theorem crS (n : Nat) (A : Nat → Ac) (H S : Nat → Value) (k j : Nat) (hj : j < 5) : (crC n A H S k)[86 + j]? = some (S j) := by
  match j, hj with
  | 0, _ => rfl
  | 1, _ => rfl
  | 2, _ => rfl
  | 3, _ => rfl
  | 4, _ => rfl
theorem crK (n : Nat) (A : Nat → Ac) (H S : Nat → Value) (k : Nat) : (crC n A H S k)[91]? = some (.int .i64 (k : Int)) := rfl
theorem crPutA (n : Nat) (A : Nat → Ac) (H S : Nat → Value) (k j : Nat) (hj : j < 5) (a : Ac) : putAt (crC n A H S k) (1 + j * 16) a.cells = crC n (Px.upd A j a) H S k := by
  have key : ∀ (p q : List Value) (b : Ac) (m : Nat), m = p.length → putAt (p ++ (b.cells ++ q)) m a.cells = p ++ (a.cells ++ q) := fun p q b m hm => by
    rw [hm]; exact putAt_mid p b.cells q a.cells rfl
  match j, hj with
  | 0, _ => exact key [.int .i64 (n : Int)] _ (A 0) _ rfl
  | 1, _ => exact key (.int .i64 (n : Int) :: (A 0).cells) _ (A 1) _ rfl
  | 2, _ => exact key (.int .i64 (n : Int) :: ((A 0).cells ++ (A 1).cells)) _ (A 2) _ rfl
  | 3, _ => exact key (.int .i64 (n : Int) :: ((A 0).cells ++ ((A 1).cells ++ (A 2).cells))) _ (A 3) _ rfl
  | 4, _ => exact key (.int .i64 (n : Int) :: ((A 0).cells ++ ((A 1).cells ++ ((A 2).cells ++ (A 3).cells)))) _ (A 4) _ rfl
theorem crPutH (n : Nat) (A : Nat → Ac) (H S : Nat → Value) (k j : Nat) (hj : j < 5) (v : Value) : putAt (crC n A H S k) (81 + j) [v] = crC n A (updF H j v) S k := by
  match j, hj with
  | 0, _ => rfl
  | 1, _ => rfl
  | 2, _ => rfl
  | 3, _ => rfl
  | 4, _ => rfl
theorem crPutS (n : Nat) (A : Nat → Ac) (H S : Nat → Value) (k j : Nat) (hj : j < 5) (v : Value) : putAt (crC n A H S k) (86 + j) [v] = crC n A H (updF S j v) k := by
  match j, hj with
  | 0, _ => rfl
  | 1, _ => rfl
  | 2, _ => rfl
  | 3, _ => rfl
  | 4, _ => rfl
theorem crPutK (n : Nat) (A : Nat → Ac) (H S : Nat → Value) (k k' : Nat) : putAt (crC n A H S k) 91 [.int .i64 (k' : Int)] = crC n A H S k' := rfl
/-- the slice in which a leader holds promises -/
def rowv (l : Ld) : Value := .slice l.A l.l.length l.c
/-- a crew lies in block gc -/
structure CrewAt (w : World) (B gc n : Nat) (A : Nat → Ac) (H : Nat → Nat) (L : Nat → Ld) (S : Nat → Value) (X : Nat → List Cm) (k : Nat) : Prop where
  blk : w.heap[gc]? = some (.cells (crC n A (fun j => pv (H j)) S k).toArray 122 (0, 0))
  gB : B ≤ gc
  ld : ∀ j, j < 5 → LdAt w (H j) (L j) ∧ B ≤ H j
  inj : ∀ i j, i < 5 → j < 5 → i ≠ j → H i ≠ H j
  row : ∀ j, j < 5 → w.ownsRow B 39 16 (rowv (L j)) (L j).l.length (acCells (L j).l)
  rdis : ∀ i j, i < 5 → j < 5 → i ≠ j → ∀ g, (rowv (L i)).ownBlock = some g → (rowv (L j)).ownBlock ≠ some g
  xs : ∀ j, j < 5 → w.ownsRow B 37 10 (S j) (X j).length (flat Cm.cells (X j))
  xdis : ∀ i j, i < 5 → j < 5 → i ≠ j → ∀ g, (S i).ownBlock = some g → (S j).ownBlock ≠ some g
section
variable {w w' : World} {B gc n : Nat} {A A' : Nat → Ac} {H : Nat → Nat} {L : Nat → Ld} {S S' : Nat → Value} {X : Nat → List Cm} {k k' : Nat}
theorem heapNe {b c : Nat} {cs ds : Array Value} {t u : TypeId} (h1 : w.heap[b]? = some (.cells cs t (0, 0))) (h2 : w.heap[c]? = some (.cells ds u (0, 0))) (hne : t ≠ u) : b ≠ c := fun e => by
  subst e
  rw [h1] at h2
  injection h2 with h2
  injection h2 with _ h3
  exact hne h3
/-- a leader's block, and what the crew's block holds, have changed -/
theorem CrewAt.moveL (h : CrewAt w B gc n A H L S X k) {i : Nat} (hi : i < 5) (f : OgF w w' (fun b => b = gc ∨ b = H i)) {l' : Ld} (blk' : w'.heap[gc]? = some (.cells (crC n A' (fun j => pv (H j)) S k').toArray 122 (0, 0)))
    (ld' : LdAt w' (H i) l') (row' : w'.ownsRow B 39 16 (rowv l') l'.l.length (acCells l'.l)) (hw : ∀ g, (rowv l').ownBlock = some g → (rowv (L i)).ownBlock = some g ∨ w.heap.size ≤ g) :
    CrewAt w' B gc n A' H (updF L i l') S X k' := by
  have hrow : ∀ j, j < 5 → ∀ g, (rowv (L j)).ownBlock = some g → ¬ (g = gc ∨ g = H i) := fun j hj g hg e => by
    rcases e with e | e
    · exact lgKind (h.row j hj) h.blk (by decide) (by rw [hg, e])
    · exact lgKind (h.row j hj) (h.ld i hi).1 (by decide) (by rw [hg, e])
  have hx : ∀ j, j < 5 → ∀ g, (S j).ownBlock = some g → ¬ (g = gc ∨ g = H i) := fun j hj g hg e => by
    rcases e with e | e
    · exact lgKind (h.xs j hj) h.blk (by decide) (by rw [hg, e])
    · exact lgKind (h.xs j hj) (h.ld i hi).1 (by decide) (by rw [hg, e])
  refine ⟨blk', h.gB, fun j hj => ?_, h.inj, fun j hj => ?_, fun a b ha hb hab g hg hg' => ?_, fun j hj => f.own (h.xs j hj) (hx j hj), h.xdis⟩
  · by_cases e : j = i
    · subst e
      rw [updF_same]; exact ⟨ld', (h.ld j hj).2⟩
    · rw [updF_ne L _ e]
      refine ⟨f.heap (h.ld j hj).1 (fun e2 => ?_), (h.ld j hj).2⟩
      rcases e2 with e2 | e2
      · exact heapNe (h.ld j hj).1 h.blk (by decide) e2
      · exact h.inj j i hj hi e e2
  · by_cases e : j = i
    · subst e
      rw [updF_same]; exact row'
    · rw [updF_ne L _ e]; exact f.own (h.row j hj) (hrow j hj)
  · by_cases e1 : a = i
    · subst e1
      rw [updF_same] at hg
      rw [updF_ne L _ (fun e => hab e.symm)] at hg'
      rcases hw g hg with h1 | h1
      · exact h.rdis a b ha hb hab g h1 hg'
      · have := ((h.row b hb).lt g hg').2; omega
    · rw [updF_ne L _ e1] at hg
      by_cases e2 : b = i
      · subst e2
        rw [updF_same] at hg'
        rcases hw g hg' with h1 | h1
        · exact h.rdis a b ha hb hab g hg h1
        · have := ((h.row a ha).lt g hg).2; omega
      · rw [updF_ne L _ e2] at hg'
        exact h.rdis a b ha hb hab g hg hg'
/-- what a replica has learnt, and what the crew's block holds, have changed -/
theorem CrewAt.moveX (h : CrewAt w B gc n A H L S X k) {m : Nat} (hm : m < 5) (f : OgF w w' (fun b => b = gc ∨ (S m).ownBlock = some b)) {v : Value} {y : List Cm} (blk' : w'.heap[gc]? = some (.cells (crC n A' (fun j => pv (H j)) (updF S m v) k').toArray 122 (0, 0)))
    (xs' : w'.ownsRow B 37 10 v y.length (flat Cm.cells y)) (hw : ∀ g, v.ownBlock = some g → (S m).ownBlock = some g ∨ w.heap.size ≤ g) :
    CrewAt w' B gc n A' H L (updF S m v) (updF X m y) k' := by
  have hne : ∀ j, j < 5 → ∀ g, (rowv (L j)).ownBlock = some g → ¬ (g = gc ∨ (S m).ownBlock = some g) := fun j hj g hg e => by
    rcases e with e | e
    · exact lgKind (h.row j hj) h.blk (by decide) (by rw [hg, e])
    · rcases own_ne (h.row j hj) (h.xs m hm) (by decide) with q | q
      · rw [q] at e; cases e
      · rw [e, hg] at q; exact q rfl
  refine ⟨blk', h.gB, fun j hj => ⟨f.heap (h.ld j hj).1 (fun e2 => ?_), (h.ld j hj).2⟩, h.inj, fun j hj => f.own (h.row j hj) (hne j hj), h.rdis, fun j hj => ?_, fun a b ha hb hab g hg hg' => ?_⟩
  · rcases e2 with e2 | e2
    · exact heapNe (h.ld j hj).1 h.blk (by decide) e2
    · exact lgKind (h.xs m hm) (h.ld j hj).1 (by decide) e2
  · by_cases e : j = m
    · subst e
      rw [updF_same, updF_same]; exact xs'
    · rw [updF_ne S _ e, updF_ne X _ e]
      refine f.own (h.xs j hj) (fun g hg e2 => ?_)
      rcases e2 with e2 | e2
      · exact lgKind (h.xs j hj) h.blk (by decide) (by rw [hg, e2])
      · exact h.xdis j m hj hm e g hg e2
  · by_cases e1 : a = m
    · subst e1
      rw [updF_same] at hg
      rw [updF_ne S _ (fun e => hab e.symm)] at hg'
      rcases hw g hg with h1 | h1
      · exact h.xdis a b ha hb hab g h1 hg'
      · have := ((h.xs b hb).lt g hg').2; omega
    · rw [updF_ne S _ e1] at hg
      by_cases e2 : b = m
      · subst e2
        rw [updF_same] at hg'
        rcases hw g hg' with h1 | h1
        · exact h.xdis a b ha hb hab g hg h1
        · have := ((h.xs a ha).lt g hg).2; omega
      · rw [updF_ne S _ e2] at hg'
        exact h.xdis a b ha hb hab g hg hg'
/-- nothing that was there has changed -/
theorem CrewAt.below (h : CrewAt w B gc n A H L S X k) (t : Below w.heap.size w w') : CrewAt w' B gc n A H L S X k :=
  ⟨hpB h.blk t, h.gB, fun j hj => ⟨hpB (h.ld j hj).1 t, (h.ld j hj).2⟩, h.inj, fun j hj => ownBelow (h.row j hj) t, h.rdis, fun j hj => ownBelow (h.xs j hj) t, h.xdis⟩
end
end Ag
end Go.Proofs.YtbahooohkigcnaaDoor
