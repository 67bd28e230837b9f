/- Acceptors: the contracts of accept, in whole rows, and the plain law of a step, without the reference. Conditions: what lies, lies below; the tables lie. (Printed by lite.py out of AccA, AccB, AccD, AccF, AccM, AccN.) -/
import Derived.Test.YtbahooohkigcnaaDoorTxnF
import Derived.Test.YtbahooohkigcnaaDoorBal
import Derived.Test.YtbahooohkigcnaaDoorCodeReads
import Derived.Deep.MidRow
import Derived.Test.YtbahooohkigcnaaDoorAccS
import Derived.Test.YtbahooohkigcnaaDoorAccG
namespace Go.Proofs.YtbahooohkigcnaaDoor
set_option maxRecDepth 20000
open Go.RowKit T
set_option linter.unusedSimpArgs false
set_option linter.unusedVariables false

/-- what the chapter says of acceptors -/
def T.aformed (pr : Nat) (pn sl : Int) (ha : Bool) (vr : Nat) (vn : Int) (k s q : Int) (rs : List Rd1) (ws : List Wr1) (i j g : Int) (st : Nat) (y : Bool) : Bool :=
  B.formed pn && decide (1 ≤ sl ∧ sl ≤ 1000000) && (bif ha then (B.formed vn && !B.less pr pn vr vn && T.cformed k s q rs ws i j g st y)
    else (decide (vr = 0 ∧ vn = 0) && decide (k = 0 ∧ (i = 0 ∧ j = 0) ∧ g = 0 ∧ st = 0 ∧ y = false ∧ s = 0 ∧ q = 0 ∧ rs = [] ∧ ws = [])))
set_option maxHeartbeats 6400000 in
theorem aformed_any (pr : Nat) (pn sl : Int) (ha : Bool) (vr : Nat) (vn : Int) (k s q : Int) (rs : List Rd1) (ws : List Wr1) (A1 : Option Addr) (c1 : Nat) (A2 : Option Addr) (c2 : Nat) (i j g : Int) (st : Nat) (y : Bool) (w : World) (B0 : Nat) (hB : B0 ≤ w.heap.size) (ok : TxOk w B0 rs ws A1 c1 A2 c2) (hT : Tabs w) :
    Calls Tryd.prog 20 #[.agg #[.int .u32 (pr : Int), .int .i64 pn, .int .i64 sl, .bool ha, .int .u32 (vr : Int), .int .i64 vn, .int .i64 k, .int .i64 s, .int .i64 q, .slice A1 rs.length c1, .slice A2 ws.length c2, .int .i64 i, .int .i64 j, .int .i64 g, .int .u64 (st : Int), .bool y]] w fun e w' => e = .returned (.bool (T.aformed pr pn sl ha vr vn k s q rs ws i j g st y)) ∧ Below w.heap.size w w' := by
  obtain ⟨p, hp⟩ : ∃ p : Bool, p = T.aformed pr pn sl ha vr vn k s q rs ws i j g st y := ⟨_, rfl⟩
  have HP := Lib.hid hp
  rw [← hp]
  clear hp
  obtain ⟨w0, hw0⟩ : ∃ w0, w0 = w.alloc (.cells #[.int .u32 (pr : Int), .int .i64 pn, .int .i64 sl, .bool ha, .int .u32 (vr : Int), .int .i64 vn, .int .i64 k, .int .i64 s, .int .i64 q, .slice A1 rs.length c1, .slice A2 ws.length c2, .int .i64 i, .int .i64 j, .int .i64 g, .int .u64 (st : Int), .bool y] 39) := ⟨_, rfl⟩
  have g0 : Below w.heap.size w w0 := by rw [hw0]; exact (Below.refl _ _).alloc (Nat.le_refl _) _
  obtain ⟨a0, a1, a2, a3, a4, a5, a6, a7, a8, a9, a10, a11, a12, a13, a14, a15⟩ : w0.cell? ⟨w.heap.size, 0, none⟩ = some (.int .u32 (pr : Int)) ∧ w0.cell? ⟨w.heap.size, 1, none⟩ = some (.int .i64 pn) ∧ w0.cell? ⟨w.heap.size, 2, none⟩ = some (.int .i64 sl) ∧ w0.cell? ⟨w.heap.size, 3, none⟩ = some (.bool ha) ∧ w0.cell? ⟨w.heap.size, 4, none⟩ = some (.int .u32 (vr : Int)) ∧ w0.cell? ⟨w.heap.size, 5, none⟩ = some (.int .i64 vn) ∧ w0.cell? ⟨w.heap.size, 6, none⟩ = some (.int .i64 k) ∧ w0.cell? ⟨w.heap.size, 7, none⟩ = some (.int .i64 s) ∧ w0.cell? ⟨w.heap.size, 8, none⟩ = some (.int .i64 q) ∧ w0.cell? ⟨w.heap.size, 9, none⟩ = some (.slice A1 rs.length c1) ∧ w0.cell? ⟨w.heap.size, 10, none⟩ = some (.slice A2 ws.length c2) ∧ w0.cell? ⟨w.heap.size, 11, none⟩ = some (.int .i64 i) ∧ w0.cell? ⟨w.heap.size, 12, none⟩ = some (.int .i64 j) ∧ w0.cell? ⟨w.heap.size, 13, none⟩ = some (.int .i64 g) ∧ w0.cell? ⟨w.heap.size, 14, none⟩ = some (.int .u64 (st : Int)) ∧ w0.cell? ⟨w.heap.size, 15, none⟩ = some (.bool y) := by
    rw [hw0]; exact ⟨by simp, by simp, by simp, by simp, by simp, by simp, by simp, by simp, by simp, by simp, by simp, by simp, by simp, by simp, by simp, by simp⟩
  have gB := g0.size
  have HO := Lib.hid (ok.below g0 hB)
  have HT := Lib.hid (hT.below g0)
  clear hT
  have HCF := Lib.hid (fun z (hz : Below w0.heap.size w0 z) => cformed_any k s q rs ws A1 c1 A2 c2 i j g st y z B0 (by have := hz.size; omega) (HO.out.below hz (by omega)) (HT.out.below hz))
  have HCS := Lib.hid (fun z (hz : Below w0.heap.size w0 z) => csame_any k s q rs ws A1 c1 A2 c2 i j g st y 0 0 0 [] [] none 0 none 0 0 0 0 0 false z B0 (by have := hz.size; omega) (HO.out.below hz (by omega)) TxOk.zero)
  have F1 : Hid (¬ (B.formed pn = true ∧ 1 ≤ sl ∧ sl ≤ 1000000) → false = p) := by
    show _ → _; intro h; rw [HP.out]; unfold T.aformed
    cases hf : B.formed pn with
    | false => rfl
    | true => rw [show decide (1 ≤ sl ∧ sl ≤ 1000000) = false from decide_eq_false (fun h2 => h ⟨hf, h2.1, h2.2⟩)]; rfl
  have F2 : Hid (B.formed pn = true → 1 ≤ sl → sl ≤ 1000000 → ha = false → (decide (vr = 0 ∧ vn = 0) && decide (k = 0 ∧ (i = 0 ∧ j = 0) ∧ g = 0 ∧ st = 0 ∧ y = false ∧ s = 0 ∧ q = 0 ∧ rs = [] ∧ ws = [])) = p) := by
    show _ → _; intro h1 h2 h3 h4; rw [HP.out]; unfold T.aformed; rw [h1, show decide (1 ≤ sl ∧ sl ≤ 1000000) = true from decide_eq_true ⟨h2, h3⟩, h4]; rfl
  have F3 : Hid (B.formed pn = true → 1 ≤ sl → sl ≤ 1000000 → ha = true → (B.formed vn && !B.less pr pn vr vn && T.cformed k s q rs ws i j g st y) = p) := by
    show _ → _; intro h1 h2 h3 h4; rw [HP.out]; unfold T.aformed; rw [h1, show decide (1 ≤ sl ∧ sl ≤ 1000000) = true from decide_eq_true ⟨h2, h3⟩, h4]; rfl
  generalize decide (k = 0 ∧ (i = 0 ∧ j = 0) ∧ g = 0 ∧ st = 0 ∧ y = false ∧ s = 0 ∧ q = 0 ∧ rs = [] ∧ ws = []) = cz at HCS F2
  generalize T.cformed k s q rs ws i j g st y = cf at HCF F3
  simp only [List.length_nil] at HCS
  clear ok HP
  generalize rs.length = n1 at *
  generalize ws.length = n2 at *
  have HB1 := Lib.hid (fun z => bformed_any pr pn z)
  have HB2 := Lib.hid (fun z => bformed_any vr vn z)
  have HL := Lib.hid (fun z => bless_any pr pn vr vn z)
  generalize B.formed pn = b1 at *
  generalize B.formed vn = b2 at *
  generalize B.less pr pn vr vn = b3 at *
  go_enter Tryd.func20, Tryd.ntmps20
  go_upto_region 1 with fail
  rw [← hw0]
  clear hw0
  go_wp2_with fail
  refine (HB1.out w0).mono ?_
  rintro e w1 ⟨rfl, t1⟩
  clear HB1
  have a0 := cellB t1 a0
  have a1 := cellB t1 a1
  have a2 := cellB t1 a2
  have a3 := cellB t1 a3
  have a4 := cellB t1 a4
  have a5 := cellB t1 a5
  have a6 := cellB t1 a6
  have a7 := cellB t1 a7
  have a8 := cellB t1 a8
  have a9 := cellB t1 a9
  have a10 := cellB t1 a10
  have a11 := cellB t1 a11
  have a12 := cellB t1 a12
  have a13 := cellB t1 a13
  have a14 := cellB t1 a14
  have a15 := cellB t1 a15
  have e1 := g0.trans (t1.mono gB)
  have s1 := t1.size
  cases b1 with
  | false =>
    have HR := Lib.hid (F1.out fun h => Bool.noConfusion h.1)
    clear F1 F2 F3
    go_wp2_with fail
    go_ret
    exact ⟨ret_bool HR.out, e1⟩
  | true =>
    by_cases l1 : sl < 1
    · have d1 : decide (sl < 1) = true := by simpa using l1
      have HR := Lib.hid (F1.out fun h => absurd h.2.1 (by omega))
      clear F1 F2 F3
      go_wp2_with fail
      go_ret
      exact ⟨ret_bool HR.out, e1⟩
    · have d1 : decide (sl < 1) = false := by simpa using l1
      by_cases l2 : 1000000 < sl
      · have d2 : decide (1000000 < sl) = true := by simpa using l2
        have HR := Lib.hid (F1.out fun h => absurd h.2.2 (by omega))
        clear F1 F2 F3
        go_wp2_with fail
        go_ret
        exact ⟨ret_bool HR.out, e1⟩
      · have d2 : decide (1000000 < sl) = false := by simpa using l2
        cases ha with
        | false =>
          have F4 := Lib.hid (F2.out rfl (by omega) (by omega) rfl)
          clear F1 F2 F3
          have hI : ∀ z, (binOp .eql 28 (.agg #[.int .u32 (vr : Int), .int .i64 vn]) (.agg #[.int .u32 0, .int .i64 0])).run Tryd.prog z = .ok (.bool (decide (vr = 0 ∧ vn = 0))) z := fun z => B.run_eqBal vr vn 0 0 z
          cases hd : decide (vr = 0 ∧ vn = 0) with
          | false =>
            rw [hd] at hI F4
            have HR := Lib.hid (F4.out)
            clear hd F4
            go_wp2_with fail
            go_ret
            exact ⟨ret_bool HR.out, e1⟩
          | true =>
            rw [hd] at hI F4
            rw [Bool.true_and] at F4
            clear hd
            go_wp2_with fail
            refine (HCS.out w1 t1).mono ?_
            rintro e w2 ⟨rfl, t2⟩
            go_wp2_with fail
            go_ret
            exact ⟨ret_bool F4.out, e1.trans (t2.mono (by omega))⟩
        | true =>
          have F4 := Lib.hid (F3.out rfl (by omega) (by omega) rfl)
          clear F1 F2 F3
          go_wp2_with fail
          refine (HB2.out w1).mono ?_
          rintro e w2 ⟨rfl, t2⟩
          clear HB2
          have a0 := cellB t2 a0
          have a1 := cellB t2 a1
          have a2 := cellB t2 a2
          have a3 := cellB t2 a3
          have a4 := cellB t2 a4
          have a5 := cellB t2 a5
          have a6 := cellB t2 a6
          have a7 := cellB t2 a7
          have a8 := cellB t2 a8
          have a9 := cellB t2 a9
          have a10 := cellB t2 a10
          have a11 := cellB t2 a11
          have a12 := cellB t2 a12
          have a13 := cellB t2 a13
          have a14 := cellB t2 a14
          have a15 := cellB t2 a15
          have e2 := e1.trans (t2.mono (by omega))
          have s2 := t2.size
          cases b2 with
          | false =>
            have HR := Lib.hid (F4.out)
            clear F4
            go_wp2_with fail
            go_ret
            exact ⟨ret_bool HR.out, e2⟩
          | true =>
            go_wp2_with fail
            refine (HL.out w2).mono ?_
            rintro e w3 ⟨rfl, t3⟩
            clear HL
            have a0 := cellB t3 a0
            have a1 := cellB t3 a1
            have a2 := cellB t3 a2
            have a3 := cellB t3 a3
            have a4 := cellB t3 a4
            have a5 := cellB t3 a5
            have a6 := cellB t3 a6
            have a7 := cellB t3 a7
            have a8 := cellB t3 a8
            have a9 := cellB t3 a9
            have a10 := cellB t3 a10
            have a11 := cellB t3 a11
            have a12 := cellB t3 a12
            have a13 := cellB t3 a13
            have a14 := cellB t3 a14
            have a15 := cellB t3 a15
            have e3 := e2.trans (t3.mono (by omega))
            have s3 := t3.size
            cases b3 with
            | true =>
              have HR := Lib.hid (F4.out)
              clear F4
              go_wp2_with fail
              go_ret
              exact ⟨ret_bool HR.out, e3⟩
            | false =>
              go_wp2_with fail
              refine (HCF.out w3 ((t1.trans (t2.mono (by omega))).trans (t3.mono (by omega)))).mono ?_
              rintro e w4 ⟨rfl, t4⟩
              go_wp2_with fail
              go_ret
              exact ⟨ret_bool F4.out, e3.trans (t4.mono (by omega))⟩
end Go.Proofs.YtbahooohkigcnaaDoor

namespace Go.Proofs.YtbahooohkigcnaaDoor
set_option maxRecDepth 20001
open Go.RowKit T
set_option linter.unusedSimpArgs false
set_option linter.unusedVariables false

/-- may an acceptor promise a ballot? -/
def T.may (pr : Nat) (pn sl : Int) (ha : Bool) (vr : Nat) (vn : Int) (k s q : Int) (rs : List Rd1) (ws : List Wr1) (i j g : Int) (st : Nat) (y : Bool) (br : Nat) (bn : Int) : Bool :=
  T.aformed pr pn sl ha vr vn k s q rs ws i j g st y && B.formed bn && !B.less br bn pr pn
theorem heapB3 {w w' : World} {g : Nat} {o' : Obj} (h : w.heap[g]? = some o') (hb : Below w.heap.size w w') : w'.heap[g]? = some o' := (hb.block g (Array.getElem?_eq_some_iff.1 h).1).trans h
theorem heapA3 {w : World} {g : Nat} {o' : Obj} (h : w.heap[g]? = some o') (o : Obj) : (w.alloc o).heap[g]? = some o' := (Below.heap_alloc w o g (Array.getElem?_eq_some_iff.1 h).1).trans h
theorem heapS3 {w : World} {g : Nat} {o' : Obj} (h : w.heap[g]? = some o') {p : Addr} (hp : g ≠ p.block) (u : Value) : (w.setCell p u).heap[g]? = some o' := (Below.heap_setCell w p u g hp).trans h
/-- a whole row is a range -/
theorem rangeOf {w : World} {g : Nat} {cs : List Value} {t : TypeId} (h : w.heap[g]? = some (.cells cs.toArray t (0, 0))) : w.rangeAt g 0 cs := fun j v hj => by
  rw [Nat.zero_add, cellAt h]; simpa using hj
theorem belowRow {B : Nat} {a w : World} (h : Below B a w) {g : Nat} {old cs : Array Value} {t : TypeId} (hg : w.heap[g]? = some (.cells old t (0, 0))) (hB : B ≤ g) : Below B a (w.setRow g cs) :=
  ⟨h.os, h.tape, h.output, by rw [setRow_size]; exact h.size, fun i hi => (setRow_other w g i cs (by omega)).trans (h.block i hi)⟩
theorem info16 : (Tryd.prog.info? 39).map (·.size) = some 16 := by kernel_rfl
set_option maxRecDepth 20000 in
set_option maxHeartbeats 6400000 in
theorem prep_no (pr : Nat) (pn sl : Int) (ha : Bool) (vr : Nat) (vn : Int) (k s q : Int) (rs : List Rd1) (ws : List Wr1) (A1 : Option Addr) (c1 : Nat) (A2 : Option Addr) (c2 : Nat) (i j g : Int) (st : Nat) (y : Bool) (br : Nat) (bn : Int) (w : World) (B0 : Nat) (hB : B0 ≤ w.heap.size) (ok : TxOk w B0 rs ws A1 c1 A2 c2) (hT : Tabs w) (hm : T.may pr pn sl ha vr vn k s q rs ws i j g st y br bn = false) :
    Calls Tryd.prog 65 #[.agg #[.int .u32 (pr : Int), .int .i64 pn, .int .i64 sl, .bool ha, .int .u32 (vr : Int), .int .i64 vn, .int .i64 k, .int .i64 s, .int .i64 q, .slice A1 rs.length c1, .slice A2 ws.length c2, .int .i64 i, .int .i64 j, .int .i64 g, .int .u64 (st : Int), .bool y], .agg #[.int .u32 (br : Int), .int .i64 bn]] w fun e w' => e = .returned (.tuple #[.agg #[.int .u32 (pr : Int), .int .i64 pn, .int .i64 sl, .bool ha, .int .u32 (vr : Int), .int .i64 vn, .int .i64 k, .int .i64 s, .int .i64 q, .slice A1 rs.length c1, .slice A2 ws.length c2, .int .i64 i, .int .i64 j, .int .i64 g, .int .u64 (st : Int), .bool y], .bool false]) ∧ Below w.heap.size w w' := by
  obtain ⟨w0, hw0⟩ : ∃ w0, w0 = ((w.alloc (.cells #[.int .u32 (pr : Int), .int .i64 pn, .int .i64 sl, .bool ha, .int .u32 (vr : Int), .int .i64 vn, .int .i64 k, .int .i64 s, .int .i64 q, .slice A1 rs.length c1, .slice A2 ws.length c2, .int .i64 i, .int .i64 j, .int .i64 g, .int .u64 (st : Int), .bool y] 39)).alloc (.cells #[.int .u32 (br : Int), .int .i64 bn] 28)).alloc (.cells #[.int .u32 0, .int .i64 0, .int .i64 0, .bool false, .int .u32 0, .int .i64 0, .int .i64 0, .int .i64 0, .int .i64 0, .slice none 0 0, .slice none 0 0, .int .i64 0, .int .i64 0, .int .i64 0, .int .u64 0, .bool false] 39) := ⟨_, rfl⟩
  have g0 : Below w.heap.size w w0 := by rw [hw0]; exact (((Below.refl _ _).alloc (Nat.le_refl _) _).alloc (by simp) _).alloc (by simp; omega) _
  have Za : w0.heap[w.heap.size]? = some (.cells #[.int .u32 (pr : Int), .int .i64 pn, .int .i64 sl, .bool ha, .int .u32 (vr : Int), .int .i64 vn, .int .i64 k, .int .i64 s, .int .i64 q, .slice A1 rs.length c1, .slice A2 ws.length c2, .int .i64 i, .int .i64 j, .int .i64 g, .int .u64 (st : Int), .bool y] 39) := by rw [hw0]; exact heapA3 (heapA3 (heap_alloc_new w _) _) _
  have Zb : w0.heap[w.heap.size + 1]? = some (.cells #[.int .u32 (br : Int), .int .i64 bn] 28) := by
    rw [hw0]; refine heapA3 ?_ _
    have := heap_alloc_new (w.alloc (.cells #[.int .u32 (pr : Int), .int .i64 pn, .int .i64 sl, .bool ha, .int .u32 (vr : Int), .int .i64 vn, .int .i64 k, .int .i64 s, .int .i64 q, .slice A1 rs.length c1, .slice A2 ws.length c2, .int .i64 i, .int .i64 j, .int .i64 g, .int .u64 (st : Int), .bool y] 39)) (.cells #[.int .u32 (br : Int), .int .i64 bn] 28)
    simpa using this
  have Zr : w0.heap[w.heap.size + 2]? = some (.cells #[.int .u32 0, .int .i64 0, .int .i64 0, .bool false, .int .u32 0, .int .i64 0, .int .i64 0, .int .i64 0, .int .i64 0, .slice none 0 0, .slice none 0 0, .int .i64 0, .int .i64 0, .int .i64 0, .int .u64 0, .bool false] 39) := by
    rw [hw0]
    have := heap_alloc_new ((w.alloc (.cells #[.int .u32 (pr : Int), .int .i64 pn, .int .i64 sl, .bool ha, .int .u32 (vr : Int), .int .i64 vn, .int .i64 k, .int .i64 s, .int .i64 q, .slice A1 rs.length c1, .slice A2 ws.length c2, .int .i64 i, .int .i64 j, .int .i64 g, .int .u64 (st : Int), .bool y] 39)).alloc (.cells #[.int .u32 (br : Int), .int .i64 bn] 28)) (.cells #[.int .u32 0, .int .i64 0, .int .i64 0, .bool false, .int .u32 0, .int .i64 0, .int .i64 0, .int .i64 0, .int .i64 0, .slice none 0 0, .slice none 0 0, .int .i64 0, .int .i64 0, .int .i64 0, .int .u64 0, .bool false] 39)
    simpa using this
  have gB := g0.size
  have HA := Lib.hid (aformed_any pr pn sl ha vr vn k s q rs ws A1 c1 A2 c2 i j g st y w0 B0 (by omega) (ok.below g0 hB) (hT.below g0))
  have HF := Lib.hid (fun z => bformed_any br bn z)
  have HL := Lib.hid (fun z => bless_any br bn pr pn z)
  have HM : Hid ((T.aformed pr pn sl ha vr vn k s q rs ws i j g st y && B.formed bn && !B.less br bn pr pn) = false) := hm
  generalize T.aformed pr pn sl ha vr vn k s q rs ws i j g st y = m1 at HA HM
  generalize B.formed bn = m2 at HF HM
  generalize B.less br bn pr pn = m3 at HL HM
  clear ok hT hm
  generalize rs.length = n1 at *
  generalize ws.length = n2 at *
  go_enter Tryd.func65, Tryd.ntmps65
  go_upto_region 1 with fail
  rw [← hw0]
  clear hw0
  go_cut [19] (fun u wx => u = .bool true ∧ Hid (wx.heap[w.heap.size]? = some (.cells #[.int .u32 (pr : Int), .int .i64 pn, .int .i64 sl, .bool ha, .int .u32 (vr : Int), .int .i64 vn, .int .i64 k, .int .i64 s, .int .i64 q, .slice A1 n1 c1, .slice A2 n2 c2, .int .i64 i, .int .i64 j, .int .i64 g, .int .u64 (st : Int), .bool y] 39)) ∧ Hid (wx.heap[w.heap.size + 1]? = some (.cells #[.int .u32 (br : Int), .int .i64 bn] 28)) ∧ Hid (wx.heap[w.heap.size + 2]? = some (.cells #[.int .u32 0, .int .i64 0, .int .i64 0, .bool false, .int .u32 0, .int .i64 0, .int .i64 0, .int .i64 0, .int .i64 0, .slice none 0 0, .slice none 0 0, .int .i64 0, .int .i64 0, .int .i64 0, .int .u64 0, .bool false] 39)) ∧ Hid (Below w.heap.size w wx))
  case first =>
    have a0 := cellAt Za 0
    have a1 := cellAt Za 1
    have a2 := cellAt Za 2
    have a3 := cellAt Za 3
    have a4 := cellAt Za 4
    have a5 := cellAt Za 5
    have a6 := cellAt Za 6
    have a7 := cellAt Za 7
    have a8 := cellAt Za 8
    have a9 := cellAt Za 9
    have a10 := cellAt Za 10
    have a11 := cellAt Za 11
    have a12 := cellAt Za 12
    have a13 := cellAt Za 13
    have a14 := cellAt Za 14
    have a15 := cellAt Za 15
    simp only [List.getElem?_toArray, List.getElem?_cons_zero, List.getElem?_cons_succ] at a0 a1 a2 a3 a4 a5 a6 a7 a8 a9 a10 a11 a12 a13 a14 a15
    have b0 := cellAt Zb 0
    have b1 := cellAt Zb 1
    simp only [List.getElem?_toArray, List.getElem?_cons_zero, List.getElem?_cons_succ] at b0 b1
    go_wp2_with fail
    refine HA.out.mono ?_
    rintro e w1 ⟨rfl, t1⟩
    have a0 := cellB t1 a0
    have a1 := cellB t1 a1
    have a2 := cellB t1 a2
    have a3 := cellB t1 a3
    have a4 := cellB t1 a4
    have a5 := cellB t1 a5
    have a6 := cellB t1 a6
    have a7 := cellB t1 a7
    have a8 := cellB t1 a8
    have a9 := cellB t1 a9
    have a10 := cellB t1 a10
    have a11 := cellB t1 a11
    have a12 := cellB t1 a12
    have a13 := cellB t1 a13
    have a14 := cellB t1 a14
    have a15 := cellB t1 a15
    have b0 := cellB t1 b0
    have b1 := cellB t1 b1
    have e1 := g0.trans (t1.mono gB)
    have s1 := t1.size
    cases m1 with
    | false =>
      go_wp2_with fail
      go_meet
      exact ⟨rfl, heapB3 Za t1, heapB3 Zb t1, heapB3 Zr t1, e1⟩
    | true =>
      go_wp2_with fail
      refine (HF.out w1).mono ?_
      rintro e w2 ⟨rfl, t2⟩
      have a0 := cellB t2 a0
      have a1 := cellB t2 a1
      have a2 := cellB t2 a2
      have a3 := cellB t2 a3
      have a4 := cellB t2 a4
      have a5 := cellB t2 a5
      have a6 := cellB t2 a6
      have a7 := cellB t2 a7
      have a8 := cellB t2 a8
      have a9 := cellB t2 a9
      have a10 := cellB t2 a10
      have a11 := cellB t2 a11
      have a12 := cellB t2 a12
      have a13 := cellB t2 a13
      have a14 := cellB t2 a14
      have a15 := cellB t2 a15
      have b0 := cellB t2 b0
      have b1 := cellB t2 b1
      have e2 := e1.trans (t2.mono (by omega))
      have s2 := t2.size
      cases m2 with
      | false =>
        go_wp2_with fail
        go_meet
        exact ⟨rfl, heapB3 (heapB3 Za t1) t2, heapB3 (heapB3 Zb t1) t2, heapB3 (heapB3 Zr t1) t2, e2⟩
      | true =>
        have h3 : m3 = true := by have := HM.out; simpa using this
        subst h3
        go_wp2_with fail
        refine (HL.out w2).mono ?_
        rintro e w3 ⟨rfl, t3⟩
        have e3 := e2.trans (t3.mono (by omega))
        go_wp2_with fail
        go_meet
        exact ⟨rfl, heapB3 (heapB3 (heapB3 Za t1) t2) t3, heapB3 (heapB3 (heapB3 Zb t1) t2) t3, heapB3 (heapB3 (heapB3 Zr t1) t2) t3, e3⟩
  case rest =>
    obtain ⟨rfl, Za, Zb, Zr, e1⟩ := hcut
    have nm : ∀ z : World, Below w.heap.size w z → ∃ z', z' = z := fun z _ => ⟨z, rfl⟩
    obtain ⟨wx, hwx⟩ := nm _ e1.out
    subst hwx
    clear nm g0 gB HA HF HL HM
    have Za := Za.out
    have Zb := Zb.out
    have Zr := Zr.out
    have e1 := e1.out
    go_upto_region 2 with fail
    refine wp_region_lit ?_
    refine wpList_load_mid rfl 39 _ rfl w.heap.size 0 rfl [.int .u32 (pr : Int), .int .i64 pn, .int .i64 sl, .bool ha, .int .u32 (vr : Int), .int .i64 vn, .int .i64 k, .int .i64 s, .int .i64 q, .slice A1 n1 c1, .slice A2 n2 c2, .int .i64 i, .int .i64 j, .int .i64 g, .int .u64 (st : Int), .bool y] _ (rangeOf Za) Tryd.underlying39 rfl info16 ?_
    refine wpList_store_row rfl 39 _ _ rfl (w.heap.size + 2) #[.int .u32 (pr : Int), .int .i64 pn, .int .i64 sl, .bool ha, .int .u32 (vr : Int), .int .i64 vn, .int .i64 k, .int .i64 s, .int .i64 q, .slice A1 n1 c1, .slice A2 n2 c2, .int .i64 i, .int .i64 j, .int .i64 g, .int .u64 (st : Int), .bool y] rfl rfl 39 _ Zr info16 rfl (by simp [Value.oneCell']) ?_
    have Zf := setRow_heap wx (w.heap.size + 2) _ #[.int .u32 (pr : Int), .int .i64 pn, .int .i64 sl, .bool ha, .int .u32 (vr : Int), .int .i64 vn, .int .i64 k, .int .i64 s, .int .i64 q, .slice A1 n1 c1, .slice A2 n2 c2, .int .i64 i, .int .i64 j, .int .i64 g, .int .u64 (st : Int), .bool y] _ _ Zr
    have BZ : Below w.heap.size w (wx.setRow (w.heap.size + 2) #[.int .u32 (pr : Int), .int .i64 pn, .int .i64 sl, .bool ha, .int .u32 (vr : Int), .int .i64 vn, .int .i64 k, .int .i64 s, .int .i64 q, .slice A1 n1 c1, .slice A2 n2 c2, .int .i64 i, .int .i64 j, .int .i64 g, .int .u64 (st : Int), .bool y]) := belowRow e1 Zr (by omega)
    clear Za Zr
    generalize wx.setRow (w.heap.size + 2) #[.int .u32 (pr : Int), .int .i64 pn, .int .i64 sl, .bool ha, .int .u32 (vr : Int), .int .i64 vn, .int .i64 k, .int .i64 s, .int .i64 q, .slice A1 n1 c1, .slice A2 n2 c2, .int .i64 i, .int .i64 j, .int .i64 g, .int .u64 (st : Int), .bool y] = wz at Zf BZ ⊢
    have r0 := cellAt Zf 0
    have r1 := cellAt Zf 1
    have r2 := cellAt Zf 2
    have r3 := cellAt Zf 3
    have r4 := cellAt Zf 4
    have r5 := cellAt Zf 5
    have r6 := cellAt Zf 6
    have r7 := cellAt Zf 7
    have r8 := cellAt Zf 8
    have r9 := cellAt Zf 9
    have r10 := cellAt Zf 10
    have r11 := cellAt Zf 11
    have r12 := cellAt Zf 12
    have r13 := cellAt Zf 13
    have r14 := cellAt Zf 14
    have r15 := cellAt Zf 15
    simp only [List.getElem?_toArray, List.getElem?_cons_zero, List.getElem?_cons_succ] at r0 r1 r2 r3 r4 r5 r6 r7 r8 r9 r10 r11 r12 r13 r14 r15
    go_wp2_with fail
    refine bodyPost_ret (v := .tuple #[.agg #[.int .u32 (pr : Int), .int .i64 pn, .int .i64 sl, .bool ha, .int .u32 (vr : Int), .int .i64 vn, .int .i64 k, .int .i64 s, .int .i64 q, .slice A1 n1 c1, .slice A2 n2 c2, .int .i64 i, .int .i64 j, .int .i64 g, .int .u64 (st : Int), .bool y], .bool false]) (by simp [results, Tryd.results65, go_sem, r0, r1, r2, r3, r4, r5, r6, r7, r8, r9, r10, r11, r12, r13, r14, r15]) rfl ⟨rfl, BZ⟩
set_option maxRecDepth 20000 in
set_option maxHeartbeats 6400000 in
theorem prep_yes (pr : Nat) (pn sl : Int) (ha : Bool) (vr : Nat) (vn : Int) (k s q : Int) (rs : List Rd1) (ws : List Wr1) (A1 : Option Addr) (c1 : Nat) (A2 : Option Addr) (c2 : Nat) (i j g : Int) (st : Nat) (y : Bool) (br : Nat) (bn : Int) (w : World) (B0 : Nat) (hB : B0 ≤ w.heap.size) (ok : TxOk w B0 rs ws A1 c1 A2 c2) (hT : Tabs w) (hm : T.may pr pn sl ha vr vn k s q rs ws i j g st y br bn = true) :
    Calls Tryd.prog 65 #[.agg #[.int .u32 (pr : Int), .int .i64 pn, .int .i64 sl, .bool ha, .int .u32 (vr : Int), .int .i64 vn, .int .i64 k, .int .i64 s, .int .i64 q, .slice A1 rs.length c1, .slice A2 ws.length c2, .int .i64 i, .int .i64 j, .int .i64 g, .int .u64 (st : Int), .bool y], .agg #[.int .u32 (br : Int), .int .i64 bn]] w fun e w' => e = .returned (.tuple #[.agg #[.int .u32 (br : Int), .int .i64 bn, .int .i64 sl, .bool ha, .int .u32 (vr : Int), .int .i64 vn, .int .i64 k, .int .i64 s, .int .i64 q, .slice A1 rs.length c1, .slice A2 ws.length c2, .int .i64 i, .int .i64 j, .int .i64 g, .int .u64 (st : Int), .bool y], .bool true]) ∧ Below w.heap.size w w' := by
  obtain ⟨w0, hw0⟩ : ∃ w0, w0 = ((w.alloc (.cells #[.int .u32 (pr : Int), .int .i64 pn, .int .i64 sl, .bool ha, .int .u32 (vr : Int), .int .i64 vn, .int .i64 k, .int .i64 s, .int .i64 q, .slice A1 rs.length c1, .slice A2 ws.length c2, .int .i64 i, .int .i64 j, .int .i64 g, .int .u64 (st : Int), .bool y] 39)).alloc (.cells #[.int .u32 (br : Int), .int .i64 bn] 28)).alloc (.cells #[.int .u32 0, .int .i64 0, .int .i64 0, .bool false, .int .u32 0, .int .i64 0, .int .i64 0, .int .i64 0, .int .i64 0, .slice none 0 0, .slice none 0 0, .int .i64 0, .int .i64 0, .int .i64 0, .int .u64 0, .bool false] 39) := ⟨_, rfl⟩
  have g0 : Below w.heap.size w w0 := by rw [hw0]; exact (((Below.refl _ _).alloc (Nat.le_refl _) _).alloc (by simp) _).alloc (by simp; omega) _
  have Za : w0.heap[w.heap.size]? = some (.cells #[.int .u32 (pr : Int), .int .i64 pn, .int .i64 sl, .bool ha, .int .u32 (vr : Int), .int .i64 vn, .int .i64 k, .int .i64 s, .int .i64 q, .slice A1 rs.length c1, .slice A2 ws.length c2, .int .i64 i, .int .i64 j, .int .i64 g, .int .u64 (st : Int), .bool y] 39) := by rw [hw0]; exact heapA3 (heapA3 (heap_alloc_new w _) _) _
  have Zb : w0.heap[w.heap.size + 1]? = some (.cells #[.int .u32 (br : Int), .int .i64 bn] 28) := by
    rw [hw0]; refine heapA3 ?_ _
    have := heap_alloc_new (w.alloc (.cells #[.int .u32 (pr : Int), .int .i64 pn, .int .i64 sl, .bool ha, .int .u32 (vr : Int), .int .i64 vn, .int .i64 k, .int .i64 s, .int .i64 q, .slice A1 rs.length c1, .slice A2 ws.length c2, .int .i64 i, .int .i64 j, .int .i64 g, .int .u64 (st : Int), .bool y] 39)) (.cells #[.int .u32 (br : Int), .int .i64 bn] 28)
    simpa using this
  have Zr : w0.heap[w.heap.size + 2]? = some (.cells #[.int .u32 0, .int .i64 0, .int .i64 0, .bool false, .int .u32 0, .int .i64 0, .int .i64 0, .int .i64 0, .int .i64 0, .slice none 0 0, .slice none 0 0, .int .i64 0, .int .i64 0, .int .i64 0, .int .u64 0, .bool false] 39) := by
    rw [hw0]
    have := heap_alloc_new ((w.alloc (.cells #[.int .u32 (pr : Int), .int .i64 pn, .int .i64 sl, .bool ha, .int .u32 (vr : Int), .int .i64 vn, .int .i64 k, .int .i64 s, .int .i64 q, .slice A1 rs.length c1, .slice A2 ws.length c2, .int .i64 i, .int .i64 j, .int .i64 g, .int .u64 (st : Int), .bool y] 39)).alloc (.cells #[.int .u32 (br : Int), .int .i64 bn] 28)) (.cells #[.int .u32 0, .int .i64 0, .int .i64 0, .bool false, .int .u32 0, .int .i64 0, .int .i64 0, .int .i64 0, .int .i64 0, .slice none 0 0, .slice none 0 0, .int .i64 0, .int .i64 0, .int .i64 0, .int .u64 0, .bool false] 39)
    simpa using this
  have gB := g0.size
  have HA := Lib.hid (aformed_any pr pn sl ha vr vn k s q rs ws A1 c1 A2 c2 i j g st y w0 B0 (by omega) (ok.below g0 hB) (hT.below g0))
  have HF := Lib.hid (fun z => bformed_any br bn z)
  have HL := Lib.hid (fun z => bless_any br bn pr pn z)
  have HM : Hid ((T.aformed pr pn sl ha vr vn k s q rs ws i j g st y && B.formed bn && !B.less br bn pr pn) = true) := hm
  generalize T.aformed pr pn sl ha vr vn k s q rs ws i j g st y = m1 at HA HM
  generalize B.formed bn = m2 at HF HM
  generalize B.less br bn pr pn = m3 at HL HM
  clear ok hT hm
  generalize rs.length = n1 at *
  generalize ws.length = n2 at *
  go_enter Tryd.func65, Tryd.ntmps65
  go_upto_region 1 with fail
  rw [← hw0]
  clear hw0
  go_cut [19] (fun u wx => u = .bool false ∧ Hid (wx.heap[w.heap.size]? = some (.cells #[.int .u32 (pr : Int), .int .i64 pn, .int .i64 sl, .bool ha, .int .u32 (vr : Int), .int .i64 vn, .int .i64 k, .int .i64 s, .int .i64 q, .slice A1 n1 c1, .slice A2 n2 c2, .int .i64 i, .int .i64 j, .int .i64 g, .int .u64 (st : Int), .bool y] 39)) ∧ Hid (wx.heap[w.heap.size + 1]? = some (.cells #[.int .u32 (br : Int), .int .i64 bn] 28)) ∧ Hid (wx.heap[w.heap.size + 2]? = some (.cells #[.int .u32 0, .int .i64 0, .int .i64 0, .bool false, .int .u32 0, .int .i64 0, .int .i64 0, .int .i64 0, .int .i64 0, .slice none 0 0, .slice none 0 0, .int .i64 0, .int .i64 0, .int .i64 0, .int .u64 0, .bool false] 39)) ∧ Hid (Below w.heap.size w wx))
  case first =>
    have a0 := cellAt Za 0
    have a1 := cellAt Za 1
    have a2 := cellAt Za 2
    have a3 := cellAt Za 3
    have a4 := cellAt Za 4
    have a5 := cellAt Za 5
    have a6 := cellAt Za 6
    have a7 := cellAt Za 7
    have a8 := cellAt Za 8
    have a9 := cellAt Za 9
    have a10 := cellAt Za 10
    have a11 := cellAt Za 11
    have a12 := cellAt Za 12
    have a13 := cellAt Za 13
    have a14 := cellAt Za 14
    have a15 := cellAt Za 15
    simp only [List.getElem?_toArray, List.getElem?_cons_zero, List.getElem?_cons_succ] at a0 a1 a2 a3 a4 a5 a6 a7 a8 a9 a10 a11 a12 a13 a14 a15
    have b0 := cellAt Zb 0
    have b1 := cellAt Zb 1
    simp only [List.getElem?_toArray, List.getElem?_cons_zero, List.getElem?_cons_succ] at b0 b1
    go_wp2_with fail
    refine HA.out.mono ?_
    rintro e w1 ⟨rfl, t1⟩
    have a0 := cellB t1 a0
    have a1 := cellB t1 a1
    have a2 := cellB t1 a2
    have a3 := cellB t1 a3
    have a4 := cellB t1 a4
    have a5 := cellB t1 a5
    have a6 := cellB t1 a6
    have a7 := cellB t1 a7
    have a8 := cellB t1 a8
    have a9 := cellB t1 a9
    have a10 := cellB t1 a10
    have a11 := cellB t1 a11
    have a12 := cellB t1 a12
    have a13 := cellB t1 a13
    have a14 := cellB t1 a14
    have a15 := cellB t1 a15
    have b0 := cellB t1 b0
    have b1 := cellB t1 b1
    have e1 := g0.trans (t1.mono gB)
    have s1 := t1.size
    have h1 : m1 = true ∧ m2 = true ∧ m3 = false := by have := HM.out; cases m1 <;> cases m2 <;> cases m3 <;> simp_all
    obtain ⟨rfl, rfl, rfl⟩ := h1
    go_wp2_with fail
    refine (HF.out w1).mono ?_
    rintro e w2 ⟨rfl, t2⟩
    have a0 := cellB t2 a0
    have a1 := cellB t2 a1
    have a2 := cellB t2 a2
    have a3 := cellB t2 a3
    have a4 := cellB t2 a4
    have a5 := cellB t2 a5
    have a6 := cellB t2 a6
    have a7 := cellB t2 a7
    have a8 := cellB t2 a8
    have a9 := cellB t2 a9
    have a10 := cellB t2 a10
    have a11 := cellB t2 a11
    have a12 := cellB t2 a12
    have a13 := cellB t2 a13
    have a14 := cellB t2 a14
    have a15 := cellB t2 a15
    have b0 := cellB t2 b0
    have b1 := cellB t2 b1
    have e2 := e1.trans (t2.mono (by omega))
    have s2 := t2.size
    go_wp2_with fail
    refine (HL.out w2).mono ?_
    rintro e w3 ⟨rfl, t3⟩
    have e3 := e2.trans (t3.mono (by omega))
    go_wp2_with fail
    go_meet
    exact ⟨rfl, heapB3 (heapB3 (heapB3 Za t1) t2) t3, heapB3 (heapB3 (heapB3 Zb t1) t2) t3, heapB3 (heapB3 (heapB3 Zr t1) t2) t3, e3⟩
  case rest =>
    obtain ⟨rfl, Za, Zb, Zr, e1⟩ := hcut
    have nm : ∀ z : World, Below w.heap.size w z → ∃ z', z' = z := fun z _ => ⟨z, rfl⟩
    obtain ⟨wx, hwx⟩ := nm _ e1.out
    subst hwx
    clear nm g0 gB HA HF HL HM
    have Za := Za.out
    have Zb := Zb.out
    have Zr := Zr.out
    have e1 := e1.out
    have a0 := cellAt Za 0
    have a1 := cellAt Za 1
    have u0 := freeAt Za 0
    have u1 := freeAt Za 1
    have b0 := cellAt Zb 0
    have b1 := cellAt Zb 1
    simp only [List.getElem?_toArray, List.getElem?_cons_zero, List.getElem?_cons_succ] at a0 a1 b0 b1
    go_upto_region 4 with fail
    have Za := setAt Za 0 (.int .u32 (br : Int))
    simp only [List.setIfInBounds_toArray, List.set_cons_succ, List.set_cons_zero] at Za
    have Za := setAt Za 1 (.int .i64 bn)
    simp only [List.setIfInBounds_toArray, List.set_cons_succ, List.set_cons_zero] at Za
    have Zr := heapS3 (heapS3 Zr (p := ⟨w.heap.size, 0, none⟩) (by simp) (.int .u32 (br : Int))) (p := ⟨w.heap.size, 1, none⟩) (by simp) (.int .i64 bn)
    have e1 := Below.setCell (p := ⟨w.heap.size, 1, none⟩) (Below.setCell (p := ⟨w.heap.size, 0, none⟩) e1 (by simp) (.int .u32 (br : Int))) (by simp) (.int .i64 bn)
    clear a0 a1 u0 u1 b0 b1 Zb
    generalize (wx.setCell ⟨w.heap.size, 0, none⟩ (.int .u32 (br : Int))).setCell ⟨w.heap.size, 1, none⟩ (.int .i64 bn) = wy at Za Zr e1 ⊢
    go_upto_region 4 with fail
    refine wp_region_lit ?_
    refine wpList_load_mid rfl 39 _ rfl w.heap.size 0 rfl [.int .u32 (br : Int), .int .i64 bn, .int .i64 sl, .bool ha, .int .u32 (vr : Int), .int .i64 vn, .int .i64 k, .int .i64 s, .int .i64 q, .slice A1 n1 c1, .slice A2 n2 c2, .int .i64 i, .int .i64 j, .int .i64 g, .int .u64 (st : Int), .bool y] _ (rangeOf Za) Tryd.underlying39 rfl info16 ?_
    refine wpList_store_row rfl 39 _ _ rfl (w.heap.size + 2) #[.int .u32 (br : Int), .int .i64 bn, .int .i64 sl, .bool ha, .int .u32 (vr : Int), .int .i64 vn, .int .i64 k, .int .i64 s, .int .i64 q, .slice A1 n1 c1, .slice A2 n2 c2, .int .i64 i, .int .i64 j, .int .i64 g, .int .u64 (st : Int), .bool y] rfl rfl 39 _ Zr info16 rfl (by simp [Value.oneCell']) ?_
    have Zf := setRow_heap wy (w.heap.size + 2) _ #[.int .u32 (br : Int), .int .i64 bn, .int .i64 sl, .bool ha, .int .u32 (vr : Int), .int .i64 vn, .int .i64 k, .int .i64 s, .int .i64 q, .slice A1 n1 c1, .slice A2 n2 c2, .int .i64 i, .int .i64 j, .int .i64 g, .int .u64 (st : Int), .bool y] _ _ Zr
    have BZ : Below w.heap.size w (wy.setRow (w.heap.size + 2) #[.int .u32 (br : Int), .int .i64 bn, .int .i64 sl, .bool ha, .int .u32 (vr : Int), .int .i64 vn, .int .i64 k, .int .i64 s, .int .i64 q, .slice A1 n1 c1, .slice A2 n2 c2, .int .i64 i, .int .i64 j, .int .i64 g, .int .u64 (st : Int), .bool y]) := belowRow e1 Zr (by omega)
    clear Za Zr
    generalize wy.setRow (w.heap.size + 2) #[.int .u32 (br : Int), .int .i64 bn, .int .i64 sl, .bool ha, .int .u32 (vr : Int), .int .i64 vn, .int .i64 k, .int .i64 s, .int .i64 q, .slice A1 n1 c1, .slice A2 n2 c2, .int .i64 i, .int .i64 j, .int .i64 g, .int .u64 (st : Int), .bool y] = wz at Zf BZ ⊢
    have r0 := cellAt Zf 0
    have r1 := cellAt Zf 1
    have r2 := cellAt Zf 2
    have r3 := cellAt Zf 3
    have r4 := cellAt Zf 4
    have r5 := cellAt Zf 5
    have r6 := cellAt Zf 6
    have r7 := cellAt Zf 7
    have r8 := cellAt Zf 8
    have r9 := cellAt Zf 9
    have r10 := cellAt Zf 10
    have r11 := cellAt Zf 11
    have r12 := cellAt Zf 12
    have r13 := cellAt Zf 13
    have r14 := cellAt Zf 14
    have r15 := cellAt Zf 15
    simp only [List.getElem?_toArray, List.getElem?_cons_zero, List.getElem?_cons_succ] at r0 r1 r2 r3 r4 r5 r6 r7 r8 r9 r10 r11 r12 r13 r14 r15
    go_wp2_with fail
    refine bodyPost_ret (v := .tuple #[.agg #[.int .u32 (br : Int), .int .i64 bn, .int .i64 sl, .bool ha, .int .u32 (vr : Int), .int .i64 vn, .int .i64 k, .int .i64 s, .int .i64 q, .slice A1 n1 c1, .slice A2 n2 c2, .int .i64 i, .int .i64 j, .int .i64 g, .int .u64 (st : Int), .bool y], .bool true]) (by simp [results, Tryd.results65, go_sem, r0, r1, r2, r3, r4, r5, r6, r7, r8, r9, r10, r11, r12, r13, r14, r15]) rfl ⟨rfl, BZ⟩
end Go.Proofs.YtbahooohkigcnaaDoor

namespace Go.Proofs.YtbahooohkigcnaaDoor
set_option maxRecDepth 20001
open Go.RowKit T
set_option linter.unusedSimpArgs false
set_option linter.unusedVariables false

theorem info16l : (Tryd.prog.info? 43).map (·.size) = some 16 := by kernel_rfl
/-- does an acceptor learn in a slot? -/
def T.learns (pr : Nat) (pn sl : Int) (ha : Bool) (vr : Nat) (vn : Int) (k s q : Int) (rs : List Rd1) (ws : List Wr1) (i j g : Int) (st : Nat) (y : Bool) (sn : Int) : Bool :=
  T.aformed pr pn sl ha vr vn k s q rs ws i j g st y && decide (sn = sl) && decide (sn ≠ 1000000)
theorem T.aformed_slot {pr : Nat} {pn sl : Int} {ha : Bool} {vr : Nat} {vn : Int} {k s q : Int} {rs : List Rd1} {ws : List Wr1} {i j g : Int} {st : Nat} {y : Bool} (h : T.aformed pr pn sl ha vr vn k s q rs ws i j g st y = true) : 1 ≤ sl ∧ sl ≤ 1000000 := by
  unfold T.aformed at h
  rw [Bool.and_eq_true, Bool.and_eq_true] at h
  exact of_decide_eq_true h.1.2
set_option maxRecDepth 20000 in
set_option maxHeartbeats 6400000 in
theorem learn_no (pr : Nat) (pn sl : Int) (ha : Bool) (vr : Nat) (vn : Int) (k s q : Int) (rs : List Rd1) (ws : List Wr1) (A1 : Option Addr) (c1 : Nat) (A2 : Option Addr) (c2 : Nat) (i j g : Int) (st : Nat) (y : Bool) (sn : Int) (w : World) (B0 : Nat) (hB : B0 ≤ w.heap.size) (ok : TxOk w B0 rs ws A1 c1 A2 c2) (hT : Tabs w) (hm : T.learns pr pn sl ha vr vn k s q rs ws i j g st y sn = false) :
    Calls Tryd.prog 68 #[.agg #[.int .u32 (pr : Int), .int .i64 pn, .int .i64 sl, .bool ha, .int .u32 (vr : Int), .int .i64 vn, .int .i64 k, .int .i64 s, .int .i64 q, .slice A1 rs.length c1, .slice A2 ws.length c2, .int .i64 i, .int .i64 j, .int .i64 g, .int .u64 (st : Int), .bool y], .int .i64 sn] w fun e w' => e = .returned (.tuple #[.agg #[.int .u32 (pr : Int), .int .i64 pn, .int .i64 sl, .bool ha, .int .u32 (vr : Int), .int .i64 vn, .int .i64 k, .int .i64 s, .int .i64 q, .slice A1 rs.length c1, .slice A2 ws.length c2, .int .i64 i, .int .i64 j, .int .i64 g, .int .u64 (st : Int), .bool y], .bool false]) ∧ Below w.heap.size w w' := by
  obtain ⟨w0, hw0⟩ : ∃ w0, w0 = (w.alloc (.cells #[.int .u32 (pr : Int), .int .i64 pn, .int .i64 sl, .bool ha, .int .u32 (vr : Int), .int .i64 vn, .int .i64 k, .int .i64 s, .int .i64 q, .slice A1 rs.length c1, .slice A2 ws.length c2, .int .i64 i, .int .i64 j, .int .i64 g, .int .u64 (st : Int), .bool y] 39)).alloc (.cells #[.int .u32 0, .int .i64 0, .int .i64 0, .bool false, .int .u32 0, .int .i64 0, .int .i64 0, .int .i64 0, .int .i64 0, .slice none 0 0, .slice none 0 0, .int .i64 0, .int .i64 0, .int .i64 0, .int .u64 0, .bool false] 39) := ⟨_, rfl⟩
  have g0 : Below w.heap.size w w0 := by rw [hw0]; exact ((Below.refl _ _).alloc (Nat.le_refl _) _).alloc (by simp) _
  have Za : w0.heap[w.heap.size]? = some (.cells #[.int .u32 (pr : Int), .int .i64 pn, .int .i64 sl, .bool ha, .int .u32 (vr : Int), .int .i64 vn, .int .i64 k, .int .i64 s, .int .i64 q, .slice A1 rs.length c1, .slice A2 ws.length c2, .int .i64 i, .int .i64 j, .int .i64 g, .int .u64 (st : Int), .bool y] 39) := by rw [hw0]; exact heapA3 (heap_alloc_new w _) _
  have Zr : w0.heap[w.heap.size + 1]? = some (.cells #[.int .u32 0, .int .i64 0, .int .i64 0, .bool false, .int .u32 0, .int .i64 0, .int .i64 0, .int .i64 0, .int .i64 0, .slice none 0 0, .slice none 0 0, .int .i64 0, .int .i64 0, .int .i64 0, .int .u64 0, .bool false] 39) := by
    rw [hw0]
    have := heap_alloc_new (w.alloc (.cells #[.int .u32 (pr : Int), .int .i64 pn, .int .i64 sl, .bool ha, .int .u32 (vr : Int), .int .i64 vn, .int .i64 k, .int .i64 s, .int .i64 q, .slice A1 rs.length c1, .slice A2 ws.length c2, .int .i64 i, .int .i64 j, .int .i64 g, .int .u64 (st : Int), .bool y] 39)) (.cells #[.int .u32 0, .int .i64 0, .int .i64 0, .bool false, .int .u32 0, .int .i64 0, .int .i64 0, .int .i64 0, .int .i64 0, .slice none 0 0, .slice none 0 0, .int .i64 0, .int .i64 0, .int .i64 0, .int .u64 0, .bool false] 39)
    simpa using this
  have gB := g0.size
  have HA := Lib.hid (aformed_any pr pn sl ha vr vn k s q rs ws A1 c1 A2 c2 i j g st y w0 B0 (by omega) (ok.below g0 hB) (hT.below g0))
  have HS : Hid (T.aformed pr pn sl ha vr vn k s q rs ws i j g st y = true → 1 ≤ sl ∧ sl ≤ 1000000) := T.aformed_slot
  have HM : Hid ((T.aformed pr pn sl ha vr vn k s q rs ws i j g st y && decide (sn = sl) && decide (sn ≠ 1000000)) = false) := hm
  generalize T.aformed pr pn sl ha vr vn k s q rs ws i j g st y = m1 at HA HM HS
  clear ok hm hT
  generalize rs.length = n1 at *
  generalize ws.length = n2 at *
  have a0 := cellAt Za 0
  have a1 := cellAt Za 1
  have a2 := cellAt Za 2
  have a3 := cellAt Za 3
  have a4 := cellAt Za 4
  have a5 := cellAt Za 5
  have a6 := cellAt Za 6
  have a7 := cellAt Za 7
  have a8 := cellAt Za 8
  have a9 := cellAt Za 9
  have a10 := cellAt Za 10
  have a11 := cellAt Za 11
  have a12 := cellAt Za 12
  have a13 := cellAt Za 13
  have a14 := cellAt Za 14
  have a15 := cellAt Za 15
  simp only [List.getElem?_toArray, List.getElem?_cons_zero, List.getElem?_cons_succ] at a0 a1 a2 a3 a4 a5 a6 a7 a8 a9 a10 a11 a12 a13 a14 a15
  go_enter Tryd.func68, Tryd.ntmps68
  go_upto_region 1 with fail
  rw [← hw0]
  clear hw0
  go_cut [1, 18] (fun u1 u wx => u = .bool true ∧ Hid (wx.heap[w.heap.size]? = some (.cells #[.int .u32 (pr : Int), .int .i64 pn, .int .i64 sl, .bool ha, .int .u32 (vr : Int), .int .i64 vn, .int .i64 k, .int .i64 s, .int .i64 q, .slice A1 n1 c1, .slice A2 n2 c2, .int .i64 i, .int .i64 j, .int .i64 g, .int .u64 (st : Int), .bool y] 39)) ∧ Hid (wx.heap[w.heap.size + 1]? = some (.cells #[.int .u32 0, .int .i64 0, .int .i64 0, .bool false, .int .u32 0, .int .i64 0, .int .i64 0, .int .i64 0, .int .i64 0, .slice none 0 0, .slice none 0 0, .int .i64 0, .int .i64 0, .int .i64 0, .int .u64 0, .bool false] 39)) ∧ Hid (Below w.heap.size w wx))
  case first =>
    go_wp2_with fail
    refine HA.out.mono ?_
    rintro e wx ⟨rfl, t1⟩
    have a0 := cellB t1 a0
    have a1 := cellB t1 a1
    have a2 := cellB t1 a2
    have a3 := cellB t1 a3
    have a4 := cellB t1 a4
    have a5 := cellB t1 a5
    have a6 := cellB t1 a6
    have a7 := cellB t1 a7
    have a8 := cellB t1 a8
    have a9 := cellB t1 a9
    have a10 := cellB t1 a10
    have a11 := cellB t1 a11
    have a12 := cellB t1 a12
    have a13 := cellB t1 a13
    have a14 := cellB t1 a14
    have a15 := cellB t1 a15
    have Za := heapB3 Za t1
    have Zr := heapB3 Zr t1
    have e1 := g0.trans (t1.mono gB)
    clear HA g0 t1
    cases m1 with
    | false =>
      go_wp2_with fail
      go_meet
      exact ⟨rfl, Za, Zr, e1⟩
    | true =>
      by_cases h1 : sn = sl
      · have h3 : sn = 1000000 := by have := HM.out; simpa [h1] using this
        subst h1
        have d3 : (sn == 1000000) = true := by simp [h3]
        have d4 : decide (sn < 1000000) = false := by simp [h3]
        have d5 : ¬ sn < 1000000 := by omega
        clear HM HS h3
        go_wp2_with fail
        all_goals
          go_meet
          exact ⟨by first | exact rfl | (simp [d3]), Za, Zr, e1⟩
      · have d1 : (sn == sl) = false := by simp [h1]
        have d2 : (sn != sl) = true := by simp [h1]
        clear HM HS
        go_wp2_with fail
        all_goals
          go_meet
          exact ⟨by first | exact rfl | (simp [h1]), Za, Zr, e1⟩
  case rest =>
    obtain ⟨rfl, Za, Zr, e1⟩ := hcut
    have nm : ∀ z : World, Below w.heap.size w z → ∃ z', z' = z := fun z _ => ⟨z, rfl⟩
    obtain ⟨wx, hwx⟩ := nm _ e1.out
    subst hwx
    clear nm g0 gB HA HM HS a0 a1 a2 a3 a4 a5 a6 a7 a8 a9 a10 a11 a12 a13 a14 a15
    have Za := Za.out
    have Zr := Zr.out
    have e1 := e1.out
    go_upto_region 2 with fail
    refine wp_region_lit ?_
    refine wpList_load_mid rfl 39 _ rfl w.heap.size 0 rfl [.int .u32 (pr : Int), .int .i64 pn, .int .i64 sl, .bool ha, .int .u32 (vr : Int), .int .i64 vn, .int .i64 k, .int .i64 s, .int .i64 q, .slice A1 n1 c1, .slice A2 n2 c2, .int .i64 i, .int .i64 j, .int .i64 g, .int .u64 (st : Int), .bool y] _ (rangeOf Za) Tryd.underlying39 rfl info16 ?_
    refine wpList_store_row rfl 39 _ _ rfl (w.heap.size + 1) #[.int .u32 (pr : Int), .int .i64 pn, .int .i64 sl, .bool ha, .int .u32 (vr : Int), .int .i64 vn, .int .i64 k, .int .i64 s, .int .i64 q, .slice A1 n1 c1, .slice A2 n2 c2, .int .i64 i, .int .i64 j, .int .i64 g, .int .u64 (st : Int), .bool y] rfl rfl 39 _ Zr info16 rfl (by simp [Value.oneCell']) ?_
    have Zf := setRow_heap wx (w.heap.size + 1) _ #[.int .u32 (pr : Int), .int .i64 pn, .int .i64 sl, .bool ha, .int .u32 (vr : Int), .int .i64 vn, .int .i64 k, .int .i64 s, .int .i64 q, .slice A1 n1 c1, .slice A2 n2 c2, .int .i64 i, .int .i64 j, .int .i64 g, .int .u64 (st : Int), .bool y] _ _ Zr
    have BZ : Below w.heap.size w (wx.setRow (w.heap.size + 1) #[.int .u32 (pr : Int), .int .i64 pn, .int .i64 sl, .bool ha, .int .u32 (vr : Int), .int .i64 vn, .int .i64 k, .int .i64 s, .int .i64 q, .slice A1 n1 c1, .slice A2 n2 c2, .int .i64 i, .int .i64 j, .int .i64 g, .int .u64 (st : Int), .bool y]) := belowRow e1 Zr (by omega)
    clear Za Zr
    generalize wx.setRow (w.heap.size + 1) #[.int .u32 (pr : Int), .int .i64 pn, .int .i64 sl, .bool ha, .int .u32 (vr : Int), .int .i64 vn, .int .i64 k, .int .i64 s, .int .i64 q, .slice A1 n1 c1, .slice A2 n2 c2, .int .i64 i, .int .i64 j, .int .i64 g, .int .u64 (st : Int), .bool y] = wz at Zf BZ ⊢
    have r0 := cellAt Zf 0
    have r1 := cellAt Zf 1
    have r2 := cellAt Zf 2
    have r3 := cellAt Zf 3
    have r4 := cellAt Zf 4
    have r5 := cellAt Zf 5
    have r6 := cellAt Zf 6
    have r7 := cellAt Zf 7
    have r8 := cellAt Zf 8
    have r9 := cellAt Zf 9
    have r10 := cellAt Zf 10
    have r11 := cellAt Zf 11
    have r12 := cellAt Zf 12
    have r13 := cellAt Zf 13
    have r14 := cellAt Zf 14
    have r15 := cellAt Zf 15
    simp only [List.getElem?_toArray, List.getElem?_cons_zero, List.getElem?_cons_succ] at r0 r1 r2 r3 r4 r5 r6 r7 r8 r9 r10 r11 r12 r13 r14 r15
    go_wp2_with fail
    refine bodyPost_ret (v := .tuple #[.agg #[.int .u32 (pr : Int), .int .i64 pn, .int .i64 sl, .bool ha, .int .u32 (vr : Int), .int .i64 vn, .int .i64 k, .int .i64 s, .int .i64 q, .slice A1 n1 c1, .slice A2 n2 c2, .int .i64 i, .int .i64 j, .int .i64 g, .int .u64 (st : Int), .bool y], .bool false]) (by simp [results, Tryd.results68, go_sem, r0, r1, r2, r3, r4, r5, r6, r7, r8, r9, r10, r11, r12, r13, r14, r15]) rfl ⟨rfl, BZ⟩
set_option maxRecDepth 20000 in
set_option maxHeartbeats 6400000 in
theorem learn_yes (pr : Nat) (pn sl : Int) (ha : Bool) (vr : Nat) (vn : Int) (k s q : Int) (rs : List Rd1) (ws : List Wr1) (A1 : Option Addr) (c1 : Nat) (A2 : Option Addr) (c2 : Nat) (i j g : Int) (st : Nat) (y : Bool) (sn : Int) (w : World) (B0 : Nat) (hB : B0 ≤ w.heap.size) (ok : TxOk w B0 rs ws A1 c1 A2 c2) (hT : Tabs w) (hm : T.learns pr pn sl ha vr vn k s q rs ws i j g st y sn = true) :
    Calls Tryd.prog 68 #[.agg #[.int .u32 (pr : Int), .int .i64 pn, .int .i64 sl, .bool ha, .int .u32 (vr : Int), .int .i64 vn, .int .i64 k, .int .i64 s, .int .i64 q, .slice A1 rs.length c1, .slice A2 ws.length c2, .int .i64 i, .int .i64 j, .int .i64 g, .int .u64 (st : Int), .bool y], .int .i64 sn] w fun e w' => e = .returned (.tuple #[.agg #[.int .u32 (pr : Int), .int .i64 pn, .int .i64 (sn + 1), .bool false, .int .u32 0, .int .i64 0, .int .i64 0, .int .i64 0, .int .i64 0, .slice none 0 0, .slice none 0 0, .int .i64 0, .int .i64 0, .int .i64 0, .int .u64 0, .bool false], .bool true]) ∧ Below w.heap.size w w' := by
  obtain ⟨w0, hw0⟩ : ∃ w0, w0 = (w.alloc (.cells #[.int .u32 (pr : Int), .int .i64 pn, .int .i64 sl, .bool ha, .int .u32 (vr : Int), .int .i64 vn, .int .i64 k, .int .i64 s, .int .i64 q, .slice A1 rs.length c1, .slice A2 ws.length c2, .int .i64 i, .int .i64 j, .int .i64 g, .int .u64 (st : Int), .bool y] 39)).alloc (.cells #[.int .u32 0, .int .i64 0, .int .i64 0, .bool false, .int .u32 0, .int .i64 0, .int .i64 0, .int .i64 0, .int .i64 0, .slice none 0 0, .slice none 0 0, .int .i64 0, .int .i64 0, .int .i64 0, .int .u64 0, .bool false] 39) := ⟨_, rfl⟩
  have g0 : Below w.heap.size w w0 := by rw [hw0]; exact ((Below.refl _ _).alloc (Nat.le_refl _) _).alloc (by simp) _
  have Za : w0.heap[w.heap.size]? = some (.cells #[.int .u32 (pr : Int), .int .i64 pn, .int .i64 sl, .bool ha, .int .u32 (vr : Int), .int .i64 vn, .int .i64 k, .int .i64 s, .int .i64 q, .slice A1 rs.length c1, .slice A2 ws.length c2, .int .i64 i, .int .i64 j, .int .i64 g, .int .u64 (st : Int), .bool y] 39) := by rw [hw0]; exact heapA3 (heap_alloc_new w _) _
  have Zr : w0.heap[w.heap.size + 1]? = some (.cells #[.int .u32 0, .int .i64 0, .int .i64 0, .bool false, .int .u32 0, .int .i64 0, .int .i64 0, .int .i64 0, .int .i64 0, .slice none 0 0, .slice none 0 0, .int .i64 0, .int .i64 0, .int .i64 0, .int .u64 0, .bool false] 39) := by
    rw [hw0]
    have := heap_alloc_new (w.alloc (.cells #[.int .u32 (pr : Int), .int .i64 pn, .int .i64 sl, .bool ha, .int .u32 (vr : Int), .int .i64 vn, .int .i64 k, .int .i64 s, .int .i64 q, .slice A1 rs.length c1, .slice A2 ws.length c2, .int .i64 i, .int .i64 j, .int .i64 g, .int .u64 (st : Int), .bool y] 39)) (.cells #[.int .u32 0, .int .i64 0, .int .i64 0, .bool false, .int .u32 0, .int .i64 0, .int .i64 0, .int .i64 0, .int .i64 0, .slice none 0 0, .slice none 0 0, .int .i64 0, .int .i64 0, .int .i64 0, .int .u64 0, .bool false] 39)
    simpa using this
  have gB := g0.size
  have HA := Lib.hid (aformed_any pr pn sl ha vr vn k s q rs ws A1 c1 A2 c2 i j g st y w0 B0 (by omega) (ok.below g0 hB) (hT.below g0))
  have HS : Hid (T.aformed pr pn sl ha vr vn k s q rs ws i j g st y = true → 1 ≤ sl ∧ sl ≤ 1000000) := T.aformed_slot
  have HM : Hid ((T.aformed pr pn sl ha vr vn k s q rs ws i j g st y && decide (sn = sl) && decide (sn ≠ 1000000)) = true) := hm
  generalize T.aformed pr pn sl ha vr vn k s q rs ws i j g st y = m1 at HA HM HS
  clear ok hm hT
  generalize rs.length = n1 at *
  generalize ws.length = n2 at *
  have a0 := cellAt Za 0
  have a1 := cellAt Za 1
  have a2 := cellAt Za 2
  have a3 := cellAt Za 3
  have a4 := cellAt Za 4
  have a5 := cellAt Za 5
  have a6 := cellAt Za 6
  have a7 := cellAt Za 7
  have a8 := cellAt Za 8
  have a9 := cellAt Za 9
  have a10 := cellAt Za 10
  have a11 := cellAt Za 11
  have a12 := cellAt Za 12
  have a13 := cellAt Za 13
  have a14 := cellAt Za 14
  have a15 := cellAt Za 15
  simp only [List.getElem?_toArray, List.getElem?_cons_zero, List.getElem?_cons_succ] at a0 a1 a2 a3 a4 a5 a6 a7 a8 a9 a10 a11 a12 a13 a14 a15
  go_enter Tryd.func68, Tryd.ntmps68
  go_upto_region 1 with fail
  rw [← hw0]
  clear hw0
  go_wp2_with fail
  refine HA.out.mono ?_
  rintro e wx ⟨rfl, t1⟩
  have a0 := cellB t1 a0
  have a1 := cellB t1 a1
  have a2 := cellB t1 a2
  have a3 := cellB t1 a3
  have a4 := cellB t1 a4
  have a5 := cellB t1 a5
  have a6 := cellB t1 a6
  have a7 := cellB t1 a7
  have a8 := cellB t1 a8
  have a9 := cellB t1 a9
  have a10 := cellB t1 a10
  have a11 := cellB t1 a11
  have a12 := cellB t1 a12
  have a13 := cellB t1 a13
  have a14 := cellB t1 a14
  have a15 := cellB t1 a15
  have Za := heapB3 Za t1
  have Zr := heapB3 Zr t1
  have e1 := g0.trans (t1.mono gB)
  clear HA g0 t1
  have h1 : m1 = true ∧ sn = sl ∧ sn ≠ 1000000 := by
    have := HM.out
    rw [Bool.and_eq_true, Bool.and_eq_true] at this
    exact ⟨this.1.1, of_decide_eq_true this.1.2, of_decide_eq_true this.2⟩
  obtain ⟨rfl, rfl, h3⟩ := h1
  have hs := HS.out rfl
  have hw : IntKind.i64.wrap (sn + 1) = sn + 1 := by rw [IntKind.wrap_i64]; omega
  have d3 : (sn == 1000000) = false := by simp [h3]
  have d4 : decide (sn < 1000000) = true := by simp; omega
  have l1 : -9223372036854775808 ≤ sn + 1 := by omega
  have l2 : sn + 1 ≤ 9223372036854775807 := by omega
  clear HM HS h3 hs
  go_upto_region 3 with fail
  refine wp_region_lit ?_
  refine wpList_plain rfl fun K hK => ?_
  go_simp
  refine hK _ _ ?_
  clear hK K
  try simp only [List.getElem_toArray, List.getElem_cons_zero, List.getElem_cons_succ, Act.put, List.setIfInBounds_toArray, List.set_cons_zero, List.set_cons_succ]
  refine wpList_plain rfl fun K hK => ?_
  go_simp
  refine hK _ _ ?_
  clear hK K
  try simp only [List.getElem_toArray, List.getElem_cons_zero, List.getElem_cons_succ, Act.put, List.setIfInBounds_toArray, List.set_cons_zero, List.set_cons_succ]
  refine wpList_plain rfl fun K hK => ?_
  go_simp
  refine hK _ _ ?_
  clear hK K
  try simp only [List.getElem_toArray, List.getElem_cons_zero, List.getElem_cons_succ, Act.put, List.setIfInBounds_toArray, List.set_cons_zero, List.set_cons_succ]
  refine wpList_plain rfl fun K hK => ?_
  go_simp
  refine hK _ _ ?_
  clear hK K
  try simp only [List.getElem_toArray, List.getElem_cons_zero, List.getElem_cons_succ, Act.put, List.setIfInBounds_toArray, List.set_cons_zero, List.set_cons_succ]
  refine wpList_plain rfl fun K hK => ?_
  go_simp
  refine hK _ _ ?_
  clear hK K
  try simp only [List.getElem_toArray, List.getElem_cons_zero, List.getElem_cons_succ, Act.put, List.setIfInBounds_toArray, List.set_cons_zero, List.set_cons_succ]
  refine wpList_store_row rfl 39 _ _ rfl (w.heap.size + 1) #[.int .u32 (pr : Int), .int .i64 pn, .int .i64 (sn + 1), .bool false, .int .u32 0, .int .i64 0, .int .i64 0, .int .i64 0, .int .i64 0, .slice none 0 0, .slice none 0 0, .int .i64 0, .int .i64 0, .int .i64 0, .int .u64 0, .bool false] rfl rfl 39 _ Zr info16 rfl (by simp [Value.oneCell']) ?_
  have Zf := setRow_heap wx (w.heap.size + 1) _ #[.int .u32 (pr : Int), .int .i64 pn, .int .i64 (sn + 1), .bool false, .int .u32 0, .int .i64 0, .int .i64 0, .int .i64 0, .int .i64 0, .slice none 0 0, .slice none 0 0, .int .i64 0, .int .i64 0, .int .i64 0, .int .u64 0, .bool false] _ _ Zr
  have BZ : Below w.heap.size w (wx.setRow (w.heap.size + 1) #[.int .u32 (pr : Int), .int .i64 pn, .int .i64 (sn + 1), .bool false, .int .u32 0, .int .i64 0, .int .i64 0, .int .i64 0, .int .i64 0, .slice none 0 0, .slice none 0 0, .int .i64 0, .int .i64 0, .int .i64 0, .int .u64 0, .bool false]) := belowRow e1 Zr (by omega)
  clear Za Zr a0 a1 a2 a3 a4 a5 a6 a7 a8 a9 a10 a11 a12 a13 a14 a15
  generalize wx.setRow (w.heap.size + 1) #[.int .u32 (pr : Int), .int .i64 pn, .int .i64 (sn + 1), .bool false, .int .u32 0, .int .i64 0, .int .i64 0, .int .i64 0, .int .i64 0, .slice none 0 0, .slice none 0 0, .int .i64 0, .int .i64 0, .int .i64 0, .int .u64 0, .bool false] = wz at Zf BZ ⊢
  have r0 := cellAt Zf 0
  have r1 := cellAt Zf 1
  have r2 := cellAt Zf 2
  have r3 := cellAt Zf 3
  have r4 := cellAt Zf 4
  have r5 := cellAt Zf 5
  have r6 := cellAt Zf 6
  have r7 := cellAt Zf 7
  have r8 := cellAt Zf 8
  have r9 := cellAt Zf 9
  have r10 := cellAt Zf 10
  have r11 := cellAt Zf 11
  have r12 := cellAt Zf 12
  have r13 := cellAt Zf 13
  have r14 := cellAt Zf 14
  have r15 := cellAt Zf 15
  simp only [List.getElem?_toArray, List.getElem?_cons_zero, List.getElem?_cons_succ] at r0 r1 r2 r3 r4 r5 r6 r7 r8 r9 r10 r11 r12 r13 r14 r15
  go_wp2_with fail
  refine bodyPost_ret (v := .tuple #[.agg #[.int .u32 (pr : Int), .int .i64 pn, .int .i64 (sn + 1), .bool false, .int .u32 0, .int .i64 0, .int .i64 0, .int .i64 0, .int .i64 0, .slice none 0 0, .slice none 0 0, .int .i64 0, .int .i64 0, .int .i64 0, .int .u64 0, .bool false], .bool true]) (by simp [results, Tryd.results68, go_sem, r0, r1, r2, r3, r4, r5, r6, r7, r8, r9, r10, r11, r12, r13, r14, r15]) rfl ⟨rfl, BZ⟩
end Go.Proofs.YtbahooohkigcnaaDoor

namespace Go.Proofs.YtbahooohkigcnaaDoor
set_option maxRecDepth 20001
open Go.RowKit T
set_option linter.unusedSimpArgs false
set_option linter.unusedVariables false

set_option maxHeartbeats 1600000 in
theorem anew_any (w : World) : Calls Tryd.prog 22 #[] w fun e w' => e = .returned (.agg #[.int .u32 0, .int .i64 0, .int .i64 1, .bool false, .int .u32 0, .int .i64 0, .int .i64 0, .int .i64 0, .int .i64 0, .slice none 0 0, .slice none 0 0, .int .i64 0, .int .i64 0, .int .i64 0, .int .u64 0, .bool false]) ∧ Below w.heap.size w w' := by
  go_enter Tryd.func22, Tryd.ntmps22
  go_wp2_with fail
  refine bodyPost_ret (v := .agg #[.int .u32 0, .int .i64 0, .int .i64 1, .bool false, .int .u32 0, .int .i64 0, .int .i64 0, .int .i64 0, .int .i64 0, .slice none 0 0, .slice none 0 0, .int .i64 0, .int .i64 0, .int .i64 0, .int .u64 0, .bool false]) (by simp [results, Tryd.results22, go_sem]) rfl ⟨rfl, ?_⟩
  exact (Below.refl _ _).alloc (Nat.le_refl _) _
def T.asame (pr : Nat) (pn sl : Int) (ha : Bool) (vr : Nat) (vn : Int) (pr' : Nat) (pn' sl' : Int) (ha' : Bool) (vr' : Nat) (vn' : Int) (c : Bool) : Bool :=
  decide (pr = pr' ∧ pn = pn') && decide (sl = sl') && decide (ha = ha') && decide (vr = vr' ∧ vn = vn') && c
end Go.Proofs.YtbahooohkigcnaaDoor

namespace Go.Proofs.YtbahooohkigcnaaDoor
set_option maxRecDepth 20001
open Go.RowKit T
set_option linter.unusedSimpArgs false
set_option linter.unusedVariables false

namespace T
def Ac.formed (a : Ac) : Bool := T.aformed a.pr a.pn a.sl a.ha a.vr a.vn a.c.k a.c.s a.c.q a.c.rs a.c.ws a.c.i a.c.j a.c.g a.c.st a.c.y
def Ac.may (a : Ac) (br : Nat) (bn : Int) : Bool := T.may a.pr a.pn a.sl a.ha a.vr a.vn a.c.k a.c.s a.c.q a.c.rs a.c.ws a.c.i a.c.j a.c.g a.c.st a.c.y br bn
def Ac.learns (a : Ac) (sn : Int) : Bool := T.learns a.pr a.pn a.sl a.ha a.vr a.vn a.c.k a.c.s a.c.q a.c.rs a.c.ws a.c.i a.c.j a.c.g a.c.st a.c.y sn
/-- a promise -/
def Ac.prep (a : Ac) (br : Nat) (bn : Int) : Ac := bif a.may br bn then ⟨br, bn, a.sl, a.ha, a.vr, a.vn, a.c⟩ else a
/-- a vote -/
def Ac.how (a : Ac) (br : Nat) (bn sn : Int) (x : Cm) : Int := bif a.may br bn && x.formed then (bif decide (sn < a.sl) then 1 else (bif decide (a.sl < sn) then 2 else 3)) else 0
def Ac.vote (a : Ac) (br : Nat) (bn sn : Int) (x : Cm) : Ac := bif decide (a.how br bn sn x = 3) then ⟨br, bn, sn, true, br, bn, x⟩ else a
def Ac.learn (a : Ac) (sn : Int) : Ac := bif a.learns sn then ⟨a.pr, a.pn, sn + 1, false, 0, 0, Cm.zero⟩ else a
end T
def SameA (a b : Ac) : Bool := T.asame a.pr a.pn a.sl a.ha a.vr a.vn b.pr b.pn b.sl b.ha b.vr b.vn (SameC a.c b.c)
theorem SameA.refl (a : Ac) : SameA a a = true := by unfold SameA; rw [SameC.refl]; simp [T.asame]
theorem c_formed (a : Ac) (w : World) (B0 : Nat) (hB : B0 ≤ w.heap.size) (ok : CmOk w B0 a.c) (hT : Tabs w) :
    Calls Tryd.prog 20 #[.agg a.cells.toArray] w fun e w' => e = .returned (.bool a.formed) ∧ Below w.heap.size w w' := aformed_any a.pr a.pn a.sl a.ha a.vr a.vn a.c.k a.c.s a.c.q a.c.rs a.c.ws a.c.A1 a.c.c1 a.c.A2 a.c.c2 a.c.i a.c.j a.c.g a.c.st a.c.y w B0 hB ok hT
theorem c_cformed (x : Cm) (w : World) (B0 : Nat) (hB : B0 ≤ w.heap.size) (ok : CmOk w B0 x) (hT : Tabs w) :
    Calls Tryd.prog 28 #[.agg x.cells.toArray] w fun e w' => e = .returned (.bool x.formed) ∧ Below w.heap.size w w' := cformed_any x.k x.s x.q x.rs x.ws x.A1 x.c1 x.A2 x.c2 x.i x.j x.g x.st x.y w B0 hB ok hT
theorem c_new (w : World) : Calls Tryd.prog 22 #[] w fun e w' => e = .returned (.agg Ac.new.cells.toArray) ∧ Below w.heap.size w w' := anew_any w
theorem c_prep (a : Ac) (br : Nat) (bn : Int) (w : World) (B0 : Nat) (hB : B0 ≤ w.heap.size) (ok : CmOk w B0 a.c) (hT : Tabs w) :
    Calls Tryd.prog 65 #[.agg a.cells.toArray, .agg #[.int .u32 (br : Int), .int .i64 bn]] w fun e w' => e = .returned (.tuple #[.agg (a.prep br bn).cells.toArray, .bool (a.may br bn)]) ∧ Below w.heap.size w w' := by
  cases hm : a.may br bn with
  | false =>
    have := prep_no a.pr a.pn a.sl a.ha a.vr a.vn a.c.k a.c.s a.c.q a.c.rs a.c.ws a.c.A1 a.c.c1 a.c.A2 a.c.c2 a.c.i a.c.j a.c.g a.c.st a.c.y br bn w B0 hB ok hT hm
    exact this.mono fun e w' h => ⟨by rw [h.1]; simp only [Ac.prep, hm, cond_false]; rfl, h.2⟩
  | true =>
    have := prep_yes a.pr a.pn a.sl a.ha a.vr a.vn a.c.k a.c.s a.c.q a.c.rs a.c.ws a.c.A1 a.c.c1 a.c.A2 a.c.c2 a.c.i a.c.j a.c.g a.c.st a.c.y br bn w B0 hB ok hT hm
    exact this.mono fun e w' h => ⟨by rw [h.1]; simp only [Ac.prep, hm, cond_true]; rfl, h.2⟩
theorem c_learn (a : Ac) (sn : Int) (w : World) (B0 : Nat) (hB : B0 ≤ w.heap.size) (ok : CmOk w B0 a.c) (hT : Tabs w) :
    Calls Tryd.prog 68 #[.agg a.cells.toArray, .int .i64 sn] w fun e w' => e = .returned (.tuple #[.agg (a.learn sn).cells.toArray, .bool (a.learns sn)]) ∧ Below w.heap.size w w' := by
  cases hm : a.learns sn with
  | false =>
    have := learn_no a.pr a.pn a.sl a.ha a.vr a.vn a.c.k a.c.s a.c.q a.c.rs a.c.ws a.c.A1 a.c.c1 a.c.A2 a.c.c2 a.c.i a.c.j a.c.g a.c.st a.c.y sn w B0 hB ok hT hm
    exact this.mono fun e w' h => ⟨by rw [h.1]; simp only [Ac.learn, hm, cond_false]; rfl, h.2⟩
  | true =>
    have := learn_yes a.pr a.pn a.sl a.ha a.vr a.vn a.c.k a.c.s a.c.q a.c.rs a.c.ws a.c.A1 a.c.c1 a.c.A2 a.c.c2 a.c.i a.c.j a.c.g a.c.st a.c.y sn w B0 hB ok hT hm
    exact this.mono fun e w' h => ⟨by rw [h.1]; simp only [Ac.learn, hm, cond_true]; rfl, h.2⟩
theorem Ac.prep_ok {w : World} {B : Nat} {a : Ac} (h : CmOk w B a.c) (br : Nat) (bn : Int) : CmOk w B (a.prep br bn).c := by
  unfold Ac.prep; cases a.may br bn <;> exact h
theorem Ac.vote_ok {w : World} {B : Nat} {a : Ac} (h : CmOk w B a.c) (br : Nat) (bn sn : Int) {x : Cm} (hx : CmOk w B x) : CmOk w B (a.vote br bn sn x).c := by
  unfold Ac.vote; cases decide (a.how br bn sn x = 3)
  · exact h
  · exact hx
theorem Ac.learn_ok {w : World} {B : Nat} {a : Ac} (h : CmOk w B a.c) (sn : Int) : CmOk w B (a.learn sn).c := by
  unfold Ac.learn; cases a.learns sn
  · exact h
  · exact CmOk.zero
/-! ### the plain laws -/
theorem B.less_self (r : Nat) (n : Int) : B.less r n r n = false := by simp [B.less]
theorem Ac.may_iff (a : Ac) (br : Nat) (bn : Int) : a.may br bn = true ↔ a.formed = true ∧ B.formed bn = true ∧ B.less br bn a.pr a.pn = false := by
  show (T.aformed _ _ _ _ _ _ _ _ _ _ _ _ _ _ _ _ && B.formed bn && !B.less br bn a.pr a.pn) = true ↔ _
  rw [Bool.and_eq_true, Bool.and_eq_true, Bool.not_eq_true', and_assoc]
  rfl
theorem Ac.formed_has {a : Ac} (h : a.ha = true) : a.formed = true ↔ B.formed a.pn = true ∧ (1 ≤ a.sl ∧ a.sl ≤ 1000000) ∧ B.formed a.vn = true ∧ B.less a.pr a.pn a.vr a.vn = false ∧ a.c.formed = true := by
  unfold Ac.formed T.aformed
  rw [h, cond_true]
  simp only [Bool.and_eq_true, decide_eq_true_eq, Bool.not_eq_true', and_assoc]
  rfl
theorem Ac.formed_not {a : Ac} (h : a.ha = false) : a.formed = true ↔ B.formed a.pn = true ∧ (1 ≤ a.sl ∧ a.sl ≤ 1000000) ∧ (a.vr = 0 ∧ a.vn = 0) ∧ SameC a.c Cm.zero = true := by
  unfold Ac.formed T.aformed
  rw [h, cond_false]
  simp only [Bool.and_eq_true, decide_eq_true_eq, SameC, and_assoc]
  rfl
theorem Ac.new_formed : Ac.new.formed = true := by decide
theorem Ac.prep_formed {a : Ac} (h : a.formed = true) (br : Nat) (bn : Int) : (a.prep br bn).formed = true := by
  unfold Ac.prep
  cases hm : a.may br bn with
  | false => exact h
  | true =>
    obtain ⟨_, h2, h3⟩ := (Ac.may_iff a br bn).1 hm
    cases hh : a.ha with
    | true =>
      obtain ⟨g1, g2, g3, g4, g5⟩ := (Ac.formed_has hh).1 h
      refine (Ac.formed_has (by simp [hh])).2 ⟨h2, g2, g3, ?_, g5⟩
      show B.less br bn a.vr a.vn = false
      simp [B.less] at h3 g4 ⊢
      omega
    | false =>
      obtain ⟨g1, g2, g3, g4⟩ := (Ac.formed_not hh).1 h
      exact (Ac.formed_not (by simp [hh])).2 ⟨h2, g2, g3, g4⟩
theorem Ac.how_three {a : Ac} {br : Nat} {bn sn : Int} {x : Cm} (h : a.how br bn sn x = 3) : a.may br bn = true ∧ x.formed = true ∧ sn = a.sl := by
  unfold Ac.how at h
  cases hm : a.may br bn <;> cases hx : x.formed <;> rw [hm, hx] at h
  · exact absurd h (by simp)
  · exact absurd h (by simp)
  · exact absurd h (by simp)
  · by_cases h1 : sn < a.sl
    · rw [decide_eq_true h1] at h; exact absurd h (by simp)
    · by_cases h2 : a.sl < sn
      · rw [decide_eq_false h1, decide_eq_true h2] at h; exact absurd h (by simp)
      · exact ⟨rfl, rfl, by omega⟩
theorem Ac.vote_formed {a : Ac} (h : a.formed = true) (br : Nat) (bn sn : Int) (x : Cm) : (a.vote br bn sn x).formed = true := by
  unfold Ac.vote
  by_cases hh : a.how br bn sn x = 3
  · obtain ⟨h1, h2, h3⟩ := Ac.how_three hh
    obtain ⟨g1, g2, g3⟩ := (Ac.may_iff a br bn).1 h1
    rw [decide_eq_true hh, cond_true]
    refine (Ac.formed_has rfl).2 ⟨g2, ?_, g2, B.less_self _ _, h2⟩
    show 1 ≤ sn ∧ sn ≤ 1000000
    rw [h3]
    exact T.aformed_slot h
  · rw [decide_eq_false hh]; exact h
theorem Ac.learns_iff (a : Ac) (sn : Int) : a.learns sn = true ↔ a.formed = true ∧ sn = a.sl ∧ sn ≠ 1000000 := by
  unfold Ac.learns T.learns
  rw [Bool.and_eq_true, Bool.and_eq_true, decide_eq_true_eq, decide_eq_true_eq, and_assoc]
  rfl
theorem Ac.formed_promised {a : Ac} (h : a.formed = true) : B.formed a.pn = true ∧ 1 ≤ a.sl ∧ a.sl ≤ 1000000 := by
  cases hh : a.ha with
  | true => exact ⟨((Ac.formed_has hh).1 h).1, ((Ac.formed_has hh).1 h).2.1⟩
  | false => exact ⟨((Ac.formed_not hh).1 h).1, ((Ac.formed_not hh).1 h).2.1⟩
theorem Ac.learn_formed {a : Ac} (h : a.formed = true) (sn : Int) : (a.learn sn).formed = true := by
  unfold Ac.learn
  cases hm : a.learns sn with
  | false => exact h
  | true =>
    obtain ⟨g1, g2, g3⟩ := (Ac.learns_iff a sn).1 hm
    obtain ⟨f1, f2, f3⟩ := Ac.formed_promised h
    refine (Ac.formed_not rfl).2 ⟨f1, ?_, ⟨rfl, rfl⟩, SameC.refl _⟩
    show 1 ≤ sn + 1 ∧ sn + 1 ≤ 1000000
    omega
/-- again: a promise -/
theorem Ac.prep_again (a : Ac) (br : Nat) (bn : Int) : (a.prep br bn).prep br bn = a.prep br bn ∧ (a.prep br bn).may br bn = a.may br bn := by
  cases hm : a.may br bn with
  | false =>
    have e : a.prep br bn = a := by unfold Ac.prep; rw [hm]; rfl
    rw [e, e]; exact ⟨rfl, hm⟩
  | true =>
    obtain ⟨h1, h2, h3⟩ := (Ac.may_iff a br bn).1 hm
    have e : a.prep br bn = ⟨br, bn, a.sl, a.ha, a.vr, a.vn, a.c⟩ := by unfold Ac.prep; rw [hm]; rfl
    have hf := Ac.prep_formed h1 br bn
    have hm2 : (a.prep br bn).may br bn = true := (Ac.may_iff _ br bn).2 ⟨hf, h2, by rw [e]; exact B.less_self _ _⟩
    refine ⟨?_, hm2⟩
    rw [show (a.prep br bn).prep br bn = ⟨br, bn, (a.prep br bn).sl, (a.prep br bn).ha, (a.prep br bn).vr, (a.prep br bn).vn, (a.prep br bn).c⟩ from by rw [Ac.prep, hm2]; rfl, e]
/-- again: a vote -/
theorem Ac.vote_again (a : Ac) (br : Nat) (bn sn : Int) (x : Cm) : (a.vote br bn sn x).vote br bn sn x = a.vote br bn sn x ∧ (a.vote br bn sn x).how br bn sn x = a.how br bn sn x := by
  by_cases hh : a.how br bn sn x = 3
  · obtain ⟨h1, h2, h3⟩ := Ac.how_three hh
    obtain ⟨g1, g2, g3⟩ := (Ac.may_iff a br bn).1 h1
    have e : a.vote br bn sn x = ⟨br, bn, sn, true, br, bn, x⟩ := by unfold Ac.vote; rw [decide_eq_true hh]; rfl
    have hf := Ac.vote_formed g1 br bn sn x
    have hm2 : (a.vote br bn sn x).may br bn = true := (Ac.may_iff _ br bn).2 ⟨hf, g2, by rw [e]; exact B.less_self _ _⟩
    have hw : (a.vote br bn sn x).how br bn sn x = 3 := by
      unfold Ac.how; rw [hm2, h2, e]
      show (bif decide (sn < sn) then (1 : Int) else bif decide (sn < sn) then 2 else 3) = 3
      rw [decide_eq_false (by omega)]; rfl
    refine ⟨?_, by rw [hw, hh]⟩
    rw [show (a.vote br bn sn x).vote br bn sn x = ⟨br, bn, sn, true, br, bn, x⟩ from by rw [Ac.vote, decide_eq_true hw]; rfl, e]
  · have e : a.vote br bn sn x = a := by unfold Ac.vote; rw [decide_eq_false hh]; rfl
    rw [e, e]; exact ⟨rfl, rfl⟩
/-- once: what was learnt -/
theorem Ac.learn_once (a : Ac) (sn : Int) (h : a.learns sn = true) : (a.learn sn).learns sn = false := by
  cases hl : (a.learn sn).learns sn with
  | false => rfl
  | true =>
    have g := ((Ac.learns_iff _ sn).1 hl).2.1
    have e : (a.learn sn).sl = sn + 1 := by unfold Ac.learn; rw [h]; rfl
    omega
/-- nothing falls -/
theorem Ac.prep_keeps (a : Ac) (br : Nat) (bn : Int) : B.less (a.prep br bn).pr (a.prep br bn).pn a.pr a.pn = false ∧ a.sl ≤ (a.prep br bn).sl := by
  unfold Ac.prep
  cases hm : a.may br bn with
  | false => exact ⟨B.less_self _ _, Int.le_refl _⟩
  | true => exact ⟨((Ac.may_iff a br bn).1 hm).2.2, Int.le_refl _⟩
theorem Ac.vote_keeps (a : Ac) (br : Nat) (bn sn : Int) (x : Cm) : B.less (a.vote br bn sn x).pr (a.vote br bn sn x).pn a.pr a.pn = false ∧ a.sl ≤ (a.vote br bn sn x).sl := by
  unfold Ac.vote
  by_cases hh : a.how br bn sn x = 3
  · obtain ⟨h1, h2, h3⟩ := Ac.how_three hh
    rw [decide_eq_true hh]
    exact ⟨((Ac.may_iff a br bn).1 h1).2.2, Int.le_of_eq h3.symm⟩
  · rw [decide_eq_false hh]; exact ⟨B.less_self _ _, Int.le_refl _⟩
theorem Ac.learn_keeps (a : Ac) (sn : Int) : B.less (a.learn sn).pr (a.learn sn).pn a.pr a.pn = false ∧ a.sl ≤ (a.learn sn).sl := by
  unfold Ac.learn
  cases hm : a.learns sn with
  | false => exact ⟨B.less_self _ _, Int.le_refl _⟩
  | true =>
    obtain ⟨g1, g2, g3⟩ := (Ac.learns_iff a sn).1 hm
    exact ⟨B.less_self _ _, by show a.sl ≤ sn + 1; omega⟩
/-- a vote is of no greater ballot than is promised -/
theorem Ac.formed_vote {a : Ac} (h : a.formed = true) (hh : a.ha = true) : B.less a.pr a.pn a.vr a.vn = false := ((Ac.formed_has hh).1 h).2.2.2.1
end Go.Proofs.YtbahooohkigcnaaDoor

namespace Go.Proofs.YtbahooohkigcnaaDoor
set_option maxRecDepth 20001
open Go.RowKit T
set_option linter.unusedSimpArgs false
set_option linter.unusedVariables false

theorem c_vote (a : Ac) (br : Nat) (bn sn : Int) (x : Cm) (w : World) (B0 : Nat) (hB : B0 ≤ w.heap.size) (ok : CmOk w B0 a.c) (okx : CmOk w B0 x) (hT : Tabs w) :
    Calls Tryd.prog 24 #[.agg a.cells.toArray, .agg #[.int .u32 (br : Int), .int .i64 bn], .int .i64 sn, .agg x.cells.toArray] w fun e w' => e = .returned (.tuple #[.agg (a.vote br bn sn x).cells.toArray, .int .i64 (a.how br bn sn x)]) ∧ Below w.heap.size w w' := by
  have HP := fun z (hz : Below w.heap.size w z) => c_prep a br bn z B0 (Nat.le_trans hB hz.size) (ok.below hz hB) (hT.below hz)
  have HF := fun z (hz : Below w.heap.size w z) => c_cformed x z B0 (Nat.le_trans hB hz.size) (okx.below hz hB) (hT.below hz)
  cases hm : (a.may br bn && x.formed) with
  | false =>
    have hh : a.how br bn sn x = 0 := by unfold Ac.how; rw [hm]; rfl
    exact (acc_0 a _ br bn sn x _ _ w HP HF hm).mono fun e w' h => ⟨by rw [h.1]; simp only [Ac.vote, hh]; rfl, h.2⟩
  | true =>
    by_cases h1 : sn < a.sl
    · have hh : a.how br bn sn x = 1 := by unfold Ac.how; rw [hm, decide_eq_true h1]; rfl
      exact (acc_1 a _ br bn sn x _ _ w HP HF hm h1).mono fun e w' h => ⟨by rw [h.1]; simp only [Ac.vote, hh]; rfl, h.2⟩
    · by_cases h2 : a.sl < sn
      · have hh : a.how br bn sn x = 2 := by unfold Ac.how; rw [hm, decide_eq_false h1, decide_eq_true h2]; rfl
        exact (acc_2 a _ br bn sn x _ _ w HP HF hm h2).mono fun e w' h => ⟨by rw [h.1]; simp only [Ac.vote, hh]; rfl, h.2⟩
      · have hh : a.how br bn sn x = 3 := by unfold Ac.how; rw [hm, decide_eq_false h1, decide_eq_false h2]; rfl
        have hs : sn = a.sl := by omega
        have hy : a.may br bn = true := by rw [Bool.and_eq_true] at hm; exact hm.1
        refine (acc_3 a _ br bn sn x _ _ w HP HF hm hs).mono fun e w' h => ⟨?_, h.2⟩
        rw [h.1]
        simp only [Ac.vote, hh, Ac.prep, hy, cond_true]
        rw [← hs]; rfl

namespace T
/-- what is done -/
structure AOp where
  k : Int
  br : Nat
  bn : Int
  sn : Int
  x : Cm
def AOp.cells (o : AOp) : List Value := [.int .i64 o.k, .int .u32 (o.br : Int), .int .i64 o.bn, .int .i64 o.sn] ++ o.x.cells
theorem AOp.one (o : AOp) : o.cells.toArray.all (·.oneCell') = true := by simp [AOp.cells, Cm.cells, Value.oneCell']
theorem AOp.part (o : AOp) : ∀ j v, o.x.cells[j]? = some v → o.cells[4 + j]? = some v := fun j v h => by
  unfold AOp.cells
  rw [List.getElem?_append_right (by simp)]
  simpa using h
/-- what it makes of an acceptor -/
def Ac.step (a : Ac) (o : AOp) : Ac :=
  if o.k = 1 then a.prep o.br o.bn else if o.k = 2 then a.vote o.br o.bn o.sn o.x else if o.k = 3 then a.learn o.sn else a
end T
theorem Ac.step_ok {w : World} {B : Nat} {a : Ac} (h : CmOk w B a.c) {o : AOp} (ho : CmOk w B o.x) : CmOk w B (a.step o).c := by
  unfold Ac.step
  split
  · exact Ac.prep_ok h _ _
  · split
    · exact Ac.vote_ok h _ _ _ ho
    · split
      · exact Ac.learn_ok h _
      · exact h
theorem Ac.step_formed {a : Ac} (h : a.formed = true) (o : AOp) : (a.step o).formed = true := by
  unfold Ac.step
  split
  · exact Ac.prep_formed h _ _
  · split
    · exact Ac.vote_formed h _ _ _ _
    · split
      · exact Ac.learn_formed h _
      · exact h
theorem Ac.step_keeps (a : Ac) (o : AOp) : B.less (a.step o).pr (a.step o).pn a.pr a.pn = false ∧ a.sl ≤ (a.step o).sl := by
  unfold Ac.step
  split
  · exact Ac.prep_keeps a _ _
  · split
    · exact Ac.vote_keeps a _ _ _ _
    · split
      · exact Ac.learn_keeps a _
      · exact ⟨B.less_self _ _, Int.le_refl _⟩
theorem sizeBal' : (Tryd.prog.info? 28).map (·.size) = some 2 := by kernel_rfl
theorem sizeOp : (Tryd.prog.info? 53).map (·.size) = some 14 := by kernel_rfl
end Go.Proofs.YtbahooohkigcnaaDoor

