/- Small laws on readers and worlds, for the walks of a seat that reaches layer 2. No condition. (Cut from CodeNew, CodeTakes and BallotIO: for a seat without those rows.) -/
import Derived.Test.YtjofjpmhokjhnaaDoorRefReads
import Derived.Test.YtjofjpmhokjhnaaDoorArgs
import Derived.Deep.RegionHeld3
import Derived.Deep.RegionWith
namespace Go.Proofs.YtjofjpmhokjhnaaDoor
set_option maxRecDepth 20000
open Go.RowKit
set_option linter.unusedSimpArgs false
set_option linter.unusedVariables false

theorem heapA {w : World} {g : Nat} {o' : Obj} (h : w.heap[g]? = some o') (o : Obj) : (w.alloc o).heap[g]? = some o' := (Below.heap_alloc w o g (Array.getElem?_eq_some_iff.1 h).1).trans h
theorem heapB {w w' : World} {g : Nat} {o' : Obj} (h : w.heap[g]? = some o') (hb : Below w.heap.size w w') : w'.heap[g]? = some o' := (hb.block g (Array.getElem?_eq_some_iff.1 h).1).trans h
theorem heapS {w : World} {g : Nat} {o' : Obj} (h : w.heap[g]? = some o') {p : Addr} (hp : g ≠ p.block) (u : Value) : (w.setCell p u).heap[g]? = some o' := (Below.heap_setCell w p u g hp).trans h
theorem belowOfDrew {B : Nat} {w w' : World} (h : Below B w.drew w') : Below B w w' := ⟨h.os, h.tape, h.output, h.size, h.block⟩
theorem put_nil (x : Nat) (n : Int) (w : World) (hx : x < 18446744073709551616) :
    Calls Tryd.prog 61 #[.slice none 0 0, .int .u64 (x : Int), .int .i64 n] w (MadeB w (C.be x (C.clamp8 n))) := by
  have := put_any none 0 [] x n w w.heap.size (by simp) (fun _ => ⟨rfl, rfl⟩) Rd.nil (Nat.le_refl _) hx
  exact this
theorem new_any (A : Option Addr) (c : Nat) (l : List UInt8) (w : World) (B : Nat) (hc : l.length ≤ c) (hm : c ≤ maxLen) (hA : A = none → l = [] ∧ c = 0) (hr : Rd w B A (bc l)) (hB : B ≤ w.heap.size) :
    Calls Tryd.prog 87 #[.slice A l.length c] w fun e w' => e = .returned (.pointer (some ⟨w.heap.size, 0, none⟩)) ∧ RdrAt w' B w.heap.size (l, false) ∧ Below w.heap.size w w' := by
  obtain ⟨n, hn⟩ : ∃ n, n = l.length := ⟨_, rfl⟩
  have HN := Lib.hid hn
  rw [← hn]
  clear hn
  go_enter Tryd.func87, Tryd.ntmps87
  go_wp2
  go_ret
  refine ⟨rfl, ⟨A, c, ?_, hc, hm, hA, hr.alloc hB _, hB⟩, (Below.refl _ _).alloc (Nat.le_refl _) _⟩
  rw [← HN.out]
  exact heap_alloc_new w _
theorem belowOfDrewN {B n : Nat} {w w' : World} (h : Below B (w.drewN n) w') : Below B w w' := ⟨h.os, h.tape, h.output, h.size, h.block⟩
theorem RdrAt.other {w w' : World} {B g k : Nat} {s : C.St} (h : RdrAt w B g s) (hg : w.grownBy w' (some k)) (hk : k ≠ g) (hB : B ≤ k) : RdrAt w' B g s := by
  obtain ⟨A, c, hb, h1, h2, h3, hr, h4⟩ := h
  exact ⟨A, c, (hg.block g (ltAt hb) (fun e => hk (by injection e with e; exact e.symm))).trans hb, h1, h2, h3, hr.grownOther hg hB, h4⟩
theorem RdrAt.alloc {w : World} {B g : Nat} {s : C.St} (h : RdrAt w B g s) (o : Obj) : RdrAt (w.alloc o) B g s := by
  obtain ⟨A, c, hb, h1, h2, h3, hr, h4⟩ := h
  exact ⟨A, c, (Below.heap_alloc w o g (ltAt hb)).trans hb, h1, h2, h3, hr.alloc (by have := ltAt hb; omega) o, h4⟩
theorem grownFromDrew {a w : World} {row : Option Nat} (h : (a.drew).grownBy w row) : a.grownBy w row := ⟨h.os, h.tape, h.output, h.size, h.block⟩
theorem put_one (l : List UInt8) (x : Nat) : C.put l x 1 = l ++ [UInt8.ofNat x] := by
  show l ++ C.be x 1 = _
  simp [C.be]
theorem take_lt (k : Nat) (s : C.St) (hk : k ≤ 8) : (C.take (k : Int) s).1 < 256 ^ k := by
  unfold C.take
  rw [if_neg (by omega)]
  have h1 := C.val_lt (C.some_ k s).1
  have h2 : (C.some_ k s).1.length ≤ k := by unfold C.some_; split <;> simp; omega
  have h3 : 256 ^ (C.some_ k s).1.length ≤ 256 ^ k := Nat.pow_le_pow_right (by omega) h2
  rw [Int.toNat_natCast]
  show C.val 0 (C.some_ k s).1 < _
  omega
theorem take9 (s : C.St) : C.take 9 s = (0, (s.1, true)) := by unfold C.take; simp
theorem heapG {w w' : World} {k g : Nat} {o : Obj} (h : w.heap[k]? = some o) (hg : w.grownBy w' (some g)) (hne : k ≠ g) : w'.heap[k]? = some o := (hg.block k (ltAt h) (fun e => hne (by injection e))).trans h
theorem grownTrans {a b c : World} {r : Option Nat} (h : a.grownBy b r) (k : b.grownBy c r) : a.grownBy c r :=
  ⟨k.os.trans h.os, k.tape.trans h.tape, k.output.trans h.output, Nat.le_trans h.size k.size, fun i hi hne => (k.block i (Nat.lt_of_lt_of_le hi h.size) hne).trans (h.block i hi hne)⟩
theorem grownSetNew {a b : World} {r : Option Nat} {g : Nat} (h : a.grownBy b r) (hb : a.heap.size ≤ g) (i : Nat) (u : Value) : a.grownBy (b.setCell ⟨g, i, none⟩ u) r :=
  have k := grownSet b g i u
  ⟨k.os.trans h.os, k.tape.trans h.tape, k.output.trans h.output, Nat.le_trans h.size k.size, fun j hj hne => (k.block j (Nat.lt_of_lt_of_le hj h.size) (fun e => by injection e with e; omega)).trans (h.block j hj hne)⟩
theorem grownAllocR {a b : World} {r : Option Nat} (h : a.grownBy b r) (o : Obj) : a.grownBy (b.alloc o) r := grownTrans h (World.grownBy_alloc b o r)
theorem grownBelow {a b c : World} {r : Option Nat} (h : a.grownBy b r) (k : Below b.heap.size b c) : a.grownBy c r :=
  ⟨k.os.trans h.os, k.tape.trans h.tape, k.output.trans h.output, Nat.le_trans h.size k.size, fun i hi hne => (k.block i (Nat.lt_of_lt_of_le hi h.size)).trans (h.block i hi hne)⟩
theorem RdrAt.below {w w' : World} {B g : Nat} {s : C.St} (h : RdrAt w B g s) (hb : Below w.heap.size w w') : RdrAt w' B g s := by
  obtain ⟨A, c, hb0, h1, h2, h3, hr, h4⟩ := h
  exact ⟨A, c, heapB hb0 hb, h1, h2, h3, hr.below (hb.mono (by have := ltAt hb0; omega)), h4⟩
theorem RdrAt.setNew {w : World} {B g k : Nat} {s : C.St} (h : RdrAt w B g s) (hk : k ≠ g) (hB : B ≤ k) (i : Nat) (u : Value) : RdrAt (w.setCell ⟨k, i, none⟩ u) B g s := h.other (grownSet w k i u) hk hB
theorem belowGrownI {w w' : World} (hb : Below w.heap.size w w') : w.grownBy w' none := ⟨hb.os, hb.tape, hb.output, hb.size, fun k hk _ => hb.block k hk⟩
theorem ownKeptI {w w' : World} {base e n s : Nat} {v : Value} {xs : List Value} (h : w.ownsRow base e s v n xs) (hb : Below w.heap.size w w') : w'.ownsRow base e s v n xs :=
  h.kept (belowGrownI hb) (by cases hv : v.ownBlock with
    | none => exact .inl rfl
    | some g => exact .inr (by simp))
end Go.Proofs.YtjofjpmhokjhnaaDoor
