import Derived.Test.YthclniimhpmeoaaGreatDoorMrM1
import Derived.Deep.RegionWith
set_option maxHeartbeats 1600000
set_option maxRecDepth 20001
set_option linter.unusedSimpArgs false
set_option linter.unusedVariables false
namespace Go.Proofs.YthclniimhpmeoaaGreatDoor
set_option maxRecDepth 20000
section
open Go.RowKit
namespace C
abbrev St := List UInt8 × Bool
def some_ (n : Nat) (s : St) : List UInt8 × St := if s.2 = true ∨ s.1.length < n then ([], (s.1, true)) else (s.1.take n, (s.1.drop n, false))
def take (n : Int) (s : St) : Nat × St := if n < 0 ∨ 8 < n then (0, (s.1, true)) else (val 0 (some_ n.toNat s).1, (some_ n.toNat s).2)
def text (most : Int) (s : St) : List UInt8 × St :=
 some_ (take 2 s).1 ((take 2 s).2.1, (take 2 s).2.2 || decide (most < ((take 2 s).1 : Int)))
end C
def RdrAt (w : World) (B g : Nat) (s : C.St) : Prop :=
 ∃ A c, w.heap[g]? = some (.cells #[.slice A s.1.length c, .bool s.2] 146 (0, 0)) ∧ s.1.length ≤ c ∧ c ≤ maxLen ∧ (A = none → s.1 = [] ∧ c = 0) ∧ Rd w B A (bc s.1) ∧ B ≤ g
theorem cellAt {w : World} {g : Nat} {cs : Array Value} {t : TypeId} (h : w.heap[g]? = some (.cells cs t (0, 0))) (i : Nat) : w.cell? ⟨g, i, none⟩ = cs[i]? := cell_of_row w g i cs t (0, 0) h
theorem freeAt {w : World} {g : Nat} {cs : Array Value} {t : TypeId} (h : w.heap[g]? = some (.cells cs t (0, 0))) (i : Nat) : w.frozen? ⟨g, i, none⟩ = false := by
 simp [World.frozen?, h]
theorem setAt {w : World} {g : Nat} {cs : Array Value} {t : TypeId} (h : w.heap[g]? = some (.cells cs t (0, 0))) (i : Nat) (u : Value) : (w.setCell ⟨g, i, none⟩ u).heap[g]? = some (.cells (cs.setIfInBounds i u) t (0, 0)) := by
 simp [World.setCell, Array.getElem?_modify, h]
theorem ltAt {w : World} {g : Nat} {o : Obj} (h : w.heap[g]? = some o) : g < w.heap.size := (Array.getElem?_eq_some_iff.1 h).1
theorem grownSet (w : World) (g i : Nat) (u : Value) : w.grownBy (w.setCell ⟨g, i, none⟩ u) (some g) :=
 ⟨rfl, rfl, rfl, by simp [World.setCell], fun k _ hk => Below.heap_setCell _ _ _ _ (fun e => hk (by simp [e]))⟩
theorem Rd.grownOther {w w' : World} {B g : Nat} {A : Option Addr} {xs : List Value} (h : Rd w B A xs) (hg : w.grownBy w' (some g)) (hB : B ≤ g) : Rd w' B A xs := fun j u hu => by
 obtain ⟨b, off, hA, hb, hc⟩ := h j u hu;exact ⟨b, off, hA, hb, (World.cell?_of_block (hg.block b (World.block_lt_of_cell? w _ hc) (fun e => by injection e; omega))).trans hc⟩
def Took (w : World) (B g : Nat) (o : List UInt8) (s : C.St) (e : Ending) (w' : World) : Prop :=
 ∃ A c, e = .returned (.slice A o.length c) ∧ o.length ≤ c ∧ (A = none → o = [] ∧ c = 0) ∧ Rd w' B A (bc o) ∧ RdrAt w' B g s ∧ w.grownBy w' (some g)
theorem tookFail {w : World} {B g : Nat} {l : List UInt8} {f : Bool} (h : RdrAt w B g (l, f)) : Took w B g [] (l, true) (.returned (.slice none 0 0)) (w.setCell ⟨g, 1, none⟩ (.bool true)) := by
 obtain ⟨A, c, hb, hc, hm, hA, hr, hB⟩ := h;refine ⟨none, 0, rfl, Nat.zero_le _, fun _ => ⟨rfl, rfl⟩, Rd.nil, ⟨A, c, setAt hb 1 _, hc, hm, hA, hr.grownOther (grownSet w g 1 _) hB, hB⟩, grownSet w g 1 _⟩
theorem tookFine {w : World} {B g n c : Nat} {A A' : Option Addr} {l : List UInt8} (hb : w.heap[g]? = some (.cells #[.slice A l.length c, .bool false] 146 (0, 0))) (hc : l.length ≤ c) (hm : c ≤ maxLen) (hA : A = none → l = [] ∧ c = 0) (hr : Rd w B A (bc l)) (hB : B ≤ g)
 (hn : n ≤ l.length) (hA' : A' = if c = n then A else A.map (·.add n)) {v : Value} (hv : v = .slice A' (l.length - n) (c - n)) :
 Took w B g (l.take n) (l.drop n, false) (.returned (.slice A n c)) (w.setCell ⟨g, 0, none⟩ v) := by
 subst hv;have hg := grownSet w g 0 (.slice A' (l.length - n) (c - n));have hr' := hr.grownOther hg hB;(have hl : (l.take n).length = n := by simp; omega)
 have hnone : A' = none → l.drop n = [] ∧ c - n = 0 := by
  intro h;rw [hA'] at h
  split at h
  ·obtain ⟨rfl, rfl⟩ := hA h; simp
  ·simp at h;obtain ⟨rfl, rfl⟩ := hA h; simp
 refine ⟨A, c, by rw [hl], by rw [hl]; omega, fun h => ?_, by rw [← bc_take]; exact hr'.take n, ⟨A', c - n, ?_, by simp; omega, by unfold maxLen at *; omega, hnone, ?_, hB⟩, hg⟩
 ·obtain ⟨rfl, rfl⟩ := hA h; simp
 ·have := setAt hb 0 (.slice A' (l.length - n) (c - n))
  simpa using this
 ·have := hr'.cut (k := n) (cap := c) (by rw [bc_len]; exact hc);rw [bc_drop, ← hA'] at this;exact this
theorem some_any (B g n : Nat) (s : C.St) (w : World) (h : RdrAt w B g s) :
 Calls Tryz.prog 90 #[.pointer (some ⟨g, 0, none⟩), .int .i64 (n : Int)] w (Took w B g (C.some_ n s).1 (C.some_ n s).2) := by
 have hh := h;obtain ⟨A, c, hb, hc, hm, hA, hr, hB⟩ := h;have h0 := cellAt hb 0;have h1 := cellAt hb 1;have f0 := freeAt hb 0;have f1 := freeAt hb 1;simp only [zQ] at h0 h1;obtain ⟨l, f⟩ := s;simp only at h0 h1 hc hA hr;have HB := Lib.hid hb;have HH := Lib.hid hh;clear hb hh
 cases f with
 | true =>
   (have hs : C.some_ n (l, true) = ([], (l, true)) := by unfold C.some_; simp);rw [hs];clear hs
   go_enter Tryz.func90, Tryz.ntmps90
   go_wp2
   go_ret
   exact tookFail HH.out
 | false =>
   obtain ⟨m, hm'⟩ : ∃ m, m = l.length := ⟨_, rfl⟩;rw [← hm'] at h0 hc;have HM := Lib.hid hm';clear hm'
   by_cases hlt : m < n
   ·(have hs : C.some_ n (l, false) = ([], (l, true)) := by unfold C.some_; rw [if_pos (by right; rw [← HM.out]; exact hlt)]);rw [hs];clear hs
    go_enter Tryz.func90, Tryz.ntmps90
    go_wp2
    go_ret
    exact tookFail HH.out
   ·have hs : C.some_ n (l, false) = (l.take n, (l.drop n, false)) := by
     unfold C.some_; rw [if_neg (by rw [← HM.out]; simp; omega)]
    rw [hs];clear hs;(have hc' : l.length ≤ c := by rw [← HM.out]; exact hc);(have hn' : n ≤ l.length := by rw [← HM.out]; omega)
    by_cases hcn : c = n
    ·subst hcn;(have hmc : m = c := by omega);have HMC := Lib.hid hmc;clear hmc
     go_enter Tryz.func90, Tryz.ntmps90
     go_wp2
     go_ret
     exact tookFine HB.out hc' hm hA hr hB hn' (A' := A) (by simp) (by rw [← HM.out, HMC.out]; simp)
    ·go_enter Tryz.func90, Tryz.ntmps90
     go_wp2
     go_ret
     exact tookFine HB.out hc' hm hA hr hB hn' (A' := Option.map (fun x => x.add n) A) (by rw [if_neg hcn]) (by rw [← HM.out])
def TookN (w : World) (B g x : Nat) (s : C.St) (e : Ending) (w' : World) : Prop :=
 e = .returned (.int .u64 (x : Int)) ∧ RdrAt w' B g s ∧ w.grownBy w' (some g)
theorem RdrAt.drewN {w : World} {B g : Nat} {s : C.St} (h : RdrAt w B g s) (n : Nat) : RdrAt (w.drewN n) B g s := h
theorem RdrAt.fails {w : World} {B g : Nat} {l : List UInt8} {f : Bool} (h : RdrAt w B g (l, f)) : RdrAt (w.setCell ⟨g, 1, none⟩ (.bool true)) B g (l, true) := by
 obtain ⟨_, _, _, _, _, _, h1, _⟩ := tookFail h;exact h1
theorem shl_or (y : Nat) (b : UInt8) (hy : y < 72057594037927936) : bits BinOp.or IntKind.u64 ((y : Int) * 256) (b.toNat : Int) = ((y * 256 + b.toNat : Nat) : Int) := by
 have hb := b.toNat_lt;(have e1 : (y : Int) * 256 = ((y * 256 : Nat) : Int) := by omega);rw [e1, u64_or_nat _ _ (by omega) (by omega)]
 congr 1
 rw [show y * 256 = 2 ^ 8 * y from by omega, ← Nat.two_pow_add_eq_or_of_lt (by omega)]
theorem take_any (B g : Nat) (n : Int) (s : C.St) (w : World) (h : RdrAt w B g s) :
 Calls Tryz.prog 39 #[.pointer (some ⟨g, 0, none⟩), .int .i64 n] w (TookN w B g (C.take n s).1 (C.take n s).2) := by
 by_cases hn : n < 0 ∨ 8 < n
 ·(have hs : C.take n s = (0, (s.1, true)) := by unfold C.take; rw [if_pos hn]);rw [hs];obtain ⟨A, c, hb, _⟩ := id h;have h1 := cellAt hb 1;have f1 := freeAt hb 1;simp only [zQ] at h1;have HH := Lib.hid h;clear hb hs h;rcases hn with hn | hn
  all_goals
   go_enter Tryz.func39, Tryz.ntmps39
   go_wp2
   go_ret
   exact ⟨rfl, HH.out.fails, grownSet w g 1 _⟩
 ·(have hs : C.take n s = (C.val 0 (C.some_ n.toNat s).1, (C.some_ n.toNat s).2) := by unfold C.take; rw [if_neg hn]);rw [hs];(have h0 : 0 ≤ n := by omega);(have h8 : n ≤ 8 := by omega);obtain ⟨k, rfl⟩ := Int.eq_ofNat_of_zero_le h0;(have hol : (C.some_ k s).1.length ≤ 8 := by unfold C.some_; split <;> simp; omega);clear hn hs;rw [Int.toNat_natCast]
  go_enter Tryz.func39, Tryz.ntmps39
  go_wp2_with fail
  refine (some_any B g k s w h).mono ?_;rintro e w1 ⟨A, c, rfl, hoc, hA, hr, hR, hg⟩;generalize C.some_ k s = so at *;obtain ⟨o, s'⟩ := so;simp only at *;obtain ⟨m, hm⟩ : ∃ m, m = o.length := ⟨_, rfl⟩;have HM := Lib.hid hm;rw [← hm] at hol hoc ⊢;clear hm
  go_wp2_with fail
  go_loopw [5, 23] (fun x i wr => ∃ j : Nat, j ≤ m ∧ i = .int .i64 (j : Int) ∧ x = .int .u64 ((C.val 0 (o.take j) : Nat) : Int) ∧ wr = w1) (fun _ i _ => m - (intOf i).toNat)
  case atStart => exact ⟨0, Nat.zero_le _, rfl, by simp [C.val], rfl⟩
  case round =>
   obtain ⟨j, hj, rfl, rfl, rfl⟩ := hrel
   by_cases hlt : j < m
   ·(have hk2 : j < (bc o).length := by rw [bc_len, ← HM.out]; exact hlt);obtain ⟨ab, ao, rfl, _, hca⟩ := hr.at_ hk2;rw [bc_get] at hca;(have hjo : j < o.length := by rw [← HM.out]; exact hlt)
    have hval : C.val 0 (o.take (j + 1)) = C.val 0 (o.take j) * 256 + (o[j]'hjo).toNat := by
     rw [List.take_succ_eq_append_getElem hjo, C.val_app]; rfl
    have hlt7 : C.val 0 (o.take j) < 72057594037927936 := by
     have h1 := C.val_lt (o.take j);(have h2 : (o.take j).length ≤ 7 := by simp; omega);have h3 : 256 ^ (o.take j).length ≤ 256 ^ 7 := Nat.pow_le_pow_right (by omega) h2;omega
    have HS := Lib.hid (shl_or (C.val 0 (o.take j)) (o[j]'hjo) hlt7);have hby := (o[j]'hjo).toNat_lt;have HV := Lib.hid hval
    generalize o[j]'hjo = b at hca HS HV hby
    generalize C.val 0 (o.take j) = y at HS HV hlt7 ⊢;(have hb0 : (0 : Int) ≤ (j : Int) := by omega);(have hb1 : (j : Int) < (m : Int) := by omega);clear hk2 hval
    go_wp2_with fail
    go_roundw
    case rel => exact ⟨j + 1, by omega, by go_num, by rw [HV.out, HS.out], by first | rfl | trivial⟩
    case measure => simp [intOf]; omega
   ·obtain rfl : j = m := by omega
    go_wp2_with fail
    go_ret
    exact ⟨by rw [HM.out, List.take_length]; rfl, hR, hg⟩
theorem ok_any (B g : Nat) (s : C.St) (w : World) (h : RdrAt w B g s) :
 Calls Tryz.prog 91 #[.pointer (some ⟨g, 0, none⟩)] w fun e w' => e = .returned (.bool (!s.2)) ∧ w = w' := by
 obtain ⟨A, c, hb, _⟩ := id h;have h1 := cellAt hb 1;simp only [zQ] at h1;clear hb h
 go_enter Tryz.func91, Tryz.ntmps91
 go_wp2
 go_ret
 exact ⟨rfl, rfl⟩
def C.left (s : C.St) : Nat := if s.2 = true then 0 else s.1.length
theorem left_any (B g : Nat) (s : C.St) (w : World) (h : RdrAt w B g s) :
 Calls Tryz.prog 42 #[.pointer (some ⟨g, 0, none⟩)] w fun e w' => e = .returned (.int .i64 (C.left s : Nat)) ∧ w = w' := by
 obtain ⟨A, c, hb, _⟩ := id h;have h0 := cellAt hb 0;simp only [zQ] at h0;obtain ⟨l, f⟩ := s;cases f
 all_goals
  clear hb
  go_enter Tryz.func42, Tryz.ntmps42
  go_wp2_with fail
  refine (ok_any B g _ w h).mono ?_;rintro e w' ⟨rfl, rfl⟩
  go_wp2
  go_ret
  exact ⟨rfl, rfl⟩
def TookT (w : World) (B g : Nat) (o : List UInt8) (s : C.St) (e : Ending) (w' : World) : Prop :=
 e = .returned (.string ⟨o.toArray⟩) ∧ RdrAt w' B g s ∧ w.grownBy w' (some g)
theorem take_two_lt (s : C.St) : (C.take 2 s).1 < 65536 := by
 unfold C.take;rw [if_neg (by omega)];have h1 := C.val_lt (C.some_ (2 : Int).toNat s).1
 have h2 : (C.some_ (2 : Int).toNat s).1.length ≤ 2 := by
  unfold C.some_; split
  ·simp
  ·simp only [List.length_take]; exact Nat.min_le_left _ _
 have h3 : 256 ^ (C.some_ (2 : Int).toNat s).1.length ≤ 256 ^ 2 := Nat.pow_le_pow_right (by omega) h2;omega
theorem text_any (B g : Nat) (most : Int) (s : C.St) (w : World) (h : RdrAt w B g s) :
 Calls Tryz.prog 71 #[.pointer (some ⟨g, 0, none⟩), .int .i64 most] w (TookT w B g (C.text most s).1 (C.text most s).2) := by
 have hx := take_two_lt s;have T := Lib.hid (take_any B g 2 s w h);unfold C.text;generalize C.take 2 s = xs at *;obtain ⟨x, l, f⟩ := xs;simp only at *
 by_cases hm : most < (x : Int)
 ·rw [show (f || decide (most < (x : Int))) = true from by simp [hm]]
  go_enter Tryz.func71, Tryz.ntmps71
  go_wp2_with fail
  refine (T.out).mono ?_;rintro e w1 ⟨rfl, hR, hg⟩;obtain ⟨A, c, hb, _⟩ := id hR;have h1 := cellAt hb 1;have f1 := freeAt hb 1;simp only [zQ] at h1;have hR2 := hR.fails;clear hb h
  go_wp2_with fail
  refine (some_any B g x (l, true) _ hR2).mono ?_;rintro e w2 ⟨A', c', rfl, hoc, hA', hr', hR', hg'⟩;have hcv := run_string_rd (P := Tryz.prog) w2 34 5 9 Tryz.underlying34 Tryz.underlying5 Tryz.underlying9 B A' c' _ hr';clear hm
  go_wp2
  go_ret
  exact ⟨rfl, hR', (hg.trans (grownSet _ _ _ _)).trans hg'⟩
 ·rw [show (f || decide (most < (x : Int))) = f from by simp [hm]]
  go_enter Tryz.func71, Tryz.ntmps71
  go_wp2_with fail
  refine (T.out).mono ?_;rintro e w1 ⟨rfl, hR, hg⟩
  go_wp2_with fail
  refine (some_any B g x (l, f) _ hR).mono ?_;rintro e w2 ⟨A', c', rfl, hoc, hA', hr', hR', hg'⟩;have hcv := run_string_rd (P := Tryz.prog) w2 34 5 9 Tryz.underlying34 Tryz.underlying5 Tryz.underlying9 B A' c' _ hr'
  go_wp2
  go_ret
  exact ⟨rfl, hR', hg.trans hg'⟩
end
section
open Go.RowKit
def RefAt (w : World) (B g : Nat) (s : C.St) : Prop :=
 ∃ (A : Option Addr) (c : Nat) (full : List UInt8) (at_ : Nat), w.heap[g]? = some (.cells #[.slice A full.length c, .int .i64 (at_ : Int), .bool s.2] 104 (0, 0)) ∧ at_ ≤ full.length ∧ full.length ≤ 1099511627776 ∧ full.length ≤ c ∧ Rd w B A (bc full) ∧ B ≤ g ∧ s.1 = full.drop at_
theorem RefAt.fails {w : World} {B g : Nat} {l : List UInt8} {f : Bool} (h : RefAt w B g (l, f)) : RefAt (w.setCell ⟨g, 2, none⟩ (.bool true)) B g (l, true) := by
 obtain ⟨A, c, full, at_, hb, h1, h2, h3, hr, hB, hl⟩ := h;exact ⟨A, c, full, at_, setAt hb 2 _, h1, h2, h3, hr.grownOther (grownSet w g 2 _) hB, hB, hl⟩
theorem RefAt.drewN {w : World} {B g : Nat} {s : C.St} (h : RefAt w B g s) (n : Nat) : RefAt (w.drewN n) B g s := h
theorem grownFromDrewN {a w : World} {row : Option Nat} {n : Nat} (h : (a.drewN n).grownBy w row) : a.grownBy w row := ⟨h.os, h.tape, h.output, h.size, h.block⟩
theorem refSet {w : World} {g : Nat} {a b c : Value} {t : TypeId} (h : w.heap[g]? = some (.cells #[a, b, c] t (0, 0))) (n : Nat) (u : Value) : ((w.drewN n).setCell ⟨g, 1, none⟩ u).heap[g]? = some (.cells #[a, u, c] t (0, 0)) := by
 have := setAt (w := w.drewN n) (show (w.drewN n).heap[g]? = _ from h) 1 u
 simpa using this
def RTookN (w : World) (B g x : Nat) (s : C.St) (e : Ending) (w' : World) : Prop :=
 e = .returned (.int .u64 (x : Int)) ∧ RefAt w' B g s ∧ w.grownBy w' (some g)
theorem rtake_any (B g : Nat) (n : Int) (s : C.St) (w : World) (h : RefAt w B g s) :
 Calls Tryz.prog 44 #[.pointer (some ⟨g, 0, none⟩), .int .i64 n] w (RTookN w B g (C.take n s).1 (C.take n s).2) := by
 have HH := Lib.hid h;obtain ⟨A, c, full, at_, hb, hat, hbig, hfc, hr, hB, hl⟩ := h;have h0 := cellAt hb 0;have h1 := cellAt hb 1;have h2 := cellAt hb 2;have f1 := freeAt hb 1;have f2 := freeAt hb 2;simp only [zQ] at h0 h1 h2;obtain ⟨l, f⟩ := s;simp only at h2 hl;have HB := Lib.hid hb;have HL := Lib.hid hl;clear hb hl;obtain ⟨m, hm⟩ : ∃ m, m = full.length := ⟨_, rfl⟩;rw [← hm] at h0 hat hbig hfc;have HM := Lib.hid hm;clear hm
 cases f with
 | true =>
   have hs : C.take n (l, true) = (0, (l, true)) := by
    unfold C.take C.some_
    split
    ·rfl
    ·simp [C.val]
   rw [hs];clear hs
   go_enter Tryz.func44, Tryz.ntmps44
   go_wp2_with fail
   go_quiet (fail)
   go_wp2_with fail
   go_ret
   exact ⟨rfl, RefAt.fails (HH.out.drewN _), grownFromDrewN (grownSet _ g 2 _)⟩
 | false =>
   by_cases hn : n < 0 ∨ 8 < n
   ·(have hs : C.take n (l, false) = (0, (l, true)) := by unfold C.take; rw [if_pos hn]);rw [hs];clear hs;rcases hn with hn | hn
    ·have hd : decide (n < 0) = true := by simpa using hn
     go_enter Tryz.func44, Tryz.ntmps44
     go_wp2_with fail
     go_quiet (fail)
     go_wp2_with fail
     go_ret
     exact ⟨rfl, RefAt.fails (HH.out.drewN _), grownFromDrewN (grownSet _ g 2 _)⟩
    ·(have hd : decide (n < 0) = false := by simp; omega);(have hd2 : decide (8 < n) = true := by simpa using hn)
     go_enter Tryz.func44, Tryz.ntmps44
     go_wp2_with fail
     go_quiet (fail)
     go_wp2_with fail
     go_ret
     exact ⟨rfl, RefAt.fails (HH.out.drewN _), grownFromDrewN (grownSet _ g 2 _)⟩
   ·(have hn0 : 0 ≤ n := by omega);obtain ⟨k, rfl⟩ := Int.eq_ofNat_of_zero_le hn0;(have hd : decide ((k : Int) < 0) = false := by simp);(have hd2 : decide (8 < (k : Int)) = false := by simp; omega);(have hk8 : k ≤ 8 := by omega);(have hll : l.length = m - at_ := by rw [HL.out, List.length_drop, HM.out]);(have hw : IntKind.i64.wrap ((m : Int) - (at_ : Int)) = (m : Int) - (at_ : Int) := by rw [IntKind.wrap_i64]; omega)
    by_cases hrem : (m : Int) - (at_ : Int) < (k : Int)
    ·have hs : C.take (k : Int) (l, false) = (0, (l, true)) := by
      unfold C.take C.some_;rw [if_neg (by omega), if_pos (by right; rw [Int.toNat_natCast]; simp only; omega)];simp [C.val]
     rw [hs];(have hd3 : decide ((m : Int) - (at_ : Int) < (k : Int)) = true := by simpa using hrem);clear hs hll hn
     go_enter Tryz.func44, Tryz.ntmps44
     go_wp2_with fail
     go_quiet (fail)
     go_wp2_with fail
     go_ret
     exact ⟨rfl, RefAt.fails (HH.out.drewN _), grownFromDrewN (grownSet _ g 2 _)⟩
    ·have hs : C.take (k : Int) (l, false) = (C.val 0 (l.take k), (l.drop k, false)) := by
      unfold C.take C.some_;rw [if_neg (by omega), Int.toNat_natCast, if_neg (by simp only [Bool.false_eq_true, false_or]; omega)]
     rw [hs];(have hd3 : decide ((m : Int) - (at_ : Int) < (k : Int)) = false := by simp; omega);(have hatk : at_ + k ≤ m := by omega);have HLL := Lib.hid hll;clear hs hll hn
     go_enter Tryz.func44, Tryz.ntmps44
     go_wp2_with fail
     go_quiet (fail)
     go_wp2_with fail
     clear hw
     go_loopw [5, 6] (fun x i wr => ∃ j q : Nat, j ≤ k ∧ i = .int .i64 (j : Int) ∧ x = .int .u64 ((C.val 0 (l.take j) : Nat) : Int) ∧ wr = w.drewN q) (fun _ i _ => k - (intOf i).toNat)
     case atStart => exact ⟨0, _, Nat.zero_le _, rfl, by simp [C.val], rfl⟩
     case round =>
      obtain ⟨j, q, hj, rfl, rfl, rfl⟩ := hrel
      by_cases hlt : j < k
      ·(have hk2 : at_ + j < (bc full).length := by rw [bc_len, ← HM.out]; omega);obtain ⟨ab, ao, rfl, _, hca⟩ := hr.at_ hk2;rw [bc_get] at hca;(have hjo : j < l.length := by rw [HLL.out]; omega)
       have hbyte : full[at_ + j]'(by rw [← HM.out]; omega) = l[j]'hjo := by
        (have : l[j]'hjo = (full.drop at_)[j]'(by rw [← HL.out]; exact hjo) := by simp only [HL.out]);rw [this, List.getElem_drop]
       rw [hbyte] at hca
       have hval : C.val 0 (l.take (j + 1)) = C.val 0 (l.take j) * 256 + (l[j]'hjo).toNat := by
        rw [List.take_succ_eq_append_getElem hjo, C.val_app]; rfl
       have hlt7 : C.val 0 (l.take j) < 72057594037927936 := by
        have h1 := C.val_lt (l.take j);(have h2 : (l.take j).length ≤ 7 := by simp; omega);have h3 : 256 ^ (l.take j).length ≤ 256 ^ 7 := Nat.pow_le_pow_right (by omega) h2;omega
       have hby := (l[j]'hjo).toNat_lt;have HV := Lib.hid hval;clear hbyte hval hk2
       generalize l[j]'hjo = b at hca HV hby
       generalize C.val 0 (l.take j) = y at HV hlt7 ⊢;(have hb0 : (0 : Int) ≤ (at_ : Int) + (j : Int) := by omega);(have hb1 : (at_ : Int) + (j : Int) < (m : Int) := by omega);(have hw1 : IntKind.i64.wrap ((at_ : Int) + (j : Int)) = (at_ : Int) + (j : Int) := by rw [IntKind.wrap_i64]; omega);(have hw2 : IntKind.u64.wrap ((y : Int) * 256) = (y : Int) * 256 := by rw [IntKind.wrap_u64]; omega);(have hw3 : IntKind.u64.wrap ((y : Int) * 256 + (b.toNat : Int)) = (y : Int) * 256 + (b.toNat : Int) := by rw [IntKind.wrap_u64]; omega);(have hti : ((at_ : Int) + (j : Int)).toNat = at_ + j := by omega)
       go_wp2_with fail
       go_quiet (fail)
       clear hw1 hw2 hw3
       go_wp2_with fail
       go_roundw
       case rel => exact ⟨j + 1, _, by omega, by go_num, int_of (by rw [HV.out]; omega), rfl⟩
       case measure => simp [intOf]; omega
      ·obtain rfl : j = k := by omega
       go_wp2_with fail
       go_ret
       refine ⟨rfl, ⟨A, c, full, at_ + j, ?_, by rw [← HM.out]; omega, by rw [← HM.out]; exact hbig, by rw [← HM.out]; exact hfc, Rd.grownOther (w := w.drewN _) (hr.drewN _) (grownSet _ g 1 _) hB, hB, ?_⟩, grownFromDrewN (grownSet _ g 1 _)⟩
       ·rw [show ((at_ + j : Nat) : Int) = (at_ : Int) + (j : Int) from by omega];exact refSet HB.out _ _
       ·show l.drop j = full.drop (at_ + j);rw [HL.out, List.drop_drop]
def RTookT (w : World) (B g : Nat) (o : List UInt8) (s : C.St) (e : Ending) (w' : World) : Prop :=
 e = .returned (.string ⟨o.toArray⟩) ∧ RefAt w' B g s ∧ w.grownBy w' (some g)
theorem rtext_any (B g : Nat) (most : Int) (s : C.St) (w : World) (h : RefAt w B g s) :
 Calls Tryz.prog 77 #[.pointer (some ⟨g, 0, none⟩), .int .i64 most] w (RTookT w B g (C.text most s).1 (C.text most s).2) := by
 have hx := take_two_lt s;have T := Lib.hid (rtake_any B g 2 s w h);unfold C.text;generalize C.take 2 s = xs at *;obtain ⟨x, l, f⟩ := xs;simp only at *
 go_enter Tryz.func77, Tryz.ntmps77
 go_wp2_with fail
 refine (T.out).mono ?_;rintro e w1 ⟨rfl, hR, hg⟩;have HH := Lib.hid hR;obtain ⟨A, c, full, at_, hb, hat, hbig, hfc, hr, hB, hl⟩ := hR;have h0 := cellAt hb 0;have h1 := cellAt hb 1;have h2 := cellAt hb 2;have f1 := freeAt hb 1;have f2 := freeAt hb 2;simp only [zQ] at h0 h1 h2;have HB := Lib.hid hb;have HL : Hid (l = full.drop at_) := hl;obtain ⟨m, hm⟩ : ∃ m, m = full.length := ⟨_, rfl⟩;rw [← hm] at h0 hat hbig hfc;have HM := Lib.hid hm;(have hll : l.length = m - at_ := by rw [HL.out, List.length_drop, HM.out]);have HLL := Lib.hid hll;(have hw : IntKind.i64.wrap ((m : Int) - (at_ : Int)) = (m : Int) - (at_ : Int) := by rw [IntKind.wrap_i64]; omega);clear hb hl hm hll h T;(have hfail : C.some_ x (l, true) = ([], (l, true)) := by unfold C.some_; simp);have HF := Lib.hid hfail;clear hfail
 cases f with
 | true =>
   go_wp2_with fail
   go_quiet (fail)
   go_wp2_with fail
   go_ret
   rw [show (true || decide (most < (x : Int))) = true from rfl, HF.out];exact ⟨rfl, RefAt.fails (HH.out.drewN _), hg.trans (grownFromDrewN (grownSet _ g 2 _))⟩
 | false =>
   by_cases hm1 : most < (x : Int)
   ·have hd : decide (most < (x : Int)) = true := by simpa using hm1
    go_wp2_with fail
    go_quiet (fail)
    go_wp2_with fail
    go_ret
    rw [hd, show (false || true) = true from rfl, HF.out];exact ⟨rfl, RefAt.fails (HH.out.drewN _), hg.trans (grownFromDrewN (grownSet _ g 2 _))⟩
   ·have hd : decide (most < (x : Int)) = false := by simpa using hm1
    by_cases hrem : (m : Int) - (at_ : Int) < (x : Int)
    ·(have hd3 : decide ((m : Int) - (at_ : Int) < (x : Int)) = true := by simpa using hrem);(have hs : C.some_ x (l, false) = ([], (l, true)) := by unfold C.some_; rw [if_pos (by right; have := HLL.out; simp only; omega)]);have HS := Lib.hid hs;clear hs
     go_wp2_with fail
     go_quiet (fail)
     go_wp2_with fail
     go_ret
     rw [hd, show (false || false) = false from rfl, HS.out];exact ⟨rfl, RefAt.fails (HH.out.drewN _), hg.trans (grownFromDrewN (grownSet _ g 2 _))⟩
    ·(have hd3 : decide ((m : Int) - (at_ : Int) < (x : Int)) = false := by simp; omega);(have hs : C.some_ x (l, false) = (l.take x, (l.drop x, false)) := by unfold C.some_; rw [if_neg (by have := HLL.out; simp only [Bool.false_eq_true, false_or]; omega)]);have HS := Lib.hid hs;(have hw4 : IntKind.i64.wrap ((at_ : Int) + (x : Int)) = (at_ : Int) + (x : Int) := by rw [IntKind.wrap_i64]; omega);clear hs
     by_cases hca : c = at_
     ·subst hca;(obtain rfl : x = 0 := by omega);have hdz : decide (most < 0) = false := hd;have HD := Lib.hid hd;have hd3z : decide ((m : Int) - (c : Int) < 0) = false := hd3;(have hm0 : 0 ≤ most := by omega);(have hmc : (0 : Int) ≤ (m : Int) - (c : Int) := by omega);clear hd hd3 hw4 hrem hm1 hx
      have hcv : ∀ k, (convert 34 9 (.slice A 0 0)).run Tryz.prog (w1.drewN k) = .ok (.string ⟨#[]⟩) (w1.drewN k) := fun k =>
       run_string_rd (P := Tryz.prog) (w1.drewN k) 34 5 9 Tryz.underlying34 Tryz.underlying5 Tryz.underlying9 B A 0 [] Rd.nil
      have hb1 : (c : Int) ≤ (c : Int) := by omega
      go_wp2_with fail
      go_quiet (fail)
      go_wp2_with fail
      go_quiet (fail)
      go_wp2_with fail
      go_ret
      rw [HD.out, show (false || false) = false from rfl, HS.out];refine ⟨rfl, ⟨A, c, full, c, ?_, by rw [← HM.out]; omega, by rw [← HM.out]; exact hbig, by rw [← HM.out]; exact hfc, Rd.grownOther (w := w1.drewN _) (hr.drewN _) (grownSet _ g 1 _) hB, hB, ?_⟩, hg.trans (grownFromDrewN (grownSet _ g 1 _))⟩
      ·exact refSet HB.out _ _
      ·show l.drop 0 = full.drop c;rw [HL.out, List.drop_zero]
     ·have hcut := (hr.cut (k := at_) (cap := c) (by rw [bc_len, ← HM.out]; exact hfc)).take x;rw [if_neg hca, bc_drop, bc_take, ← HL.out] at hcut;(have hlx : (l.take x).length = x := by have := HLL.out; simp; omega)
      have hcv : ∀ k, (convert 34 9 (.slice (A.map (·.add at_)) x (c - at_))).run Tryz.prog (w1.drewN k) = .ok (.string ⟨(l.take x).toArray⟩) (w1.drewN k) := fun k => by
       have := run_string_rd (P := Tryz.prog) (w1.drewN k) 34 5 9 Tryz.underlying34 Tryz.underlying5 Tryz.underlying9 B _ (c - at_) _ (hcut.drewN k);rw [hlx] at this;exact this
      (have hb0 : (0 : Int) ≤ (at_ : Int) + (x : Int) := by omega);(have hb1 : (at_ : Int) + (x : Int) ≤ (c : Int) := by omega);(have hb2 : (at_ : Int) ≤ (at_ : Int) + (x : Int) := by omega);(have hti : ((at_ : Int) + (x : Int)).toNat = at_ + x := by omega);clear hlx
      go_wp2_with fail
      go_quiet (fail)
      go_wp2_with fail
      go_quiet (fail)
      go_wp2_with fail
      go_ret
      rw [hd, show (false || false) = false from rfl, HS.out];refine ⟨rfl, ⟨A, c, full, at_ + x, ?_, by rw [← HM.out]; omega, by rw [← HM.out]; exact hbig, by rw [← HM.out]; exact hfc, Rd.grownOther (w := w1.drewN _) (hr.drewN _) (grownSet _ g 1 _) hB, hB, ?_⟩, hg.trans (grownFromDrewN (grownSet _ g 1 _))⟩
      ·rw [show ((at_ + x : Nat) : Int) = (at_ : Int) + (x : Int) from by omega];exact refSet HB.out _ _
      ·show l.drop x = full.drop (at_ + x);rw [HL.out, List.drop_drop]
end
section
open Go.RowKit Go.ChangeShapes Go.WideShapes Go.ChangeAt Go.Deep
def Cel (W : World) (t : TypeId) (cs : List Value) : Prop :=
 ∃ (H : Type) (enc : TypeId × Value → H) (fuel : Nat) (x : DataW H × List MemPlace), DataW.trod enc Tryz.prog W 0 (fun _ => true) true fuel t cs = some x
section
variable {W : World} {t : TypeId} {v : Value} {cs : List Value}
theorem Arg.struct {fs : Array Field} (h : Arg W t v) (ht : Tryz.prog.underlying t = some (.struct fs)) : ∃ cs : Array Value, v = .agg cs ∧ Cel W t cs.toList := by
 obtain ⟨⟨base, h1⟩, H, enc, d, ps, fuel, h2⟩ := h;obtain ⟨cs, rfl, _⟩ := okWide_struct ht h1;exact ⟨cs, rfl, H, enc, fuel, _, h2⟩
theorem Arg.array {n : Nat} {e : TypeId} (h : Arg W t v) (ht : Tryz.prog.underlying t = some (.array n e)) : ∃ cs : Array Value, v = .agg cs ∧ Cel W t cs.toList := by
 obtain ⟨⟨base, h1⟩, H, enc, d, ps, fuel, h2⟩ := h;simp only [Value.okWide, ht] at h1;obtain ⟨cs, rfl, _⟩ := h1;exact ⟨cs, rfl, H, enc, fuel, _, h2⟩
theorem Arg.slice {e : TypeId} (h : Arg W t v) (ht : Tryz.prog.underlying t = some (.slice e)) : ∃ (A : Option Addr) (n c : Nat), v = .slice A n c ∧ Cel W t [.slice A n c] := by
 obtain ⟨⟨base, h1⟩, H, enc, d, ps, fuel, h2⟩ := h;obtain ⟨A, n, c, rfl⟩ := okWide_slice ht h1;exact ⟨A, n, c, rfl, H, enc, fuel, _, h2⟩
theorem Cel.int {k : IntKind} (h : Cel W t cs) (ht : Tryz.prog.underlying t = some (.int k)) : ∃ a, cs = [.int k a] ∧ (Lit.int k a).wf = true := by
 obtain ⟨H, enc, fuel, x, h⟩ := h;obtain ⟨a, h1, _, h2⟩ := DataW.trod_int ht h;exact ⟨a, h1, h2⟩
theorem Cel.u64 (h : Cel W t cs) (ht : Tryz.prog.underlying t = some (.int .u64)) : ∃ a : Nat, cs = [.int .u64 (a : Int)] ∧ a < 18446744073709551616 := by
 obtain ⟨a, rfl, w⟩ := h.int ht;have := bounds_u64 w;exact ⟨a.toNat, by rw [Int.toNat_of_nonneg this.1], by omega⟩
theorem Cel.u32 (h : Cel W t cs) (ht : Tryz.prog.underlying t = some (.int .u32)) : ∃ a : Nat, cs = [.int .u32 (a : Int)] ∧ a < 4294967296 := by
 obtain ⟨a, rfl, w⟩ := h.int ht;have := bounds_u32 w;exact ⟨a.toNat, by rw [Int.toNat_of_nonneg this.1], by omega⟩
theorem Cel.u8 (h : Cel W t cs) (ht : Tryz.prog.underlying t = some (.int .u8)) : ∃ a : Nat, cs = [.int .u8 (a : Int)] ∧ a < 256 := by
 obtain ⟨a, rfl, w⟩ := h.int ht;have := bounds_u8 w;exact ⟨a.toNat, by rw [Int.toNat_of_nonneg this.1], by omega⟩
theorem Cel.i64 (h : Cel W t cs) (ht : Tryz.prog.underlying t = some (.int .i64)) : ∃ a : Int, cs = [.int .i64 a] ∧ -9223372036854775808 ≤ a ∧ a ≤ 9223372036854775807 := by
 obtain ⟨a, rfl, w⟩ := h.int ht;have := bounds_i64 w;exact ⟨a, rfl, by omega, by omega⟩
theorem Cel.bool (h : Cel W t cs) (ht : Tryz.prog.underlying t = some .bool) : ∃ b, cs = [.bool b] := by
 obtain ⟨H, enc, fuel, x, h⟩ := h;obtain ⟨a, h1, _⟩ := DataW.trod_bool ht h;exact ⟨a, h1⟩
theorem Cel.string (h : Cel W t cs) (ht : Tryz.prog.underlying t = some .string) : ∃ s : ByteArray, cs = [.string s] ∧ s.size ≤ 9223372036854775807 := by
 obtain ⟨H, enc, fuel, x, h⟩ := h;obtain ⟨a, h1, _, h2⟩ := DataW.trod_string ht h;exact ⟨a, h1, by unfold maxLen at h2; omega⟩
theorem Cel.len {fs : Array Field} (h : Cel W t cs) (ht : Tryz.prog.underlying t = some (.struct fs)) : cs.length = Tryz.prog.cellsOf t := by
 obtain ⟨H, enc, fuel, x, h⟩ := h;obtain ⟨_, _, _, _, h1, _⟩ := DataW.trod_struct ht h;exact h1
theorem Cel.field {fs : Array Field} (h : Cel W t cs) (ht : Tryz.prog.underlying t = some (.struct fs)) (j : Nat) (f : Field) (hj : fs[j]? = some f) : Cel W f.type ((cs.drop f.offset).take (Tryz.prog.cellsOf f.type)) := by
 obtain ⟨H, enc, fuel, x, h⟩ := h;obtain ⟨xs, n, _, _, _, hl, hf⟩ := DataW.trod_struct ht h;(have hjl : j < xs.length := by rw [hl]; exact (Array.getElem?_eq_some_iff.1 hj).1);have h1 := hf j f hj;rw [List.getElem?_eq_getElem hjl] at h1;exact ⟨H, enc, n, _, h1⟩
theorem Cel.field1 {fs : Array Field} (h : Cel W t cs) (ht : Tryz.prog.underlying t = some (.struct fs)) (j o : Nat) (ft : TypeId) (f : Field) (hj : fs[j]? = some f) (ho : f.offset = o) (hty : f.type = ft) (hk : Tryz.prog.cellsOf ft = 1) (v : Value) (hv : cs[o]? = some v) : Cel W ft [v] := by
 subst ho; subst hty;have h1 := h.field ht j f hj;rw [hk] at h1;have hl := (List.getElem?_eq_some_iff.1 hv).1;rw [List.drop_eq_getElem_cons hl] at h1;have e : cs[f.offset] = v := (List.getElem?_eq_some_iff.1 hv).2;rw [e] at h1;exact h1
theorem Cel.elem {n : Nat} {e : TypeId} (h : Cel W t cs) (ht : Tryz.prog.underlying t = some (.array n e)) (i : Nat) (hi : i < n) : Cel W e ((cs.drop (i * Tryz.prog.cellsOf e)).take (Tryz.prog.cellsOf e)) := by
 obtain ⟨H, enc, fuel, x, h⟩ := h;obtain ⟨xs, m, _, _, _, hl, hf⟩ := DataW.trod_array ht h;have h1 := hf i hi;rw [List.getElem?_eq_getElem (show i < xs.length by omega)] at h1;exact ⟨H, enc, m, _, h1⟩
theorem Cel.slice {e : TypeId} {A : Option Addr} {n c : Nat} (h : Cel W t [.slice A n c]) (ht : Tryz.prog.underlying t = some (.slice e)) :
 (A = none ∧ n = 0 ∧ c = 0) ∨ (n ≤ c ∧ c ≤ maxLen ∧ ∃ a, A = some a ∧ ∀ i, i < n → ∃ cs' : List Value, cs'.length = Tryz.prog.cellsOf e ∧ Cel W e cs' ∧ ∀ j, j < Tryz.prog.cellsOf e → W.cell? ((a.add (i * Tryz.prog.cellsOf e)).add j) = cs'[j]?) := by
 obtain ⟨H, enc, fuel, x, h⟩ := h;rcases open_slice ht h with ⟨h1, _⟩ | ⟨a, len, cap, m, k, D, Pl, h1, _, hl, hm, hmm, _, hi⟩
 ·simp at h1;exact Or.inl h1
 ·simp at h1;obtain ⟨rfl, rfl, rfl⟩ := h1;refine Or.inr ⟨hl, hm, a, rfl, fun i hi' => ?_⟩;obtain ⟨cs', hc, ht'⟩ := hi i (by simp at hmm; omega);obtain ⟨_, hcl, hat⟩ := World.cells?_some hc;exact ⟨cs', hcl, ⟨H, enc, k, _, ht'⟩, hat⟩
theorem Cel.sliceAt {e : TypeId} {A : Option Addr} {n c : Nat} (h : Cel W t [.slice A n c]) (ht : Tryz.prog.underlying t = some (.slice e)) (sz : Nat) (hsz : Tryz.prog.cellsOf e = sz) (hpos : 0 < sz) :
 n ≤ c ∧ c ≤ maxLen ∧ (A = none → n = 0 ∧ c = 0) ∧ (0 < n → ∃ b off, A = some ⟨b, off, none⟩ ∧ b < W.heap.size ∧ ∀ i, i < n → ∃ cs' : List Value, cs'.length = sz ∧ Cel W e cs' ∧ ∀ j, j < sz → W.cell? ⟨b, off + i * sz + j, none⟩ = cs'[j]?) := by
 subst hsz;rcases h.slice ht with ⟨rfl, rfl, rfl⟩ | ⟨hn, hc, a, rfl, hi⟩
 ·exact ⟨Nat.le_refl _, by simp [maxLen], fun _ => ⟨rfl, rfl⟩, fun h => absurd h (by omega)⟩
 ·refine ⟨hn, hc, fun h => by simp at h, fun h0 => ?_⟩;obtain ⟨cs0, hl0, _, hat0⟩ := hi 0 h0;have h00 := hat0 0 hpos;rw [List.getElem?_eq_getElem (by omega)] at h00;(have e0 : (a.add (0 * Tryz.prog.cellsOf e)) = a := by simp [Addr.add]);rw [e0] at h00;obtain ⟨b, off, rfl⟩ := spotNone h00;refine ⟨b, off, rfl, ?_, fun i hi' => ?_⟩
  ·rw [Addr.add_lit] at h00;exact World.block_lt_of_cell? W _ h00
  ·obtain ⟨cs', hl, hc', hat⟩ := hi i hi';refine ⟨cs', hl, hc', fun j hj => ?_⟩;have := hat j hj;rw [Addr.add_lit, Addr.add_lit] at this;exact this
end
end
section
open Go.RowKit
theorem heapA {w : World} {g : Nat} {o' : Obj} (h : w.heap[g]? = some o') (o : Obj) : (w.alloc o).heap[g]? = some o' := (Below.heap_alloc w o g (Array.getElem?_eq_some_iff.1 h).1).trans h
theorem heapB {w w' : World} {g : Nat} {o' : Obj} (h : w.heap[g]? = some o') (hb : Below w.heap.size w w') : w'.heap[g]? = some o' := (hb.block g (Array.getElem?_eq_some_iff.1 h).1).trans h
theorem new_any (A : Option Addr) (c : Nat) (l : List UInt8) (w : World) (B : Nat) (hc : l.length ≤ c) (hm : c ≤ maxLen) (hA : A = none → l = [] ∧ c = 0) (hr : Rd w B A (bc l)) (hB : B ≤ w.heap.size) :
 Calls Tryz.prog 38 #[.slice A l.length c] w fun e w' => e = .returned (.pointer (some ⟨w.heap.size, 0, none⟩)) ∧ RdrAt w' B w.heap.size (l, false) ∧ Below w.heap.size w w' := by
 obtain ⟨n, hn⟩ : ∃ n, n = l.length := ⟨_, rfl⟩;have HN := Lib.hid hn;rw [← hn];clear hn
 go_enter Tryz.func38, Tryz.ntmps38
 go_wp2
 go_ret
 refine ⟨rfl, ⟨A, c, ?_, hc, hm, hA, hr.alloc hB _, hB⟩, (Below.refl _ _).alloc (Nat.le_refl _) _⟩;rw [← HN.out];exact heap_alloc_new w _
theorem RdrAt.other {w w' : World} {B g k : Nat} {s : C.St} (h : RdrAt w B g s) (hg : w.grownBy w' (some k)) (hk : k ≠ g) (hB : B ≤ k) : RdrAt w' B g s := by
 obtain ⟨A, c, hb, h1, h2, h3, hr, h4⟩ := h;exact ⟨A, c, (hg.block g (ltAt hb) (fun e => hk (by injection e with e; exact e.symm))).trans hb, h1, h2, h3, hr.grownOther hg hB, h4⟩
theorem RdrAt.oth {w w' : World} {B g k : Nat} {s : C.St} (h : RdrAt w B g s) (hg : w.grownBy w' (some k)) (hk : k ≠ g := by omega) (hB : B ≤ k := by omega) : RdrAt w' B g s := h.other hg hk hB
theorem RefAt.other {w w' : World} {B g k : Nat} {s : C.St} (h : RefAt w B g s) (hg : w.grownBy w' (some k)) (hk : k ≠ g) (hB : B ≤ k) : RefAt w' B g s := by
 obtain ⟨A, c, full, at_, hb, h1, h2, h3, hr, h4, h5⟩ := h;exact ⟨A, c, full, at_, (hg.block g (ltAt hb) (fun e => hk (by injection e with e; exact e.symm))).trans hb, h1, h2, h3, hr.grownOther hg hB, h4, h5⟩
theorem RefAt.oth {w w' : World} {B g k : Nat} {s : C.St} (h : RefAt w B g s) (hg : w.grownBy w' (some k)) (hk : k ≠ g := by omega) (hB : B ≤ k := by omega) : RefAt w' B g s := h.other hg hk hB
theorem RdrAt.alloc {w : World} {B g : Nat} {s : C.St} (h : RdrAt w B g s) (o : Obj) : RdrAt (w.alloc o) B g s := by
 obtain ⟨A, c, hb, h1, h2, h3, hr, h4⟩ := h;exact ⟨A, c, (Below.heap_alloc w o g (ltAt hb)).trans hb, h1, h2, h3, hr.alloc (by have := ltAt hb; omega) o, h4⟩
theorem RefAt.cell {w : World} {B g : Nat} {s : C.St} (h : RefAt w B g s) : w.cell? ⟨g, 2, none⟩ = some (.bool s.2) := by
 obtain ⟨A, c, full, at_, hb, _⟩ := h;have := cellAt hb 2
 simpa using this
theorem put_one (l : List UInt8) (x : Nat) : C.put l x 1 = l ++ [UInt8.ofNat x] := by
 show l ++ C.be x 1 = _;simp [C.be]
theorem take_lt (k : Nat) (s : C.St) (hk : k ≤ 8) : (C.take (k : Int) s).1 < 256 ^ k := by
 unfold C.take;rw [if_neg (by omega)];have h1 := C.val_lt (C.some_ k s).1;(have h2 : (C.some_ k s).1.length ≤ k := by unfold C.some_; split <;> simp; omega);have h3 : 256 ^ (C.some_ k s).1.length ≤ 256 ^ k := Nat.pow_le_pow_right (by omega) h2;rw [Int.toNat_natCast];show C.val 0 (C.some_ k s).1 < _;omega
theorem take9 (s : C.St) : C.take 9 s = (0, (s.1, true)) := by unfold C.take; simp
theorem heapG {w w' : World} {k g : Nat} {o : Obj} (h : w.heap[k]? = some o) (hg : w.grownBy w' (some g)) (hne : k ≠ g) : w'.heap[k]? = some o := (hg.block k (ltAt h) (fun e => hne (by injection e))).trans h
theorem grownTrans {a b c : World} {r : Option Nat} (h : a.grownBy b r) (k : b.grownBy c r) : a.grownBy c r :=
 ⟨k.os.trans h.os, k.tape.trans h.tape, k.output.trans h.output, Nat.le_trans h.size k.size, fun i hi hne => (k.block i (Nat.lt_of_lt_of_le hi h.size) hne).trans (h.block i hi hne)⟩
theorem grownSetNew {a b : World} {r : Option Nat} {g : Nat} (h : a.grownBy b r) (hb : a.heap.size ≤ g) (i : Nat) (u : Value) : a.grownBy (b.setCell ⟨g, i, none⟩ u) r :=
 have k := grownSet b g i u
 ⟨k.os.trans h.os, k.tape.trans h.tape, k.output.trans h.output, Nat.le_trans h.size k.size, fun j hj hne => (k.block j (Nat.lt_of_lt_of_le hj h.size) (fun e => by injection e with e; omega)).trans (h.block j hj hne)⟩
theorem grownAllocR {a b : World} {r : Option Nat} (h : a.grownBy b r) (o : Obj) : a.grownBy (b.alloc o) r := grownTrans h (World.grownBy_alloc b o r)
theorem grownBelow {a b c : World} {r : Option Nat} (h : a.grownBy b r) (k : Below b.heap.size b c) : a.grownBy c r :=
 ⟨k.os.trans h.os, k.tape.trans h.tape, k.output.trans h.output, Nat.le_trans h.size k.size, fun i hi hne => (k.block i (Nat.lt_of_lt_of_le hi h.size)).trans (h.block i hi hne)⟩
theorem RdrAt.below {w w' : World} {B g : Nat} {s : C.St} (h : RdrAt w B g s) (hb : Below w.heap.size w w') : RdrAt w' B g s := by
 obtain ⟨A, c, hb0, h1, h2, h3, hr, h4⟩ := h;exact ⟨A, c, heapB hb0 hb, h1, h2, h3, hr.below (hb.mono (by have := ltAt hb0; omega)), h4⟩
theorem RdrAt.setNew {w : World} {B g k : Nat} {s : C.St} (h : RdrAt w B g s) (hk : k ≠ g) (hB : B ≤ k) (i : Nat) (u : Value) : RdrAt (w.setCell ⟨k, i, none⟩ u) B g s := h.other (grownSet w k i u) hk hB
theorem RefAt.below {w w' : World} {B g : Nat} {s : C.St} (h : RefAt w B g s) (hb : Below w.heap.size w w') : RefAt w' B g s := by
 obtain ⟨A, c, full, at_, hb0, h1, h2, h3, hr, h4, h5⟩ := h;exact ⟨A, c, full, at_, heapB hb0 hb, h1, h2, h3, hr.below (hb.mono (by have := ltAt hb0; omega)), h4, h5⟩
theorem RefAt.alloc {w : World} {B g : Nat} {s : C.St} (h : RefAt w B g s) (o : Obj) : RefAt (w.alloc o) B g s := h.below ((Below.refl _ _).alloc (Nat.le_refl _) _)
theorem RefAt.setNew {w : World} {B g k : Nat} {s : C.St} (h : RefAt w B g s) (hk : k ≠ g) (hB : B ≤ k) (i : Nat) (u : Value) : RefAt (w.setCell ⟨k, i, none⟩ u) B g s := h.other (grownSet w k i u) hk hB
theorem RefAt.lt {w : World} {B g : Nat} {s : C.St} (h : RefAt w B g s) : g < w.heap.size ∧ B ≤ g := by
 obtain ⟨A, c, full, at_, hb0, h1, h2, h3, hr, h4, h5⟩ := h;exact ⟨ltAt hb0, h4⟩
theorem RefAt.free {w : World} {B g : Nat} {s : C.St} (h : RefAt w B g s) : w.frozen? ⟨g, 2, none⟩ = false := by
 obtain ⟨A, c, full, at_, hb0, _⟩ := h;exact freeAt hb0 2
theorem belowGrownI {w w' : World} (hb : Below w.heap.size w w') : w.grownBy w' none := ⟨hb.os, hb.tape, hb.output, hb.size, fun k hk _ => hb.block k hk⟩
theorem ownKeptI {w w' : World} {base e n s : Nat} {v : Value} {xs : List Value} (h : w.ownsRow base e s v n xs) (hb : Below w.heap.size w w') : w'.ownsRow base e s v n xs :=
 h.kept (belowGrownI hb) (by cases hv : v.ownBlock with
  | none => exact .inl rfl
  | some g => exact .inr (by simp))
end
end Go.Proofs.YthclniimhpmeoaaGreatDoor
