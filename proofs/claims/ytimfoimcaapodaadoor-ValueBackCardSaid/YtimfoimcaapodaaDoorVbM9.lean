import Derived.Test.YtimfoimcaapodaaDoorVbM8
import Derived.Deep.RegionWith
set_option maxHeartbeats 800000
set_option maxRecDepth 20001
set_option linter.unusedSimpArgs false
set_option linter.unusedVariables false
namespace Go.Proofs.YtimfoimcaapodaaDoor
set_option maxRecDepth 20000
section
open Go.RowKit
namespace C
abbrev St := List UInt8 × Bool
def some_ (n : Nat) (s : St) : List UInt8 × St := if s.2 = true ∨ s.1.length < n then ([], (s.1, true)) else (s.1.take n, (s.1.drop n, false))
def take (n : Int) (s : St) : Nat × St := if n < 0 ∨ 8 < n then (0, (s.1, true)) else (val 0 (some_ n.toNat s).1, (some_ n.toNat s).2)
def text (most : Int) (s : St) : List UInt8 × St :=
 some_ (take 2 s).1 ((take 2 s).2.1, (take 2 s).2.2 || decide (most < ((take 2 s).1 : Int)))
end C
def RdrAt (w : World) (B g : Nat) (s : C.St) : Prop :=
 ∃ A c, w.heap[g]? = some (.cells #[.slice A s.1.length c, .bool s.2] 52 (0, 0)) ∧ s.1.length ≤ c ∧ c ≤ maxLen ∧ (A = none → s.1 = [] ∧ c = 0) ∧ Rd w B A (bc s.1) ∧ B ≤ g
theorem cellAt {w : World} {g : Nat} {cs : Array Value} {t : TypeId} (h : w.heap[g]? = some (.cells cs t (0, 0))) (i : Nat) : w.cell? ⟨g, i, none⟩ = cs[i]? := cell_of_row w g i cs t (0, 0) h
theorem freeAt {w : World} {g : Nat} {cs : Array Value} {t : TypeId} (h : w.heap[g]? = some (.cells cs t (0, 0))) (i : Nat) : w.frozen? ⟨g, i, none⟩ = false := by
 simp [World.frozen?, h]
theorem setAt {w : World} {g : Nat} {cs : Array Value} {t : TypeId} (h : w.heap[g]? = some (.cells cs t (0, 0))) (i : Nat) (u : Value) : (w.setCell ⟨g, i, none⟩ u).heap[g]? = some (.cells (cs.setIfInBounds i u) t (0, 0)) := by
 simp [World.setCell, Array.getElem?_modify, h]
theorem ltAt {w : World} {g : Nat} {o : Obj} (h : w.heap[g]? = some o) : g < w.heap.size := (Array.getElem?_eq_some_iff.1 h).1
theorem grownSet (w : World) (g i : Nat) (u : Value) : w.grownBy (w.setCell ⟨g, i, none⟩ u) (some g) :=
 ⟨rfl, rfl, rfl, by simp [World.setCell], fun k _ hk => Below.heap_setCell _ _ _ _ (fun e => hk (by simp [e]))⟩
theorem Rd.grownOther {w w' : World} {B g : Nat} {A : Option Addr} {xs : List Value} (h : Rd w B A xs) (hg : w.grownBy w' (some g)) (hB : B ≤ g) : Rd w' B A xs := fun j u hu => by
 obtain ⟨b, off, hA, hb, hc⟩ := h j u hu;exact ⟨b, off, hA, hb, (World.cell?_of_block (hg.block b (World.block_lt_of_cell? w _ hc) (fun e => by injection e; omega))).trans hc⟩
def Took (w : World) (B g : Nat) (o : List UInt8) (s : C.St) (e : Ending) (w' : World) : Prop :=
 ∃ A c, e = .returned (.slice A o.length c) ∧ o.length ≤ c ∧ (A = none → o = [] ∧ c = 0) ∧ Rd w' B A (bc o) ∧ RdrAt w' B g s ∧ w.grownBy w' (some g)
theorem tookFail {w : World} {B g : Nat} {l : List UInt8} {f : Bool} (h : RdrAt w B g (l, f)) : Took w B g [] (l, true) (.returned (.slice none 0 0)) (w.setCell ⟨g, 1, none⟩ (.bool true)) := by
 obtain ⟨A, c, hb, hc, hm, hA, hr, hB⟩ := h;refine ⟨none, 0, rfl, Nat.zero_le _, fun _ => ⟨rfl, rfl⟩, Rd.nil, ⟨A, c, setAt hb 1 _, hc, hm, hA, hr.grownOther (grownSet w g 1 _) hB, hB⟩, grownSet w g 1 _⟩
theorem tookFine {w : World} {B g n c : Nat} {A A' : Option Addr} {l : List UInt8} (hb : w.heap[g]? = some (.cells #[.slice A l.length c, .bool false] 52 (0, 0))) (hc : l.length ≤ c) (hm : c ≤ maxLen) (hA : A = none → l = [] ∧ c = 0) (hr : Rd w B A (bc l)) (hB : B ≤ g)
 (hn : n ≤ l.length) (hA' : A' = if c = n then A else A.map (·.add n)) {v : Value} (hv : v = .slice A' (l.length - n) (c - n)) :
 Took w B g (l.take n) (l.drop n, false) (.returned (.slice A n c)) (w.setCell ⟨g, 0, none⟩ v) := by
 subst hv;have hg := grownSet w g 0 (.slice A' (l.length - n) (c - n));have hr' := hr.grownOther hg hB;(have hl : (l.take n).length = n := by simp; omega)
 have hnone : A' = none → l.drop n = [] ∧ c - n = 0 := by
  intro h;rw [hA'] at h
  split at h
  ·obtain ⟨rfl, rfl⟩ := hA h; simp
  ·simp at h;obtain ⟨rfl, rfl⟩ := hA h; simp
 refine ⟨A, c, by rw [hl], by rw [hl]; omega, fun h => ?_, by rw [← bc_take]; exact hr'.take n, ⟨A', c - n, ?_, by simp; omega, by unfold maxLen at *; omega, hnone, ?_, hB⟩, hg⟩
 ·obtain ⟨rfl, rfl⟩ := hA h; simp
 ·have := setAt hb 0 (.slice A' (l.length - n) (c - n))
  simpa using this
 ·have := hr'.cut (k := n) (cap := c) (by rw [bc_len]; exact hc);rw [bc_drop, ← hA'] at this;exact this
theorem some_any (B g n : Nat) (s : C.St) (w : World) (h : RdrAt w B g s) :
 Calls Tryd.prog 44 #[.pointer (some ⟨g, 0, none⟩), .int .i64 (n : Int)] w (Took w B g (C.some_ n s).1 (C.some_ n s).2) := by
 have hh := h;obtain ⟨A, c, hb, hc, hm, hA, hr, hB⟩ := h;have h0 := cellAt hb 0;have h1 := cellAt hb 1;have f0 := freeAt hb 0;have f1 := freeAt hb 1;simp only [zQ] at h0 h1;obtain ⟨l, f⟩ := s;simp only at h0 h1 hc hA hr;have HB := Lib.hid hb;have HH := Lib.hid hh;clear hb hh
 cases f with
 | true =>
   (have hs : C.some_ n (l, true) = ([], (l, true)) := by unfold C.some_; simp);rw [hs];clear hs
   go_enter Tryd.func44, Tryd.ntmps44
   go_wp2
   go_ret
   exact tookFail HH.out
 | false =>
   obtain ⟨m, hm'⟩ : ∃ m, m = l.length := ⟨_, rfl⟩;rw [← hm'] at h0 hc;have HM := Lib.hid hm';clear hm'
   by_cases hlt : m < n
   ·(have hs : C.some_ n (l, false) = ([], (l, true)) := by unfold C.some_; rw [if_pos (by right; rw [← HM.out]; exact hlt)]);rw [hs];clear hs
    go_enter Tryd.func44, Tryd.ntmps44
    go_wp2
    go_ret
    exact tookFail HH.out
   ·have hs : C.some_ n (l, false) = (l.take n, (l.drop n, false)) := by
     unfold C.some_; rw [if_neg (by rw [← HM.out]; simp; omega)]
    rw [hs];clear hs;(have hc' : l.length ≤ c := by rw [← HM.out]; exact hc);(have hn' : n ≤ l.length := by rw [← HM.out]; omega)
    by_cases hcn : c = n
    ·subst hcn;(have hmc : m = c := by omega);have HMC := Lib.hid hmc;clear hmc
     go_enter Tryd.func44, Tryd.ntmps44
     go_wp2
     go_ret
     exact tookFine HB.out hc' hm hA hr hB hn' (A' := A) (by simp) (by rw [← HM.out, HMC.out]; simp)
    ·go_enter Tryd.func44, Tryd.ntmps44
     go_wp2
     go_ret
     exact tookFine HB.out hc' hm hA hr hB hn' (A' := Option.map (fun x => x.add n) A) (by rw [if_neg hcn]) (by rw [← HM.out])
def TookN (w : World) (B g x : Nat) (s : C.St) (e : Ending) (w' : World) : Prop :=
 e = .returned (.int .u64 (x : Int)) ∧ RdrAt w' B g s ∧ w.grownBy w' (some g)
theorem RdrAt.drewN {w : World} {B g : Nat} {s : C.St} (h : RdrAt w B g s) (n : Nat) : RdrAt (w.drewN n) B g s := h
theorem RdrAt.fails {w : World} {B g : Nat} {l : List UInt8} {f : Bool} (h : RdrAt w B g (l, f)) : RdrAt (w.setCell ⟨g, 1, none⟩ (.bool true)) B g (l, true) := by
 obtain ⟨_, _, _, _, _, _, h1, _⟩ := tookFail h;exact h1
theorem shl_or (y : Nat) (b : UInt8) (hy : y < 72057594037927936) : bits BinOp.or IntKind.u64 ((y : Int) * 256) (b.toNat : Int) = ((y * 256 + b.toNat : Nat) : Int) := by
 have hb := b.toNat_lt;(have e1 : (y : Int) * 256 = ((y * 256 : Nat) : Int) := by omega);rw [e1, u64_or_nat _ _ (by omega) (by omega)]
 congr 1
 rw [show y * 256 = 2 ^ 8 * y from by omega, ← Nat.two_pow_add_eq_or_of_lt (by omega)]
theorem take_any (B g : Nat) (n : Int) (s : C.St) (w : World) (h : RdrAt w B g s) :
 Calls Tryd.prog 26 #[.pointer (some ⟨g, 0, none⟩), .int .i64 n] w (TookN w B g (C.take n s).1 (C.take n s).2) := by
 by_cases hn : n < 0 ∨ 8 < n
 ·(have hs : C.take n s = (0, (s.1, true)) := by unfold C.take; rw [if_pos hn]);rw [hs];obtain ⟨A, c, hb, _⟩ := id h;have h1 := cellAt hb 1;have f1 := freeAt hb 1;simp only [zQ] at h1;have HH := Lib.hid h;clear hb hs h;rcases hn with hn | hn
  all_goals
   go_enter Tryd.func26, Tryd.ntmps26
   go_wp2
   go_ret
   exact ⟨rfl, HH.out.fails, grownSet w g 1 _⟩
 ·(have hs : C.take n s = (C.val 0 (C.some_ n.toNat s).1, (C.some_ n.toNat s).2) := by unfold C.take; rw [if_neg hn]);rw [hs];(have h0 : 0 ≤ n := by omega);(have h8 : n ≤ 8 := by omega);obtain ⟨k, rfl⟩ := Int.eq_ofNat_of_zero_le h0;(have hol : (C.some_ k s).1.length ≤ 8 := by unfold C.some_; split <;> simp; omega);clear hn hs;rw [Int.toNat_natCast]
  go_enter Tryd.func26, Tryd.ntmps26
  go_wp2_with fail
  refine (some_any B g k s w h).mono ?_;rintro e w1 ⟨A, c, rfl, hoc, hA, hr, hR, hg⟩;generalize C.some_ k s = so at *;obtain ⟨o, s'⟩ := so;simp only at *;obtain ⟨m, hm⟩ : ∃ m, m = o.length := ⟨_, rfl⟩;have HM := Lib.hid hm;rw [← hm] at hol hoc ⊢;clear hm
  go_wp2_with fail
  go_loopw [5, 23] (fun x i wr => ∃ j : Nat, j ≤ m ∧ i = .int .i64 (j : Int) ∧ x = .int .u64 ((C.val 0 (o.take j) : Nat) : Int) ∧ wr = w1) (fun _ i _ => m - (intOf i).toNat)
  case atStart => exact ⟨0, Nat.zero_le _, rfl, by simp [C.val], rfl⟩
  case round =>
   obtain ⟨j, hj, rfl, rfl, rfl⟩ := hrel
   by_cases hlt : j < m
   ·(have hk2 : j < (bc o).length := by rw [bc_len, ← HM.out]; exact hlt);obtain ⟨ab, ao, rfl, _, hca⟩ := hr.at_ hk2;rw [bc_get] at hca;(have hjo : j < o.length := by rw [← HM.out]; exact hlt)
    have hval : C.val 0 (o.take (j + 1)) = C.val 0 (o.take j) * 256 + (o[j]'hjo).toNat := by
     rw [List.take_succ_eq_append_getElem hjo, C.val_app]; rfl
    have hlt7 : C.val 0 (o.take j) < 72057594037927936 := by
     have h1 := C.val_lt (o.take j);(have h2 : (o.take j).length ≤ 7 := by simp; omega);have h3 : 256 ^ (o.take j).length ≤ 256 ^ 7 := Nat.pow_le_pow_right (by omega) h2;omega
    have HS := Lib.hid (shl_or (C.val 0 (o.take j)) (o[j]'hjo) hlt7);have hby := (o[j]'hjo).toNat_lt;have HV := Lib.hid hval
    generalize o[j]'hjo = b at hca HS HV hby
    generalize C.val 0 (o.take j) = y at HS HV hlt7 ⊢;(have hb0 : (0 : Int) ≤ (j : Int) := by omega);(have hb1 : (j : Int) < (m : Int) := by omega);clear hk2 hval
    go_wp2_with fail
    go_roundw
    case rel => exact ⟨j + 1, by omega, by go_num, by rw [HV.out, HS.out], by first | rfl | trivial⟩
    case measure => simp [intOf]; omega
   ·obtain rfl : j = m := by omega
    go_wp2_with fail
    go_ret
    exact ⟨by rw [HM.out, List.take_length]; rfl, hR, hg⟩
theorem ok_any (B g : Nat) (s : C.St) (w : World) (h : RdrAt w B g s) :
 Calls Tryd.prog 28 #[.pointer (some ⟨g, 0, none⟩)] w fun e w' => e = .returned (.bool (!s.2)) ∧ w = w' := by
 obtain ⟨A, c, hb, _⟩ := id h;have h1 := cellAt hb 1;simp only [zQ] at h1;clear hb h
 go_enter Tryd.func28, Tryd.ntmps28
 go_wp2
 go_ret
 exact ⟨rfl, rfl⟩
def C.left (s : C.St) : Nat := if s.2 = true then 0 else s.1.length
def C.end_ (s : C.St) : Bool := !s.2 && s.1.isEmpty
def TookT (w : World) (B g : Nat) (o : List UInt8) (s : C.St) (e : Ending) (w' : World) : Prop :=
 e = .returned (.string ⟨o.toArray⟩) ∧ RdrAt w' B g s ∧ w.grownBy w' (some g)
theorem take_two_lt (s : C.St) : (C.take 2 s).1 < 65536 := by
 unfold C.take;rw [if_neg (by omega)];have h1 := C.val_lt (C.some_ (2 : Int).toNat s).1
 have h2 : (C.some_ (2 : Int).toNat s).1.length ≤ 2 := by
  unfold C.some_; split
  ·simp
  ·simp only [List.length_take]; exact Nat.min_le_left _ _
 have h3 : 256 ^ (C.some_ (2 : Int).toNat s).1.length ≤ 256 ^ 2 := Nat.pow_le_pow_right (by omega) h2;omega
theorem text_any (B g : Nat) (most : Int) (s : C.St) (w : World) (h : RdrAt w B g s) :
 Calls Tryd.prog 27 #[.pointer (some ⟨g, 0, none⟩), .int .i64 most] w (TookT w B g (C.text most s).1 (C.text most s).2) := by
 have hx := take_two_lt s;have T := Lib.hid (take_any B g 2 s w h);unfold C.text;generalize C.take 2 s = xs at *;obtain ⟨x, l, f⟩ := xs;simp only at *
 by_cases hm : most < (x : Int)
 ·rw [show (f || decide (most < (x : Int))) = true from by simp [hm]]
  go_enter Tryd.func27, Tryd.ntmps27
  go_wp2_with fail
  refine (T.out).mono ?_;rintro e w1 ⟨rfl, hR, hg⟩;obtain ⟨A, c, hb, _⟩ := id hR;have h1 := cellAt hb 1;have f1 := freeAt hb 1;simp only [zQ] at h1;have hR2 := hR.fails;clear hb h
  go_wp2_with fail
  refine (some_any B g x (l, true) _ hR2).mono ?_;rintro e w2 ⟨A', c', rfl, hoc, hA', hr', hR', hg'⟩;have hcv := run_string_rd (P := Tryd.prog) w2 32 5 9 Tryd.underlying32 Tryd.underlying5 Tryd.underlying9 B A' c' _ hr';clear hm
  go_wp2
  go_ret
  exact ⟨rfl, hR', (hg.trans (grownSet _ _ _ _)).trans hg'⟩
 ·rw [show (f || decide (most < (x : Int))) = f from by simp [hm]]
  go_enter Tryd.func27, Tryd.ntmps27
  go_wp2_with fail
  refine (T.out).mono ?_;rintro e w1 ⟨rfl, hR, hg⟩
  go_wp2_with fail
  refine (some_any B g x (l, f) _ hR).mono ?_;rintro e w2 ⟨A', c', rfl, hoc, hA', hr', hR', hg'⟩;have hcv := run_string_rd (P := Tryd.prog) w2 32 5 9 Tryd.underlying32 Tryd.underlying5 Tryd.underlying9 B A' c' _ hr'
  go_wp2
  go_ret
  exact ⟨rfl, hR', hg.trans hg'⟩
end
section
open Go.RowKit
end
section
open Go.RowKit
theorem heapB {w w' : World} {g : Nat} {o' : Obj} (h : w.heap[g]? = some o') (hb : Below w.heap.size w w') : w'.heap[g]? = some o' := (hb.block g (Array.getElem?_eq_some_iff.1 h).1).trans h
theorem new_any (A : Option Addr) (c : Nat) (l : List UInt8) (w : World) (B : Nat) (hc : l.length ≤ c) (hm : c ≤ maxLen) (hA : A = none → l = [] ∧ c = 0) (hr : Rd w B A (bc l)) (hB : B ≤ w.heap.size) :
 Calls Tryd.prog 12 #[.slice A l.length c] w fun e w' => e = .returned (.pointer (some ⟨w.heap.size, 0, none⟩)) ∧ RdrAt w' B w.heap.size (l, false) ∧ Below w.heap.size w w' := by
 obtain ⟨n, hn⟩ : ∃ n, n = l.length := ⟨_, rfl⟩;have HN := Lib.hid hn;rw [← hn];clear hn
 go_enter Tryd.func12, Tryd.ntmps12
 go_wp2
 go_ret
 refine ⟨rfl, ⟨A, c, ?_, hc, hm, hA, hr.alloc hB _, hB⟩, (Below.refl _ _).alloc (Nat.le_refl _) _⟩;rw [← HN.out];exact heap_alloc_new w _
theorem RdrAt.other {w w' : World} {B g k : Nat} {s : C.St} (h : RdrAt w B g s) (hg : w.grownBy w' (some k)) (hk : k ≠ g) (hB : B ≤ k) : RdrAt w' B g s := by
 obtain ⟨A, c, hb, h1, h2, h3, hr, h4⟩ := h;exact ⟨A, c, (hg.block g (ltAt hb) (fun e => hk (by injection e with e; exact e.symm))).trans hb, h1, h2, h3, hr.grownOther hg hB, h4⟩
theorem RdrAt.oth {w w' : World} {B g k : Nat} {s : C.St} (h : RdrAt w B g s) (hg : w.grownBy w' (some k)) (hk : k ≠ g := by omega) (hB : B ≤ k := by omega) : RdrAt w' B g s := h.other hg hk hB
theorem RdrAt.alloc {w : World} {B g : Nat} {s : C.St} (h : RdrAt w B g s) (o : Obj) : RdrAt (w.alloc o) B g s := by
 obtain ⟨A, c, hb, h1, h2, h3, hr, h4⟩ := h;exact ⟨A, c, (Below.heap_alloc w o g (ltAt hb)).trans hb, h1, h2, h3, hr.alloc (by have := ltAt hb; omega) o, h4⟩
theorem take_lt (k : Nat) (s : C.St) (hk : k ≤ 8) : (C.take (k : Int) s).1 < 256 ^ k := by
 unfold C.take;rw [if_neg (by omega)];have h1 := C.val_lt (C.some_ k s).1;(have h2 : (C.some_ k s).1.length ≤ k := by unfold C.some_; split <;> simp; omega);have h3 : 256 ^ (C.some_ k s).1.length ≤ 256 ^ k := Nat.pow_le_pow_right (by omega) h2;rw [Int.toNat_natCast];show C.val 0 (C.some_ k s).1 < _;omega
theorem heapG {w w' : World} {k g : Nat} {o : Obj} (h : w.heap[k]? = some o) (hg : w.grownBy w' (some g)) (hne : k ≠ g) : w'.heap[k]? = some o := (hg.block k (ltAt h) (fun e => hne (by injection e))).trans h
theorem RdrAt.below {w w' : World} {B g : Nat} {s : C.St} (h : RdrAt w B g s) (hb : Below w.heap.size w w') : RdrAt w' B g s := by
 obtain ⟨A, c, hb0, h1, h2, h3, hr, h4⟩ := h;exact ⟨A, c, heapB hb0 hb, h1, h2, h3, hr.below (hb.mono (by have := ltAt hb0; omega)), h4⟩
end
end Go.Proofs.YtimfoimcaapodaaDoor
