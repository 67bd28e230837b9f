import Derived.Test.YthclniimhpmeoaaGreatDoorMrM33
set_option linter.unusedSimpArgs false
set_option linter.unusedVariables false
namespace Go.Proofs.YthclniimhpmeoaaGreatDoor
set_option maxRecDepth 20000
open Go.RowKit T
namespace T
def rctake0 (s : C.St) : Cm × C.St :=
 let k := C.take 1 s
 if k.1 = 1 then let t := rttake k.2; (Cm.of 1 t.1.1.1 t.1.1.2 t.1.2.1 t.1.2.2 0 0 0 0 false, t.2)
 else if k.1 = 2 then let i := idtake k.2; let g := C.take 1 i.2; let st := C.take 8 g.2; (Cm.of 2 0 0 [] [] i.1.1 i.1.2 g.1 st.1 false, st.2)
 else if k.1 = 3 then let i := idtake k.2; let g := C.take 1 i.2; let y := C.take 1 g.2; (Cm.of 3 0 0 [] [] i.1.1 i.1.2 g.1 0 (decide (y.1 = 1)), (y.2.1, y.2.2 || decide (1 < y.1)))
 else (Cm.of k.1 0 0 [] [] 0 0 0 0 false, k.2)
def rctake (s : C.St) : Cm × C.St := bif (rctake0 s).2.2 || !(rctake0 s).1.formed then (Cm.zero, ((rctake0 s).2.1, true)) else rctake0 s
end T
theorem Goes.stuck {α : Type} {f : C.St → α × C.St} (hf : Goes f) {st : C.St} (h : st.2 = true) : (f st).2.2 = true := by
 obtain ⟨l, b⟩ := st;simp only at h;subst h;exact hf.sticky l
theorem many_stuck {α : Type} {f : C.St → α × C.St} (hf : Goes f) (n : Nat) (a : List α) {st : C.St} (h : st.2 = true) : (many f n (a, st)).2.2 = true := (many_goes hf n a).stuck h
theorem untl_hold {α : Type} (f : C.St → α × C.St) (n : Nat) (a : List α) {st : C.St} (h : st.2 = true) : untl f n (a, st) = (a, st) := by
 cases n with
 | zero => rfl
 | succ m =>
   show (bif st.2 then _ else _) = _;rw [h]; rfl
theorem untl_stuck {α : Type} (f : C.St → α × C.St) (n : Nat) (a : List α) {st : C.St} (h : st.2 = true) : (untl f n (a, st)).2.2 = true := by rw [untl_hold f n a h]; exact h
theorem many_len {α : Type} (f : C.St → α × C.St) : ∀ (n : Nat) (a : List α × C.St), (many f n a).1.length = a.1.length + n
 | 0, a => rfl
 | n + 1, a => by
   show (many f n (a.1 ++ [(f a.2).1], (f a.2).2)).1.length = _;rw [many_len f n];simp; omega
theorem untl_keep {α : Type} {f : C.St → α × C.St} (hf : Goes f) : ∀ (n : Nat) (a : List α) (st : C.St), (untl f n (a, st)).2.2 = (many f n (a, st)).2.2 ∧ ((many f n (a, st)).2.2 = false → untl f n (a, st) = many f n (a, st))
 | 0, a, st => ⟨rfl, fun _ => rfl⟩
 | n + 1, a, (q, true) => by
   have h1 := untl_stuck f (n + 1) a (st := (q, true)) rfl;have h2 := many_stuck hf (n + 1) a (st := (q, true)) rfl;rw [h1, h2];exact ⟨rfl, fun h => Bool.noConfusion h⟩
 | n + 1, a, (q, false) => untl_keep hf n (a ++ [(f (q, false)).1]) (f (q, false)).2
theorem six_of {α : Type} {a : List α × C.St} (h : a.1.length ≤ 6) : six a = a.2 := by unfold six; rw [decide_eq_false (by omega)]; rfl
theorem six_not {α : Type} {a : List α × C.St} (h : 6 < a.1.length) : (six a).2 = true := by unfold six; rw [decide_eq_true h]; rfl
def badT (t : ((Nat × Nat) × List Rd1 × List Wr1) × C.St) : Bool := t.2.2 || !formed t.1.1.1 t.1.1.2 t.1.2.1 t.1.2.2
theorem bad_fail {t : ((Nat × Nat) × List Rd1 × List Wr1) × C.St} (h : t.2.2 = true) : badT t = true := by unfold badT; rw [h]; rfl
theorem bad_rs {t : ((Nat × Nat) × List Rd1 × List Wr1) × C.St} (h : 6 < t.1.2.1.length) : badT t = true := by
 have : formed t.1.1.1 t.1.1.2 t.1.2.1 t.1.2.2 = false := by
  unfold formed;rw [decide_eq_false (p := t.1.2.1.length ≤ 6 ∧ _) (fun h9 => by omega)];simp
 unfold badT; rw [this]; simp
theorem bad_ws {t : ((Nat × Nat) × List Rd1 × List Wr1) × C.St} (h : 6 < t.1.2.2.length) : badT t = true := by
 have : formed t.1.1.1 t.1.1.2 t.1.2.1 t.1.2.2 = false := by
  unfold formed;rw [decide_eq_false (p := t.1.2.1.length ≤ 6 ∧ _) (fun h9 => by omega)];simp
 unfold badT; rw [this]; simp
theorem bad_both {r c : ((Nat × Nat) × List Rd1 × List Wr1) × C.St} (h1 : badT r = true) (h2 : badT c = true) : badT r = badT c ∧ (badT c = false → r = c) := by
 rw [h1, h2]; exact ⟨rfl, fun h => Bool.noConfusion h⟩
theorem ttake_agree0 (s : C.St) : badT (rttake0 s) = badT (ttake0 s) ∧ (badT (ttake0 s) = false → rttake0 s = ttake0 s) := by
 unfold rttake0 ttake0;simp only;generalize idtake s = i;generalize C.take 1 i.2 = r1;obtain ⟨n, s1⟩ := r1;simp only;have K := untl_keep rtake_goes n [] s1;have Ln := many_len rtake n ([], s1)
 by_cases h6 : 6 < n
 ·have hc : (six (many rtake (min n 7) ([], s1))).2 = true := six_not (by rw [many_len]; simp; omega);refine bad_both ?_ (bad_fail (many_stuck wtake_goes _ [] ((take_goes 1).stuck hc)))
  cases hf : (untl rtake n ([], s1)).2.2 with
  | true => exact bad_fail (untl_stuck _ _ _ ((take_goes 1).stuck hf))
  | false =>
    refine bad_rs ?_;show 6 < (untl rtake n ([], s1)).1.length;rw [K.2 (K.1.symm.trans hf), Ln];simp; omega
 ·rw [show min n 7 = n by omega, six_of (by rw [Ln]; simp; omega)]
  cases hf : (many rtake n ([], s1)).2.2 with
  | true => exact bad_both (bad_fail (untl_stuck _ _ _ ((take_goes 1).stuck (K.1.trans hf)))) (bad_fail (many_stuck wtake_goes _ [] ((take_goes 1).stuck hf)))
  | false =>
    rw [K.2 hf];clear K Ln;generalize many rtake n ([], s1) = R;generalize C.take 1 R.2 = r2;obtain ⟨m, s2⟩ := r2;simp only;have K := untl_keep wtake_goes m [] s2;have Ln := many_len wtake m ([], s2)
    by_cases g6 : 6 < m
    ·refine bad_both ?_ (bad_ws (by show 6 < (many wtake (min m 7) ([], s2)).1.length; rw [many_len]; simp; omega))
     cases hg : (untl wtake m ([], s2)).2.2 with
     | true => exact bad_fail hg
     | false =>
       refine bad_ws ?_;show 6 < (untl wtake m ([], s2)).1.length;rw [K.2 (K.1.symm.trans hg), Ln];simp; omega
    ·rw [show min m 7 = m by omega]
     cases hg : (many wtake m ([], s2)).2.2 with
     | true => exact bad_both (bad_fail (K.1.trans hg)) (bad_fail hg)
     | false => rw [K.2 hg]; exact ⟨rfl, fun _ => rfl⟩
def Alike {α : Type} (p q : α × C.St) : Prop := p.1 = q.1 ∧ p.2.2 = q.2.2 ∧ (q.2.2 = false → p.2 = q.2)
theorem Alike.left {α : Type} {p q : α × C.St} (h : Alike p q) : C.left p.2 = C.left q.2 := by
 obtain ⟨_, h2, h3⟩ := h;unfold C.left
 cases hq : q.2.2 with
 | true => rw [h2, hq]; rfl
 | false => rw [h3 hq, hq]
theorem Alike.refl {α : Type} (p : α × C.St) : Alike p p := ⟨rfl, rfl, fun _ => rfl⟩
theorem Alike.guard {α : Type} {p q : α × C.St} (z : α) {b c : Bool} (hb : b = c) (h : c = false → Alike p q) : Alike (bif b then (z, (p.2.1, true)) else p) (bif c then (z, (q.2.1, true)) else q) := by
 subst hb
 cases b with
 | true => exact ⟨rfl, rfl, fun h => Bool.noConfusion h⟩
 | false => exact h rfl
theorem ttake_agree (s : C.St) : Alike (rttake s) (ttake s) := by
 obtain ⟨h1, h2⟩ := ttake_agree0 s;unfold rttake ttake;exact Alike.guard _ h1 (fun h => by rw [h2 h]; exact Alike.refl _)
theorem ctake_agree0 (s : C.St) : Alike (rctake0 s) (ctake0 s) := by
 unfold rctake0 ctake0;simp only;generalize C.take 1 s = r1;obtain ⟨k, s1⟩ := r1;simp only
 by_cases h1 : k = 1
 ·rw [if_pos h1, if_pos h1];have h := ttake_agree s1;generalize rttake s1 = a at h;generalize ttake s1 = b at h;obtain ⟨a1, a2⟩ := a;obtain ⟨b1, b2⟩ := b;obtain ⟨h1, h2, h3⟩ := h;have h1 : a1 = b1 := h1;subst h1;exact ⟨rfl, h2, h3⟩
 ·rw [if_neg h1, if_neg h1]
  by_cases h2 : k = 2
  ·rw [if_pos h2, if_pos h2];exact Alike.refl _
  ·rw [if_neg h2, if_neg h2]
   by_cases h3 : k = 3
   ·rw [if_pos h3, if_pos h3];generalize C.take 1 (idtake s1).2 = r2;generalize C.take 1 r2.2 = r3;obtain ⟨y, l, f⟩ := r3;simp only
    cases decide (1 < y) <;> simp [Alike]
   ·rw [if_neg h3, if_neg h3];exact Alike.refl _
theorem ctake_agree (s : C.St) : Alike (rctake s) (ctake s) := by
 have h := ctake_agree0 s;unfold rctake ctake;exact Alike.guard _ (by rw [h.1, h.2.1]) (fun _ => h)
end Go.Proofs.YthclniimhpmeoaaGreatDoor
