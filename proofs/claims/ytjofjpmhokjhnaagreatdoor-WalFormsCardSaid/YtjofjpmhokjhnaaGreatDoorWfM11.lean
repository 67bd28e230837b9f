import Derived.Test.YtjofjpmhokjhnaaGreatDoorWfM9
import Derived.Test.YtjofjpmhokjhnaaGreatDoorWfM10
import Derived.Test.YtjofjpmhokjhnaaGreatDoorWfM3
import Derived.Great.BuildSlice
set_option linter.unusedSimpArgs false
set_option linter.unusedVariables false
namespace Go.Proofs.YtjofjpmhokjhnaaGreatDoor
set_option maxRecDepth 20000
open Go.RowKit T
theorem some_app (k : Nat) (a r : List UInt8) (h : a.length = k) : C.some_ k (a ++ r, false) = (a, (r, false)) := by
 unfold C.some_
 rw [if_neg (by simp; omega)]
 simp [h]
theorem take_app (k : Nat) (x : Nat) (r : List UInt8) (h : k ≤ 8) : C.take (k : Int) (C.be x k ++ r, false) = (x % 256 ^ k, (r, false)) := by
 unfold C.take
 rw [if_neg (by omega), Int.toNat_natCast, some_app k _ _ (C.be_len x k), C.val_be]
theorem text_app (most : Int) (s : List UInt8) (r : List UInt8) (h : s.length < 65536) (hm : (s.length : Int) ≤ most) : C.text most (C.be s.length 2 ++ s ++ r, false) = (s, (r, false)) := by
 unfold C.text
 rw [List.append_assoc, show (2 : Int) = ((2 : Nat) : Int) from rfl, take_app 2 s.length (s ++ r) (by omega)]
 rw [show s.length % 256 ^ 2 = s.length from Nat.mod_eq_of_lt (by omega)]
 simp only [show decide (most < (s.length : Int)) = false from by simp; omega, Bool.or_false]
 exact some_app _ _ _ rfl
theorem take1 (x : Nat) (h : x < 256) (r : List UInt8) : C.take 1 (C.be x 1 ++ r, false) = (x, (r, false)) := by
 have := take_app 1 x r (by omega)
 rw [Nat.mod_eq_of_lt (by simpa using h)] at this
 exact this
theorem take4 (x : Nat) (h : x < 4294967296) (r : List UInt8) : C.take 4 (C.be x 4 ++ r, false) = (x, (r, false)) := by
 have := take_app 4 x r (by omega)
 rw [Nat.mod_eq_of_lt (by simpa using h)] at this
 exact this
theorem take8 (x : Nat) (h : x < 18446744073709551616) (r : List UInt8) : C.take 8 (C.be x 8 ++ r, false) = (x, (r, false)) := by
 have := take_app 8 x r (by omega)
 rw [Nat.mod_eq_of_lt (by simpa using h)] at this
 exact this
theorem put1 (l : List UInt8) (x : Nat) : C.put l x 1 = l ++ C.be x 1 := rfl
theorem put4 (l : List UInt8) (x : Nat) : C.put l x 4 = l ++ C.be x 4 := rfl
theorem put8 (l : List UInt8) (x : Nat) : C.put l x 8 = l ++ C.be x 8 := rfl
theorem text_short (l t : List UInt8) (h : t.length < 65536) : C.putText l t = l ++ (C.be t.length 2 ++ t) := by
 unfold C.putText
 rw [show min t.length 65535 = t.length by omega, List.take_length, List.append_assoc]
namespace T
def idtake (s : C.St) : (Nat × Nat) × C.St :=
 bif (C.take 4 (C.take 1 s).2).2.2 || !idb ((C.take 1 s).1 : Int) ((C.take 4 (C.take 1 s).2).1 : Int) then ((0, 0), ((C.take 4 (C.take 1 s).2).2.1, true))
 else (((C.take 1 s).1, (C.take 4 (C.take 1 s).2).1), (C.take 4 (C.take 1 s).2).2)
def rtake (s : C.St) : Rd1 × C.St := (((C.text 12 s).1, (C.take 8 (C.text 12 s).2).1), (C.take 8 (C.text 12 s).2).2)
def wtake (s : C.St) : Wr1 × C.St := (((C.text 12 s).1, ((V.take (C.text 12 s).2).1.1 : Int), (V.take (C.text 12 s).2).1.2.1, (V.take (C.text 12 s).2).1.2.2), (V.take (C.text 12 s).2).2)
def many {α : Type} (f : C.St → α × C.St) : Nat → List α × C.St → List α × C.St
 | 0, a => a
 | n + 1, a => many f n (a.1 ++ [(f a.2).1], (f a.2).2)
def six {α : Type} (a : List α × C.St) : C.St := bif decide (6 < a.1.length) then (a.2.1, true) else a.2
def ttake0 (s : C.St) : ((Nat × Nat) × List Rd1 × List Wr1) × C.St :=
 let i := idtake s
 let n := C.take 1 i.2
 let R := many rtake (min n.1 7) ([], n.2)
 let m := C.take 1 (six R)
 let Ws := many wtake (min m.1 7) ([], m.2)
 ((i.1, R.1, Ws.1), Ws.2)
def ttake (s : C.St) : ((Nat × Nat) × List Rd1 × List Wr1) × C.St :=
 bif (ttake0 s).2.2 || !formed (ttake0 s).1.1.1 (ttake0 s).1.1.2 (ttake0 s).1.2.1 (ttake0 s).1.2.2 then (((0, 0), [], []), ((ttake0 s).2.1, true)) else ttake0 s
end T
theorem idback (s q : Nat) (h : idb (s : Int) (q : Int) = true) (r : List UInt8) : idtake (idput [] (s : Int) (q : Int) ++ r, false) = ((s, q), (r, false)) := by
 obtain ⟨a, b, h1, h2, h3, h4, h5, h6⟩ := idb_nat h
 have e1 : s = a := by omega
 have e2 : q = b := by omega
 subst e1; subst e2
 have e : idput [] (s : Int) (q : Int) = C.be s 1 ++ C.be q 4 := by unfold idput; rw [h]; rfl
 unfold idtake
 rw [e, List.append_assoc, take1 s (by omega)]
 simp only
 rw [take4 q (by omega), h]
 rfl
theorem idput_app (l : List UInt8) (s q : Int) : idput l s q = l ++ idput [] s q := by
 unfold idput
 cases idb s q with
 | false => simp
 | true => simp [put1, put4]
theorem rput_app (l : List UInt8) (x : Rd1) : rput l x = l ++ rput [] x := by unfold rput C.putText; simp [put8]
theorem V.put_app (l : List UInt8) (k : Int) (b : Nat) (t : List UInt8) : V.put l k b t = l ++ V.put [] k b t := by
 unfold V.put C.putText
 split
 ·split
  ·simp [put1, put8]
  ·split
   ·simp [put1]
   ·simp [put1]
 ·simp
theorem wput_app (l : List UInt8) (x : Wr1) : wput l x = l ++ wput [] x := by
 unfold wput
 rw [V.put_app, V.put_app (C.putText [] x.1)]
 unfold C.putText
 simp
theorem fold_app {α : Type} (f : List UInt8 → α → List UInt8) (hf : ∀ l x, f l x = l ++ f [] x) (xs : List α) (l : List UInt8) : xs.foldl f l = l ++ xs.foldl f [] := by
 induction xs generalizing l with
 | nil => simp
 | cons x xs ih => rw [List.foldl_cons, ih, List.foldl_cons, ih (f [] x), hf l x, List.append_assoc]
theorem many_app {α : Type} (f : C.St → α × C.St) (p : List UInt8 → α → List UInt8) (hp : ∀ l x, p l x = l ++ p [] x) (P : α → Prop) (hf : ∀ x r, P x → f (p [] x ++ r, false) = (x, (r, false))) :
 ∀ (xs : List α) (acc : List α) (r : List UInt8), (∀ x ∈ xs, P x) → many f xs.length (acc, (xs.foldl p [] ++ r, false)) = (acc ++ xs, (r, false))
 | [], acc, r, _ => by simp [many]
 | x :: xs, acc, r, h => by
   rw [List.foldl_cons, fold_app p hp, List.append_assoc]
   show many f xs.length (acc ++ [(f (p [] x ++ (xs.foldl p [] ++ r), false)).1], (f (p [] x ++ (xs.foldl p [] ++ r), false)).2) = _
   rw [hf x _ (h x (by simp))]
   rw [many_app f p hp P hf xs (acc ++ [x]) r (fun y hy => h y (by simp [hy]))]
   simp
theorem good_key {l : List (List UInt8)} (h : rises l = true) : ∀ x ∈ l, V.key x = true := by
 intro x hx
 obtain ⟨i, hi, rfl⟩ := List.getElem_of_mem hx
 have := (rises_iff l).1 h i hi
 unfold good at this
 rw [List.getElem?_eq_getElem hi, Bool.and_eq_true] at this
 exact this.1
theorem key_len {t : List UInt8} (h : V.key t = true) : t.length ≤ 12 := by
 unfold V.key at h
 simp at h
 omega
theorem rback (x : Rd1) (r : List UInt8) (h : x.1.length ≤ 12 ∧ x.2 < 18446744073709551616) : rtake (rput [] x ++ r, false) = (x, (r, false)) := by
 have e : rput [] x ++ r = C.be x.1.length 2 ++ x.1 ++ (C.be x.2 8 ++ r) := by unfold rput; rw [put8, text_short _ _ (by omega)]; simp
 unfold rtake
 rw [e, text_app 12 x.1 _ (by omega) (by omega)]
 simp only
 rw [take8 x.2 h.2]
theorem vback (k : Int) (b : Nat) (t : List UInt8) (r : List UInt8) (hb : b < 18446744073709551616) (h : V.formed k b t = true) : ((V.take (V.put [] k b t ++ r, false)).1.1 : Int) = k ∧ (V.take (V.put [] k b t ++ r, false)).1.2.1 = b ∧ (V.take (V.put [] k b t ++ r, false)).1.2.2 = t ∧ (V.take (V.put [] k b t ++ r, false)).2 = (r, false) := by
 have key : ∀ (k' : Nat) (u : (Nat × Nat × List UInt8) × C.St), (k' : Int) = k → V.take0 (V.put [] k b t ++ r, false) = ((k', b, t), (r, false)) → ((V.take (V.put [] k b t ++ r, false)).1.1 : Int) = k ∧ (V.take (V.put [] k b t ++ r, false)).1.2.1 = b ∧ (V.take (V.put [] k b t ++ r, false)).1.2.2 = t ∧ (V.take (V.put [] k b t ++ r, false)).2 = (r, false) := by
  intro k' u hk e
  have e2 : V.take (V.put [] k b t ++ r, false) = ((k', b, t), (r, false)) := by
   unfold V.take
   rw [e, if_neg (by simp; rw [hk, h])]
  rw [e2]
  exact ⟨hk, rfl, rfl, rfl⟩
 rcases formed_kind h with rfl | rfl | rfl
 ·have h0 : b = 0 ∧ t = [] := by unfold V.formed at h; simpa using h
  obtain ⟨rfl, rfl⟩ := h0
  refine key 0 default rfl ?_
  have e : V.put [] 0 0 [] = C.be 0 1 := by unfold V.put; rw [h]; rfl
  unfold V.take0
  rw [e, take1 0 (by omega)]
  rfl
 ·have h0 : t = [] := by unfold V.formed at h; simp at h; exact h.1
  subst h0
  refine key 1 default rfl ?_
  have e : V.put [] 1 b [] = C.be 1 1 ++ C.be b 8 := by unfold V.put; rw [h]; rfl
  unfold V.take0
  rw [e, List.append_assoc, take1 1 (by omega)]
  simp only
  rw [take8 b hb, if_pos trivial]
 ·have h0 : b = 0 ∧ t.length ≤ 40 := by unfold V.formed at h; simp at h; exact h.1
  obtain ⟨rfl, hl⟩ := h0
  refine key 2 default rfl ?_
  have e : V.put [] 2 0 t ++ r = C.be 2 1 ++ (C.be t.length 2 ++ t ++ r) := by unfold V.put; rw [h]; simp [text_short _ _ (show t.length < 65536 by omega), put1]
  unfold V.take0
  rw [e, take1 2 (by omega)]
  simp only
  rw [text_app 40 t r (by omega) (by omega), if_neg (by simp), if_pos trivial]
theorem wback (x : Wr1) (r : List UInt8) (h : x.1.length ≤ 12 ∧ x.2.2.1 < 18446744073709551616 ∧ V.formed x.2.1 x.2.2.1 x.2.2.2 = true) : wtake (wput [] x ++ r, false) = (x, (r, false)) := by
 have e : wput [] x ++ r = C.be x.1.length 2 ++ x.1 ++ (V.put [] x.2.1 x.2.2.1 x.2.2.2 ++ r) := by unfold wput; rw [V.put_app, text_short _ _ (by omega)]; simp
 obtain ⟨h1, h2, h3, h4⟩ := vback x.2.1 x.2.2.1 x.2.2.2 r h.2.1 h.2.2
 unfold wtake
 rw [e, text_app 12 x.1 _ (by omega) (by omega)]
 simp only
 rw [h1, h2, h3, h4]
theorem formed_all {s q : Int} {rs : List Rd1} {ws : List Wr1} (h : formed s q rs ws = true) : (∀ x ∈ rs, x.1.length ≤ 12) ∧ (∀ x ∈ ws, x.1.length ≤ 12 ∧ V.formed x.2.1 x.2.2.1 x.2.2.2 = true) := by
 unfold formed at h
 rw [Bool.and_eq_true, Bool.and_eq_true, Bool.and_eq_true] at h
 refine ⟨fun x hx => key_len (good_key h.1.1.2 _ (List.mem_map.2 ⟨x, hx, rfl⟩)), fun x hx => ⟨key_len (good_key h.1.2 _ (List.mem_map.2 ⟨x, hx, rfl⟩)), ?_⟩⟩
 exact List.all_eq_true.1 h.2 x hx
theorem tback (s q : Nat) (rs : List Rd1) (ws : List Wr1) (r : List UInt8) (h : formed (s : Int) (q : Int) rs ws = true) (ho : ∀ x ∈ rs, okR x) (hw : ∀ x ∈ ws, okW x) :
 ttake (tput [] (s : Int) (q : Int) rs ws ++ r, false) = (((s, q), rs, ws), (r, false)) := by
 obtain ⟨hi, h6, h7⟩ := formed_few h
 obtain ⟨hr, hws⟩ := formed_all h
 have e : tput [] (s : Int) (q : Int) rs ws ++ r = idput [] (s : Int) (q : Int) ++ (C.be rs.length 1 ++ (rs.foldl rput [] ++ (C.be ws.length 1 ++ (ws.foldl wput [] ++ r)))) := by
  unfold tput
  rw [h, cond_true, fold_app wput wput_app, put1, fold_app rput rput_app, put1]
  simp only [List.append_assoc]
 have m1 := many_app rtake rput rput_app (fun x => x.1.length ≤ 12 ∧ x.2 < 18446744073709551616) rback rs [] (C.be ws.length 1 ++ (ws.foldl wput [] ++ r)) (fun x hx => ⟨hr x hx, (ho x hx).2⟩)
 have m2 := many_app wtake wput wput_app (fun x => x.1.length ≤ 12 ∧ x.2.2.1 < 18446744073709551616 ∧ V.formed x.2.1 x.2.2.1 x.2.2.2 = true) wback ws [] r (fun x hx => ⟨(hws x hx).1, (hw x hx).2.1, (hws x hx).2⟩)
 have e0 : ttake0 (tput [] (s : Int) (q : Int) rs ws ++ r, false) = (((s, q), rs, ws), (r, false)) := by
  unfold ttake0
  rw [e]
  simp only [idback s q hi, take1 rs.length (by omega), show min rs.length 7 = rs.length by omega, m1]
  have : six (([] : List Rd1) ++ rs, (C.be ws.length 1 ++ (ws.foldl wput [] ++ r), false)) = (C.be ws.length 1 ++ (ws.foldl wput [] ++ r), false) := by
   unfold six
   rw [decide_eq_false (by simp; omega)]; rfl
  rw [this]
  simp only [take1 ws.length (by omega), show min ws.length 7 = ws.length by omega, m2, List.nil_append]
 unfold ttake
 rw [e0, h]
 rfl
end Go.Proofs.YtjofjpmhokjhnaaGreatDoor
namespace Go.Proofs.YtjofjpmhokjhnaaGreatDoor
set_option maxRecDepth 20001
open Go.RowKit T
section
variable {w z : World} {B g k : Nat} {s : C.St} {old cs : Array Value} {t : TypeId}
theorem grownRow (z : World) (k : Nat) (cs : Array Value) : z.grownBy (z.setRow k cs) (some k) := ⟨rfl, rfl, rfl, by rw [setRow_size]; exact Nat.le_refl _, fun i _ hi => setRow_other z k i cs (fun e => hi (by rw [e]))⟩
theorem grownRowNew (h : w.grownBy z (some g)) (hk : w.heap.size ≤ k) (hz : z.heap[k]? = some (.cells old t (0, 0))) : w.grownBy (z.setRow k cs) (some g) :=
 ⟨h.os, h.tape, h.output, by rw [setRow_size]; exact h.size, fun i hi hne => (setRow_other z k i cs (by omega)).trans (h.block i hi hne)⟩
theorem RdrAt.row (h : RdrAt z B g s) (hk : k ≠ g) (hB : B ≤ k) : RdrAt (z.setRow k cs) B g s := h.other (grownRow z k cs) hk hB
theorem grownDrewS (h : w.grownBy z (some g)) : w.grownBy z.drew (some g) := ⟨h.os, h.tape, h.output, h.size, h.block⟩
theorem RdrAt.drewS (h : RdrAt z B g s) : RdrAt z.drew B g s := h
theorem RdrAt.lt (h : RdrAt z B g s) : g < z.heap.size ∧ B ≤ g := by
 obtain ⟨A, c, hb, _, _, _, _, hB⟩ := h
 exact ⟨ltAt hb, hB⟩
theorem ownSet1 {base e size n k : Nat} {z : World} {v : Value} {xs : List Value} (h : z.ownsRow base e size v n xs) (hne : v.ownBlock ≠ some k) (i : Nat) (u : Value) : (z.setCells k i [u]).ownsRow base e size v n xs := h.kept (grownSet z k i u) (Or.inr hne)
theorem ownNe {base e size n : Nat} {v : Value} {xs : List Value} (h : z.ownsRow base e size v n xs) (hg : g < base) : v.ownBlock = none ∨ v.ownBlock ≠ some g := by
 cases hb : v.ownBlock with
 | none => exact Or.inl rfl
 | some q => exact Or.inr (fun e => by have := (h.lt q hb).1; injection e with e; omega)
theorem ownRowK {base e size n : Nat} {v : Value} {xs : List Value} (h : z.ownsRow base e size v n xs) (hne : v.ownBlock ≠ some k) : (z.setRow k cs).ownsRow base e size v n xs := by
 refine h.kept (grownRow z k cs) ?_
 exact Or.inr hne
theorem take_bound (k : Nat) (s : C.St) (hk : k ≤ 8) : (C.take (k : Int) s).1 < 256 ^ k := take_lt k s hk
end
theorem wrapI {n : Nat} (h : n < 9223372036854775808) : IntKind.i64.wrap (n : Int) = (n : Int) := by rw [IntKind.wrap_i64]; omega
theorem many_succ {α : Type} (f : C.St → α × C.St) : ∀ (k : Nat) (a : List α × C.St), many f (k + 1) a = ((many f k a).1 ++ [(f (many f k a).2).1], (f (many f k a).2).2)
 | 0, a => rfl
 | k + 1, a => by
   show many f (k + 1) (a.1 ++ [(f a.2).1], (f a.2).2) = _
   rw [many_succ f k]
   rfl
def sliceLen (w : World) (p : Addr) : Nat := match w.cell? p with | some (.slice _ n _) => n | _ => 0
theorem sliceLen_of {w : World} {p : Addr} {A : Option Addr} {n c : Nat} (h : w.cell? p = some (.slice A n c)) : sliceLen w p = n := by unfold sliceLen; rw [h]
theorem flat_at {α : Type} {enc : α → List Value} {sz : Nat} (hs : ∀ x, (enc x).length = sz) (l : List α) (i : Nat) (a : α) (h : l[i]? = some a) (j : Nat) (v : Value) (hv : (enc a)[j]? = some v) : (l.flatMap enc)[i * sz + j]? = some v := by
 induction l generalizing i with
 | nil => simp at h
 | cons x l ih =>
   have hj : j < sz := by have := (List.getElem?_eq_some_iff.1 hv).1; rwa [hs] at this
   rw [List.flatMap_cons]
   cases i with
   | zero =>
     simp at h; subst h
     rw [Nat.zero_mul, Nat.zero_add, List.getElem?_append_left (by rw [hs]; exact hj)]
     exact hv
   | succ i =>
     rw [List.getElem?_append_right (by rw [hs, Nat.add_mul]; omega), hs, show (i + 1) * sz + j - sz = i * sz + j by rw [Nat.add_mul]; omega]
     exact ih i (by simpa using h)
theorem rowsOwn {α : Type} {enc : α → List Value} {sz : Nat} (hs : ∀ x, (enc x).length = sz) {w : World} {base e n : Nat} {v : Value} {l : List α} (h : w.ownsRow base e sz v n (l.flatMap enc)) (hn : n = l.length) :
 ∃ (A : Option Addr) (c : Nat), v = .slice A l.length c ∧ l.length ≤ c ∧ c ≤ maxLen ∧ RowsAt w w.heap.size A sz (l.map enc) := by
 subst hn
 obtain ⟨A0, c0, hv0, hc0, _, hm0⟩ := ownShape h
 rcases h.2 with ⟨hv, h0⟩ | ⟨g, cap, cur, hv, _, hg, hle, _⟩
 ·refine ⟨A0, c0, hv0, hc0, hm0, fun i cs hi => ?_⟩
  have := (List.getElem?_eq_some_iff.1 hi).1
  rw [List.length_map] at this; omega
 ·rw [hv] at hv0
  injection hv0 with e1 e2 e3
  subst e1; subst e3
  subst hv
  refine ⟨_, cap, rfl, hle, hm0, fun i cs hi => ?_⟩
  rw [List.getElem?_map] at hi
  obtain ⟨a, ha, rfl⟩ := Option.map_eq_some_iff.1 hi
  refine ⟨g, 0, rfl, (Array.getElem?_eq_some_iff.1 hg).1, fun j v hv => ?_⟩
  have c1 := h.cells (g := g) rfl _ _ (flat_at hs l i a ha j v hv)
  rw [Addr.add_lit] at c1
  simpa [Nat.add_assoc] using c1
theorem TabsAt.drewS {B : Nat} {z : World} (h : TabsAt B z) : TabsAt B z.drew := by obtain ⟨W0, h0, hs, hb⟩ := h; exact ⟨W0, h0, hs, belowDrewS hb⟩
theorem TabsAt.row {B k : Nat} {z : World} {cs : Array Value} (h : TabsAt B z) (hB : B ≤ k) : TabsAt B (z.setRow k cs) := h.grown (grownRow z k cs) hB
theorem TabsAt.set1 {B k : Nat} {z : World} (h : TabsAt B z) (hB : B ≤ k) (i : Nat) (u : Value) : TabsAt B (z.setCells k i [u]) := h.grown (grownSet z k i u) hB
theorem RdrAt.set1 {B g k : Nat} {z : World} {s : C.St} (h : RdrAt z B g s) (hk : k ≠ g) (hB : B ≤ k) (i : Nat) (u : Value) : RdrAt (z.setCells k i [u]) B g s := h.setNew hk hB i u
theorem grownSet1 {w z : World} {g k : Nat} (h : w.grownBy z (some g)) (hk : w.heap.size ≤ k) (i : Nat) (u : Value) : w.grownBy (z.setCells k i [u]) (some g) := grownSetNew h hk i u
theorem rowAdd {w : World} {g : Nat} {cs : List Value} {t : TypeId} (h : w.heap[g]? = some (.cells cs.toArray t (0, 0))) : ∀ j v, cs[j]? = some v → w.cell? ((⟨g, 0, none⟩ : Addr).add j) = some v := fun j v hv => by
 rw [Addr.add_mid]; exact rowAt h j v hv
theorem encR_mem (r : Rd1) : ∀ u ∈ encR r, u.oneCell' = true := fun u hu => (Array.all_eq_true_iff_forall_mem.1 (encR_one r)) u (by simpa using hu)
theorem encW_mem (r : Wr1) : ∀ u ∈ encW r, u.oneCell' = true := fun u hu => (Array.all_eq_true_iff_forall_mem.1 (encW_one r)) u (by simpa using hu)
theorem fillR (x : Rd1) (cells : Array Value) (hn : cells.size = 2) : Instr.fill (fun i => some (i * 2, 2)) cells [(0, .agg (encR x).toArray)] = some (encR x).toArray := by
 have := Great.fill_whole (s := 2) (by omega) [Value.agg (encR x).toArray] cells (by intro v hv; simp at hv; subst hv; rfl) (by simp [hn])
 simpa [Value.cells] using this
theorem fillW (x : Wr1) (cells : Array Value) (hn : cells.size = 4) : Instr.fill (fun i => some (i * 4, 4)) cells [(0, .agg (encW x).toArray)] = some (encW x).toArray := by
 have := Great.fill_whole (s := 4) (by omega) [Value.agg (encW x).toArray] cells (by intro v hv; simp at hv; subst hv; rfl) (by simp [hn])
 simpa [Value.cells] using this
theorem info_rd : (Tryz.prog.info? 161).map (fun i => (i.zero, i.size, i.bytes)) = some (some (.agg #[.string ⟨#[]⟩, .int .u64 0]), 2, 24) := by kernel_rfl
theorem info_wr : (Tryz.prog.info? 163).map (fun i => (i.zero, i.size, i.bytes)) = some (some (.agg #[.string ⟨#[]⟩, .int .i64 0, .int .u64 0, .string ⟨#[]⟩]), 4, 48) := by kernel_rfl
theorem text_len (most : Int) (s : C.St) : (C.text most s).1.length ≤ 65535 := by
 have h := take_bound 2 s (by omega)
 unfold C.text
 generalize C.take 2 s = r at h
 unfold C.some_
 split
 ·simp
 ·have h2 : r.1 < 65536 := h
  simp only [List.length_take]; omega
theorem okR_snoc {rs : List Rd1} {t : List UInt8} {v : Nat} (h : ∀ x ∈ rs, okR x) (ht : t.length ≤ 65535) (hv : v < 18446744073709551616) : ∀ x ∈ rs ++ [(t, v)], okR x := fun x hx => by
 rcases List.mem_append.1 hx with hx | hx
 ·exact h x hx
 ·rw [List.mem_singleton] at hx; subst hx; exact ⟨by show t.length ≤ _; omega, hv⟩
theorem rowsOwnK {α : Type} {enc : α → List Value} {sz : Nat} (hs : ∀ x, (enc x).length = sz) {w : World} {base e n c : Nat} {A : Option Addr} {l : List α} (h : w.ownsRow base e sz (.slice A n c) n (l.flatMap enc)) (hn : n = l.length) :
 l.length ≤ c ∧ c ≤ maxLen ∧ RowsAt w w.heap.size A sz (l.map enc) := by
 obtain ⟨A', c', h1, h2, h3, h4⟩ := rowsOwn hs h hn
 injection h1 with e1 e2 e3
 subst e1; subst e3
 exact ⟨h2, h3, h4⟩
theorem txOwn {w : World} {base n1 c1 n2 c2 : Nat} {A1 A2 : Option Addr} {rs : List Rd1} {ws : List Wr1} (hu : w.ownsRow base 161 2 (.slice A1 n1 c1) n1 (rs.flatMap encR)) (hv : w.ownsRow base 163 4 (.slice A2 n2 c2) n2 (ws.flatMap encW))
 (h1 : rs.length = n1) (h2 : ws.length = n2) (ho : ∀ x ∈ rs, okR x) (hw : ∀ x ∈ ws, okW x) : TxOk w w.heap.size rs ws A1 c1 A2 c2 := by
 obtain ⟨a1, a2, a3⟩ := rowsOwnK (enc := encR) (sz := 2) (fun _ => rfl) hu h1.symm
 obtain ⟨b1, b2, b3⟩ := rowsOwnK (enc := encW) (sz := 4) (fun _ => rfl) hv h2.symm
 exact ⟨a3, b3, a1, b1, a2, b2, ho, hw⟩
theorem vtake_ok (s : C.St) : (V.take s).1.2.1 < 18446744073709551616 ∧ (V.take s).1.2.2.length ≤ 65535 := by
 have h8 : ∀ t, (C.take 8 t).1 < 18446744073709551616 := fun t => take_bound 8 t (by omega)
 unfold V.take
 split
 ·exact ⟨by show 0 < _; omega, by show 0 ≤ _; omega⟩
 ·unfold V.take0
  split
  ·exact ⟨h8 _, by show 0 ≤ _; omega⟩
  ·split
   ·exact ⟨by show 0 < _; omega, text_len _ _⟩
   ·exact ⟨by show 0 < _; omega, by show 0 ≤ _; omega⟩
theorem okW_snoc {rs : List Wr1} {t : List UInt8} {k : Int} {v : Nat} {u : List UInt8} (h : ∀ x ∈ rs, okW x) (ht : t.length ≤ 65535) (hv : v < 18446744073709551616) (hu : u.length ≤ 65535) : ∀ x ∈ rs ++ [(t, k, v, u)], okW x := fun x hx => by
 rcases List.mem_append.1 hx with hx | hx
 ·exact h x hx
 ·rw [List.mem_singleton] at hx; subst hx; exact ⟨by show t.length ≤ _; omega, hv, by show u.length ≤ _; omega⟩
theorem ownFresh {w z : World} {base e size n : Nat} {v : Value} {xs : List Value} (h : w.ownsRow base e size v n xs) (hk : ∀ i, base ≤ i → i < w.heap.size → z.heap[i]? = w.heap[i]?) : z.ownsRow base e size v n xs := by
 rcases h.2 with h0 | ⟨g, cap, cur, hv, hb', hg, rest⟩
 ·exact ⟨h.1, Or.inl h0⟩
 ·exact ⟨h.1, Or.inr ⟨g, cap, cur, hv, hb', (hk g hb' (ltAt hg)).trans hg, rest⟩⟩
theorem RdrAt.setN {B g k : Nat} {s : C.St} (hk : k ≠ g) (hB : B ≤ k) : ∀ (vs : List Value) (i : Nat) (z : World), RdrAt z B g s → RdrAt (z.setCells k i vs) B g s
 | [], _, _, h => h
 | v :: r, i, z, h => RdrAt.setN hk hB r (i + 1) (z.setCell ⟨k, i, none⟩ v) (h.setNew hk hB i v)
theorem grownSetN {w : World} {g k : Nat} (hk : w.heap.size ≤ k) : ∀ (vs : List Value) (i : Nat) (z : World), w.grownBy z (some g) → w.grownBy (z.setCells k i vs) (some g)
 | [], _, _, h => h
 | v :: r, i, z, h => grownSetN hk r (i + 1) (z.setCell ⟨k, i, none⟩ v) (grownSetNew h hk i v)
theorem TabsAt.setN {B k : Nat} (hB : B ≤ k) : ∀ (vs : List Value) (i : Nat) (z : World), TabsAt B z → TabsAt B (z.setCells k i vs)
 | [], _, _, h => h
 | v :: r, i, z, h => TabsAt.setN hB r (i + 1) (z.setCell ⟨k, i, none⟩ v) (h.grown (grownSet z k i v) hB)
theorem ownKind {w : World} {base e sz n k : Nat} {v : Value} {xs : List Value} {cs : Array Value} {t : TypeId} {m : Nat × Nat} (hu : w.ownsRow base e sz v n xs) (hz : w.heap[k]? = some (.cells cs t m)) (hne : t ≠ e) : v.ownBlock ≠ some k := by
 intro hb
 rcases hu.2 with ⟨hv, _⟩ | ⟨g, cap, cur, hv, _, hg, _⟩
 ·rw [hv] at hb; cases hb
 ·rw [hv] at hb
  have e1 : g = k := by injection hb
  subst e1
  rw [hz] at hg
  injection hg with hg
  injection hg with _ ht _
  exact hne ht
section
variable {w z z' : World} {B g k base e sz n : Nat} {v : Value} {xs : List Value} {s : C.St}
theorem heapOwn {cs : Array Value} {t : TypeId} {m : Nat × Nat} (h : z.heap[k]? = some (.cells cs t m)) (hu : z.ownsRow base e sz v n xs) (hne : t ≠ e) (hg : z.grownBy z' v.ownBlock) : z'.heap[k]? = some (.cells cs t m) :=
 (hg.block k (ltAt h) (fun e1 => ownKind hu h hne e1.symm)).trans h
theorem ownLow {i : Nat} (hu : z.ownsRow base e sz v n xs) (hi : i < base) : some i ≠ v.ownBlock := fun h => by have := (hu.lt i h.symm).1; omega
theorem grownOwn (h : w.grownBy z (some g)) (hu : z.ownsRow w.heap.size e sz v n xs) (hg : z.grownBy z' v.ownBlock) : w.grownBy z' (some g) :=
 ⟨hg.os.trans h.os, hg.tape.trans h.tape, hg.output.trans h.output, Nat.le_trans h.size hg.size, fun i hi hne => (hg.block i (Nat.lt_of_lt_of_le hi h.size) (ownLow hu hi)).trans (h.block i hi hne)⟩
theorem RdrAt.own (h : RdrAt z B g s) (hu : z.ownsRow base e sz v n xs) (hg : z.grownBy z' v.ownBlock) (hb : g < base) : RdrAt z' B g s := by
 obtain ⟨A, c, hb0, h1, h2, h3, hr, h4⟩ := h
 refine ⟨A, c, (hg.block g (ltAt hb0) (ownLow hu hb)).trans hb0, h1, h2, h3, fun j u hj => ?_, h4⟩
 obtain ⟨b, off, hA, hlt, hc⟩ := hr j u hj
 exact ⟨b, off, hA, hlt, (World.cell?_of_block (hg.block b (World.block_lt_of_cell? z _ hc) (ownLow hu (by omega)))).trans hc⟩
theorem TabsAt.own (h : TabsAt B z) (hu : z.ownsRow base e sz v n xs) (hg : z.grownBy z' v.ownBlock) (hb : B ≤ base) : TabsAt B z' := by
 obtain ⟨W0, h0, hs, hb0⟩ := h
 exact ⟨W0, h0, hs, ⟨hg.os.trans hb0.os, hg.tape.trans hb0.tape, hg.output.trans hb0.output, Nat.le_trans hb0.size hg.size, fun i hi => (hg.block i (by have := hb0.size; omega) (ownLow hu (by omega))).trans (hb0.block i hi)⟩⟩
end
end Go.Proofs.YtjofjpmhokjhnaaGreatDoor
