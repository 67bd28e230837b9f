/- What is taken of bytes: ids, transactions, commands; what was put is taken as it was. No program in sight. No condition. -/
import Derived.Test.YtkfnepmiigkdfaaDoorSb
import Derived.Test.YtkfnepmiigkdfaaDoorValTake
namespace Go.Proofs.YtkfnepmiigkdfaaDoor
set_option maxRecDepth 20000
open Go.RowKit T
set_option linter.unusedSimpArgs false
set_option linter.unusedVariables false
theorem some_app (k : Nat) (a r : List UInt8) (h : a.length = k) : C.some_ k (a ++ r, false) = (a, (r, false)) := by
  unfold C.some_
  rw [if_neg (by simp; omega)]
  simp [h]
theorem take_app (k : Nat) (x : Nat) (r : List UInt8) (h : k ≤ 8) : C.take (k : Int) (C.be x k ++ r, false) = (x % 256 ^ k, (r, false)) := by
  unfold C.take
  rw [if_neg (by omega), Int.toNat_natCast, some_app k _ _ (C.be_len x k), C.val_be]
theorem text_app (most : Int) (s : List UInt8) (r : List UInt8) (h : s.length < 65536) (hm : (s.length : Int) ≤ most) : C.text most (C.be s.length 2 ++ s ++ r, false) = (s, (r, false)) := by
  unfold C.text
  rw [List.append_assoc, show (2 : Int) = ((2 : Nat) : Int) from rfl, take_app 2 s.length (s ++ r) (by omega)]
  rw [show s.length % 256 ^ 2 = s.length from Nat.mod_eq_of_lt (by omega)]
  simp only [show decide (most < (s.length : Int)) = false from by simp; omega, Bool.or_false]
  exact some_app _ _ _ rfl
/-- by the number of bytes -/
theorem take1 (x : Nat) (h : x < 256) (r : List UInt8) : C.take 1 (C.be x 1 ++ r, false) = (x, (r, false)) := by
  have := take_app 1 x r (by omega)
  rw [Nat.mod_eq_of_lt (by simpa using h)] at this
  exact this
theorem take4 (x : Nat) (h : x < 4294967296) (r : List UInt8) : C.take 4 (C.be x 4 ++ r, false) = (x, (r, false)) := by
  have := take_app 4 x r (by omega)
  rw [Nat.mod_eq_of_lt (by simpa using h)] at this
  exact this
theorem take8 (x : Nat) (h : x < 18446744073709551616) (r : List UInt8) : C.take 8 (C.be x 8 ++ r, false) = (x, (r, false)) := by
  have := take_app 8 x r (by omega)
  rw [Nat.mod_eq_of_lt (by simpa using h)] at this
  exact this
theorem put1 (l : List UInt8) (x : Nat) : C.put l x 1 = l ++ C.be x 1 := rfl
theorem put4 (l : List UInt8) (x : Nat) : C.put l x 4 = l ++ C.be x 4 := rfl
theorem put8 (l : List UInt8) (x : Nat) : C.put l x 8 = l ++ C.be x 8 := rfl
theorem text_short (l t : List UInt8) (h : t.length < 65536) : C.putText l t = l ++ (C.be t.length 2 ++ t) := by
  unfold C.putText
  rw [show min t.length 65535 = t.length by omega, List.take_length, List.append_assoc]
namespace T
def idtake (s : C.St) : (Nat × Nat) × C.St :=
  bif (C.take 4 (C.take 1 s).2).2.2 || !idb ((C.take 1 s).1 : Int) ((C.take 4 (C.take 1 s).2).1 : Int) then ((0, 0), ((C.take 4 (C.take 1 s).2).2.1, true))
  else (((C.take 1 s).1, (C.take 4 (C.take 1 s).2).1), (C.take 4 (C.take 1 s).2).2)
def rtake (s : C.St) : Rd1 × C.St := (((C.text 12 s).1, (C.take 8 (C.text 12 s).2).1), (C.take 8 (C.text 12 s).2).2)
def wtake (s : C.St) : Wr1 × C.St := (((C.text 12 s).1, ((V.take (C.text 12 s).2).1.1 : Int), (V.take (C.text 12 s).2).1.2.1, (V.take (C.text 12 s).2).1.2.2), (V.take (C.text 12 s).2).2)
def many {α : Type} (f : C.St → α × C.St) : Nat → List α × C.St → List α × C.St
  | 0, a => a
  | n + 1, a => many f n (a.1 ++ [(f a.2).1], (f a.2).2)
/-- more than six: no transaction -/
def six {α : Type} (a : List α × C.St) : C.St := bif decide (6 < a.1.length) then (a.2.1, true) else a.2
def ttake0 (s : C.St) : ((Nat × Nat) × List Rd1 × List Wr1) × C.St :=
  let i := idtake s
  let n := C.take 1 i.2
  let R := many rtake (min n.1 7) ([], n.2)
  let m := C.take 1 (six R)
  let Ws := many wtake (min m.1 7) ([], m.2)
  ((i.1, R.1, Ws.1), Ws.2)
def ttake (s : C.St) : ((Nat × Nat) × List Rd1 × List Wr1) × C.St :=
  bif (ttake0 s).2.2 || !formed (ttake0 s).1.1.1 (ttake0 s).1.1.2 (ttake0 s).1.2.1 (ttake0 s).1.2.2 then (((0, 0), [], []), ((ttake0 s).2.1, true)) else ttake0 s
end T
theorem idback (s q : Nat) (h : idb (s : Int) (q : Int) = true) (r : List UInt8) : idtake (idput [] (s : Int) (q : Int) ++ r, false) = ((s, q), (r, false)) := by
  obtain ⟨a, b, h1, h2, h3, h4, h5, h6⟩ := idb_nat h
  have e1 : s = a := by omega
  have e2 : q = b := by omega
  subst e1; subst e2
  have e : idput [] (s : Int) (q : Int) = C.be s 1 ++ C.be q 4 := by unfold idput; rw [h]; rfl
  unfold idtake
  rw [e, List.append_assoc, take1 s (by omega)]
  simp only
  rw [take4 q (by omega), h]
  rfl
theorem idput_app (l : List UInt8) (s q : Int) : idput l s q = l ++ idput [] s q := by
  unfold idput
  cases idb s q with
  | false => simp
  | true => simp [put1, put4]
theorem rput_app (l : List UInt8) (x : Rd1) : rput l x = l ++ rput [] x := by unfold rput C.putText; simp [put8]
theorem V.put_app (l : List UInt8) (k : Int) (b : Nat) (t : List UInt8) : V.put l k b t = l ++ V.put [] k b t := by
  unfold V.put C.putText
  split
  · split
    · simp [put1, put8]
    · split
      · simp [put1]
      · simp [put1]
  · simp
theorem wput_app (l : List UInt8) (x : Wr1) : wput l x = l ++ wput [] x := by
  unfold wput
  rw [V.put_app, V.put_app (C.putText [] x.1)]
  unfold C.putText
  simp
theorem fold_app {α : Type} (f : List UInt8 → α → List UInt8) (hf : ∀ l x, f l x = l ++ f [] x) (xs : List α) (l : List UInt8) : xs.foldl f l = l ++ xs.foldl f [] := by
  induction xs generalizing l with
  | nil => simp
  | cons x xs ih => rw [List.foldl_cons, ih, List.foldl_cons, ih (f [] x), hf l x, List.append_assoc]
theorem many_app {α : Type} (f : C.St → α × C.St) (p : List UInt8 → α → List UInt8) (hp : ∀ l x, p l x = l ++ p [] x) (P : α → Prop) (hf : ∀ x r, P x → f (p [] x ++ r, false) = (x, (r, false))) :
    ∀ (xs : List α) (acc : List α) (r : List UInt8), (∀ x ∈ xs, P x) → many f xs.length (acc, (xs.foldl p [] ++ r, false)) = (acc ++ xs, (r, false))
  | [], acc, r, _ => by simp [many]
  | x :: xs, acc, r, h => by
    rw [List.foldl_cons, fold_app p hp, List.append_assoc]
    show many f xs.length (acc ++ [(f (p [] x ++ (xs.foldl p [] ++ r), false)).1], (f (p [] x ++ (xs.foldl p [] ++ r), false)).2) = _
    rw [hf x _ (h x (by simp))]
    rw [many_app f p hp P hf xs (acc ++ [x]) r (fun y hy => h y (by simp [hy]))]
    simp
/-- what a formed transaction's reads and writes are -/
theorem good_key {l : List (List UInt8)} (h : rises l = true) : ∀ x ∈ l, V.key x = true := by
  intro x hx
  obtain ⟨i, hi, rfl⟩ := List.getElem_of_mem hx
  have := (rises_iff l).1 h i hi
  unfold good at this
  rw [List.getElem?_eq_getElem hi, Bool.and_eq_true] at this
  exact this.1
theorem key_len {t : List UInt8} (h : V.key t = true) : t.length ≤ 12 := by
  unfold V.key at h
  simp at h
  omega
theorem rback (x : Rd1) (r : List UInt8) (h : x.1.length ≤ 12 ∧ x.2 < 18446744073709551616) : rtake (rput [] x ++ r, false) = (x, (r, false)) := by
  have e : rput [] x ++ r = C.be x.1.length 2 ++ x.1 ++ (C.be x.2 8 ++ r) := by unfold rput; rw [put8, text_short _ _ (by omega)]; simp
  unfold rtake
  rw [e, text_app 12 x.1 _ (by omega) (by omega)]
  simp only
  rw [take8 x.2 h.2]
theorem vback (k : Int) (b : Nat) (t : List UInt8) (r : List UInt8) (hb : b < 18446744073709551616) (h : V.formed k b t = true) : ((V.take (V.put [] k b t ++ r, false)).1.1 : Int) = k ∧ (V.take (V.put [] k b t ++ r, false)).1.2.1 = b ∧ (V.take (V.put [] k b t ++ r, false)).1.2.2 = t ∧ (V.take (V.put [] k b t ++ r, false)).2 = (r, false) := by
  have key : ∀ (k' : Nat) (u : (Nat × Nat × List UInt8) × C.St), (k' : Int) = k → V.take0 (V.put [] k b t ++ r, false) = ((k', b, t), (r, false)) → ((V.take (V.put [] k b t ++ r, false)).1.1 : Int) = k ∧ (V.take (V.put [] k b t ++ r, false)).1.2.1 = b ∧ (V.take (V.put [] k b t ++ r, false)).1.2.2 = t ∧ (V.take (V.put [] k b t ++ r, false)).2 = (r, false) := by
    intro k' u hk e
    have e2 : V.take (V.put [] k b t ++ r, false) = ((k', b, t), (r, false)) := by
      unfold V.take
      rw [e, if_neg (by simp; rw [hk, h])]
    rw [e2]
    exact ⟨hk, rfl, rfl, rfl⟩
  rcases formed_kind h with rfl | rfl | rfl
  · have h0 : b = 0 ∧ t = [] := by unfold V.formed at h; simpa using h
    obtain ⟨rfl, rfl⟩ := h0
    refine key 0 default rfl ?_
    have e : V.put [] 0 0 [] = C.be 0 1 := by unfold V.put; rw [h]; rfl
    unfold V.take0
    rw [e, take1 0 (by omega)]
    rfl
  · have h0 : t = [] := by unfold V.formed at h; simp at h; exact h.1
    subst h0
    refine key 1 default rfl ?_
    have e : V.put [] 1 b [] = C.be 1 1 ++ C.be b 8 := by unfold V.put; rw [h]; rfl
    unfold V.take0
    rw [e, List.append_assoc, take1 1 (by omega)]
    simp only
    rw [take8 b hb, if_pos trivial]
  · have h0 : b = 0 ∧ t.length ≤ 40 := by unfold V.formed at h; simp at h; exact h.1
    obtain ⟨rfl, hl⟩ := h0
    refine key 2 default rfl ?_
    have e : V.put [] 2 0 t ++ r = C.be 2 1 ++ (C.be t.length 2 ++ t ++ r) := by unfold V.put; rw [h]; simp [text_short _ _ (show t.length < 65536 by omega), put1]
    unfold V.take0
    rw [e, take1 2 (by omega)]
    simp only
    rw [text_app 40 t r (by omega) (by omega), if_neg (by simp), if_pos trivial]
theorem wback (x : Wr1) (r : List UInt8) (h : x.1.length ≤ 12 ∧ x.2.2.1 < 18446744073709551616 ∧ V.formed x.2.1 x.2.2.1 x.2.2.2 = true) : wtake (wput [] x ++ r, false) = (x, (r, false)) := by
  have e : wput [] x ++ r = C.be x.1.length 2 ++ x.1 ++ (V.put [] x.2.1 x.2.2.1 x.2.2.2 ++ r) := by unfold wput; rw [V.put_app, text_short _ _ (by omega)]; simp
  obtain ⟨h1, h2, h3, h4⟩ := vback x.2.1 x.2.2.1 x.2.2.2 r h.2.1 h.2.2
  unfold wtake
  rw [e, text_app 12 x.1 _ (by omega) (by omega)]
  simp only
  rw [h1, h2, h3, h4]
theorem formed_all {s q : Int} {rs : List Rd1} {ws : List Wr1} (h : formed s q rs ws = true) : (∀ x ∈ rs, x.1.length ≤ 12) ∧ (∀ x ∈ ws, x.1.length ≤ 12 ∧ V.formed x.2.1 x.2.2.1 x.2.2.2 = true) := by
  unfold formed at h
  rw [Bool.and_eq_true, Bool.and_eq_true, Bool.and_eq_true] at h
  refine ⟨fun x hx => key_len (good_key h.1.1.2 _ (List.mem_map.2 ⟨x, hx, rfl⟩)), fun x hx => ⟨key_len (good_key h.1.2 _ (List.mem_map.2 ⟨x, hx, rfl⟩)), ?_⟩⟩
  exact List.all_eq_true.1 h.2 x hx
theorem tback (s q : Nat) (rs : List Rd1) (ws : List Wr1) (r : List UInt8) (h : formed (s : Int) (q : Int) rs ws = true) (ho : ∀ x ∈ rs, okR x) (hw : ∀ x ∈ ws, okW x) :
    ttake (tput [] (s : Int) (q : Int) rs ws ++ r, false) = (((s, q), rs, ws), (r, false)) := by
  obtain ⟨hi, h6, h7⟩ := formed_few h
  obtain ⟨hr, hws⟩ := formed_all h
  have e : tput [] (s : Int) (q : Int) rs ws ++ r = idput [] (s : Int) (q : Int) ++ (C.be rs.length 1 ++ (rs.foldl rput [] ++ (C.be ws.length 1 ++ (ws.foldl wput [] ++ r)))) := by
    unfold tput
    rw [h, cond_true, fold_app wput wput_app, put1, fold_app rput rput_app, put1]
    simp only [List.append_assoc]
  have m1 := many_app rtake rput rput_app (fun x => x.1.length ≤ 12 ∧ x.2 < 18446744073709551616) rback rs [] (C.be ws.length 1 ++ (ws.foldl wput [] ++ r)) (fun x hx => ⟨hr x hx, (ho x hx).2⟩)
  have m2 := many_app wtake wput wput_app (fun x => x.1.length ≤ 12 ∧ x.2.2.1 < 18446744073709551616 ∧ V.formed x.2.1 x.2.2.1 x.2.2.2 = true) wback ws [] r (fun x hx => ⟨(hws x hx).1, (hw x hx).2.1, (hws x hx).2⟩)
  have e0 : ttake0 (tput [] (s : Int) (q : Int) rs ws ++ r, false) = (((s, q), rs, ws), (r, false)) := by
    unfold ttake0
    rw [e]
    simp only [idback s q hi, take1 rs.length (by omega), show min rs.length 7 = rs.length by omega, m1]
    have : six (([] : List Rd1) ++ rs, (C.be ws.length 1 ++ (ws.foldl wput [] ++ r), false)) = (C.be ws.length 1 ++ (ws.foldl wput [] ++ r), false) := by
      unfold six
      rw [decide_eq_false (by simp; omega)]; rfl
    rw [this]
    simp only [take1 ws.length (by omega), show min ws.length 7 = ws.length by omega, m2, List.nil_append]
  unfold ttake
  rw [e0, h]
  rfl
end Go.Proofs.YtkfnepmiigkdfaaDoor
