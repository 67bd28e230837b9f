/- Bytes that are cut off: what is taken of a beginning is what is taken of the whole; of a command's proper beginning nothing is taken. No program in sight. No condition. -/
import Derived.Test.YtkfnepmiigkdfaaDoorTioQ
namespace Go.Proofs.YtkfnepmiigkdfaaDoor
set_option maxRecDepth 20000
open Go.RowKit T
set_option linter.unusedSimpArgs false
set_option linter.unusedVariables false
/-- a taker that goes on as it began: what has failed stays so; more behind changes nothing -/
structure Goes {α : Type} (f : C.St → α × C.St) : Prop where
  sticky : ∀ l, (f (l, true)).2.2 = true
  more : ∀ p r x q, f (p, false) = (x, (q, false)) → f (p ++ r, false) = (x, (q ++ r, false))
theorem some_goes (n : Nat) : Goes (C.some_ n) := by
  constructor
  · intro l; unfold C.some_; rw [if_pos (Or.inl rfl)]
  · intro p r x q h
    unfold C.some_ at h ⊢
    by_cases hl : p.length < n
    · rw [if_pos (Or.inr hl)] at h; injection h with _ h; injection h with _ h; exact Bool.noConfusion h
    · rw [if_neg (by simp; omega)] at h
      injection h with h1 h2
      injection h2 with h2 _
      rw [if_neg (by simp; omega)]
      subst h1; subst h2
      simp only [List.take_append_of_le_length (show n ≤ p.length by omega), List.drop_append_of_le_length (show n ≤ p.length by omega)]
theorem take_goes (n : Int) : Goes (C.take n) := by
  constructor
  · intro l; unfold C.take; split
    · rfl
    · exact (some_goes n.toNat).sticky l
  · intro p r x q h
    unfold C.take at h ⊢
    split at h
    · injection h with _ h; injection h with _ h; exact Bool.noConfusion h
    · rename_i hn
      rw [if_neg hn]
      have e : C.some_ n.toNat (p, false) = ((C.some_ n.toNat (p, false)).1, (q, false)) := by
        injection h with h1 h2; rw [← h2]
      have := (some_goes n.toNat).more p r _ q e
      rw [this]
      injection h with h1 h2
      rw [← h1]
/-- a second taker behind a first one -/
theorem Goes.of {α β γ : Type} {f : C.St → α × C.St} {g : α → C.St → β × C.St} (k : α → β → γ) (hf : Goes f) (hg : ∀ a, Goes (g a)) : Goes (fun s => (k (f s).1 (g (f s).1 (f s).2).1, (g (f s).1 (f s).2).2)) := by
  constructor
  · intro l
    have h := hf.sticky l
    generalize f (l, true) = a at h
    obtain ⟨x, q, b⟩ := a
    simp only at h
    subst h
    exact (hg x).sticky q
  · intro p r z q h
    cases ha : f (p, false) with
    | mk x s =>
      obtain ⟨m, b⟩ := s
      rw [ha] at h
      simp only at h
      cases b with
      | true =>
        injection h with _ h
        have := (hg x).sticky m
        rw [h] at this; exact Bool.noConfusion this
      | false =>
        have h1 := hf.more p r x m ha
        injection h with h2 h3
        have h4 := (hg x).more m r _ q (Prod.ext (rfl : (g x (m, false)).1 = _) h3)
        rw [h1]
        simp only
        rw [h4, ← h2]
/-- a taker that looks behind itself, and may refuse -/
theorem Goes.if_ {α : Type} {f : C.St → α × C.St} (hf : Goes f) (z : α) (ok : α → Bool) : Goes (fun s => bif (f s).2.2 || !ok (f s).1 then (z, ((f s).2.1, true)) else f s) := by
  constructor
  · intro l
    show (bif (f (l, true)).2.2 || _ then (z, ((f (l, true)).2.1, true)) else f (l, true)).2.2 = true
    rw [hf.sticky l]; rfl
  · intro p r x q h
    cases ha : f (p, false) with
    | mk y s =>
      obtain ⟨m, b⟩ := s
      simp only [ha] at h
      cases b with
      | true => injection h with _ h; injection h with _ h; exact Bool.noConfusion h
      | false =>
        cases ho : ok y with
        | false => rw [ho] at h; injection h with _ h; injection h with _ h; exact Bool.noConfusion h
        | true =>
          rw [ho] at h
          injection h with h1 h2
          injection h2 with h2 _
          subst h1; subst h2
          simp only [hf.more p r _ _ ha, ho]
          rfl
theorem pure_goes {α : Type} (x : α) : Goes (fun s => (x, s)) := ⟨fun _ => rfl, fun p r y q h => by injection h with h1 h2; injection h2 with h2 _; subst h1; subst h2; rfl⟩
theorem text_goes (most : Int) : Goes (C.text most) := by
  have e : C.text most = fun s => ((C.some_ (C.take 2 s).1 ((C.take 2 s).2.1, (C.take 2 s).2.2 || decide (most < ((C.take 2 s).1 : Int)))).1, (C.some_ (C.take 2 s).1 ((C.take 2 s).2.1, (C.take 2 s).2.2 || decide (most < ((C.take 2 s).1 : Int)))).2) := rfl
  rw [e]
  refine Goes.of (f := C.take 2) (g := fun n s => C.some_ n (s.1, s.2 || decide (most < (n : Int)))) (fun _ b => b) (take_goes 2) fun n => ⟨fun l => (some_goes n).sticky l, fun p r x q h => ?_⟩
  cases hd : decide (most < (n : Int)) with
  | true => simp only [hd] at h; have := (some_goes n).sticky p; rw [show ((p, false).2 || true) = true from rfl] at h; rw [h] at this; exact Bool.noConfusion this
  | false => simp only [hd] at h ⊢; exact (some_goes n).more p r x q h
theorem vtake0_goes : Goes V.take0 := by
  have e : V.take0 = fun s => ((fun (_ : Nat) (b : Nat × Nat × List UInt8) => b) (C.take 1 s).1 ((if (C.take 1 s).1 = 1 then ((1, (C.take 8 (C.take 1 s).2).1, []), (C.take 8 (C.take 1 s).2).2) else if (C.take 1 s).1 = 2 then ((2, 0, (C.text 40 (C.take 1 s).2).1), (C.text 40 (C.take 1 s).2).2) else (((C.take 1 s).1, 0, []), (C.take 1 s).2) : (Nat × Nat × List UInt8) × C.St)).1,
      ((if (C.take 1 s).1 = 1 then ((1, (C.take 8 (C.take 1 s).2).1, []), (C.take 8 (C.take 1 s).2).2) else if (C.take 1 s).1 = 2 then ((2, 0, (C.text 40 (C.take 1 s).2).1), (C.text 40 (C.take 1 s).2).2) else (((C.take 1 s).1, 0, []), (C.take 1 s).2) : (Nat × Nat × List UInt8) × C.St)).2) := rfl
  rw [e]
  refine Goes.of (f := C.take 1) (g := fun k s => if k = 1 then ((1, (C.take 8 s).1, []), (C.take 8 s).2) else if k = 2 then ((2, 0, (C.text 40 s).1), (C.text 40 s).2) else ((k, 0, []), s)) (fun _ b => b) (take_goes 1) fun k => ?_
  by_cases h1 : k = 1
  · simp only [if_pos h1]; exact Goes.of (f := C.take 8) (g := fun x s => ((), s)) (fun x _ => ((1, x, []) : Nat × Nat × List UInt8)) (take_goes 8) fun x => pure_goes ()
  · by_cases h2 : k = 2
    · simp only [if_neg h1, if_pos h2]; exact Goes.of (f := C.text 40) (g := fun x s => ((), s)) (fun x _ => ((2, 0, x) : Nat × Nat × List UInt8)) (text_goes 40) fun x => pure_goes ()
    · simp only [if_neg h1, if_neg h2]; exact pure_goes _
theorem vtake_goes : Goes V.take := by
  have h := vtake0_goes.if_ (0, 0, []) (fun x => V.formed x.1 x.2.1 x.2.2)
  have e : V.take = fun s => bif (V.take0 s).2.2 || !V.formed (V.take0 s).1.1 (V.take0 s).1.2.1 (V.take0 s).1.2.2 then ((0, 0, []), ((V.take0 s).2.1, true)) else V.take0 s := by
    funext s
    unfold V.take
    cases (V.take0 s).2.2 <;> cases V.formed (V.take0 s).1.1 (V.take0 s).1.2.1 (V.take0 s).1.2.2 <;> simp
  rw [e]; exact h
theorem idtake_goes : Goes idtake :=
  (Goes.of (f := C.take 1) (g := fun _ s => C.take 4 s) (fun a b => (a, b)) (take_goes 1) fun _ => take_goes 4).if_ (0, 0) (fun x => idb (x.1 : Int) (x.2 : Int))
theorem rtake_goes : Goes rtake := Goes.of (f := C.text 12) (g := fun _ s => C.take 8 s) (fun a b => ((a, b) : Rd1)) (text_goes 12) fun _ => take_goes 8
theorem wtake_goes : Goes wtake := Goes.of (f := C.text 12) (g := fun _ s => V.take s) (fun a b => ((a, (b.1 : Int), b.2.1, b.2.2) : Wr1)) (text_goes 12) fun _ => vtake_goes
theorem many_goes {α : Type} {f : C.St → α × C.St} (hf : Goes f) : ∀ (n : Nat) (acc : List α), Goes (fun s => many f n (acc, s))
  | 0, acc => pure_goes acc
  | n + 1, acc => Goes.of (f := f) (g := fun x s => many f n (acc ++ [x], s)) (fun _ b => b) hf fun x => many_goes hf n (acc ++ [x])
theorem ttake0_goes : Goes ttake0 := by
  refine Goes.of (f := idtake) (g := fun i s0 => let n := C.take 1 s0; let R := many rtake (min n.1 7) ([], n.2); let m := C.take 1 (six R); let Ws := many wtake (min m.1 7) ([], m.2); ((R.1, Ws.1), Ws.2)) (fun i b => (i, b.1, b.2)) idtake_goes fun _ => ?_
  refine Goes.of (f := C.take 1) (g := fun n s1 => let R := many rtake (min n 7) ([], s1); let m := C.take 1 (six R); let Ws := many wtake (min m.1 7) ([], m.2); ((R.1, Ws.1), Ws.2)) (fun _ b => b) (take_goes 1) fun n => ?_
  refine Goes.of (f := fun s => many rtake (min n 7) ([], s)) (g := fun R s2 => let m := C.take 1 (six (R, s2)); let Ws := many wtake (min m.1 7) ([], m.2); ((R, Ws.1), Ws.2)) (fun _ b => b) (many_goes rtake_goes _ []) fun R => ?_
  have tail : Goes (fun s => let m := C.take 1 s; let Ws := many wtake (min m.1 7) ([], m.2); ((R, Ws.1), Ws.2)) :=
    Goes.of (f := C.take 1) (g := fun m s => many wtake (min m 7) ([], s)) (fun _ b => (R, b)) (take_goes 1) fun m => many_goes wtake_goes _ []
  by_cases h6 : 6 < R.length
  · have e : ∀ s, six (R, s) = (s.1, true) := fun s => by unfold six; rw [decide_eq_true h6]; rfl
    refine ⟨fun l => ?_, fun p r x q h => ?_⟩
    · simp only [e]; exact tail.sticky l
    · simp only [e] at h
      have h9 := congrArg (fun z => z.2.2) h
      have h10 := tail.sticky p
      exact Bool.noConfusion (h9.symm.trans h10)
  · have e : ∀ s, six (R, s) = s := fun s => by unfold six; rw [decide_eq_false h6]; rfl
    simp only [e]
    exact tail
theorem ttake_goes : Goes ttake := ttake0_goes.if_ ((0, 0), [], []) (fun x => formed x.1.1 x.1.2 x.2.1 x.2.2)
theorem ctake0_goes : Goes ctake0 := by
  refine Goes.of (f := C.take 1) (g := fun k s => (if k = 1 then (Cm.of 1 (ttake s).1.1.1 (ttake s).1.1.2 (ttake s).1.2.1 (ttake s).1.2.2 0 0 0 0 false, (ttake s).2)
    else if k = 2 then (Cm.of 2 0 0 [] [] (idtake s).1.1 (idtake s).1.2 (C.take 1 (idtake s).2).1 (C.take 8 (C.take 1 (idtake s).2).2).1 false, (C.take 8 (C.take 1 (idtake s).2).2).2)
    else if k = 3 then (Cm.of 3 0 0 [] [] (idtake s).1.1 (idtake s).1.2 (C.take 1 (idtake s).2).1 0 (decide ((C.take 1 (C.take 1 (idtake s).2).2).1 = 1)), bif decide (1 < (C.take 1 (C.take 1 (idtake s).2).2).1) then ((C.take 1 (C.take 1 (idtake s).2).2).2.1, true) else (C.take 1 (C.take 1 (idtake s).2).2).2)
    else (Cm.of k 0 0 [] [] 0 0 0 0 false, s) : Cm × C.St)) (fun _ b => b) (take_goes 1) fun k => ?_
  by_cases h1 : k = 1
  · simp only [if_pos h1]
    exact Goes.of (f := ttake) (g := fun x s => ((), s)) (fun t _ => Cm.of 1 t.1.1 t.1.2 t.2.1 t.2.2 0 0 0 0 false) ttake_goes fun x => pure_goes ()
  · by_cases h2 : k = 2
    · simp only [if_neg h1, if_pos h2]
      refine Goes.of (f := idtake) (g := fun i s => ((C.take 1 s).1, (C.take 8 (C.take 1 s).2).1, (C.take 8 (C.take 1 s).2).2) |> fun z => ((z.1, z.2.1), z.2.2)) (fun i b => Cm.of 2 0 0 [] [] i.1 i.2 b.1 b.2 false) idtake_goes fun i => ?_
      exact Goes.of (f := C.take 1) (g := fun _ s => C.take 8 s) (fun a b => (a, b)) (take_goes 1) fun _ => take_goes 8
    · by_cases h3 : k = 3
      · simp only [if_neg h1, if_neg h2, if_pos h3]
        refine Goes.of (f := idtake) (g := fun i s => (((C.take 1 s).1, (C.take 1 (C.take 1 s).2).1), bif decide (1 < (C.take 1 (C.take 1 s).2).1) then ((C.take 1 (C.take 1 s).2).2.1, true) else (C.take 1 (C.take 1 s).2).2)) (fun i b => Cm.of 3 0 0 [] [] i.1 i.2 b.1 0 (decide (b.2 = 1))) idtake_goes fun i => ?_
        refine Goes.of (f := C.take 1) (g := fun _ s => ((C.take 1 s).1, bif decide (1 < (C.take 1 s).1) then ((C.take 1 s).2.1, true) else (C.take 1 s).2)) (fun a b => (a, b)) (take_goes 1) fun _ => ?_
        refine Goes.of (f := C.take 1) (g := fun y s => ((), bif decide (1 < y) then (s.1, true) else s)) (fun a _ => a) (take_goes 1) fun y => ?_
        cases decide (1 < y) with
        | false => exact pure_goes ()
        | true => exact ⟨fun l => rfl, fun p r x q h => by injection h with _ h; injection h with _ h; exact Bool.noConfusion h⟩
      · simp only [if_neg h1, if_neg h2, if_neg h3]
        exact pure_goes _
theorem ctake_goes : Goes ctake := ctake0_goes.if_ Cm.zero (fun x => x.formed)
theorem ctake_fail (s : C.St) (h : (ctake s).2.2 = true) : (ctake s).1 = Cm.zero := by
  unfold ctake at h ⊢
  cases hf : ((ctake0 s).2.2 || !(ctake0 s).1.formed) with
  | true => rfl
  | false =>
    rw [hf] at h
    have h : (ctake0 s).2.2 = true := h
    rw [h] at hf
    exact Bool.noConfusion hf
/-- of a command's proper beginning nothing is taken -/
theorem ctake_cut {x : Cm} (hf : x.formed = true) (hx : Fits x) {p r : List UInt8} (h : cput [] x = p ++ r) (hr : r ≠ []) : (ctake (p, false)).2.2 = true ∧ (ctake (p, false)).1 = Cm.zero := by
  have key : (ctake (p, false)).2.2 = true := by
    cases hb : (ctake (p, false)).2.2 with
    | true => rfl
    | false =>
      have e : ctake (p, false) = ((ctake (p, false)).1, ((ctake (p, false)).2.1, false)) := Prod.ext rfl (Prod.ext rfl hb)
      have h1 := ctake_goes.more p r _ _ e
      obtain ⟨y, h2, _⟩ := cback x [] hf hx
      rw [List.append_nil, h, h1] at h2
      injection h2 with _ h2
      injection h2 with h2 _
      exact absurd (List.append_eq_nil_iff.1 h2).2 hr
  exact ⟨key, ctake_fail _ key⟩
end Go.Proofs.YtkfnepmiigkdfaaDoor
