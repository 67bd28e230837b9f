/- A tail of operations that are passed over, or move values, at once. No condition. -/
import Derived.Test.YtjofjpmhokjhnaaDoorBase
namespace Go.Proofs.YtjofjpmhokjhnaaDoor
set_option maxRecDepth 20000
set_option linter.unusedSimpArgs false
set_option linter.unusedVariables false
def nthL {α : Type} : List α → Nat → Option α
  | [], _ => none
  | x :: _, 0 => some x
  | _ :: r, n + 1 => nthL r n
theorem nthL_eq {α : Type} (l : List α) (n : Nat) : nthL l n = l[n]? := by
  induction l generalizing n with
  | nil => simp [nthL]
  | cons x r ih => cases n with
    | zero => simp [nthL]
    | succ n => simp [nthL, ih]
/-- slots that were written, over those that stood there -/
def lookS (base : List Value) : List (Nat × Value) → Nat → Option Value
  | [], j => nthL base j
  | (d, v) :: r, j => bif Nat.beq d j then some v else lookS base r j
def actS (a : Act) (acc : List (Nat × Value)) : Act := acc.foldr (fun p b => b.put (some p.1) p.2) a
theorem actS_size (a : Act) (acc : List (Nat × Value)) : (actS a acc).tmps.size = a.tmps.size := by
  induction acc with
  | nil => rfl
  | cons p r ih => simpa [actS, Act.put] using ih
theorem actS_look (a : Act) (acc : List (Nat × Value)) (hn : ∀ p ∈ acc, p.1 < a.tmps.size) (j : Nat) : (actS a acc).tmps[j]? = lookS a.tmps.toList acc j := by
  induction acc with
  | nil => simp [actS, lookS, nthL_eq]
  | cons p r ih =>
    obtain ⟨d, v⟩ := p
    have ih := ih (fun q hq => hn q (by simp [hq]))
    have hs := actS_size a r
    have hd := hn (d, v) (by simp)
    unfold lookS
    show ((actS a r).put (some d) v).tmps[j]? = _
    unfold Act.put
    simp only [Array.getElem?_setIfInBounds, hs]
    by_cases e : d = j
    · subst e
      have : Nat.beq d d = true := Nat.beq_refl d
      simp [hd]
    · have : Nat.beq d j = false := by
        cases h : Nat.beq d j with
        | false => rfl
        | true => exact absurd (Nat.eq_of_beq_eq_true h) e
      simp [this, e, ih]
def evalS (look : Nat → Option Value) (globals : Operand → Value) : Operand → Value
  | .tmp t => match look t with
    | some v => v
    | none => undef
  | x => globals x
def yieldS (opsL : List Oper) (look : Nat → Option Value) (j : Nat) : Option Bool :=
  match nthL opsL j with
  | some o => match o.dst with
    | some d => match look d with
      | some (.bool b) => some b
      | _ => none
    | none => none
  | none => none
def boolEq : Bool → Bool → Bool
  | true, b => b
  | false, b => !b
def wantS (opsL : List Oper) (look : Nat → Option Value) (o : Oper) : Bool :=
  match o.guard with
  | none => true
  | some (j, want) => match yieldS opsL look j with
    | some b => boolEq b want
    | none => false
def constS : Operand → Value
  | .tmp _ => undef
  | .const v => v
  | .global g => .pointer (some ⟨g, 0, none⟩)
  | .func f => .func (.func f) #[] #[]
def moveS (look : Nat → Option Value) : Op → Option Value
  | .move x => some (evalS look constS x)
  | .assign x => some (evalS look constS x)
  | .pick c x y => match evalS look constS c with
    | .bool b => some (bif b then evalS look constS x else evalS look constS y)
    | _ => none
  | _ => none
def tailS (n : Nat) (base : List Value) (opsL : List Oper) : List Oper → List (Nat × Value) → Option (List (Nat × Value))
  | [], acc => some acc
  | o :: rest, acc =>
    match o.dst with
    | none => none
    | some d => bif Nat.blt d n then
        match wantS opsL (lookS base acc) o with
        | true => match moveS (lookS base acc) o.op with
          | some v => tailS n base opsL rest ((d, v) :: acc)
          | none => none
        | false => tailS n base opsL rest ((d, undef) :: acc)
      else none
theorem evalS_eq (a : Act) (look : Nat → Option Value) (h : ∀ j, a.tmps[j]? = look j) (x : Operand) : a.eval x = evalS look constS x := by
  cases x with
  | tmp t =>
    unfold Act.eval evalS
    simp only [Array.getD_eq_getD_getElem?, h]
    cases look t <;> rfl
  | _ => rfl
theorem yieldS_eq (opsL : List Oper) (tmps : Array Value) (look : Nat → Option Value) (h : ∀ j, tmps[j]? = look j) (j : Nat) : yielded opsL.toArray tmps j = yieldS opsL look j := by
  unfold yielded yieldS
  rw [List.getElem?_toArray, nthL_eq]
  cases opsL[j]? with
  | none => rfl
  | some o =>
    simp only [Option.bind_some]
    cases o.dst with
    | none => rfl
    | some d =>
      simp only [Option.bind_some, h]
      cases look d with
      | none => rfl
      | some v => cases v <;> rfl
theorem wantS_eq (opsL : List Oper) (tmps : Array Value) (look : Nat → Option Value) (h : ∀ j, tmps[j]? = look j) (o : Oper) : Region.wanted o (yielded opsL.toArray tmps) = wantS opsL look o := by
  unfold Region.wanted wantS
  cases o.guard with
  | none => rfl
  | some g =>
    obtain ⟨j, want⟩ := g
    simp only [yieldS_eq opsL tmps look h]
    cases yieldS opsL look j with
    | none => rfl
    | some b => cases b <;> cases want <;> rfl
theorem run_moveS {P : Program} {a : Act} {o : Oper} {v : Value} (look : Nat → Option Value) (h : ∀ j, a.tmps[j]? = look j) (hm : moveS look o.op = some v) (w : World) : (execOp a.eval o).run P w = .ok (.value v) w := by
  unfold execOp
  cases ho : o.op with
  | move x => rw [ho] at hm; cases hm; rw [← evalS_eq a look h x]; rfl
  | assign x => rw [ho] at hm; cases hm; rw [← evalS_eq a look h x]; rfl
  | pick c x y =>
    rw [ho] at hm
    have hm : (match evalS look constS c with | .bool b => some (bif b then evalS look constS x else evalS look constS y) | _ => none) = some v := hm
    rw [← evalS_eq a look h c, ← evalS_eq a look h x, ← evalS_eq a look h y] at hm
    cases hc : a.eval c with
    | bool b => simp only [hc] at hm; cases hm; cases b <;> simp [asBool, hc] <;> rfl
    | _ => simp only [hc] at hm; cases hm
  | _ => rw [ho] at hm; cases hm
theorem wpList_tailS {P : Program} {opsL : List Oper} {Q : Exit → Act → World → Prop} {l : List Oper} {a : Act} {acc acc' : List (Nat × Value)} {w : World} (n : Nat) (hn : a.tmps.size = n)
    (hacc : ∀ p ∈ acc, p.1 < a.tmps.size) (h : tailS n a.tmps.toList opsL l acc = some acc') (hq : (∀ p ∈ acc', p.1 < a.tmps.size) → Q .normal (actS a acc') w) : wpList P opsL.toArray Q l (actS a acc) w := by
  induction l generalizing acc with
  | nil => cases h; exact hq hacc
  | cons o rest ih =>
    have hl := actS_look a acc hacc
    unfold tailS at h
    cases hd : o.dst with
    | none => simp only [hd] at h; cases h
    | some d =>
      simp only [hd] at h
      cases hb : Nat.blt d n with
      | false => simp only [hb] at h; cases h
      | true =>
        have hdn : d < a.tmps.size := by rw [hn]; exact Nat.le_of_ble_eq_true hb
        simp only [hb, cond_true] at h
        have hacc' : ∀ v, ∀ p ∈ (d, v) :: acc, p.1 < a.tmps.size := fun v p hp => by
          rcases List.mem_cons.1 hp with e | e
          · subst e; exact hdn
          · exact hacc p e
        cases hw : wantS opsL (lookS a.tmps.toList acc) o with
        | false =>
          simp only [hw] at h
          refine wpList_skip ((wantS_eq opsL _ _ hl o).trans hw) ?_
          rw [hd]
          exact ih (hacc' undef) h
        | true =>
          simp only [hw] at h
          refine wpList_step fun K hK => ?_
          rw [if_pos ((wantS_eq opsL _ _ hl o).trans hw)]
          unfold Oper.wp
          cases hm : moveS (lookS a.tmps.toList acc) o.op with
          | some v => simp only [hm] at h; rw [run_moveS _ hl hm, Oper.upon_value]; refine hK _ _ ?_; rw [hd]; exact ih (hacc' v) h
          | none => simp only [hm] at h; cases h
/-- the same, where only one slot of what comes out counts -/
theorem wpList_tail1 {P : Program} {opsL : List Oper} {Q : Exit → Act → World → Prop} {l : List Oper} {tmps : Array Value} {df : List Deferred} {w : World} (n k : Nat) (v : Value) (hn : tmps.size = n)
    (h : (match tailS n tmps.toList opsL l [] with | some acc' => lookS tmps.toList acc' k | none => none) = some v) (hq : ∀ a' : Act, a'.tmps[k]? = some v → a'.defers = df → Q .normal a' w) : wpList P opsL.toArray Q l ⟨tmps, df⟩ w := by
  cases ht : tailS n tmps.toList opsL l [] with
  | none => rw [ht] at h; cases h
  | some acc' =>
    rw [ht] at h
    refine wpList_tailS (a := ⟨tmps, df⟩) (acc := []) n hn (fun p hp => by cases hp) ht fun hacc => ?_
    refine hq _ ((actS_look _ acc' hacc k).trans h) ?_
    have : ∀ acc : List (Nat × Value), (actS ⟨tmps, df⟩ acc).defers = df := fun acc => by
      induction acc with
      | nil => rfl
      | cons p r ih => exact ih
    exact this acc'
theorem isPick {P : Program} {ops : Array Oper} {rest : List Oper} {op : Oper} {a : Act} {w : World} {Q : Exit → Act → World → Prop} {c x y : Operand} (ho : op.op = .pick c x y) (h : wpList P ops Q (op :: rest) a w) : wpList P ops Q (op :: rest) a w := h
section
variable {α : Type}
theorem nP (t : Array Value) (df : List Deferred) (d : Tmp) (v : Value) : Act.put ⟨t, df⟩ (some d) v = ⟨t.setIfInBounds d v, df⟩ := rfl
theorem nN (a : Act) (v : Value) : Act.put a none v = a := rfl
theorem nA (l : List α) (i : Nat) (x : α) : l.toArray.setIfInBounds i x = (l.set i x).toArray := List.setIfInBounds_toArray ..
theorem n0 (x y : α) (l : List α) : (x :: l).set 0 y = y :: l := rfl
theorem nS (x y : α) (l : List α) (n : Nat) : (x :: l).set (n + 1) y = x :: l.set n y := rfl
theorem nG (l : List α) (i : Nat) (h : i < l.toArray.size) : l.toArray[i] = l[i]'(by simpa using h) := List.getElem_toArray ..
end
end Go.Proofs.YtjofjpmhokjhnaaDoor
