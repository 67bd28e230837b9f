import Derived.Test.YthclniimhpmeoaaGreatDoorMrM4
set_option maxHeartbeats 1600000
set_option maxRecDepth 20001
set_option linter.unusedSimpArgs false
set_option linter.unusedVariables false
namespace Go.Proofs.YthclniimhpmeoaaGreatDoor
set_option maxRecDepth 20000
section
def fdS : List (Nat × Value) → Nat → Value → Value
 | [], _, x => x
 | (d, v) :: r, j, x => bif Nat.beq d j then v else fdS r j x
def outS (acc : List (Nat × Value)) : List Value → Nat → List Value
 | [], _ => []
 | x :: r, j => fdS acc j x :: outS acc r (j + 1)
theorem outS_get (acc : List (Nat × Value)) : ∀ (l : List Value) (j k : Nat), (outS acc l j)[k]? = (l[k]?).map (fdS acc (j + k))
 | [], j, k => by simp [outS]
 | x :: r, j, 0 => rfl
 | x :: r, j, k + 1 => by
   show (outS acc r (j + 1))[k]? = _;rw [outS_get acc r (j + 1) k, List.getElem?_cons_succ, Nat.add_right_comm]; rfl
theorem lookS_fd (base : List Value) (acc : List (Nat × Value)) (h : ∀ p ∈ acc, p.1 < base.length) (j : Nat) : lookS base acc j = (base[j]?).map (fdS acc j) := by
 induction acc with
 | nil => show nthL base j = _; rw [nthL_eq]; cases base[j]? <;> rfl
 | cons p r ih =>
   obtain ⟨d, v⟩ := p;have ih := ih fun q hq => h q (List.mem_cons_of_mem _ hq);have hd := h (d, v) List.mem_cons_self;show (bif Nat.beq d j then some v else lookS base r j) = _
   cases hb : Nat.beq d j with
   | true =>
     have e := Nat.eq_of_beq_eq_true hb;subst e;rw [List.getElem?_eq_getElem hd];show some v = some (bif Nat.beq d d then v else _);rw [hb]; rfl
   | false =>
     show lookS base r j = _;rw [ih]
     cases base[j]? with
     | none => rfl
     | some x => show some (fdS r j x) = some (bif Nat.beq d j then v else fdS r j x); rw [hb]; rfl
def outA (a : Act) (acc : List (Nat × Value)) : Act := ⟨(outS acc a.tmps.toList 0).toArray, a.defers⟩
theorem actS_out (a : Act) (acc : List (Nat × Value)) (h : ∀ p ∈ acc, p.1 < a.tmps.size) : actS a acc = outA a acc := by
 have hd : ∀ acc : List (Nat × Value), (actS a acc).defers = a.defers := fun acc => by
  induction acc with
  | nil => rfl
  | cons p r ih => exact ih
 have ht : (actS a acc).tmps = (outS acc a.tmps.toList 0).toArray := by
  apply Array.ext_getElem?
  intro j;rw [actS_look a acc h j, lookS_fd _ _ (fun p hp => by rw [Array.length_toList]; exact h p hp), List.getElem?_toArray, outS_get, Nat.zero_add]
 unfold outA;rw [← ht, ← hd acc]
def finL (opsL l : List Oper) (a : Act) : Act := match tailS a.tmps.size a.tmps.toList opsL l [] with
 | some acc => outA a acc
 | none => a
def okL (opsL l : List Oper) (a : Act) : Bool := (tailS a.tmps.size a.tmps.toList opsL l []).isSome
theorem wpl_auto {P : Program} {opsL l : List Oper} {Q : Exit → Act → World → Prop} {a : Act} {w : World} (hq : Q .normal (finL opsL l a) w) (h : okL opsL l a = true := by kernel_rfl) : wpList P opsL.toArray Q l a w := by
 unfold okL at h
 cases ht : tailS a.tmps.size a.tmps.toList opsL l [] with
 | none => rw [ht] at h; cases h
 | some acc =>
   refine wpList_tailS (a := a) (acc := []) a.tmps.size rfl (fun p hp => by cases hp) ht fun hb => ?_;unfold finL at hq; rw [ht] at hq; rw [actS_out a acc hb]; exact hq
def upTo (N k : Nat) : Array Bool := ((List.range N).map fun j => Nat.blt j k).toArray
def chainOk : List Oper → Nat → Bool → Bool
 | [], _, _ => true
 | o :: r, i, fst => o.after.toList.all (fun e => Nat.blt e.on i) && (fst || o.after.toList.any (fun e => Region.binds .any e && Nat.beq (e.on + 1) i)) && chainOk r (i + 1) false
theorem upTo_get (N k j : Nat) (h : j < N) (d : Bool) : (upTo N k).getD j d = Nat.blt j k := by
 unfold upTo;rw [Array.getD_eq_getD_getElem?, List.getElem?_toArray, List.getElem?_map, List.getElem?_range h]; rfl
theorem upTo_set (N k : Nat) (h : k < N) : (upTo N k).setIfInBounds k true = upTo N (k + 1) := by
 apply Array.ext_getElem?
 intro j;(have hs : (upTo N k).size = N := by simp [upTo]);rw [Array.getElem?_setIfInBounds, hs];unfold upTo;simp only [List.getElem?_toArray, List.getElem?_map]
 by_cases e : k = j
 ·subst e;rw [if_pos rfl, if_pos h, List.getElem?_range h];show some true = some (Nat.blt k (k + 1));rw [show Nat.blt k (k + 1) = true from Nat.ble_eq_true_of_le (Nat.le_refl _)]
 ·rw [if_neg e]
  by_cases hj : j < N
  ·rw [List.getElem?_range hj];show some (Nat.blt j k) = some (Nat.blt j (k + 1))
   have : Nat.blt j k = Nat.blt j (k + 1) := by
    cases h1 : Nat.blt j k with
    | true =>
      have := Nat.le_of_ble_eq_true h1;exact (Nat.ble_eq_true_of_le (by omega)).symm
    | false =>
      cases h2 : Nat.blt j (k + 1) with
      | false => rfl
      | true =>
        have a1 := Nat.le_of_ble_eq_true h2;have : Nat.ble (j + 1) k = true := Nat.ble_eq_true_of_le (by omega);exact absurd (this.symm.trans h1) (by decide)
   rw [this]
  ·rw [List.getElem?_eq_none (by simpa using hj)]; rfl
theorem filt1 (p : Nat → Bool) (i : Nat) (hp : p i = true) : ∀ N, i < N → (∀ j, j < N → p j = true → j = i) → (List.range N).filter p = [i]
 | 0, h, _ => absurd h (Nat.not_lt_zero _)
 | N + 1, h, hn => by
   rw [List.range_succ, List.filter_append]
   by_cases e : i = N
   ·subst e
    have h1 : (List.range i).filter p = [] := List.filter_eq_nil_iff.2 fun j hj hq => by
     have hj := List.mem_range.1 hj;have := hn j (by omega) hq;omega
    rw [h1, List.filter_cons_of_pos hp]; rfl
   ·have h1 := filt1 p i hp N (by omega) (fun j hj => hn j (by omega))
    have h2 : p N = false := by
     cases hq : p N with
     | false => rfl
     | true => exact absurd (hn N (by omega) hq).symm e
    rw [h1, List.filter_cons_of_neg (by rw [h2]; decide)]; rfl
theorem blt_iff {a b : Nat} : Nat.blt a b = true ↔ a < b := ⟨Nat.le_of_ble_eq_true, Nat.ble_eq_true_of_le⟩
theorem chainAt : ∀ (r : List Oper) (i : Nat) (fst : Bool), chainOk r i fst = true → ∀ j o, r[j]? = some o → (∀ e ∈ o.after.toList, e.on < i + j) ∧ (0 < j → ∃ e ∈ o.after.toList, Region.binds .any e = true ∧ e.on + 1 = i + j) ∧ (j = 0 → fst = false → ∃ e ∈ o.after.toList, Region.binds .any e = true ∧ e.on + 1 = i)
 | [], i, fst, h, j, o, hj => by simp at hj
 | x :: r, i, fst, h, 0, o, hj => by
   (have hj : x = o := by simpa using hj);subst hj;unfold chainOk at h;simp only [Bool.and_eq_true, List.all_eq_true] at h;refine ⟨fun e he => blt_iff.1 (h.1.1 e he), fun h0 => absurd h0 (Nat.lt_irrefl _), fun _ hf => ?_⟩;have h2 := h.1.2;rw [hf, Bool.false_or, List.any_eq_true] at h2;obtain ⟨e, he, hb⟩ := h2;simp only [Bool.and_eq_true] at hb;exact ⟨e, he, hb.1, Nat.eq_of_beq_eq_true hb.2⟩
 | x :: r, i, fst, h, j + 1, o, hj => by
   unfold chainOk at h;simp only [Bool.and_eq_true] at h;obtain ⟨h1, h2, h3⟩ := chainAt r (i + 1) false h.2 j o (by simpa using hj);refine ⟨fun e he => by have := h1 e he; omega, fun _ => ?_, fun h0 => absurd h0 (Nat.succ_ne_zero _)⟩
   cases j with
   | zero => obtain ⟨e, a, b, c⟩ := h3 rfl rfl; exact ⟨e, a, b, by omega⟩
   | succ j => obtain ⟨e, a, b, c⟩ := h2 (Nat.succ_pos _); exact ⟨e, a, b, by omega⟩
theorem chain_ready {opsL : List Oper} {k : Nat} {fst : Bool} (h : chainOk (opsL.drop k) k fst = true) (i : Nat) (hi : k ≤ i) (hN : i < opsL.length) : Region.ready .any opsL.toArray (upTo opsL.length i) = [i] := by
 unfold Region.ready;(have hs : opsL.toArray.size = opsL.length := by simp);rw [hs]
 have get : ∀ j, k ≤ j → ∀ o, opsL[j]? = some o → (∀ e ∈ o.after.toList, e.on < j) ∧ (k < j → ∃ e ∈ o.after.toList, Region.binds .any e = true ∧ e.on + 1 = j) := fun j hj o ho => by
  obtain ⟨a, b, _⟩ := chainAt _ k fst h (j - k) o (by rw [List.getElem?_drop, show k + (j - k) = j from by omega]; exact ho);rw [show k + (j - k) = j from by omega] at a b;exact ⟨a, fun h => b (by omega)⟩
 refine filt1 _ i ?_ opsL.length hN fun j hj hp => ?_
 ·obtain ⟨a, _⟩ := get i hi _ (List.getElem?_eq_getElem hN);rw [upTo_get _ _ _ hN, List.getElem?_toArray, List.getElem?_eq_getElem hN];simp only [Option.map_some, Option.getD_some, Bool.and_eq_true, Bool.not_eq_true', Array.all_eq_true_iff_forall_mem];refine ⟨?_, fun e he => ?_⟩
  ·cases hb : Nat.blt i i with
   | false => rfl
   | true => exact absurd (blt_iff.1 hb) (Nat.lt_irrefl _)
  ·have := a e (by simpa using he);rw [upTo_get _ _ _ (by omega), blt_iff.2 this, Bool.or_true]
 ·rw [upTo_get _ _ _ hj, List.getElem?_toArray, List.getElem?_eq_getElem hj] at hp;simp only [Option.map_some, Option.getD_some, Bool.and_eq_true, Bool.not_eq_true', Array.all_eq_true_iff_forall_mem] at hp;obtain ⟨h1, h2⟩ := hp
  have hij : i ≤ j := by
   rcases Nat.lt_or_ge j i with q | q
   ·rw [blt_iff.2 q] at h1; cases h1
   ·exact q
  rcases Nat.eq_or_lt_of_le hij with e | hlt
  ·exact e.symm
  ·exfalso
   obtain ⟨_, b⟩ := get j (by omega) _ (List.getElem?_eq_getElem hj);obtain ⟨e, he, hb, ho⟩ := b (by omega);have := h2 e (by simpa using he);rw [hb, upTo_get _ _ _ (by omega)] at this;(have hlt2 : Nat.blt e.on i = true := by simpa using this);have := blt_iff.1 hlt2;omega
theorem chain_done (opsL : List Oper) : Region.ready .any opsL.toArray (upTo opsL.length opsL.length) = [] := by
 unfold Region.ready;refine List.filter_eq_nil_iff.2 fun j hj => ?_;(have hj : j < opsL.length := by simpa using hj);rw [upTo_get _ _ _ hj, blt_iff.2 hj]; simp
theorem any_chainS {P : Program} {opsL : List Oper} {Q : Exit → Act → World → Prop} {S : World → Prop} {w : World} {a : Act} {fst : Bool} (k0 : Nat) (hc : chainOk (opsL.drop k0) k0 fst = true) (hS : S w) : ∀ (r : List Oper) (k : Nat) (acc acc' : List (Nat × Value)), k0 ≤ k → opsL.drop k = r →
 (∀ q ∈ acc, q.1 < a.tmps.size) → tailS a.tmps.size a.tmps.toList opsL r acc = some acc' → ((∀ q ∈ acc', q.1 < a.tmps.size) → Q .normal (actS a acc') w) → AnyS P opsL.toArray Q S r.length (upTo opsL.length k) (actS a acc) w
 | [], k, acc, acc', hk, hr, hacc, h, hq => by
   cases h;(have hl : opsL.length ≤ k := by have := congrArg List.length hr; simp at this; omega)
   have e : upTo opsL.length k = upTo opsL.length opsL.length := by
    unfold upTo
    congr 1
    refine List.map_congr_left fun j hj => ?_;have hj := List.mem_range.1 hj;rw [blt_iff.2 hj, blt_iff.2 (by omega : j < k)]
   rw [e];exact any_end (hq hacc) (chain_done opsL)
 | o :: r, k, acc, acc', hk, hr, hacc, h, hq => by
   have hkN : k < opsL.length := by
    rcases Nat.lt_or_ge k opsL.length with q | q
    ·exact q
    ·rw [List.drop_eq_nil_of_le q] at hr; cases hr
   rw [List.drop_eq_getElem_cons hkN] at hr;injection hr with ho hr;(have ho' : opsL.toArray[k]? = some o := by rw [List.getElem?_toArray, List.getElem?_eq_getElem hkN, ho]);have hl := actS_look a acc hacc;have hrd := chain_ready hc k hk hkN;have hst := upTo_set opsL.length k hkN;unfold tailS at h
   cases hd : o.dst with
   | none => simp only [hd] at h; cases h
   | some d =>
     simp only [hd] at h
     cases hb : Nat.blt d a.tmps.size with
     | false => simp only [hb, cond_false] at h; cases h
     | true =>
       have hdn : d < a.tmps.size := blt_iff.1 hb;simp only [hb, cond_true] at h
       have hacc' : ∀ v, ∀ q ∈ (d, v) :: acc, q.1 < a.tmps.size := fun v q hq => by
        rcases List.mem_cons.1 hq with e | e
        ·subst e; exact hdn
        ·exact hacc q e
       (have ep : ∀ v, actS a ((d, v) :: acc) = (actS a acc).put o.dst v := fun v => by rw [hd]; rfl);refine ⟨fun hQ => wpAnyH_all hrd (by simp) fun j hj => ?_⟩;rw [List.mem_singleton.1 hj];unfold wpOp;simp only [ho']
       cases hw : wantS opsL (lookS a.tmps.toList acc) o with
       | false =>
         simp only [hw] at h;rw [if_neg (by rw [(wantS_eq opsL _ _ hl o).trans hw]; decide)];have ih := any_chainS (P := P) k0 hc hS r (k + 1) _ acc' (by omega) hr (hacc' undef) h hq;rw [ep, ← hst] at ih;exact ⟨hS, ih.out hQ⟩
       | true =>
         simp only [hw] at h;rw [if_pos ((wantS_eq opsL _ _ hl o).trans hw)]
         cases hm : moveS (lookS a.tmps.toList acc) o.op with
         | none => simp only [hm] at h; cases h
         | some v =>
           simp only [hm] at h;have ih := any_chainS (P := P) k0 hc hS r (k + 1) _ acc' (by omega) hr (hacc' v) h hq;rw [ep, ← hst] at ih;refine Or.inl ?_;unfold Oper.wp;rw [run_moveS _ hl hm, Oper.upon_value];exact ⟨hS, ih.out hQ⟩
def finA (opsL : List Oper) (k : Nat) (a : Act) : Act := finL opsL (opsL.drop k) a
def okA (opsL : List Oper) (n k : Nat) (l : Array Bool) (a : Act) : Bool := okL opsL (opsL.drop k) a && chainOk (opsL.drop k) k true && Nat.beq (opsL.drop k).length n
theorem any_auto {P : Program} {opsL : List Oper} {Q : Exit → Act → World → Prop} {S : World → Prop} {n : Nat} {l : Array Bool} {a : Act} {w : World} (k : Nat) (hS : S w) (hq : Q .normal (finA opsL k a) w) (h : okA opsL n k l a = true := by kernel_rfl) (hl : upTo opsL.length k = l := by kernel_rfl) : AnyS P opsL.toArray Q S n l a w := by
 unfold okA okL at h;simp only [Bool.and_eq_true] at h;obtain ⟨⟨h1, h2⟩, h3⟩ := h;unfold finA finL at hq
 cases ht : tailS a.tmps.size a.tmps.toList opsL (opsL.drop k) [] with
 | none => rw [ht] at h1; cases h1
 | some acc =>
   rw [ht] at hq;have := any_chainS (P := P) (a := a) k h2 hS (opsL.drop k) k [] acc (Nat.le_refl _) rfl (fun q hq => by cases hq) ht (fun hb => by rw [actS_out a acc hb]; exact hq);rw [hl, Nat.eq_of_beq_eq_true h3] at this;exact this
end
section
open Go.RowKit
namespace B
def formed (n : Int) : Bool := decide (0 ≤ n) && decide (n < 5)
end B
abbrev bal (r : Nat) (n : Int) : Value := .agg #[.int .u32 (r : Int), .int .i64 n]
theorem bformed_any (r : Nat) (n : Int) (w : World) :
 Calls Tryz.prog 47 #[bal r n] w fun e w' => e = .returned (.bool (B.formed n)) ∧ Below w.heap.size w w' := by
 go_enter Tryz.func47, Tryz.ntmps47
 go_wp2
 all_goals
  go_ret
  exact ⟨ret_bool (by unfold B.formed; first | rfl | (simp; omega) | (rw [Bool.eq_iff_iff]; simp)), (Below.refl _ _).alloc (Nat.le_refl _) _⟩
theorem rbformed_any (r : Nat) (n : Int) (w : World) :
 Calls Tryz.prog 50 #[bal r n] w fun e w' => e = .returned (.bool (B.formed n)) ∧ Below w.heap.size w w' := by
 go_enter Tryz.func50, Tryz.ntmps50
 go_wp2
 all_goals
  go_ret
  exact ⟨ret_bool (by unfold B.formed; first | rfl | (simp; omega) | (rw [Bool.eq_iff_iff]; simp; omega)), (Below.refl _ _).alloc (Nat.le_refl _) _⟩
theorem cellsBal : Tryz.prog.cellsOf 24 = 2 := by kernel_rfl
theorem cellsU32 : Tryz.prog.cellsOf 22 = 1 := by kernel_rfl
theorem cellsInt6 : Tryz.prog.cellsOf 3 = 1 := by kernel_rfl
theorem Cel.bal {W : World} {cs : List Value} (h : Cel W 24 cs) : ∃ (r : Nat) (n : Int), cs = [.int .u32 (r : Int), .int .i64 n] ∧ r < 4294967296 ∧ -9223372036854775808 ≤ n ∧ n ≤ 9223372036854775807 := by
 have hl := h.len Tryz.underlying24;rw [cellsBal] at hl
 match cs, hl with
 | [a, b], _ =>
   obtain ⟨x0, e0, hx⟩ := (h.field1 Tryz.underlying24 0 0 22 _ rfl rfl rfl cellsU32 a rfl).u32 Tryz.underlying22;obtain ⟨x1, e1, hy⟩ := (h.field1 Tryz.underlying24 1 1 3 _ rfl rfl rfl cellsInt6 b rfl).i64 Tryz.underlying3;simp at e0 e1;subst e0; subst e1;exact ⟨x0, x1, rfl, hx, hy⟩
theorem Arg.bal {W : World} {v : Value} (h : Arg W 24 v) : ∃ (r : Nat) (n : Int), v = bal r n ∧ r < 4294967296 ∧ -9223372036854775808 ≤ n ∧ n ≤ 9223372036854775807 := by
 obtain ⟨⟨cs⟩, rfl, hc⟩ := h.struct Tryz.underlying24;obtain ⟨r, n, rfl, hb⟩ := hc.bal;exact ⟨r, n, rfl, hb⟩
namespace B
theorem fBal : (Tryz.prog.fieldsOf 24).toList = [{ name := "Round", type := 22, offset := 0, embedded := false, tag := "", pkgPath := "", byteOffset := 0 },
 { name := "Node", type := 3, offset := 1, embedded := false, tag := "", pkgPath := "", byteOffset := 8 }] := by kernel_rfl
theorem eqBal (d : Nat) (r : Nat) (n : Int) (r' : Nat) (n' : Int) (w : World) :
 (Op.equalIn (d + 2) 24 (.agg #[.int .u32 r, .int .i64 n]) (.agg #[.int .u32 r', .int .i64 n'])).run Tryz.prog w = .ok (decide (r = r' ∧ n = n')) w := by
 (have hu : Tryz.prog.underlying 24 = some (.struct (Tryz.prog.fieldsOf 24)) := by kernel_rfl);rw [run_equalIn_struct (P := Tryz.prog) w (d + 1) 24 _ _ hu (by kernel_rfl), fBal];have e0 : ∀ w, (Op.equalIn (d + 1) 22 (.int .u32 r) (.int .u32 r')).run Tryz.prog w = .ok ((r : Int) == (r' : Int)) w := fun w => run_equalIn_int w d 22 .u32 .u32 _ _ Tryz.underlying22;have e1 : ∀ w, (Op.equalIn (d + 1) 3 (.int .i64 n) (.int .i64 n')).run Tryz.prog w = .ok (n == n') w := fun w => run_equalIn_int w d 3 .i64 .i64 n n' Tryz.underlying3;(have p0 : ∀ (x y : Value) w, (part 22 #[x, y] 0).run Tryz.prog w = .ok x w := fun x y w => by rfl);(have p1 : ∀ (x y : Value) w, (part 3 #[x, y] 1).run Tryz.prog w = .ok y w := fun x y w => by rfl);generalize hd : d + 1 = d1 at *;clear hd
 by_cases hs : r = r'
 ·subst hs
  by_cases hq : n = n'
  ·subst hq; simp [Op.eqFields, e0, e1, p0, p1]
  ·simp [Op.eqFields, e0, e1, p0, p1, hq]
 ·(have : ¬ (r : Int) = (r' : Int) := by omega);simp [Op.eqFields, e0, e1, p0, p1, hs, this]
theorem run_eqBal (r : Nat) (n : Int) (r' : Nat) (n' : Int) (w : World) :
 (binOp .eql 24 (.agg #[.int .u32 r, .int .i64 n]) (.agg #[.int .u32 r', .int .i64 n'])).run Tryz.prog w = .ok (.bool (decide (r = r' ∧ n = n'))) w := by
 rw [run_eql_struct, show (10000 : Nat) = 9998 + 2 from rfl, eqBal]; rfl
end B
namespace B
theorem fRBal : (Tryz.prog.fieldsOf 44).toList = [{ name := "Round", type := 22, offset := 0, embedded := false, tag := "", pkgPath := "", byteOffset := 0 },
 { name := "Node", type := 3, offset := 1, embedded := false, tag := "", pkgPath := "", byteOffset := 8 }] := by kernel_rfl
theorem eqRBal (d : Nat) (r : Nat) (n : Int) (r' : Nat) (n' : Int) (w : World) :
 (Op.equalIn (d + 2) 44 (.agg #[.int .u32 r, .int .i64 n]) (.agg #[.int .u32 r', .int .i64 n'])).run Tryz.prog w = .ok (decide (r = r' ∧ n = n')) w := by
 (have hu : Tryz.prog.underlying 44 = some (.struct (Tryz.prog.fieldsOf 44)) := by kernel_rfl);rw [run_equalIn_struct (P := Tryz.prog) w (d + 1) 44 _ _ hu (by kernel_rfl), fRBal];have e0 : ∀ w, (Op.equalIn (d + 1) 22 (.int .u32 r) (.int .u32 r')).run Tryz.prog w = .ok ((r : Int) == (r' : Int)) w := fun w => run_equalIn_int w d 22 .u32 .u32 _ _ Tryz.underlying22;have e1 : ∀ w, (Op.equalIn (d + 1) 3 (.int .i64 n) (.int .i64 n')).run Tryz.prog w = .ok (n == n') w := fun w => run_equalIn_int w d 3 .i64 .i64 n n' Tryz.underlying3;(have p0 : ∀ (x y : Value) w, (part 22 #[x, y] 0).run Tryz.prog w = .ok x w := fun x y w => by rfl);(have p1 : ∀ (x y : Value) w, (part 3 #[x, y] 1).run Tryz.prog w = .ok y w := fun x y w => by rfl);generalize hd : d + 1 = d1 at *;clear hd
 by_cases hs : r = r'
 ·subst hs
  by_cases hq : n = n'
  ·subst hq; simp [Op.eqFields, e0, e1, p0, p1]
  ·simp [Op.eqFields, e0, e1, p0, p1, hq]
 ·(have : ¬ (r : Int) = (r' : Int) := by omega);simp [Op.eqFields, e0, e1, p0, p1, hs, this]
theorem run_eqRBal (r : Nat) (n : Int) (r' : Nat) (n' : Int) (w : World) :
 (binOp .eql 44 (.agg #[.int .u32 r, .int .i64 n]) (.agg #[.int .u32 r', .int .i64 n'])).run Tryz.prog w = .ok (.bool (decide (r = r' ∧ n = n'))) w := by
 rw [run_eql_struct, show (10000 : Nat) = 9998 + 2 from rfl, eqRBal]; rfl
end B
end
section
open Go.RowKit
abbrev Bl2 := Nat × Nat
def B.take (s : C.St) : Bl2 × C.St :=
 if (C.take 1 (C.take 4 s).2).2.2 = true ∨ B.formed ((C.take 1 (C.take 4 s).2).1 : Int) = false then ((0, 0), ((C.take 1 (C.take 4 s).2).2.1, true)) else (((C.take 4 s).1, (C.take 1 (C.take 4 s).2).1), (C.take 1 (C.take 4 s).2).2)
theorem btake_any (B0 g : Nat) (s : C.St) (w : World) (h : RdrAt w B0 g s) :
 Calls Tryz.prog 40 #[.pointer (some ⟨g, 0, none⟩)] w fun e w' => e = .returned (bal (B.take s).1.1 (B.take s).1.2) ∧ RdrAt w' B0 g (B.take s).2 ∧ w.grownBy w' (some g) := by
 have l1 := take_lt 4 s (by omega);have l2 := take_lt 1 (C.take 4 s).2 (by omega);have HT : Hid (B.take s = if (C.take 1 (C.take 4 s).2).2.2 = true ∨ B.formed ((C.take 1 (C.take 4 s).2).1 : Int) = false then ((0, 0), ((C.take 1 (C.take 4 s).2).2.1, true)) else (((C.take 4 s).1, (C.take 1 (C.take 4 s).2).1), (C.take 1 (C.take 4 s).2).2)) := rfl;have T4 := take_any B0 g 4 s _ (h.alloc (.cells #[.int .u32 0, .int .i64 0] 24));(have hlt : g < w.heap.size := by obtain ⟨_, _, hb, _⟩ := h; exact ltAt hb);have T1 := fun w1 => take_any B0 g 1 (C.take 4 s).2 w1;generalize C.take 4 s = t1 at *;obtain ⟨x1, s1⟩ := t1;simp only at *;generalize C.take 1 s1 = t2 at *;obtain ⟨x2, l2', f2⟩ := t2;simp only at *;have l1 : x1 < 4294967296 := l1;have l2 : x2 < 256 := l2
 have HW1 : Hid (IntKind.u32.wrap (x1 : Int) = (x1 : Int)) := by
  show _ = _;have e : IntKind.u32.wrap (x1 : Int) = (x1 : Int) % 4294967296 := rfl;rw [e]; omega
 have HW2 : Hid (IntKind.i64.wrap (x2 : Int) = (x2 : Int)) := by show _ = _; rw [IntKind.wrap_i64]; omega
 go_enter Tryz.func40, Tryz.ntmps40
 go_wp2_with fail
 refine T4.mono ?_;rintro e w1 ⟨rfl, h1, g1⟩
 go_wp2_with fail
 refine (T1 _ h1).mono ?_;rintro e w2 ⟨rfl, h2, g2⟩;(have hB : B0 ≤ w.heap.size := by obtain ⟨_, _, _, _, _, _, _, hB⟩ := h; omega);(have hne : w.heap.size ≠ g := by omega);have Z1 := heapG (heap_alloc_new w _) g1 hne;have Z2 := heapG Z1 g2 hne;have G2 := grownTrans (grownTrans (World.grownBy_alloc w _ (some g)) g1) g2;(have hs2 : w.heap.size + 1 ≤ w2.heap.size := by have a := g1.size; have b := g2.size; simp at a; omega);clear g1 g2 T1 T4 Z1 h1
 go_wp2_with fail
 have h3 := h2.alloc (.cells #[.int .u32 (IntKind.u32.wrap (x1 : Int)), .int .i64 (IntKind.i64.wrap (x2 : Int))] 24);have Z3 := heapA Z2 (.cells #[.int .u32 (IntKind.u32.wrap (x1 : Int)), .int .i64 (IntKind.i64.wrap (x2 : Int))] 24);have G3 := grownAllocR G2 (.cells #[.int .u32 (IntKind.u32.wrap (x1 : Int)), .int .i64 (IntKind.i64.wrap (x2 : Int))] 24);rw [HW1.out, HW2.out] at h3 Z3 G3;clear Z2 G2 h2;have z0 := cellAt Z3 0;have z1 := cellAt Z3 1;have y0 := freeAt Z3 0;have y1 := freeAt Z3 1;refine (ok_any B0 g _ _ h3).mono ?_;rintro e w3 ⟨rfl, hw3⟩;rw [← hw3];(have hzne : w.heap.size < w2.heap.size := by omega)
 cases f2 with
 | true =>
   (have HT2 : Hid (B.take s = ((0, 0), (l2', true))) := by have := HT.out; rw [if_pos (Or.inl rfl)] at this; exact this);clear HT hw3
   go_wp2_with fail
   refine (take_any B0 g 9 _ _ h3).mono ?_;rw [take9];rintro e w4 ⟨rfl, h4, g4⟩;have Z4 := heapG Z3 g4 hne;have G4 := grownTrans G3 g4;have a0 := cellAt Z4 0;have a1 := cellAt Z4 1;have c0 := freeAt Z4 0;have c1 := freeAt Z4 1;have Z5 := setAt (setAt Z4 0 (.int .u32 0)) 1 (.int .i64 0);have r0 := cellAt Z5 0;have r1 := cellAt Z5 1;simp only [zQ] at a0 a1;simp at r0 r1
   go_wp2_with fail
   refine bodyPost_ret (v := bal 0 (0 : Nat)) (by simp [results, Tryz.results40, go_sem, r0, r1]) rfl ⟨by rw [HT2.out], by rw [HT2.out]; exact (h4.setNew hne hB _ _).setNew hne hB _ _, grownSetNew (grownSetNew G4 (Nat.le_refl _) _ _) (Nat.le_refl _) _ _⟩
 | false =>
   cases hf : B.formed (x2 : Int) with
   | false =>
     (have HT2 : Hid (B.take s = ((0, 0), (l2', true))) := by have := HT.out; rw [if_pos (Or.inr hf)] at this; exact this);have HF := Lib.hid hf;clear HT hw3 hf;(have q0 : (w2.alloc (.cells #[.int .u32 (x1 : Int), .int .i64 (x2 : Int)] 24)).cell? ⟨w2.heap.size, 0, none⟩ = some (.int .u32 (x1 : Int)) := by simp);(have q1 : (w2.alloc (.cells #[.int .u32 (x1 : Int), .int .i64 (x2 : Int)] 24)).cell? ⟨w2.heap.size, 1, none⟩ = some (.int .i64 (x2 : Int)) := by simp)
     go_wp2_with fail
     refine (bformed_any x1 x2 _).mono ?_;rw [HF.out];rintro e w5 ⟨rfl, b5⟩;have h5 := h3.below b5;have Z5 := heapB Z3 b5;have G5 := grownBelow G3 b5
     go_wp2_with fail
     refine (take_any B0 g 9 _ _ h5).mono ?_;rw [take9];rintro e w4 ⟨rfl, h4, g4⟩;have Z4 := heapG Z5 g4 hne;have G4 := grownTrans G5 g4;have a0 := cellAt Z4 0;have a1 := cellAt Z4 1;have c0 := freeAt Z4 0;have c1 := freeAt Z4 1;have Z6 := setAt (setAt Z4 0 (.int .u32 0)) 1 (.int .i64 0);have r0 := cellAt Z6 0;have r1 := cellAt Z6 1;simp only [zQ] at a0 a1;simp at r0 r1
     go_wp2_with fail
     refine bodyPost_ret (v := bal 0 (0 : Nat)) (by simp [results, Tryz.results40, go_sem, r0, r1]) rfl ⟨by rw [HT2.out], by rw [HT2.out]; exact (h4.setNew hne hB _ _).setNew hne hB _ _, grownSetNew (grownSetNew G4 (Nat.le_refl _) _ _) (Nat.le_refl _) _ _⟩
   | true =>
     (have HT2 : Hid (B.take s = ((x1, x2), (l2', false))) := by have := HT.out; rw [if_neg (by simp [hf])] at this; exact this);have HF := Lib.hid hf;clear HT hw3 hf;(have q0 : (w2.alloc (.cells #[.int .u32 (x1 : Int), .int .i64 (x2 : Int)] 24)).cell? ⟨w2.heap.size, 0, none⟩ = some (.int .u32 (x1 : Int)) := by simp);(have q1 : (w2.alloc (.cells #[.int .u32 (x1 : Int), .int .i64 (x2 : Int)] 24)).cell? ⟨w2.heap.size, 1, none⟩ = some (.int .i64 (x2 : Int)) := by simp)
     go_wp2_with fail
     refine (bformed_any x1 x2 _).mono ?_;rw [HF.out];rintro e w5 ⟨rfl, b5⟩;have h5 := h3.below b5;have Z5 := heapB Z3 b5;have G5 := grownBelow G3 b5;have q0 := cellB b5 q0;have q1 := cellB b5 q1;have a0 := cellAt Z5 0;have a1 := cellAt Z5 1;have c0 := freeAt Z5 0;have c1 := freeAt Z5 1;have Z6 := setAt (setAt Z5 0 (.int .u32 (x1 : Int))) 1 (.int .i64 (x2 : Int));have r0 := cellAt Z6 0;have r1 := cellAt Z6 1;simp only [zQ] at a0 a1;simp at r0 r1
     go_wp2_with fail
     refine bodyPost_ret (v := bal x1 x2) (by simp [results, Tryz.results40, go_sem, r0, r1]) rfl ⟨by rw [HT2.out], by rw [HT2.out]; exact (h5.setNew hne hB _ _).setNew hne hB _ _, grownSetNew (grownSetNew G5 (Nat.le_refl _) _ _) (Nat.le_refl _) _ _⟩
theorem btake_lt (s : C.St) : (B.take s).1.1 < 4294967296 ∧ (B.take s).1.2 < 256 := by
 have l1 := take_lt 4 s (by omega);have l2 := take_lt 1 (C.take 4 s).2 (by omega);unfold B.take
 split
 ·exact ⟨(by show 0 < 4294967296; decide), (by show 0 < 256; decide)⟩
 ·exact ⟨l1, l2⟩
theorem btake_w (B0 g : Nat) (s : C.St) (w : World) (h : RdrAt w B0 g s) :
 Calls Tryz.prog 40 #[.pointer (some ⟨g, 0, none⟩)] w fun e w' => e = .returned (.agg [.int .u32 ((B.take s).1.1 : Int), .int .i64 ((B.take s).1.2 : Int)].toArray) ∧ RdrAt w' B0 g (B.take s).2 ∧ w.grownBy w' (some g) := btake_any B0 g s w h
end
section
open Go
variable {P : Program} {ops : Array Oper} {Q : Exit → Act → World → Prop} {S : World → Prop} {k : Nat}
def wpAnyL (P : Program) (ops : Array Oper) (Q : Exit → Act → World → Prop) (S : World → Prop) (k : Nat) : Nat → Array Bool → Act → World → Prop
 | 0, l, a, w => Region.ready .any ops l = [] ∧ Q .normal a w
 | n + 1, l, a, w => (Region.ready .any ops l = [] → Q .normal a w) ∧ ∀ i ∈ Region.ready .any ops l, wpOp P ops Q i (fun a' w' => ((l.setIfInBounds i true).getD k false = false → S w') ∧ wpAnyL P ops Q S k n (l.setIfInBounds i true) a' w') a w
theorem wpAny_of_L : ∀ (n : Nat) (l : Array Bool) (a : Act) (w : World), wpAnyL P ops Q S k n l a w → wpAny P .any ops Q n l a w
 | 0, _, _, _, h => h
 | n + 1, _, _, _, h => ⟨h.1, fun i hi => wpOp_mono (fun a' w' h' => wpAny_of_L n _ a' w' h'.2) (h.2 i hi)⟩
theorem getD_set_far {l : Array Bool} {i k : Nat} (h : i ≠ k) : (l.setIfInBounds i true).getD k false = l.getD k false := by
 simp [Array.getD_eq_getD_getElem?, Array.getElem?_setIfInBounds, h]
theorem wpAnyL_first {i : Nat} {oi : Oper} {v : Value} (hi : ops[i]? = some oi) (hsel : ∀ (j : Nat) (o : Oper) cs b, ops[j]? = some o → o.op ≠ .select cs b)
 (hQ : ∀ c a w, Q (.panic c) (a.put oi.dst v) w → Q (.panic c) a w) (hik : i ≠ k) (hk : ∀ ok, ops[k]? = some ok → ∃ e ∈ ok.after, Region.binds .any e = true ∧ e.on = i) :
 ∀ (n : Nat) (l : Array Bool) (a : Act) (w : World),
  (∀ j oj, ops[j]? = some oj → j ≠ i → l.getD j true = false → (∀ e ∈ oj.after, Region.binds .any e = true → e.on ≠ i) → oi.apart ops oj = true) →
  i ∈ Region.ready .any ops l → YieldsIf P ops S oi v a → S w → l.getD k false = false →
  wpAnyL P ops Q S k n (l.setIfInBounds i true) (a.put oi.dst v) w → wpAnyL P ops Q S k (n + 1) l a w := by
 intro n
 induction n with
 | zero =>
   intro l a w _ hr hy hS hlk H;refine ⟨fun h => (by rw [h] at hr; cases hr), fun j hj => ?_⟩
   by_cases hji : j = i
   ·subst hji; exact hy.wpOp hi hS ⟨fun _ => hS, H⟩
   ·have := ready_mono hj hji;rw [H.1] at this;cases this
 | succ n ih =>
   intro l a w hfree hr hy hS hlk H;refine ⟨fun h => (by rw [h] at hr; cases hr), fun j hj => ?_⟩
   by_cases hji : j = i
   ·subst hji; exact hy.wpOp hi hS ⟨fun _ => hS, H⟩
   ·have h1 := H.2 j (ready_mono hj hji);obtain ⟨hjun, oj, hoj, hall⟩ := mem_ready.1 hj
    have hnot : ∀ e ∈ oj.after, Region.binds .any e = true → e.on ≠ i := fun e he hb heq => by
     have h1 := hall e he hb;have h0 := (mem_ready.1 hr).1;rw [heq] at h1;rcases Nat.lt_or_ge i l.size with h' | h'
     ·simp [h'] at h0 h1; rw [h0] at h1; cases h1
     ·simp [Array.getElem?_eq_none h'] at h1
    have hjk : j ≠ k := by
     rintro rfl;obtain ⟨e, he, hb, hei⟩ := hk oj hoj;exact hnot e he hb hei
    (have hlj : (l.setIfInBounds j true).getD k false = false := by rw [getD_set_far hjk]; exact hlk);have h2 := wpOp_putIf hoj (hfree j oj hoj hji hjun hnot) (fun cs b => hsel i oi cs b hi) (fun cs b => hsel j oj cs b hoj) hQ hy h1
    have hfree' : ∀ m om, ops[m]? = some om → m ≠ i → (l.setIfInBounds j true).getD m true = false →
     (∀ e ∈ om.after, Region.binds .any e = true → e.on ≠ i) → oi.apart ops om = true := fun m om hm hmi hun hno => by
     refine hfree m om hm hmi ?_ hno
     by_cases hjm : j = m
     ·subst hjm; exact hjun
     ·rw [getD_set_ne true hjm] at hun; exact hun
    have hq : ∀ w', (((l.setIfInBounds i true).setIfInBounds j true).getD k false = false → S w') → S w' := fun w' h => h (by rw [getD_set_far hjk, getD_set_far hik]; exact hlk);refine wpOp_mono (fun a' w' h3 => ⟨fun _ => hq w' h3.2.1, ih (l.setIfInBounds j true) a' w' hfree' (ready_mono hr (Ne.symm hji)) h3.1 (hq w' h3.2.1) hlj ?_⟩) h2;rw [Array.setIfInBounds_comm _ _ hji];exact h3.2.2
theorem wpAnyL_done {l : Array Bool} {a : Act} {w : World} (hr : Region.ready .any ops l = []) (h : Q .normal a w) : ∀ n, wpAnyL P ops Q S k n l a w
 | 0 => ⟨hr, h⟩
 | _ + 1 => ⟨fun _ => h, by rw [hr]; simp⟩
theorem wpAnyL_all {rs : List Nat} {n : Nat} {l : Array Bool} {a : Act} {w : World} (hr : Region.ready .any ops l = rs) (hne : rs ≠ [])
 (h : ∀ i ∈ rs, wpOp P ops Q i (fun a' w' => ((l.setIfInBounds i true).getD k false = false → S w') ∧ wpAnyL P ops Q S k n (l.setIfInBounds i true) a' w') a w) : wpAnyL P ops Q S k (n + 1) l a w :=
 ⟨fun h0 => absurd (hr ▸ h0) hne, hr ▸ h⟩
def waits (ops : Array Oper) (k i : Nat) : Bool := match ops[k]? with
 | some o => o.after.any fun e => Region.binds .any e && e.on == i
 | none => true
def freeL (k : Nat) (ops : Array Oper) (l : Array Bool) (i : Nat) : Bool := freeAt' ops l i && (!(i == k) && (!(l.getD k false) && waits ops k i))
theorem wpAnyL_take {i : Nat} {oi : Oper} {v : Value} {n : Nat} {l : Array Bool} {a : Act} {w : World} (hi : ops[i]? = some oi) (hf : freeL k ops l i = true)
 (hQ : ∀ c a w, Q (.panic c) (a.put oi.dst v) w → Q (.panic c) a w) (hy : YieldsIf P ops S oi v a) (hS : S w)
 (h : wpAnyL P ops Q S k n (l.setIfInBounds i true) (a.put oi.dst v) w) : wpAnyL P ops Q S k (n + 1) l a w := by
 unfold freeL freeAt' at hf;simp only [Bool.and_eq_true, Bool.not_eq_true', beq_eq_false_iff_ne, ne_eq] at hf;obtain ⟨⟨⟨h1, h2⟩, h3⟩, h4, h5, h6⟩ := hf;refine wpAnyL_first hi (Region.noSelect_spec h1) hQ h4 (fun ok hok => ?_) n l a w (Region.free_spec hi h2) (by simpa using h3) hy hS h5 h;unfold waits at h6; rw [hok] at h6;obtain ⟨x, hx, hy'⟩ := Array.any_eq_true.1 h6;rw [Bool.and_eq_true, beq_iff_eq] at hy';exact ⟨_, Array.getElem_mem hx, hy'.1, hy'.2⟩
theorem wp_region_L {id : Nat} {a : Act} {w : World} (hm : P.follows .mixedOrders = true) (h : wpAnyL P ops Q S k ops.size (Array.replicate ops.size false) a w.drew) : (Code.region id ops true).wp P Q a w :=
 wp_region_any hm (wpAny_of_L _ _ _ _ h)
end
end Go.Proofs.YthclniimhpmeoaaGreatDoor
