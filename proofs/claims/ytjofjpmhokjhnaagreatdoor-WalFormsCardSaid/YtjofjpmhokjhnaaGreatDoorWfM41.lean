import Derived.Test.YtjofjpmhokjhnaaGreatDoorWfM6
import Derived.Test.YtjofjpmhokjhnaaGreatDoorWfM24
import Derived.Great.BuildSlice
import Derived.Test.YtjofjpmhokjhnaaGreatDoorWfM13
import Derived.Test.YtjofjpmhokjhnaaGreatDoorWfM4
set_option linter.unusedSimpArgs false
set_option linter.unusedVariables false
namespace Go.Proofs.YtjofjpmhokjhnaaGreatDoor
set_option maxRecDepth 20000
open Go.RowKit
def OgF (w w' : World) (P : Nat → Prop) : Prop := Below 0 w w' ∧ ∀ i, i < w.heap.size → ¬ P i → w'.heap[i]? = w.heap[i]?
section
variable {w z c z' : World} {h k : Nat} {old cs : Array Value} {t : TypeId} {P : Nat → Prop} {base e sz n : Nat} {v : Value} {xs : List Value} {B : Nat}
theorem OgF.refl (w : World) (P : Nat → Prop) : OgF w w P := ⟨Below.refl 0 w, fun _ _ _ => rfl⟩
theorem OgF.size (p : OgF w z P) : w.heap.size ≤ z.heap.size := p.1.size
theorem ogBelow (p : OgF w z P) (q : Below z.heap.size z c) : OgF w c P := ⟨p.1.trans (q.mono (Nat.zero_le _)), fun i hi hn => (q.block i (Nat.lt_of_lt_of_le hi p.1.size)).trans (p.2 i hi hn)⟩
theorem ogAlloc (p : OgF w z P) (o : Obj) : OgF w (z.alloc o) P := ogBelow p ((Below.refl _ _).alloc (Nat.le_refl _) o)
theorem ogRow (hk : P k ∨ w.heap.size ≤ k) (hz : z.heap[k]? = some (.cells old t (0, 0))) (p : OgF w z P) : OgF w (z.setRow k cs) P :=
 ⟨belowSet p.1 hz (Nat.zero_le _), fun i hi hn => (setRow_other z k i cs (fun e => by
  rcases hk with hk | hk
  ·exact hn (by rw [e]; exact hk)
  ·omega)).trans (p.2 i hi hn)⟩
theorem ogOwnE (p : OgF w z P) (hg : z.grownBy z' v.ownBlock) (hP : ∀ i, v.ownBlock = some i → P i ∨ w.heap.size ≤ i) : OgF w z' P :=
 ⟨p.1.grown hg (Nat.zero_le _) (fun _ _ => Nat.zero_le _), fun i hi hn => (hg.block i (Nat.lt_of_lt_of_le hi p.1.size) (fun e => by
  rcases hP i e.symm with h | h
  ·exact hn h
  ·omega)).trans (p.2 i hi hn)⟩
theorem OgF.heap {o : Obj} (q : OgF w z P) (p : w.heap[k]? = some o) (hn : ¬ P k) : z.heap[k]? = some o := (q.2 k (Array.getElem?_eq_some_iff.1 p).1 hn).trans p
theorem OgF.own (q : OgF w z P) (p : w.ownsRow base e sz v n xs) (hn : ∀ i, v.ownBlock = some i → ¬ P i) : z.ownsRow base e sz v n xs := by
 rcases p.2 with h0 | ⟨g, cap, cur, hv, hb', hg, rest⟩
 ·exact ⟨p.1, Or.inl h0⟩
 ·exact ⟨p.1, Or.inr ⟨g, cap, cur, hv, hb', q.heap hg (hn g (by rw [hv]; rfl)), rest⟩⟩
theorem ownPtr {A : Option Addr} {m cc : Nat} (h : w.ownsRow base e sz (.slice A m cc) n xs) (hn : n ≠ 0) : ∃ g, A = some ⟨g, 0, none⟩ ∧ base ≤ g ∧ g < w.heap.size ∧ m = n := by
 rcases h.2 with ⟨_, h0⟩ | ⟨g, cap, cur, hv, hb, hg, _⟩
 ·exact absurd h0 hn
 ·injection hv with h1 h2 h3
  exact ⟨g, h1, hb, (Array.getElem?_eq_some_iff.1 hg).1, h2⟩
end
end Go.Proofs.YtjofjpmhokjhnaaGreatDoor
namespace Go.Proofs.YtjofjpmhokjhnaaGreatDoor
set_option maxRecDepth 20001
open Go.RowKit
section
variable {P : Program} (w : World)
theorem append_whereS (base : Nat) (t ty e : TypeId) (i : TypeInfo) (z : Value) (size bytes : Nat) (ht : P.underlying t = some (.slice e)) (hi : P.info? e = some i) (hz : i.zero = some z)
 (hsize : i.size = size) (hby : i.bytes = bytes) (hzs : z.cells.size = size) (hsz : 0 < size)
 (v : Value) (n : Nat) (xs : List Value) (hown : w.ownsRow base e size v n xs)
 (a : Addr) (m c : Nat) (news : List Value) (hl : news.length = m * size) (hnews : ∀ j u, news[j]? = some u → w.cell? (a.add j) = some u) (h1 : ∀ u ∈ news, u.oneCell' = true)
 (h63 : n + m ≤ maxLen) (hbytes : (n + m) * bytes ≤ 140737488355328)
 (v' : Value) (w' : World) (hrun : (Builtin.append_ #[t, t] ty #[v, .slice (some a) m c]).run P w = .ok v' w') : v'.ownBlock = none ∨ v'.ownBlock = v.ownBlock ∨ v'.ownBlock = some w.heap.size := by
 subst hby
 subst hsize
 have hsmall : n + m ≤ 9223372036854775807 := by simp only [maxLen] at h63; omega
 rcases hown.2 with ⟨rfl, rfl⟩ | ⟨g, cap, cur, rfl, hbg, hg, hnc, hcm, hcs, htake⟩
 ·by_cases hm : m = 0
  ·subst hm
   have hr : (Builtin.append_ #[t, t] ty #[.slice none 0 0, .slice (some a) 0 c]).run P w = .ok (.slice none 0 0) w := by
    simp [Builtin.append_, run_underlying ht, sizeOf, typeInfo, hi, Builtin.lenOf, Builtin.firstCells, loadCells, loadCellsFrom]
   rw [hr] at hrun
   injection hrun with h1 h2
   subst h1
   exact .inl rfl
  ·have hr := run_append_nil (P := P) w t ty e i z ht hi hz a m c news hl hnews (by omega) (by omega) (by have hb := hbytes; simp only [Nat.zero_add] at hb; omega)
   rw [hr] at hrun
   injection hrun with h1 h2
   subst h1
   exact .inr (.inr rfl)
 ·by_cases hroom : n + m ≤ cap
  ·have hfit : n * i.size + news.length ≤ cur.size := by rw [hl, hcs, ← Nat.add_mul]; exact Nat.mul_le_mul_right _ hroom
   have hr := run_append_room (P := P) w t ty e i ht hi g n cap cur hg a m c news hl hnews h1 hroom hfit
   rw [hr] at hrun
   injection hrun with h1 h2
   subst h1
   exact .inr (.inl rfl)
  ·have holds : ∀ j u, xs[j]? = some u → w.cell? ((⟨g, 0, none⟩ : Addr).add j) = some u := hown.cells (g := g) rfl
   have hr := run_append_grow (P := P) w t ty e i z ht hi hz ⟨g, 0, none⟩ n cap xs hown.1 holds a m c news hl hnews (by omega) (by omega) (growslice_fits (by omega) hbytes)
   rw [hr] at hrun
   injection hrun with h1 h2
   subst h1
   exact .inr (.inr rfl)
end
end Go.Proofs.YtjofjpmhokjhnaaGreatDoor
namespace Go.Proofs.YtjofjpmhokjhnaaGreatDoor
set_option maxRecDepth 20001
open Go.RowKit T
abbrev OwnR (w : World) (base : Nat) (v : Value) (xs : List Rc) : Prop := w.ownsRow base 36 15 v xs.length (flat Rc.cells xs)
theorem rcLen : ∀ a : Rc, a.cells.length = 15 := fun _ => rfl
theorem info_rc : (Tryz.prog.info? 36).map (fun i => (i.zero, i.size, i.bytes)) = some (some (.agg Rc.zero.cells.toArray), 15, 168) := by kernel_rfl
theorem rcOne {xs : List Rc} : ∀ u ∈ flat Rc.cells xs, u.oneCell' = true := fun u hu => by
 unfold flat at hu
 obtain ⟨x, _, hx⟩ := List.mem_flatMap.1 hu
 have := Rc.one x
 simp only [List.all_toArray] at this
 exact List.all_eq_true.1 this u hx
theorem rowsNone {w : World} {B k : Nat} {ls : List (List Value)} (h : RowsAt w B none k ls) : ls = [] := by
 cases ls with
 | nil => rfl
 | cons x l => obtain ⟨b, off, e, _⟩ := h 0 x rfl; cases e
theorem rowsCells {w : World} {B : Nat} {ad : Addr} {ys : List Rc} (h : RowsAt w B (some ad) 15 (ys.map Rc.cells)) : ∀ j u, (flat Rc.cells ys)[j]? = some u → w.cell? (ad.add j) = some u := fun j u hu => by
 have hj : j < (flat Rc.cells ys).length := (List.getElem?_eq_some_iff.1 hu).1
 rw [flat_len2 rcLen] at hj
 have hi : j / 15 < ys.length := by omega
 obtain ⟨b, off, e, _, hc⟩ := h (j / 15) (ys[j / 15].cells) (by rw [List.getElem?_map, List.getElem?_eq_getElem hi]; rfl)
 injection e with e
 subst e
 have hm : j % 15 < (ys[j / 15].cells).length := by rw [rcLen]; omega
 have h2 := flat_at2 rcLen (List.getElem?_eq_getElem hi) (j % 15) (ys[j / 15].cells[j % 15]) (List.getElem?_eq_getElem hm)
 have e2 : j / 15 * 15 + j % 15 = j := by omega
 rw [e2, hu] at h2
 injection h2 with h2
 have h3 := hc (j % 15) u (by rw [List.getElem?_eq_getElem hm, h2])
 rw [Addr.add_mid]
 rw [show off + j / 15 * 15 + j % 15 = off + j by omega] at h3
 exact h3
theorem run_appR {w : World} {base B : Nat} {v : Value} {A : Option Addr} {c : Nat} {xs ys : List Rc} (ty : TypeId) (hown : OwnR w base v xs) (hx : RowsAt w B A 15 (ys.map Rc.cells)) (hA : A = none → c = 0) (hl : xs.length ≤ 1000000000) (hm : ys.length ≤ 1000000000) (hbase : base ≤ w.heap.size) :
 ∃ v' w', (Builtin.append_ #[39, 39] ty #[v, .slice A ys.length c]).run Tryz.prog w = .ok v' w' ∧ OwnR w' base v' (xs ++ ys) ∧ w.grownBy w' v.ownBlock ∧ (v'.ownBlock = none ∨ v'.ownBlock = v.ownBlock ∨ v'.ownBlock = some w.heap.size) := by
 obtain ⟨i0, hi, hz0, hz1, hz2⟩ := info_parts info_rc
 cases A with
 | none =>
   have := rowsNone hx
   have hy : ys = [] := List.map_eq_nil_iff.1 this
   subst hy
   obtain rfl := hA rfl
   exact ⟨v, w, run_append_owned_none w base 39 ty 36 i0 15 Tryz.underlying39 hi v _ _ hown, by rw [List.append_nil]; exact hown, World.grownBy.refl w _, .inr (.inl rfl)⟩
 | some ad =>
   obtain ⟨v', w', h1, h2, h3, _⟩ := run_append_own (P := Tryz.prog) w base 39 ty 36 i0 (.agg Rc.zero.cells.toArray) 15 168 Tryz.underlying39 hi hz0 hz1 hz2 rfl (by decide) v xs.length (flat Rc.cells xs) hown ad ys.length c (flat Rc.cells ys) (flat_len2 rcLen ys) (rowsCells hx) rcOne (by unfold maxLen; omega) (by omega) hbase
   have h4 := append_whereS (P := Tryz.prog) w base 39 ty 36 i0 (.agg Rc.zero.cells.toArray) 15 168 Tryz.underlying39 hi hz0 hz1 hz2 rfl (by decide) v xs.length (flat Rc.cells xs) hown ad ys.length c (flat Rc.cells ys) (flat_len2 rcLen ys) (rowsCells hx) rcOne (by unfold maxLen; omega) (by omega) v' w' h1
   refine ⟨v', w', h1, ?_, h3, h4⟩
   unfold OwnR
   rw [flat_app, List.length_append]; exact h2
section
variable {ops : Array Oper} {rest : List Oper} {o : Oper} {a : Act} {Q : Exit → Act → World → Prop} {S : World → Prop} {n : Nat} {l l' : Array Bool} {w : World}
theorem exec_appR {o : Oper} {s x : Operand} {v vx v' : Value} {w' : World} (ho : o.op = .call { callee := .builtin .append, args := #[s, x], argTypes := #[39, 39] }) (hs : a.eval s = v) (hx : a.eval x = vx)
 (hr : (Builtin.append_ #[39, 39] o.type #[v, vx]).run Tryz.prog w = .ok v' w') : (execOp a.eval o).run Tryz.prog w = .ok (.value v') w' := by
 unfold execOp
 simp only [ho, resolve, invoke, builtin, Sem.run_bind, Sem.run_pure, Result.andThen_ok, List.map_toArray, List.map_cons, List.map_nil, hs, hx, hr]
theorem waR (s x : Operand) {base B : Nat} {v : Value} {A : Option Addr} {c : Nat} {xs ys : List Rc} (hown : OwnR w base v xs) (hy : RowsAt w B A 15 (ys.map Rc.cells)) (hA : A = none → c = 0) (hl : xs.length ≤ 1000000000) (hm : ys.length ≤ 1000000000) (hbase : base ≤ w.heap.size)
 (h : ∀ v' w', OwnR w' base v' (xs ++ ys) → w.grownBy w' v.ownBlock → (v'.ownBlock = none ∨ v'.ownBlock = v.ownBlock ∨ v'.ownBlock = some w.heap.size) → wpList Tryz.prog ops Q rest (a.put o.dst v') w')
 (ho : o.op = .call { callee := .builtin .append, args := #[s, x], argTypes := #[39, 39] } := by kernel_rfl) (hs : a.eval s = v := by kernel_rfl) (hx : a.eval x = .slice A ys.length c := by kernel_rfl)
 (hw : Region.wanted o (yielded ops a.tmps) = true := by kernel_rfl) : wpList Tryz.prog ops Q (o :: rest) a w := by
 obtain ⟨v', w', h1, h2, h3, h4⟩ := run_appR o.type hown hy hA hl hm hbase
 exact wpList_w v' w' hw (exec_appR ho hs hx h1) (h v' w' h2 h3 h4)
end
theorem OwnR.mono {w : World} {b b' : Nat} {v : Value} {l : List Rc} (h : OwnR w b v l) (hb : b' ≤ b) : OwnR w b' v l := by
 unfold OwnR World.ownsRow at *
 refine ⟨h.1, ?_⟩
 rcases h.2 with h1 | ⟨g, c, cs, h1, h2, h3⟩
 ·exact Or.inl h1
 ·exact Or.inr ⟨g, c, cs, h1, Nat.le_trans hb h2, h3⟩
theorem OwnR.nil {w : World} {b : Nat} : OwnR w b (.slice none 0 0) [] := World.ownsRow_nil _ _ _ _
theorem OwnR.rows {w : World} {b : Nat} {v : Value} {l : List Rc} (h : OwnR w b v l) : ∃ (A : Option Addr) (c : Nat), v = .slice A l.length c ∧ l.length ≤ c ∧ RowsAt w w.heap.size A 15 (l.map Rc.cells) ∧ (A = none → l = [] ∧ c = 0) := by
 obtain ⟨A, c, h1, h2, h3, h4⟩ := flatOwn rcLen (by decide) h
 subst h1
 refine ⟨A, c, rfl, h2, h3, fun e => ?_⟩
 subst e
 have h0 : l = [] := List.map_eq_nil_iff.1 (rowsNone h3)
 subst h0
 rcases h.2 with ⟨e, _⟩ | ⟨g, cap, cur, e, _⟩
 ·injection e with _ _ e; exact ⟨rfl, e⟩
 ·injection e with e; cases e
theorem rcRow {w : World} {g : Nat} {x : Rc} (h : w.heap[g]? = some (.cells x.cells.toArray 36 (0, 0))) : RowsAt w w.heap.size (some ⟨g, 0, none⟩) 15 ([x].map Rc.cells) := fun i cs hi => by
 match i, hi with
 | 0, hi =>
   simp at hi; subst hi
   exact ⟨g, 0, rfl, (Array.getElem?_eq_some_iff.1 h).1, fun j u hu => by
    have := rowAt h j u hu
    simpa using this⟩
end Go.Proofs.YtjofjpmhokjhnaaGreatDoor
