import Derived.Test.YtjofjpmhokjhnaaGreatDoorWfM4
import Derived.Test.YtjofjpmhokjhnaaGreatDoorWfM2
set_option linter.unusedSimpArgs false
set_option linter.unusedVariables false
namespace Go.Proofs.YtjofjpmhokjhnaaGreatDoor
set_option maxRecDepth 20000
open Go.RowKit
section
variable {P : Program} (w : World)
theorem append_where (base : Nat) (t ty e : TypeId) (i : TypeInfo) (z : Value) (bytes : Nat) (ht : P.underlying t = some (.slice e)) (hi : P.info? e = some i) (hz : i.zero = some z)
 (hsize : i.size = 1) (hby : i.bytes = bytes) (hzs : z.cells.size = 1)
 (v : Value) (n : Nat) (xs : List Value) (hown : w.ownsRow base e 1 v n xs)
 (a : Addr) (m c : Nat) (news : List Value) (hl : news.length = m) (hnews : ∀ j u, news[j]? = some u → w.cell? (a.add j) = some u) (h1 : ∀ u ∈ news, u.oneCell' = true)
 (h63 : n + m ≤ maxLen) (hbytes : (n + m) * bytes ≤ 140737488355328)
 (v' : Value) (w' : World) (hrun : (Builtin.append_ #[t, t] ty #[v, .slice (some a) m c]).run P w = .ok v' w') : v'.ownBlock = none ∨ v'.ownBlock = v.ownBlock ∨ v'.ownBlock = some w.heap.size := by
 subst hby
 have hsmall : n + m ≤ 9223372036854775807 := by simp only [maxLen] at h63; omega
 have hl' : news.length = m * i.size := by rw [hsize]; omega
 have hown' : w.ownsRow base e i.size v n xs := by rw [hsize]; exact hown
 rcases hown'.2 with ⟨rfl, rfl⟩ | ⟨g, cap, cur, rfl, hbg, hg, hnc, hcm, hcs, htake⟩
 ·by_cases hm : m = 0
  ·subst hm
   have hr : (Builtin.append_ #[t, t] ty #[.slice none 0 0, .slice (some a) 0 c]).run P w = .ok (.slice none 0 0) w := by
    simp [Builtin.append_, run_underlying ht, sizeOf, typeInfo, hi, Builtin.lenOf, Builtin.firstCells, loadCells, loadCellsFrom]
   rw [hr] at hrun
   injection hrun with h1 h2
   subst h1
   exact .inl rfl
  ·have hr := run_append_nil (P := P) w t ty e i z ht hi hz a m c news hl' hnews (by omega) (by omega) (by have hb := hbytes; simp only [Nat.zero_add] at hb; omega)
   rw [hr] at hrun
   injection hrun with h1 h2
   subst h1
   exact .inr (.inr rfl)
 ·by_cases hroom : n + m ≤ cap
  ·have hfit : n * i.size + news.length ≤ cur.size := by rw [hl', hcs, ← Nat.add_mul]; exact Nat.mul_le_mul_right _ hroom
   have hr := run_append_room (P := P) w t ty e i ht hi g n cap cur hg a m c news hl' hnews h1 hroom hfit
   rw [hr] at hrun
   injection hrun with h1 h2
   subst h1
   exact .inr (.inl rfl)
  ·have holds : ∀ j u, xs[j]? = some u → w.cell? ((⟨g, 0, none⟩ : Addr).add j) = some u := hown'.cells (g := g) rfl
   have hr := run_append_grow (P := P) w t ty e i z ht hi hz ⟨g, 0, none⟩ n cap xs hown'.1 holds a m c news hl' hnews (by omega) (by omega) (growslice_fits (by omega) hbytes)
   rw [hr] at hrun
   injection hrun with h1 h2
   subst h1
   exact .inr (.inr rfl)
theorem wpList_append_rdw {ops : Array Oper} {rest : List Oper} {o : Oper} {a : Act} {Q : Exit → Act → World → Prop} (hgd : o.guard = none) (s x : Operand) (t : TypeId)
 (ho : o.op = .call { callee := .builtin .append, args := #[s, x], argTypes := #[t, t] })
 (base : Nat) (e : TypeId) (i : TypeInfo) (z : Value) (bytes : Nat) (ht : P.underlying t = some (.slice e)) (hi : P.info? e = some i) (hz : i.zero = some z)
 (hsize : i.size = 1) (hby : i.bytes = bytes) (hzs : z.cells.size = 1)
 (v : Value) (n : Nat) (xs : List Value) (hs : a.eval s = v) (hown : w.ownsRow base e 1 v n xs)
 (B : Nat) (A : Option Addr) (m c : Nat) (news : List Value) (hx : a.eval x = .slice A m c) (hm : news.length = m) (hA : A = none → c = 0) (hr : Rd w B A news) (h1 : ∀ u ∈ news, u.oneCell' = true)
 (h63 : n + m ≤ maxLen) (hbytes : (n + m) * bytes ≤ 140737488355328) (hbase : base ≤ w.heap.size)
 (h : ∀ v' w', w'.ownsRow base e 1 v' (n + m) (xs ++ news) → w.grownBy w' v.ownBlock → (v'.ownBlock = none ∨ v'.ownBlock = v.ownBlock ∨ v'.ownBlock = some w.heap.size) → wpList P ops Q rest (a.put o.dst v') w') : wpList P ops Q (o :: rest) a w := by
 refine wpList_plain hgd fun K hK => ?_
 obtain ⟨v', w', hrun, h2, h3⟩ := run_append_rd (P := P) w base t o.type e i z bytes ht hi hz hsize hby hzs v n xs hown B A m c news hm hA hr h1 h63 hbytes hbase
 have hw : v'.ownBlock = none ∨ v'.ownBlock = v.ownBlock ∨ v'.ownBlock = some w.heap.size := by
  cases A with
  | none =>
    have hn : news = [] := by
     cases news with
     | nil => rfl
     | cons x l => obtain ⟨b, off, h, _⟩ := hr 0 x rfl; cases h
    subst hn
    simp at hm
    subst hm
    obtain rfl := hA rfl
    have := run_append_owned_none w base t o.type e i 1 ht hi v n xs hown
    rw [this] at hrun
    injection hrun with h1 h2
    subst h1
    exact .inr (.inl rfl)
  | some ad =>
    have hcells : ∀ j u, news[j]? = some u → w.cell? (ad.add j) = some u := by
     intro j u hu
     obtain ⟨b, off, h, _, hc⟩ := hr j u hu
     injection h with h
     subst h
     rw [Addr.add_lit]; exact hc
    exact append_where w base t o.type e i z bytes ht hi hz hsize hby hzs v n xs hown ad m c news hm hcells h1 h63 hbytes v' w' hrun
 unfold Oper.wp execOp
 simp only [ho, resolve, invoke, builtin, Sem.run_bind, Sem.run_pure, Result.andThen_ok, List.map_toArray, List.map_cons, List.map_nil, hs, hx, hrun]
 exact hK _ _ (h v' w' h2 h3 hw)
end
def Apart (u v : Value) : Prop := ∀ k, u.ownBlock = some k → v.ownBlock ≠ some k
theorem Apart.symm {u v : Value} (h : Apart u v) : Apart v u := fun k hv hu => h k hu hv
theorem Apart.nil {v : Value} : Apart (.slice none 0 0) v := fun k h => by cases h
theorem Apart.ne {u v : Value} (h : Apart u v) : u.ownBlock = none ∨ u.ownBlock ≠ v.ownBlock := by
 cases hu : u.ownBlock with
 | none => exact .inl rfl
 | some k => exact .inr (h k hu).symm
theorem Apart.moved {w : World} {u v v' : Value} {base e n : Nat} {xs : List Value} (h : Apart u v) (hu : w.ownsRow base e 1 u n xs) (hw : v'.ownBlock = none ∨ v'.ownBlock = v.ownBlock ∨ v'.ownBlock = some w.heap.size) : Apart u v' := fun k hk hv => by
 have hlt := (hu.lt k hk).2
 rcases hw with h1 | h1 | h1
 ·rw [h1] at hv; cases hv
 ·rw [h1] at hv; exact h k hk hv
 ·rw [h1] at hv; injection hv with hv; omega
theorem Apart.fresh {w w' : World} {u v : Value} {base e e' n m B : Nat} {xs ys : List Value} (hu : w.ownsRow base e 1 u n xs) (hv : w'.ownsRow B e' 1 v m ys) (hB : w.heap.size ≤ B) : Apart u v := fun k hk hv' => by
 have h1 := (hu.lt k hk).2
 have h2 := (hv.lt k hv').1
 omega
def grown2 (w w' : World) (g : Nat) (o : Option Nat) : Prop :=
 w'.os = w.os ∧ w'.tape = w.tape ∧ w'.output = w.output ∧ w.heap.size ≤ w'.heap.size ∧ ∀ k, k < w.heap.size → k ≠ g → some k ≠ o → w'.heap[k]? = w.heap[k]?
theorem grown2.refl (w : World) (g : Nat) (o : Option Nat) : grown2 w w g o := ⟨rfl, rfl, rfl, Nat.le_refl _, fun _ _ _ _ => rfl⟩
theorem grown2.drewN {w w' : World} {g : Nat} {o : Option Nat} (h : grown2 w w' g o) (n : Nat) : grown2 w (w'.drewN n) g o := h
theorem grown2.ofGrown {w w' : World} {g : Nat} (o : Option Nat) (h : w.grownBy w' (some g)) : grown2 w w' g o := ⟨h.os, h.tape, h.output, h.size, fun k hk h1 _ => h.block k hk (by simp [h1])⟩
theorem grown2.ofGrownO {w w' : World} {o : Option Nat} (g : Nat) (h : w.grownBy w' o) : grown2 w w' g o := ⟨h.os, h.tape, h.output, h.size, fun k hk _ h1 => h.block k hk (by simpa using h1)⟩
theorem grown2.ofBelow {w w' : World} (g : Nat) (o : Option Nat) (h : Below w.heap.size w w') : grown2 w w' g o := ⟨h.os, h.tape, h.output, h.size, fun k hk _ _ => h.block k hk⟩
theorem grown2.trans {a b c : World} {g : Nat} {o o' : Option Nat} (h : grown2 a b g o) (k : grown2 b c g o') (ho : ∀ x, x < a.heap.size → some x ≠ o → some x ≠ o') : grown2 a c g o := by
 obtain ⟨h1, h2, h3, h4, h5⟩ := h
 obtain ⟨k1, k2, k3, k4, k5⟩ := k
 exact ⟨k1.trans h1, k2.trans h2, k3.trans h3, Nat.le_trans h4 k4, fun x hx hg hxo => (k5 x (by omega) hg (ho x hx hxo)).trans (h5 x hx hg hxo)⟩
theorem grown2.below {w w' : World} {g B : Nat} {o : Option Nat} (h : grown2 w w' g o) (hg : B ≤ g) (ho : ∀ k, o = some k → B ≤ k) (hB : B ≤ w.heap.size) : Below B w w' := by
 obtain ⟨h1, h2, h3, h4, h5⟩ := h
 exact ⟨h1, h2, h3, h4, fun k hk => h5 k (by omega) (by omega) (fun e => by have := ho k e.symm; omega)⟩
theorem grown2.row {w w' : World} {g : Nat} {o : Option Nat} (h : grown2 w w' g o) {base e n : Nat} {v : Value} {xs : List Value} (hv : w.ownsRow base e 1 v n xs) (hg : v.ownBlock ≠ some g) (ho : ∀ k, v.ownBlock = some k → o ≠ some k) : w'.ownsRow base e 1 v n xs := by
 refine ⟨hv.1, ?_⟩
 rcases hv.2 with h2 | ⟨b, cap, cur, rfl, hb, hh, r⟩
 ·exact .inl h2
 ·refine .inr ⟨b, cap, cur, rfl, hb, ?_, r⟩
  rw [h.2.2.2.2 b (ltAt hh) (fun e => hg (by subst e; rfl)) (fun e => ho b rfl e.symm)]
  exact hh
theorem rowNe {w : World} {g base e n t : Nat} {v : Value} {xs : List Value} {cs : Array Value} (hv : w.ownsRow base e 1 v n xs) (hg : w.heap[g]? = some (.cells cs t (0, 0))) (hne : e ≠ t) : v.ownBlock ≠ some g := fun h => by
 obtain ⟨c, fz, hk⟩ := Lib.ownsRow_kind hv g h
 rw [hg] at hk
 injection hk with hk
 injection hk with _ h2
 exact hne h2.symm
structure Dk where
 size : Nat
 b : List UInt8
 lasts : Nat
 fuse : Int
 down : Bool
 within : Bool
 rep : List UInt8
namespace D
def new (n : Int) : Dk := ⟨(max n 0).toNat, [], 0, -1, false, false, []⟩
def act (d : Dk) : Bool × Dk := if d.fuse = 0 then (false, { d with down := true }) else if 0 < d.fuse then (true, { d with fuse := d.fuse - 1 }) else (true, d)
def append (d : Dk) (l : List UInt8) : Nat × Dk :=
 if d.down = true then (8, d) else if d.size - d.b.length < l.length then (7, d)
 else (if (act d).1 = true then 0 else 8, { (act d).2 with b := d.b ++ l })
def replace (d : Dk) (l : List UInt8) : Nat × Dk :=
 if d.down = true then (8, d) else if d.size < l.length then (7, d)
 else if (act d).1 = true then (0, { (act d).2 with b := l, lasts := l.length }) else (8, { (act d).2 with within := true, rep := l })
def cutB (d : Dk) (n : Int) : List UInt8 := if d.within = true then (if 0 < n then d.rep else d.b.take d.lasts) else d.b.take (d.lasts + (min (max n 0) ((d.b.length : Int) - d.lasts)).toNat)
def cut (d : Dk) (n : Int) : Dk := { new d.size with b := cutB d n, lasts := (cutB d n).length }
end D
def DkAt (w : World) (base g : Nat) (bv rv : Value) (d : Dk) : Prop :=
 w.heap[g]? = some (.cells #[.int .i64 (d.size : Int), bv, .int .i64 (d.lasts : Int), .int .i64 d.fuse, .bool d.down, .bool d.within, rv] 114 (0, 0)) ∧ base ≤ g
 ∧ w.ownsRow base 5 1 bv d.b.length (bc d.b) ∧ w.ownsRow base 5 1 rv d.rep.length (bc d.rep) ∧ Apart bv rv
 ∧ d.lasts ≤ d.b.length ∧ d.b.length ≤ d.size ∧ d.rep.length ≤ d.size ∧ d.size ≤ 1000000000 ∧ -1 ≤ d.fuse ∧ d.fuse ≤ 9223372036854775807 ∧ (d.within = true → d.down = true)
theorem dk_cells {w : World} {base g : Nat} {bv rv : Value} {d : Dk} (h : DkAt w base g bv rv d) : w.cell? ⟨g, 0, none⟩ = some (.int .i64 (d.size : Int)) ∧ w.cell? ⟨g, 1, none⟩ = some bv ∧ w.cell? ⟨g, 2, none⟩ = some (.int .i64 (d.lasts : Int)) ∧ w.cell? ⟨g, 3, none⟩ = some (.int .i64 d.fuse) ∧ w.cell? ⟨g, 4, none⟩ = some (.bool d.down) ∧ w.cell? ⟨g, 5, none⟩ = some (.bool d.within) ∧ w.cell? ⟨g, 6, none⟩ = some rv := by
 have h0 := h.1
 exact ⟨cellAt h0 0, cellAt h0 1, cellAt h0 2, cellAt h0 3, cellAt h0 4, cellAt h0 5, cellAt h0 6⟩
theorem dk_free {w : World} {base g : Nat} {bv rv : Value} {d : Dk} (h : DkAt w base g bv rv d) (i : Nat) : w.frozen? ⟨g, i, none⟩ = false := freeAt h.1 i
theorem DkAt.other {w w' : World} {base g : Nat} {bv rv : Value} {d : Dk} (h : DkAt w base g bv rv d) (hk : ∀ k, k < w.heap.size → k = g ∨ bv.ownBlock = some k ∨ rv.ownBlock = some k → w'.heap[k]? = w.heap[k]?) : DkAt w' base g bv rv d := by
 obtain ⟨h0, h1, h2, h3, h4⟩ := h
 have row : ∀ (v : Value) (n : Nat) (xs : List Value), w.ownsRow base 5 1 v n xs → (∀ k, v.ownBlock = some k → w'.heap[k]? = w.heap[k]?) → w'.ownsRow base 5 1 v n xs := fun v n xs hv hh => by
  refine ⟨hv.1, ?_⟩
  rcases hv.2 with h2 | ⟨b, cap, cur, rfl, hb, hc, r⟩
  ·exact .inl h2
  ·exact .inr ⟨b, cap, cur, rfl, hb, by rw [hh b rfl]; exact hc, r⟩
 exact ⟨by rw [hk g (ltAt h0) (.inl rfl)]; exact h0, h1, row _ _ _ h2 (fun k e => hk k (h2.lt k e).2 (.inr (.inl e))), row _ _ _ h3 (fun k e => hk k (h3.lt k e).2 (.inr (.inr e))), h4⟩
theorem DkAt.drewN {w : World} {base g : Nat} {bv rv : Value} {d : Dk} (h : DkAt w base g bv rv d) (n : Nat) : DkAt (w.drewN n) base g bv rv d := h
theorem DkAt.below {w w' : World} {base g : Nat} {bv rv : Value} {d : Dk} (h : DkAt w base g bv rv d) (hb : Below w.heap.size w w') : DkAt w' base g bv rv d := h.other fun k hk _ => hb.block k hk
theorem DkAt.grown {w w' : World} {base g : Nat} {bv rv : Value} {d : Dk} {o : Option Nat} (h : DkAt w base g bv rv d) (hg : w.grownBy w' o) (h1 : o ≠ some g) (h2 : ∀ k, o = some k → bv.ownBlock ≠ some k) (h3 : ∀ k, o = some k → rv.ownBlock ≠ some k) : DkAt w' base g bv rv d :=
 h.other fun k hk e => hg.block k hk (fun e2 => by
  subst e2
  rcases e with rfl | e | e
  ·exact h1 rfl
  ·exact h2 _ rfl e
  ·exact h3 _ rfl e)
theorem DkAt.stored {w : World} {base g : Nat} {bv rv : Value} {d d' : Dk} (h : DkAt w base g bv rv d) (i : Nat) (u : Value)
 (hc : (#[Value.int .i64 (d.size : Int), bv, .int .i64 (d.lasts : Int), .int .i64 d.fuse, .bool d.down, .bool d.within, rv] : Array Value).setIfInBounds i u = #[.int .i64 (d'.size : Int), bv, .int .i64 (d'.lasts : Int), .int .i64 d'.fuse, .bool d'.down, .bool d'.within, rv])
 (hb : d'.b = d.b) (hr : d'.rep = d.rep) (hl : d'.lasts ≤ d'.b.length) (hs : d'.size = d.size) (hf : -1 ≤ d'.fuse ∧ d'.fuse ≤ 9223372036854775807) (hw : d'.within = true → d'.down = true) : DkAt (w.setCell ⟨g, i, none⟩ u) base g bv rv d' := by
 obtain ⟨h0, h1, h2, h3, h4, h5, h6, h7, h8, h9⟩ := h
 have hg := grownSet w g i u
 have e0 := setAt h0 i u
 rw [hc] at e0
 refine ⟨e0, h1, ?_, ?_, h4, hl, by rw [hb, hs]; exact h6, by rw [hr, hs]; exact h7, by rw [hs]; exact h8, hf.1, hf.2, hw⟩
 ·rw [hb]; exact h2.kept hg (.inr (rowNe h2 h0 (by decide)))
 ·rw [hr]; exact h3.kept hg (.inr (rowNe h3 h0 (by decide)))
set_option maxHeartbeats 800000 in
theorem act_any (base g : Nat) (bv rv : Value) (d : Dk) (w : World) (h : DkAt w base g bv rv d) :
 Calls Tryz.prog 100 #[.pointer (some ⟨g, 0, none⟩)] w fun e w' => e = .returned (.bool (D.act d).1) ∧ DkAt w' base g bv rv (D.act d).2 ∧ w.grownBy w' (some g) := by
 have hc := dk_cells h
 have f3 := dk_free h 3
 have f4 := dk_free h 4
 obtain ⟨c0, c1, c2, c3, c4, c5, c6⟩ := hc
 have hf := h.2.2.2.2.2.2.2.2.2
 have hlb := h.2.2.2.2.2.1
 have H := Lib.hid h
 obtain ⟨hf1, hf2, hf3⟩ := hf
 have HF3 := Lib.hid hf3
 clear h c0 c1 c2 c5 c6 hf3
 have HA : Hid (D.act d = if d.fuse = 0 then (false, { d with down := true }) else if 0 < d.fuse then (true, { d with fuse := d.fuse - 1 }) else (true, d)) := rfl
 rw [HA.out]
 by_cases h0 : d.fuse = 0
 ·rw [if_pos h0]
  have hb : (d.fuse == 0) = true := by simp [h0]
  have H0 := Lib.hid h0
  clear h0
  go_enter Tryz.func100, Tryz.ntmps100
  go_wp2_with fail
  go_ret
  exact ⟨rfl, H.out.stored 4 (.bool true) rfl rfl rfl hlb rfl ⟨hf1, hf2⟩ (fun _ => rfl), grownSet w g 4 _⟩
 ·rw [if_neg h0]
  have hb : (d.fuse == 0) = false := by simp [h0]
  by_cases h1 : 0 < d.fuse
  ·rw [if_pos h1]
   have hb1 : (decide (0 < d.fuse)) = true := by simp [h1]
   go_enter Tryz.func100, Tryz.ntmps100
   go_wp2_with fail
   go_ret
   exact ⟨rfl, H.out.stored (d' := { d with fuse := d.fuse - 1 }) 3 (.int .i64 (d.fuse - 1)) rfl rfl rfl hlb rfl ⟨by simp only; omega, by simp only; omega⟩ HF3.out, grownSet w g 3 _⟩
  ·rw [if_neg h1]
   go_enter Tryz.func100, Tryz.ntmps100
   go_wp2_with fail
   go_ret
   exact ⟨rfl, H.out, World.grownBy.refl w _⟩
set_option maxHeartbeats 800000 in
theorem dnew_any (n : Int) (w : World) (hn : n ≤ 1000000000) :
 Calls Tryz.prog 18 #[.int .i64 n] w fun e w' => e = .returned (.pointer (some ⟨w.heap.size, 0, none⟩)) ∧ DkAt w' w.heap.size w.heap.size (.slice none 0 0) (.slice none 0 0) (D.new n) ∧ Below w.heap.size w w' ∧ w'.heap.size = w.heap.size + 1 := by
 have HD : Hid (∀ m : Int, m = (D.new n).size → DkAt (w.alloc (.cells #[.int .i64 m, .slice none 0 0, .int .i64 0, .int .i64 (-1), .bool false, .bool false, .slice none 0 0] 114)) w.heap.size w.heap.size (.slice none 0 0) (.slice none 0 0) (D.new n)) := fun m hm => by
  subst hm
  refine ⟨heap_alloc_new w _, Nat.le_refl _, World.ownsRow_nil _ _ _ _, World.ownsRow_nil _ _ _ _, Apart.nil, Nat.le_refl _, Nat.zero_le _, Nat.zero_le _, ?_, show (-1 : Int) ≤ -1 by omega, show (-1 : Int) ≤ 9223372036854775807 by omega, fun h => by cases h⟩
  show (max n 0).toNat ≤ _
  omega
 by_cases h0 : n < 0
 ·have hm : (0 : Int) = (D.new n).size := by show _ = (((max n 0).toNat : Nat) : Int); omega
  have HM := Lib.hid (HD.out 0 hm)
  clear hm
  go_enter Tryz.func18, Tryz.ntmps18
  go_wp2_with fail
  go_ret
  exact ⟨rfl, HM.out, (Below.refl _ _).alloc (Nat.le_refl _) _, by simp⟩
 ·have hm : n = (D.new n).size := by show _ = (((max n 0).toNat : Nat) : Int); omega
  have HM := Lib.hid (HD.out n hm)
  clear hm
  go_enter Tryz.func18, Tryz.ntmps18
  go_wp2_with fail
  go_ret
  exact ⟨rfl, HM.out, (Below.refl _ _).alloc (Nat.le_refl _) _, by simp⟩
def SlK (w : World) (g : Nat) (v : Value) (l : List UInt8) : Prop := ∀ w', w.grownBy w' (some g) → SlF w' w.heap.size v l
theorem act_size (d : Dk) : (D.act d).2.size = d.size ∧ (D.act d).2.b = d.b ∧ (D.act d).2.lasts = d.lasts ∧ (D.act d).2.within = d.within ∧ (D.act d).2.rep = d.rep := by
 unfold D.act; split
 ·exact ⟨rfl, rfl, rfl, rfl, rfl⟩
 split
 ·exact ⟨rfl, rfl, rfl, rfl, rfl⟩
 ·exact ⟨rfl, rfl, rfl, rfl, rfl⟩
theorem grownFromDrewN' {a w : World} {row : Option Nat} {n : Nat} (h : (a.drewN n).grownBy w row) : a.grownBy w row := ⟨h.os, h.tape, h.output, h.size, h.block⟩
def Acted (w : World) (base g : Nat) (bv rv : Value) (p : Nat × Dk) (e : Ending) (w' : World) : Prop :=
 ∃ bv' rv', e = .returned (.int .i64 (p.1 : Int)) ∧ DkAt w' base g bv' rv' p.2 ∧ grown2 w w' g bv.ownBlock ∧ (bv'.ownBlock = none ∨ bv'.ownBlock = bv.ownBlock ∨ ∃ k, bv'.ownBlock = some k ∧ w.heap.size ≤ k) ∧ (rv' = rv ∨ ∀ k, rv'.ownBlock = some k → w.heap.size ≤ k)
theorem DkAt.appended {w w2 : World} {base g : Nat} {bv rv v2 : Value} {d : Dk} {l : List UInt8} (h : DkAt w base g bv rv d) (own2 : w2.ownsRow base 5 1 v2 (d.b ++ l).length (bc (d.b ++ l))) (g2 : w.grownBy w2 bv.ownBlock)
 (hw : v2.ownBlock = none ∨ v2.ownBlock = bv.ownBlock ∨ v2.ownBlock = some w.heap.size) (hsz : (d.b ++ l).length ≤ d.size) : DkAt (w2.setCell ⟨g, 1, none⟩ v2) base g v2 rv { d with b := d.b ++ l } ∧ grown2 w (w2.setCell ⟨g, 1, none⟩ v2) g bv.ownBlock := by
 obtain ⟨h0, hbg, rowb, rowr, hap, hlb, hbs, hrs, hs, hf1, hf2, hdw⟩ := h
 have hcg : w2.heap[g]? = w.heap[g]? := g2.block g (ltAt h0) (fun e => rowNe rowb h0 (by decide) e.symm)
 rw [h0] at hcg
 have e0 := setAt hcg 1 v2
 have hg := grownSet w2 g 1 v2
 have rowr2 : w2.ownsRow base 5 1 rv d.rep.length (bc d.rep) := rowr.kept g2 hap.symm.ne
 refine ⟨⟨e0, hbg, own2.kept hg (.inr (rowNe own2 hcg (by decide))), rowr2.kept hg (.inr (rowNe rowr2 hcg (by decide))), (hap.symm.moved rowr hw).symm, ?_, hsz, hrs, hs, hf1, hf2, hdw⟩, ?_⟩
 ·simp; omega
 ·exact (grown2.ofGrownO g g2).trans (grown2.ofGrown bv.ownBlock hg) (fun _ _ h => h)
set_option maxHeartbeats 1600000 in
theorem dappend_any (base g : Nat) (bv rv : Value) (d : Dk) (A : Option Addr) (c : Nat) (l : List UInt8) (w : World) (hb : base ≤ w.heap.size) (h : DkAt w base g bv rv d) (hx : SlK w g (.slice A l.length c) l) :
 Calls Tryz.prog 64 #[.pointer (some ⟨g, 0, none⟩), .slice A l.length c] w (Acted w base g bv rv (D.append d l)) := by
 obtain ⟨i0, hi, hz0, hz1, hz2⟩ := info_parts info_u8
 have hc := dk_cells h
 obtain ⟨c0, c1, c2, c3, c4, c5, c6⟩ := hc
 obtain ⟨h0, hbg, rowb, rowr, hap, hlb, hbs, hrs, hsz, hf1, hf2, hdw⟩ := id h
 have hl0 : l.length ≤ 9223372036854775807 := by
  obtain ⟨_, _, e, h1, h2, _⟩ := hx w (World.grownBy.refl w _)
  unfold maxLen at h2; omega
 obtain ⟨BA, Bc, rfl, hBc, hBA, hBm⟩ := ownShape rowb
 have H := Lib.hid h
 have HA : Hid (D.append d l = if d.down = true then (8, d) else if d.size - d.b.length < l.length then (7, d) else (if (D.act d).1 = true then 0 else 8, { (D.act d).2 with b := d.b ++ l })) := rfl
 rw [HA.out]
 have HX := Lib.hid hx
 clear h hx h0 rowb rowr hap hBA hdw HA c2 c3 c5 c6
 by_cases hd : d.down = true
 ·rw [if_pos hd]
  rw [hd] at c4
  clear hd
  generalize l.length = n at *
  go_enter Tryz.func64, Tryz.ntmps64
  go_wp2_with fail
  go_ret
  exact ⟨_, _, rfl, H.out, grown2.refl _ _ _, .inr (.inl rfl), .inl rfl⟩
 ·rw [if_neg hd]
  have hd' : d.down = false := by simpa using hd
  rw [hd'] at c4
  clear hd hd'
  by_cases hfull : d.size - d.b.length < l.length
  ·rw [if_pos hfull]
   obtain ⟨n, hn⟩ : ∃ n, n = l.length := ⟨_, rfl⟩
   rw [← hn] at hl0 hfull HX ⊢
   clear hn
   generalize hbl : d.b.length = m at *
   generalize hsl : d.size = s at *
   have HB := Lib.hid hbl
   have HS := Lib.hid hsl
   clear hbl hsl
   have hlt : ((s : Int) - (m : Int) < (n : Int)) := by omega
   go_enter Tryz.func64, Tryz.ntmps64
   go_wp2_with fail
   go_quiet (fail)
   go_wp2_with fail
   go_ret
   exact ⟨_, _, rfl, H.out.drewN _, (grown2.refl _ _ _).drewN _, .inr (.inl rfl), .inl rfl⟩
  ·rw [if_neg hfull]
   obtain ⟨n, hn⟩ : ∃ n, n = l.length := ⟨_, rfl⟩
   have HN := Lib.hid hn
   rw [← hn] at hl0 hfull HX ⊢
   clear hn
   obtain ⟨p, hp⟩ : ∃ p, p = ((if (D.act d).1 = true then 0 else 8 : Nat), { (D.act d).2 with b := d.b ++ l }) := ⟨_, rfl⟩
   rw [← hp]
   have HP := Lib.hid hp
   clear hp
   have HT := Lib.hid (act_size d)
   generalize hbl : d.b.length = m at *
   generalize hsl : d.size = s at *
   have HB := Lib.hid hbl
   have HS := Lib.hid hsl
   clear hbl hsl
   have hlt : ¬ ((s : Int) - (m : Int) < (n : Int)) := by omega
   go_enter Tryz.func64, Tryz.ntmps64
   go_wp2_with fail
   go_quiet (fail)
   go_wp2_with fail
   refine (act_any base g _ rv d _ (H.out.drewN _)).mono ?_
   rintro e w1 ⟨rfl, h1, g1⟩
   have g1 := grownFromDrewN' g1
   obtain ⟨_, c1', _⟩ := dk_cells h1
   have f1 := dk_free h1 1
   obtain ⟨A', c', e, xc, xm, xA, xr⟩ := HX.out w1 g1
   injection e with e1 e2 e3
   subst e1; subst e2; subst e3
   obtain ⟨k0, k1, rowb1, rowr1, hap1, k5, k6, k7, k8, k9, k10, k11⟩ := id h1
   rw [HT.out.2.1] at rowb1
   have rowb1 : w1.ownsRow base 5 1 (.slice BA m Bc) m (bc d.b) := by rw [← HB.out]; rw [← HB.out] at rowb1; exact rowb1
   have RB := Lib.hid rowb1
   clear c4 c1 c0
   go_wp2_with (at_builtin; refine wpList_append_rdw _ rfl _ _ 34 rfl base 5 i0 (.int .u8 0) 1 Tryz.underlying34 hi hz0 hz1 hz2 rfl _ _ _ rfl RB.out w.heap.size A l.length c (bc l) rfl ?d1 (fun h => (xA h).2) xr (bc_one _) ?c1 ?c2 ?c3 ?_)
   case d1 => rw [bc_len]
   case c1 => unfold maxLen; omega
   case c2 => omega
   case c3 => exact Nat.le_trans hb g1.size
   intro v2 w2 own2 g2 hw2
   have hbl2 : (d.b ++ l).length = m + l.length := by rw [List.length_append, HB.out]
   have own2' : w2.ownsRow base 5 1 v2 (((D.act d).2.b ++ l).length) (bc ((D.act d).2.b ++ l)) := by rw [HT.out.2.1, hbl2, bc_app]; exact own2
   have DD := Lib.hid (h1.appended own2' g2 hw2 (by rw [HT.out.2.1, hbl2, HT.out.1]; omega))
   have hv2 := hw2
   obtain ⟨A2, c2, rfl, _, _, _⟩ := ownShape own2
   have hcg : w2.heap[g]? = w1.heap[g]? := g2.block g (ltAt k0) (fun e => rowNe rowb1 k0 (by decide) e.symm)
   rw [k0] at hcg
   have fz2 := freeAt hcg 1
   have cz2 := cellAt hcg 1
   simp only [zQ] at cz2
   have hsz1 := g1.size
   have HV := Lib.hid hv2
   clear own2 own2' g2 hw2 hv2 rowb1 rowr1 h1 k0 k5 k6 k7 k8 k9 k10 k11 hcg xr xA xc c1' f1 RB hbl2 hap1
   have HG := Lib.hid g1
   clear g1
   cases hok : (D.act d).1 with
   | true =>
     have hpe : p = (0, { (D.act d).2 with b := (D.act d).2.b ++ l }) := by rw [HP.out, hok, HT.out.2.1]; rfl
     have HPE := Lib.hid hpe
     clear hpe hok
     go_wp2_with fail
     go_ret
     rw [HPE.out]
     exact ⟨_, rv, rfl, DD.out.1, ((grown2.ofGrown _ HG.out).trans DD.out.2 (fun _ _ h => h)), (by rcases HV.out with h | h | h; exact .inl h; exact .inr (.inl h); exact .inr (.inr ⟨_, h, hsz1⟩)), .inl rfl⟩
   | false =>
     have hpe : p = (8, { (D.act d).2 with b := (D.act d).2.b ++ l }) := by rw [HP.out, hok, HT.out.2.1]; rfl
     have HPE := Lib.hid hpe
     clear hpe hok
     go_wp2_with fail
     go_ret
     rw [HPE.out]
     exact ⟨_, rv, rfl, DD.out.1, ((grown2.ofGrown _ HG.out).trans DD.out.2 (fun _ _ h => h)), (by rcases HV.out with h | h | h; exact .inl h; exact .inr (.inl h); exact .inr (.inr ⟨_, h, hsz1⟩)), .inl rfl⟩
theorem dclone_s {w : World} {B : Nat} {v : Value} {l : List UInt8} (h : SlF w B v l) (hl : l.length ≤ 1099511627776) (hB : B ≤ w.heap.size) : Calls Tryz.prog 66 #[v] w (MadeB w l) := by
 obtain ⟨A, c, rfl, hc, hm, hA, hr⟩ := h
 exact clone_any A c l w B hl hA hr hB
theorem DkAt.bytes {w : World} {base g : Nat} {bv rv : Value} {d : Dk} (h : DkAt w base g bv rv d) : SlF w w.heap.size bv d.b := SlF.ofOwn h.2.2.1
set_option maxHeartbeats 800000 in
theorem ddown_any (base g : Nat) (bv rv : Value) (d : Dk) (w : World) (h : DkAt w base g bv rv d) :
 Calls Tryz.prog 81 #[.pointer (some ⟨g, 0, none⟩)] w fun e w' => e = .returned (.bool d.down) ∧ w = w' := by
 obtain ⟨c0, c1, c2, c3, c4, c5, c6⟩ := dk_cells h
 clear h c0 c1 c2 c3 c5 c6
 generalize d.down = x at *
 go_enter Tryz.func81, Tryz.ntmps81
 go_wp2_with fail
 go_ret
 exact ⟨rfl, rfl⟩
set_option maxHeartbeats 800000 in
theorem dbytes_any (base g : Nat) (bv rv : Value) (d : Dk) (w : World) (h : DkAt w base g bv rv d) :
 Calls Tryz.prog 22 #[.pointer (some ⟨g, 0, none⟩)] w (MadeB w d.b) := by
 obtain ⟨c0, c1, c2, c3, c4, c5, c6⟩ := dk_cells h
 have hs := h.2.2.2.2.2.2.1
 have hs2 := h.2.2.2.2.2.2.2.2.1
 have HC := Lib.hid (dclone_s h.bytes (by omega) (Nat.le_refl _))
 clear h c0 c2 c3 c4 c5 c6 hs hs2
 go_enter Tryz.func22, Tryz.ntmps22
 go_wp2_with fail
 refine HC.out.mono ?_
 rintro e w1 ⟨v, rfl, hown, hbel⟩
 go_wp2_with fail
 go_ret
 exact ⟨v, rfl, hown, hbel⟩
theorem belowRow {w w' : World} {base e n : Nat} {v : Value} {xs : List Value} (h : w.ownsRow base e 1 v n xs) (hb : Below w.heap.size w w') : w'.ownsRow base e 1 v n xs :=
 h.kept ⟨hb.os, hb.tape, hb.output, hb.size, fun k hk _ => hb.block k hk⟩ (by cases hv : v.ownBlock with
  | none => exact .inl rfl
  | some g => exact .inr (by simp) : v.ownBlock = none ∨ v.ownBlock ≠ none)
theorem DkAt.laid {w w1 : World} {base g : Nat} {bv rv v : Value} {d : Dk} {l : List UInt8} (h : DkAt w base g bv rv d) (hb : Below w.heap.size w w1) (hbw : base ≤ w.heap.size) (hv : w1.ownsRow w.heap.size 5 1 v l.length (bc l)) (hl : l.length ≤ d.size) :
 DkAt ((w1.setCell ⟨g, 1, none⟩ v).setCell ⟨g, 2, none⟩ (.int .i64 (l.length : Int))) base g v rv { d with b := l, lasts := l.length } ∧ w.grownBy ((w1.setCell ⟨g, 1, none⟩ v).setCell ⟨g, 2, none⟩ (.int .i64 (l.length : Int))) (some g) := by
 obtain ⟨h0, hbg, rowb, rowr, hap, hlb, hbs, hrs, hs, hf1, hf2, hdw⟩ := h
 have e1 : w1.heap[g]? = _ := (hb.block g (ltAt h0)).trans h0
 have rowr1 := belowRow rowr hb
 have e2 := setAt e1 1 v
 have e3 := setAt e2 2 (.int .i64 (l.length : Int))
 have g2 := grownSet w1 g 1 v
 have g3 := grownSet (w1.setCell ⟨g, 1, none⟩ v) g 2 (.int .i64 (l.length : Int))
 have g23 := g2.trans g3
 refine ⟨⟨e3, hbg, (ownMore hv hbw).kept g23 (.inr (rowNe hv e1 (by decide))), rowr1.kept g23 (.inr (rowNe rowr1 e1 (by decide))), (Apart.fresh rowr hv (Nat.le_refl _)).symm, Nat.le_refl _, hl, hrs, hs, hf1, hf2, hdw⟩, ?_⟩
 exact World.grownBy.trans ⟨hb.os, hb.tape, hb.output, hb.size, fun k hk _ => hb.block k hk⟩ g23
theorem DkAt.lost {w w1 : World} {base g : Nat} {bv rv v : Value} {d : Dk} {l : List UInt8} (h : DkAt w base g bv rv d) (hd : d.down = true) (hb : Below w.heap.size w w1) (hbw : base ≤ w.heap.size) (hv : w1.ownsRow w.heap.size 5 1 v l.length (bc l)) (hl : l.length ≤ d.size) :
 DkAt ((w1.setCell ⟨g, 5, none⟩ (.bool true)).setCell ⟨g, 6, none⟩ v) base g bv v { d with within := true, rep := l } ∧ w.grownBy ((w1.setCell ⟨g, 5, none⟩ (.bool true)).setCell ⟨g, 6, none⟩ v) (some g) := by
 obtain ⟨h0, hbg, rowb, rowr, hap, hlb, hbs, hrs, hs, hf1, hf2, hdw⟩ := h
 have e1 : w1.heap[g]? = _ := (hb.block g (ltAt h0)).trans h0
 have rowb1 := belowRow rowb hb
 have e2 := setAt e1 5 (.bool true)
 have e3 := setAt e2 6 v
 have g2 := grownSet w1 g 5 (.bool true)
 have g3 := grownSet (w1.setCell ⟨g, 5, none⟩ (.bool true)) g 6 v
 have g23 := g2.trans g3
 refine ⟨⟨e3, hbg, rowb1.kept g23 (.inr (rowNe rowb1 e1 (by decide))), (ownMore hv hbw).kept g23 (.inr (rowNe hv e1 (by decide))), Apart.fresh rowb hv (Nat.le_refl _), hlb, hbs, hl, hs, hf1, hf2, fun _ => hd⟩, ?_⟩
 exact World.grownBy.trans ⟨hb.os, hb.tape, hb.output, hb.size, fun k hk _ => hb.block k hk⟩ g23
set_option maxHeartbeats 1600000 in
theorem dreplace_any (base g : Nat) (bv rv : Value) (d : Dk) (A : Option Addr) (c : Nat) (l : List UInt8) (w : World) (hb : base ≤ w.heap.size) (h : DkAt w base g bv rv d) (hx : SlK w g (.slice A l.length c) l) :
 Calls Tryz.prog 83 #[.pointer (some ⟨g, 0, none⟩), .slice A l.length c] w (Acted w base g bv rv (D.replace d l)) := by
 obtain ⟨c0, c1, c2, c3, c4, c5, c6⟩ := dk_cells h
 have hl0 : l.length ≤ 9223372036854775807 := by
  obtain ⟨_, _, e, h1, h2, _⟩ := hx w (World.grownBy.refl w _)
  unfold maxLen at h2; omega
 have hsz := h.2.2.2.2.2.2.2.2.1
 have H := Lib.hid h
 have HX := Lib.hid hx
 have hA : D.replace d l = if d.down = true then (8, d) else if d.size < l.length then (7, d)
  else if (D.act d).1 = true then (0, { (D.act d).2 with b := l, lasts := l.length }) else (8, { (D.act d).2 with within := true, rep := l }) := rfl
 obtain ⟨p, hp⟩ : ∃ p, p = D.replace d l := ⟨_, rfl⟩
 rw [← hp] at hA ⊢
 have HXa := Lib.hid (act_any base g bv rv d w h)
 have HT := Lib.hid (act_size d)
 clear hp c1 c2 c3 c5 c6 h hx
 by_cases hd : d.down = true
 ·rw [if_pos hd] at hA
  subst hA
  rw [hd] at c4
  clear hd c0
  generalize l.length = n at *
  go_enter Tryz.func83, Tryz.ntmps83
  go_wp2_with fail
  go_ret
  exact ⟨bv, rv, rfl, H.out, grown2.refl _ _ _, .inr (.inl rfl), .inl rfl⟩
 ·rw [if_neg hd] at hA
  have hd' : d.down = false := by simpa using hd
  rw [hd'] at c4
  by_cases hfull : d.size < l.length
  ·rw [if_pos hfull] at hA
   subst hA
   have hlt : ((d.size : Int) < (l.length : Int)) := by omega
   clear hd hd' hfull
   generalize l.length = n at *
   generalize hsl : d.size = s at *
   have HS := Lib.hid hsl
   clear hsl
   go_enter Tryz.func83, Tryz.ntmps83
   go_wp2_with fail
   go_ret
   exact ⟨bv, rv, rfl, H.out, grown2.refl _ _ _, .inr (.inl rfl), .inl rfl⟩
  ·rw [if_neg hfull] at hA
   have hlt : ¬ ((d.size : Int) < (l.length : Int)) := by omega
   have HFL : Hid (l.length ≤ (D.act d).2.size) := by show _ ≤ _; rw [HT.out.1]; omega
   clear hd hd' hfull
   have HN : Hid (l.length ≤ 1099511627776) := by show _ ≤ _; omega
   cases hok : (D.act d).1 with
   | true =>
     rw [hok] at HXa
     rw [if_pos hok] at hA
     have HA := Lib.hid hA
     clear hA hok
     obtain ⟨n, hn⟩ : ∃ n, n = l.length := ⟨_, rfl⟩
     have HNN := Lib.hid hn
     rw [← hn] at HX hl0 hlt ⊢
     clear hn
     generalize hsl : d.size = s at *
     have HS := Lib.hid hsl
     clear hsl
     go_enter Tryz.func83, Tryz.ntmps83
     go_wp2_with fail
     refine HXa.out.mono ?_
     rintro e w1 ⟨rfl, h1, g1⟩
     go_wp2_with fail
     refine (dclone_s (HX.out w1 g1) HN.out g1.size).mono ?_
     rintro e w2 ⟨v2, rfl, own2, b2⟩
     have LD := Lib.hid (h1.laid b2 (Nat.le_trans hb g1.size) own2 HFL.out)
     have e2 := (b2.block g (ltAt h1.1)).trans h1.1
     have f21 := freeAt e2 1
     have f22 := freeAt e2 2
     have c21 := cellAt e2 1
     have c22 := cellAt e2 2
     simp only [zQ] at c21 c22
     have hfr : ∀ k, v2.ownBlock = some k → w.heap.size ≤ k := fun k hk => Nat.le_trans g1.size (own2.lt k hk).1
     have HFR := Lib.hid hfr
     obtain ⟨A2, c2, rfl, _, _, _⟩ := ownShape own2
     clear own2 b2 h1 e2 hfr
     go_wp2_with fail
     go_ret
     rw [HA.out, HNN.out]
     refine ⟨_, rv, rfl, LD.out.1, grown2.ofGrown _ (g1.trans LD.out.2), ?_, .inl rfl⟩
     have hfr := HFR.out
     cases hv : (Value.slice A2 l.length c2).ownBlock with
     | none => exact .inl rfl
     | some k => exact .inr (.inr ⟨k, rfl, hfr k hv⟩)
   | false =>
     have hdn : (D.act d).2.down = true := by
      unfold D.act at hok ⊢
      by_cases h1 : d.fuse = 0
      ·rw [if_pos h1]
      ·rw [if_neg h1] at hok
       by_cases h2 : 0 < d.fuse
       ·rw [if_pos h2] at hok; cases hok
       ·rw [if_neg h2] at hok; cases hok
     have HDN := Lib.hid hdn
     rw [hok] at HXa
     rw [if_neg (by rw [hok]; decide)] at hA
     have HA := Lib.hid hA
     clear hA hok hdn
     obtain ⟨n, hn⟩ : ∃ n, n = l.length := ⟨_, rfl⟩
     have HNN := Lib.hid hn
     rw [← hn] at HX hl0 hlt ⊢
     clear hn
     generalize hsl : d.size = s at *
     have HS := Lib.hid hsl
     clear hsl
     go_enter Tryz.func83, Tryz.ntmps83
     go_wp2_with fail
     refine HXa.out.mono ?_
     rintro e w1 ⟨rfl, h1, g1⟩
     go_wp2_with fail
     refine (dclone_s (HX.out w1 g1) HN.out g1.size).mono ?_
     rintro e w2 ⟨v2, rfl, own2, b2⟩
     have LD := Lib.hid (h1.lost HDN.out b2 (Nat.le_trans hb g1.size) own2 HFL.out)
     have e2 := (b2.block g (ltAt h1.1)).trans h1.1
     have f21 := freeAt e2 5
     have f22 := freeAt e2 6
     have c21 := cellAt e2 5
     have c22 := cellAt e2 6
     simp only [zQ] at c21 c22
     have hfr : ∀ k, v2.ownBlock = some k → w.heap.size ≤ k := fun k hk => Nat.le_trans g1.size (own2.lt k hk).1
     have HFR := Lib.hid hfr
     obtain ⟨A2, c2, rfl, _, _, _⟩ := ownShape own2
     clear own2 b2 h1 e2 hfr
     go_wp2_with fail
     go_ret
     rw [HA.out, HNN.out]
     exact ⟨bv, _, rfl, LD.out.1, grown2.ofGrown _ (g1.trans LD.out.2), .inr (.inl rfl), .inr HFR.out⟩
end Go.Proofs.YtjofjpmhokjhnaaGreatDoor
namespace Go.Proofs.YtjofjpmhokjhnaaGreatDoor
set_option maxRecDepth 20001
open Go.RowKit
theorem SlF.first' {w : World} {B k : Nat} {A : Option Addr} {n c : Nat} {l : List UInt8} (h : SlF w B (.slice A n c) l) (hk : k ≤ n) : SlF w B (.slice A k c) (l.take k) := by
 obtain ⟨A', c', e, h1, h2, h3, h4⟩ := h
 injection e with e1 e2 e3
 subst e1; subst e2; subst e3
 have hl : (l.take k).length = k := by rw [List.length_take]; omega
 refine ⟨A, c, by rw [hl], by rw [hl]; omega, h2, fun h => ?_, by rw [← bc_take]; exact h4.take k⟩
 obtain ⟨rfl, rfl⟩ := h3 h
 simp
end Go.Proofs.YtjofjpmhokjhnaaGreatDoor
namespace Go.Proofs.YtjofjpmhokjhnaaGreatDoor
set_option maxRecDepth 20001
open Go.RowKit
structure Fr (w w' : World) (D : Nat → Prop) : Prop where
 os : w'.os = w.os
 tape : w'.tape = w.tape
 output : w'.output = w.output
 size : w.heap.size ≤ w'.heap.size
 block : ∀ k, k < w.heap.size → ¬ D k → w'.heap[k]? = w.heap[k]?
structure Mv (w w' : World) (D D' : Nat → Prop) : Prop where
 fr : Fr w w' D
 sub : ∀ k, D' k → D k ∨ w.heap.size ≤ k
section
variable {w w' w'' : World} {D D' D'' : Nat → Prop} {B : Nat} {P : World → Prop}
theorem Fr.refl : Fr w w D := ⟨rfl, rfl, rfl, Nat.le_refl _, fun _ _ _ => rfl⟩
theorem Fr.drew : Fr w w.drew D := ⟨rfl, rfl, rfl, Nat.le_refl _, fun _ _ _ => rfl⟩
theorem Mv.refl : Mv w w D D := ⟨Fr.refl, fun _ h => Or.inl h⟩
theorem Fr.ofBelow (h : Below w.heap.size w w') : Fr w w' D := ⟨h.os, h.tape, h.output, h.size, fun k hk _ => h.block k hk⟩
theorem Mv.ofBelow (h : Below w.heap.size w w') : Mv w w' D D := ⟨Fr.ofBelow h, fun _ h => Or.inl h⟩
theorem Mv.trans (h : Mv w w' D D') (g : Mv w' w'' D' D'') : Mv w w'' D D'' :=
 ⟨⟨g.fr.os.trans h.fr.os, g.fr.tape.trans h.fr.tape, g.fr.output.trans h.fr.output, Nat.le_trans h.fr.size g.fr.size, fun k hk hd =>
   (g.fr.block k (Nat.lt_of_lt_of_le hk h.fr.size) (fun e => by rcases h.sub k e with q | q; exact hd q; omega)).trans (h.fr.block k hk hd)⟩,
  fun k hk => by
   rcases g.sub k hk with q | q
   ·exact h.sub k q
   ·exact Or.inr (Nat.le_trans h.fr.size q)⟩
theorem Fr.below (h : Fr w w' D) (hD : ∀ k, D k → B ≤ k) (hB : B ≤ w.heap.size) : Below B w w' :=
 ⟨h.os, h.tape, h.output, h.size, fun k hk => h.block k (by omega) (fun e => by have := hD k e; omega)⟩
def Kp (w : World) (D : Nat → Prop) (P : World → Prop) : Prop := ∀ z, Fr w z D → P z
theorem Kp.out (h : Kp w D P) : P w := h w Fr.refl
theorem Kp.mv (h : Kp w D P) (m : Mv w w' D D') : Kp w' D' P := fun z hz => h z (m.trans ⟨hz, fun k hk => Or.inl hk⟩).fr
theorem Kp.below (h : Kp w D P) (m : Below w.heap.size w w') : Kp w' D P := h.mv (Mv.ofBelow m)
def Ft (g : Nat) (bv rv : Value) : Nat → Prop := fun k => k = g ∨ bv.ownBlock = some k ∨ rv.ownBlock = some k
theorem DkAt.ft {base g k : Nat} {bv rv : Value} {d : Dk} (h : DkAt w base g bv rv d) (hk : Ft g bv rv k) : base ≤ k ∧ k < w.heap.size := by
 rcases hk with rfl | e | e
 ·exact ⟨h.2.1, ltAt h.1⟩
 ·exact h.2.2.1.lt k e
 ·exact h.2.2.2.1.lt k e
def DkP (w : World) (base g : Nat) (bv rv : Value) (p : Nat × Dk) (e : Ending) (w' : World) : Prop :=
 ∃ bv' rv', e = .returned (.int .i64 (p.1 : Int)) ∧ DkAt w' base g bv' rv' p.2 ∧ Mv w w' (Ft g bv rv) (Ft g bv' rv')
theorem Acted.mv {base g : Nat} {bv rv : Value} {p : Nat × Dk} {e : Ending} (h : Acted w base g bv rv p e w') : DkP w base g bv rv p e w' := by
 obtain ⟨bv', rv', h1, h2, h3, h4, h5⟩ := h
 refine ⟨bv', rv', h1, h2, ⟨⟨h3.1, h3.2.1, h3.2.2.1, h3.2.2.2.1, fun k hk hd => h3.2.2.2.2 k hk (fun q => hd (Or.inl q)) (fun q => hd (Or.inr (Or.inl q.symm)))⟩, fun k hk => ?_⟩⟩
 rcases hk with e | e | e
 ·exact Or.inl (Or.inl e)
 ·rcases h4 with q | q | ⟨j, q1, q2⟩
  ·rw [q] at e; cases e
  ·exact Or.inl (Or.inr (Or.inl (q ▸ e)))
  ·rw [q1] at e; cases e; exact Or.inr q2
 ·rcases h5 with q | q
  ·exact Or.inl (Or.inr (Or.inr (q ▸ e)))
  ·exact Or.inr (q k e)
theorem DkAt.mono {base base' g : Nat} {bv rv : Value} {d : Dk} (h : DkAt w base g bv rv d) (hb : base' ≤ base) : DkAt w base' g bv rv d :=
 ⟨h.1, Nat.le_trans hb h.2.1, ownMore h.2.2.1 hb, ownMore h.2.2.2.1 hb, h.2.2.2.2⟩
theorem SlF.bound {v : Value} {l : List UInt8} {B B' : Nat} (h : SlF w B v l) (h' : SlF w' B' v l) : SlF w' B v l := by
 obtain ⟨A, c, e, a1, a2, a3, rd⟩ := h
 obtain ⟨A', c', e', _, _, _, rd'⟩ := h'
 subst e
 injection e' with e1 e2 e3
 subst e1
 refine ⟨A, c, rfl, a1, a2, a3, fun j u hu => ?_⟩
 obtain ⟨b, off, q1, q2, q3⟩ := rd j u hu
 obtain ⟨b', off', p1, p2, p3⟩ := rd' j u hu
 rw [q1] at p1
 injection p1 with p1
 injection p1 with p4 p5 _
 subst p4; subst p5
 exact ⟨b, off, q1, q2, p3⟩
theorem SlF.kp {v : Value} {l : List UInt8} {g : Nat} (h : Kp w D (fun z => SlF z z.heap.size v l)) (hD : ∀ k, k = g → D k) : SlK w g v l := fun w' hg =>
 h.out.bound (h w' ⟨hg.os, hg.tape, hg.output, hg.size, fun k hk hd => hg.block k hk (fun e => hd (hD k (by injection e)))⟩)
end
end Go.Proofs.YtjofjpmhokjhnaaGreatDoor
namespace Go.Proofs.YtjofjpmhokjhnaaGreatDoor.F
def poly : Nat := 3988292384
def step (s : Nat) : Nat := if s % 2 = 1 then (s / 2) ^^^ poly else s / 2
def steps : Nat → Nat → Nat
 | 0, s => s
 | n + 1, s => steps n (step s)
def upd (s : Nat) (b : UInt8) : Nat := steps 8 (s ^^^ b.toNat)
def run (s : Nat) (l : List UInt8) : Nat := l.foldl upd s
def sum (l : List UInt8) : Nat := 4294967295 - run 4294967295 l
theorem step_lt {s : Nat} (h : s < 4294967296) : step s < 4294967296 := by
 unfold step
 split
 ·exact Nat.xor_lt_two_pow (n := 32) (by omega) (by decide)
 ·omega
theorem sum_lt (l : List UInt8) : sum l < 4294967296 := by unfold sum; omega
end Go.Proofs.YtjofjpmhokjhnaaGreatDoor.F
