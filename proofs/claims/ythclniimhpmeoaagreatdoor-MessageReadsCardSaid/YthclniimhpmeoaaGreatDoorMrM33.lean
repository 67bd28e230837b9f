import Derived.Test.YthclniimhpmeoaaGreatDoorMrM32
set_option maxRecDepth 20001
set_option linter.unusedSimpArgs false
set_option linter.unusedVariables false
namespace Go.Proofs.YthclniimhpmeoaaGreatDoor
set_option maxRecDepth 20000
section
open Go.RowKit T
namespace T
def restOf (s : C.St) : List UInt8 := if s.2 = true then [] else s.1
def rcm (l : List UInt8) : Rc :=
 if rk l = 1 then { Rc.zero with kd := rk l, br := (B.take (C.take 1 (l, false)).2).1.1, bn := ((B.take (C.take 1 (l, false)).2).1.2 : Int) }
 else if rk l = 2 then { Rc.zero with kd := rk l, br := (B.take (C.take 1 (l, false)).2).1.1, bn := ((B.take (C.take 1 (l, false)).2).1.2 : Int), sl := ((C.take 4 (B.take (C.take 1 (l, false)).2).2).1 : Int), c := (ctake (C.take 4 (B.take (C.take 1 (l, false)).2).2).2).1 }
 else if rk l = 3 then { Rc.zero with kd := rk l, sl := ((C.take 4 (C.take 1 (l, false)).2).1 : Int), c := (ctake (C.take 4 (C.take 1 (l, false)).2).2).1 }
 else if rk l = 4 then { Rc.zero with kd := rk l, sl := ((C.take 4 (C.take 1 (l, false)).2).1 : Int), dt := restOf (C.take 4 (C.take 4 (C.take 1 (l, false)).2).2).2 }
 else { Rc.zero with kd := rk l, sl := ((C.take 4 (C.take 1 (l, false)).2).1 : Int) }
structure LikeR (a b : Rc) : Prop where
 kd : a.kd = b.kd
 br : a.br = b.br
 bn : a.bn = b.bn
 sl : a.sl = b.sl
 c : SameC a.c b.c = true
 dt : a.dt = b.dt
def rcok (l : List UInt8) : Bool := (rcm l).formed && decide (l = (rcm l).wr)
end T
theorem LikeR.refl (a : Rc) : LikeR a a := ⟨rfl, rfl, rfl, rfl, SameC_self _, rfl⟩
theorem T.LikeR.symm {a b : Rc} (h : LikeR a b) : LikeR b a := ⟨h.kd.symm, h.br.symm, h.bn.symm, h.sl.symm, SameC.symm h.c, h.dt.symm⟩
theorem T.LikeR.trans {a b c : Rc} (h : LikeR a b) (g : LikeR b c) : LikeR a c := ⟨h.kd.trans g.kd, h.br.trans g.br, h.bn.trans g.bn, h.sl.trans g.sl, SameC.trans h.c g.c, h.dt.trans g.dt⟩
theorem T.LikeR.wr {a b : Rc} (h : LikeR a b) : a.wr = b.wr := by
 unfold T.Rc.wr;rw [h.kd, h.br, h.bn, h.sl, SameC.put h.c, SameC.put h.c, h.dt]
theorem slSuf {w : World} {B k cp : Nat} {A : Option Addr} {l : List UInt8} (h : SlB w B (.slice A l.length cp) l) (hk : k ≤ l.length) : SlB w B (.slice (if cp = k then A else A.map (·.add k)) (l.length - k) (cp - k)) (l.drop k) := by
 obtain ⟨A2, c2, e1, h2, h3, h4, h5⟩ := h;injection e1 with e6 e7 e8;subst e6; subst e8;have hcut := h5.cut (k := k) (cap := cp) (by rw [bc_len]; exact h2);rw [bc_drop] at hcut;refine ⟨_, cp - k, by rw [List.length_drop], by rw [List.length_drop]; omega, by unfold maxLen at *; omega, fun e => ?_, hcut⟩
 split at e
 ·obtain ⟨rfl, rfl⟩ := h4 e; simp
 ·simp at e;obtain ⟨rfl, rfl⟩ := h4 e; simp
theorem exec_slice_l {a : Act} {o : Oper} {w : World} (x lo : Operand) {A : Option Addr} {len cap k : Nat} (ho : o.op = .slice 34 x (some lo) none none) (hx : a.eval x = .slice A len cap) (hh : a.eval lo = .int .i64 (k : Int)) (h2 : k ≤ len) :
 (execOp a.eval o).run Tryz.prog w = .ok (.value (.slice (if cap = k then A else A.map (·.add k)) (len - k) (cap - k))) w := by
 have q := run_slice_l (P := Tryz.prog) (w := w) 34 A len cap (by kernel_rfl) .i64 (k : Int) (by omega) (by omega);(have hz : (sizeOf (Tryz.prog.elem 34)).run Tryz.prog w = .ok 1 w := by kernel_rfl);rw [hz] at q;simp only [Result.andThen_ok, sliced, Nat.mul_one, Int.toNat_natCast] at q;unfold execOp;simp only [ho, hx, hh, Option.map_some, Option.map_none, Sem.run_bind, Sem.run_pure, Result.andThen_ok, run_sliceAt_slice (P := Tryz.prog) (w := w) 34 _ _ _ _ (by kernel_rfl), q]
theorem T.LikeR.formed {a b : Rc} (h : LikeR a b) : a.formed = b.formed := by
 unfold T.Rc.formed T.Rc.only;rw [h.kd, h.bn, h.sl, SameC.formed h.c, h.dt]
 by_cases h1 : b.kd = 1
 ·rw [if_pos h1, if_pos h1]; unfold T.Rc.same; simp only [h.kd, h.br, h.bn, h.sl, h.dt, SameC_cong h.c]
 by_cases h2 : b.kd = 2
 ·rw [if_neg h1, if_pos h2, if_neg h1, if_pos h2]; unfold T.Rc.same; simp only [h.kd, h.br, h.bn, h.sl, h.dt, SameC_self]
 by_cases h3 : b.kd = 3
 ·rw [if_neg h1, if_neg h2, if_pos h3, if_neg h1, if_neg h2, if_pos h3]; unfold T.Rc.same; simp only [h.kd, h.br, h.bn, h.sl, h.dt, SameC_self]
 by_cases h4 : b.kd = 4
 ·rw [if_neg h1, if_neg h2, if_neg h3, if_pos h4, if_neg h1, if_neg h2, if_neg h3, if_pos h4]; unfold T.Rc.same; simp only [h.kd, h.br, h.bn, h.sl, h.dt, SameC_cong h.c]
 rw [if_neg h1, if_neg h2, if_neg h3, if_neg h4, if_neg h1, if_neg h2, if_neg h3, if_neg h4]; unfold T.Rc.same; simp only [h.kd, h.br, h.bn, h.sl, h.dt, SameC_cong h.c]
end
section
open Go.RowKit T
structure Goes {α : Type} (f : C.St → α × C.St) : Prop where
 sticky : ∀ l, (f (l, true)).2.2 = true
 more : ∀ p r x q, f (p, false) = (x, (q, false)) → f (p ++ r, false) = (x, (q ++ r, false))
theorem some_goes (n : Nat) : Goes (C.some_ n) := by
 constructor
 ·intro l; unfold C.some_; rw [if_pos (Or.inl rfl)]
 ·intro p r x q h;unfold C.some_ at h ⊢
  by_cases hl : p.length < n
  ·rw [if_pos (Or.inr hl)] at h; injection h with _ h; injection h with _ h; exact Bool.noConfusion h
  ·rw [if_neg (by simp; omega)] at h;injection h with h1 h2;injection h2 with h2 _;rw [if_neg (by simp; omega)];subst h1; subst h2;simp only [List.take_append_of_le_length (show n ≤ p.length by omega), List.drop_append_of_le_length (show n ≤ p.length by omega)]
theorem take_goes (n : Int) : Goes (C.take n) := by
 constructor
 ·intro l; unfold C.take; split
  ·rfl
  ·exact (some_goes n.toNat).sticky l
 ·intro p r x q h;unfold C.take at h ⊢
  split at h
  ·injection h with _ h; injection h with _ h; exact Bool.noConfusion h
  ·rename_i hn
   rw [if_neg hn]
   have e : C.some_ n.toNat (p, false) = ((C.some_ n.toNat (p, false)).1, (q, false)) := by
    injection h with h1 h2; rw [← h2]
   have := (some_goes n.toNat).more p r _ q e;rw [this];injection h with h1 h2;rw [← h1]
theorem Goes.of {α β γ : Type} {f : C.St → α × C.St} {g : α → C.St → β × C.St} (k : α → β → γ) (hf : Goes f) (hg : ∀ a, Goes (g a)) : Goes (fun s => (k (f s).1 (g (f s).1 (f s).2).1, (g (f s).1 (f s).2).2)) := by
 constructor
 ·intro l;have h := hf.sticky l;generalize f (l, true) = a at h;obtain ⟨x, q, b⟩ := a;simp only at h;subst h;exact (hg x).sticky q
 ·intro p r z q h
  cases ha : f (p, false) with
  | mk x s =>
    obtain ⟨m, b⟩ := s;rw [ha] at h;simp only at h
    cases b with
    | true =>
      injection h with _ h;have := (hg x).sticky m;rw [h] at this; exact Bool.noConfusion this
    | false =>
      have h1 := hf.more p r x m ha;injection h with h2 h3;have h4 := (hg x).more m r _ q (Prod.ext (rfl : (g x (m, false)).1 = _) h3);rw [h1];simp only;rw [h4, ← h2]
theorem Goes.if_ {α : Type} {f : C.St → α × C.St} (hf : Goes f) (z : α) (ok : α → Bool) : Goes (fun s => bif (f s).2.2 || !ok (f s).1 then (z, ((f s).2.1, true)) else f s) := by
 constructor
 ·intro l;show (bif (f (l, true)).2.2 || _ then (z, ((f (l, true)).2.1, true)) else f (l, true)).2.2 = true;rw [hf.sticky l]; rfl
 ·intro p r x q h
  cases ha : f (p, false) with
  | mk y s =>
    obtain ⟨m, b⟩ := s;simp only [ha] at h
    cases b with
    | true => injection h with _ h; injection h with _ h; exact Bool.noConfusion h
    | false =>
      cases ho : ok y with
      | false => rw [ho] at h; injection h with _ h; injection h with _ h; exact Bool.noConfusion h
      | true =>
        rw [ho] at h;injection h with h1 h2;injection h2 with h2 _;subst h1; subst h2;simp only [hf.more p r _ _ ha, ho];rfl
theorem pure_goes {α : Type} (x : α) : Goes (fun s => (x, s)) := ⟨fun _ => rfl, fun p r y q h => by injection h with h1 h2; injection h2 with h2 _; subst h1; subst h2; rfl⟩
theorem text_goes (most : Int) : Goes (C.text most) := by
 have e : C.text most = fun s => ((C.some_ (C.take 2 s).1 ((C.take 2 s).2.1, (C.take 2 s).2.2 || decide (most < ((C.take 2 s).1 : Int)))).1, (C.some_ (C.take 2 s).1 ((C.take 2 s).2.1, (C.take 2 s).2.2 || decide (most < ((C.take 2 s).1 : Int)))).2) := rfl;rw [e];refine Goes.of (f := C.take 2) (g := fun n s => C.some_ n (s.1, s.2 || decide (most < (n : Int)))) (fun _ b => b) (take_goes 2) fun n => ⟨fun l => (some_goes n).sticky l, fun p r x q h => ?_⟩
 cases hd : decide (most < (n : Int)) with
 | true => simp only [hd] at h; have := (some_goes n).sticky p; rw [show ((p, false).2 || true) = true from rfl] at h; rw [h] at this; exact Bool.noConfusion this
 | false => simp only [hd] at h ⊢; exact (some_goes n).more p r x q h
theorem vtake0_goes : Goes V.take0 := by
 have e : V.take0 = fun s => ((fun (_ : Nat) (b : Nat × Nat × List UInt8) => b) (C.take 1 s).1 ((if (C.take 1 s).1 = 1 then ((1, (C.take 8 (C.take 1 s).2).1, []), (C.take 8 (C.take 1 s).2).2) else if (C.take 1 s).1 = 2 then ((2, 0, (C.text 40 (C.take 1 s).2).1), (C.text 40 (C.take 1 s).2).2) else (((C.take 1 s).1, 0, []), (C.take 1 s).2) : (Nat × Nat × List UInt8) × C.St)).1,
  ((if (C.take 1 s).1 = 1 then ((1, (C.take 8 (C.take 1 s).2).1, []), (C.take 8 (C.take 1 s).2).2) else if (C.take 1 s).1 = 2 then ((2, 0, (C.text 40 (C.take 1 s).2).1), (C.text 40 (C.take 1 s).2).2) else (((C.take 1 s).1, 0, []), (C.take 1 s).2) : (Nat × Nat × List UInt8) × C.St)).2) := rfl
 rw [e];refine Goes.of (f := C.take 1) (g := fun k s => if k = 1 then ((1, (C.take 8 s).1, []), (C.take 8 s).2) else if k = 2 then ((2, 0, (C.text 40 s).1), (C.text 40 s).2) else ((k, 0, []), s)) (fun _ b => b) (take_goes 1) fun k => ?_
 by_cases h1 : k = 1
 ·simp only [if_pos h1]; exact Goes.of (f := C.take 8) (g := fun x s => ((), s)) (fun x _ => ((1, x, []) : Nat × Nat × List UInt8)) (take_goes 8) fun x => pure_goes ()
 ·by_cases h2 : k = 2
  ·simp only [if_neg h1, if_pos h2]; exact Goes.of (f := C.text 40) (g := fun x s => ((), s)) (fun x _ => ((2, 0, x) : Nat × Nat × List UInt8)) (text_goes 40) fun x => pure_goes ()
  ·simp only [if_neg h1, if_neg h2]; exact pure_goes _
theorem vtake_goes : Goes V.take := by
 have h := vtake0_goes.if_ (0, 0, []) (fun x => V.formed x.1 x.2.1 x.2.2)
 have e : V.take = fun s => bif (V.take0 s).2.2 || !V.formed (V.take0 s).1.1 (V.take0 s).1.2.1 (V.take0 s).1.2.2 then ((0, 0, []), ((V.take0 s).2.1, true)) else V.take0 s := by
  funext s
  unfold V.take
  cases (V.take0 s).2.2 <;> cases V.formed (V.take0 s).1.1 (V.take0 s).1.2.1 (V.take0 s).1.2.2 <;> simp
 rw [e]; exact h
theorem rtake_goes : Goes rtake := Goes.of (f := C.text 12) (g := fun _ s => C.take 8 s) (fun a b => ((a, b) : Rd1)) (text_goes 12) fun _ => take_goes 8
theorem wtake_goes : Goes wtake := Goes.of (f := C.text 12) (g := fun _ s => V.take s) (fun a b => ((a, (b.1 : Int), b.2.1, b.2.2) : Wr1)) (text_goes 12) fun _ => vtake_goes
theorem many_goes {α : Type} {f : C.St → α × C.St} (hf : Goes f) : ∀ (n : Nat) (acc : List α), Goes (fun s => many f n (acc, s))
 | 0, acc => pure_goes acc
 | n + 1, acc => Goes.of (f := f) (g := fun x s => many f n (acc ++ [x], s)) (fun _ b => b) hf fun x => many_goes hf n (acc ++ [x])
end
section
open Go.RowKit T
theorem nz_nat {x : Int} (h : 0 ≤ x) (g : x < 18446744073709551616) : T.nz x = x.toNat := by unfold T.nz; omega
theorem bback (br : Nat) (bn : Int) (r : List UInt8) (h1 : br < 4294967296) (h2 : B.formed bn = true) : B.take (B.put [] br bn ++ r, false) = ((br, bn.toNat), (r, false)) := by
 (have hb : 0 ≤ bn ∧ bn < 5 := by unfold B.formed at h2; simpa using h2);have hz : T.nz bn = bn.toNat := nz_nat hb.1 (by omega)
 have e : B.put [] br bn ++ r = C.be br 4 ++ (C.be bn.toNat 1 ++ r) := by
  unfold B.put;rw [put4, put1, hz]; simp
 unfold B.take;rw [e, take4 br h1, take1 bn.toNat (by omega)];(have hf : B.formed ((bn.toNat : Nat) : Int) = true := by rw [show ((bn.toNat : Nat) : Int) = bn by omega]; exact h2);show (if false = true ∨ B.formed ((bn.toNat : Nat) : Int) = false then _ else _) = _;rw [hf, if_neg (by simp)]
theorem putA (l : List UInt8) (x : Nat) (n : Int) : C.put l x n = l ++ C.put [] x n := by unfold C.put; simp
theorem textA (l s : List UInt8) : C.putText l s = l ++ C.putText [] s := by unfold C.putText; simp
theorem bputA (l : List UInt8) (r : Nat) (n : Int) : B.put l r n = l ++ B.put [] r n := by
 unfold B.put; rw [putA (C.put l r 4), putA l, putA (C.put [] r 4)]; simp
theorem cputA (l : List UInt8) (x : Cm) : cput l x = l ++ cput [] x := by
 unfold cput
 cases x.formed with
 | false => simp
 | true =>
   simp only [cond_true]
   split
   ·rw [tput_app (C.put l 1 1), tput_app (C.put [] 1 1), putA l]; simp
   split
   ·rw [putA (C.put (idput (C.put l 2 1) x.i x.j) x.g.toNat 1), putA (idput (C.put l 2 1) x.i x.j), idput_app (C.put l 2 1), putA l,
     putA (C.put (idput (C.put [] 2 1) x.i x.j) x.g.toNat 1), putA (idput (C.put [] 2 1) x.i x.j), idput_app (C.put [] 2 1)]; simp
   split
   ·rw [putA (C.put (idput (C.put l 3 1) x.i x.j) x.g.toNat 1), putA (idput (C.put l 3 1) x.i x.j), idput_app (C.put l 3 1), putA l,
     putA (C.put (idput (C.put [] 3 1) x.i x.j) x.g.toNat 1), putA (idput (C.put [] 3 1) x.i x.j), idput_app (C.put [] 3 1)]; simp
   ·exact putA l 0 1
theorem wputA (m : Ms) (l : List UInt8) (c : Nat) : m.wput l c = l ++ m.wput [] c := by
 unfold T.Ms.wput
 by_cases h66 : c = 66
 ·rw [if_pos h66, if_pos h66, bputA]
 rw [if_neg h66, if_neg h66]
 by_cases h83 : c = 83
 ·rw [if_pos h83, if_pos h83, putA]
 rw [if_neg h83, if_neg h83]
 by_cases h72 : c = 72
 ·rw [if_pos h72, if_pos h72]
  by_cases hh : m.ha = true
  ·rw [if_pos hh, if_pos hh, cputA, bputA, putA, cputA (B.put (C.put [] (T.bit m.ha) 1) m.vr m.vn), bputA (C.put [] (T.bit m.ha) 1)]; simp
  ·rw [if_neg hh, if_neg hh, putA]
 rw [if_neg h72, if_neg h72]
 by_cases h67 : c = 67
 ·rw [if_pos h67, if_pos h67, cputA]
 rw [if_neg h67, if_neg h67]
 by_cases h84 : c = 84
 ·rw [if_pos h84, if_pos h84, tput_app]
 rw [if_neg h84, if_neg h84]
 by_cases h73 : c = 73
 ·rw [if_pos h73, if_pos h73, idput_app]
 rw [if_neg h73, if_neg h73]
 by_cases h71 : c = 71
 ·rw [if_pos h71, if_pos h71, putA]
 rw [if_neg h71, if_neg h71]
 by_cases h80 : c = 80
 ·rw [if_pos h80, if_pos h80, putA]
 rw [if_neg h80, if_neg h80]
 by_cases h89 : c = 89
 ·rw [if_pos h89, if_pos h89, putA]
 rw [if_neg h89, if_neg h89]
 by_cases h78 : c = 78
 ·rw [if_pos h78, if_pos h78, putA]
 rw [if_neg h78, if_neg h78]
 by_cases h75 : c = 75
 ·rw [if_pos h75, if_pos h75, textA]
 rw [if_neg h75, if_neg h75]
 by_cases h86 : c = 86
 ·rw [if_pos h86, if_pos h86, putA]
 rw [if_neg h86, if_neg h86]
 by_cases h88 : c = 88
 ·rw [if_pos h88, if_pos h88, V.put_app]
 rw [if_neg h88, if_neg h88]
 by_cases h69 : c = 69
 ·rw [if_pos h69, if_pos h69, putA]
 rw [if_neg h69, if_neg h69]
 by_cases h68 : c = 68
 ·rw [if_pos h68, if_pos h68, putA]; simp
 rw [if_neg h68, if_neg h68]; simp
structure Sound (m : Ms) : Prop where
 b : (66 : UInt8) ∈ fieldsOf m.kd → B.formed m.bn = true
 v : m.ha = true → B.formed m.vn = true
 c : ((67 : UInt8) ∈ fieldsOf m.kd ∨ m.ha = true) → m.c.formed = true
 t : (84 : UInt8) ∈ fieldsOf m.kd → T.formed m.t.s m.t.q m.t.rs m.t.ws = true
 i : (73 : UInt8) ∈ fieldsOf m.kd → T.idb m.ii m.ij = true
 x : V.formed m.vk m.vb m.vt.data.toList = true
 k : (75 : UInt8) ∈ fieldsOf m.kd → m.ky.data.toList.length ≤ 12
 sl : 0 ≤ m.sl ∧ m.sl ≤ 1000000
 nu : 0 ≤ m.nu ∧ m.nu ≤ 2147483647
 g : 0 ≤ m.g ∧ m.g < 4
 er : 0 ≤ m.er ∧ m.er ≤ 11
 dt : m.dt.length ≤ 59900
 only : m.only.same m = true
theorem soundOf {m : Ms} (h : m.formed = true) : Sound m := by
 unfold T.Ms.formed T.Ms.fit T.Ms.sound at h;simp only [Bool.and_eq_true, Bool.not_eq_true', Bool.and_eq_false_iff, decide_eq_false_iff_not, Bool.not_eq_false', Bool.or_eq_false_iff] at h;obtain ⟨⟨⟨⟨⟨⟨⟨⟨⟨⟨⟨h0, h1⟩, h2⟩, h3⟩, h4⟩, h5⟩, h6⟩, h7⟩, h8⟩, h9⟩, h10⟩, ⟨⟨⟨⟨⟨⟨s1, s2⟩, s3⟩, s4⟩, s5⟩, s6⟩, s7⟩⟩ := h;refine ⟨fun q => ?_, fun q => ?_, fun q => ?_, fun q => ?_, fun q => ?_, s6, fun q => ?_, by omega, by omega, by omega, by omega, by omega, h1⟩
 ·rcases s1 with s | s
  ·exact absurd q s
  ·exact s
 ·rcases s2 with s | s
  ·rw [q] at s; cases s
  ·exact s
 ·rcases s3 with s | s
  ·rcases q with q | q
   ·exact absurd q s.1
   ·rw [q] at s; cases s.2
  ·exact s
 ·rcases s4 with s | s
  ·exact absurd q s
  ·exact s
 ·rcases s5 with s | s
  ·exact absurd q s
  ·exact s
 ·rcases s7 with (s | s) | ⟨s, _⟩
  ·exact absurd q s
  ·exact key_len s
  ·rw [of_decide_eq_true s]; simp
structure FitsM (m : Ms) : Prop where
 n : NumOk m
 c : Fits m.c
 r : ∀ x ∈ m.t.rs, okR x
 w : ∀ x ∈ m.t.ws, okW x
theorem fitsOf {w : World} {B : Nat} {m : Ms} (h : MsOk w B m) : FitsM m := ⟨⟨h.ks, h.ts, h.br, h.vr, h.vb, h.ve, h.st⟩, h.c.fits, h.t.ro, h.t.wo⟩
theorem tback' (s q : Int) (rs : List Rd1) (ws : List Wr1) (r : List UInt8) (h : T.formed s q rs ws = true) (ho : ∀ x ∈ rs, okR x) (hw : ∀ x ∈ ws, okW x) :
 ttake (tput [] s q rs ws ++ r, false) = (((s.toNat, q.toNat), rs, ws), (r, false)) ∧ ((s.toNat : Nat) : Int) = s ∧ ((q.toNat : Nat) : Int) = q := by
 obtain ⟨a, b, e1, e2, _, _, _, _⟩ := idb_nat (formed_few h).1;subst e1; subst e2;exact ⟨tback a b rs ws r h ho hw, rfl, rfl⟩
theorem idback' (s q : Int) (r : List UInt8) (h : idb s q = true) : idtake (idput [] s q ++ r, false) = ((s.toNat, q.toNat), (r, false)) ∧ ((s.toNat : Nat) : Int) = s ∧ ((q.toNat : Nat) : Int) = q := by
 obtain ⟨a, b, e1, e2, _, _, _, _⟩ := idb_nat h;subst e1; subst e2;exact ⟨idback a b h r, rfl, rfl⟩
theorem put_none (m o : Ms) (c : Nat) (hB : c ≠ 66) (hS : c ≠ 83) (hH : c ≠ 72) (hC : c ≠ 67) (hT : c ≠ 84) (hI : c ≠ 73) (hG : c ≠ 71) (hP : c ≠ 80) (hY : c ≠ 89) (hN : c ≠ 78) (hK : c ≠ 75) (hV : c ≠ 86) (hX : c ≠ 88) (hE : c ≠ 69) (hD : c ≠ 68) : m.put o c = o := by
 unfold T.Ms.put;rw [if_neg hB, if_neg hS, if_neg hH, if_neg hC, if_neg hT, if_neg hI, if_neg hG, if_neg hP, if_neg hY, if_neg hN, if_neg hK, if_neg hV, if_neg hX, if_neg hE, if_neg hD]
theorem arr_back (s : ByteArray) : (⟨s.data.toList.toArray⟩ : ByteArray) = s := by cases s; simp
theorem mtk_back (m : Ms) (S : Sound m) (F : FitsM m) (c : UInt8) (hc : c ∈ fieldsOf m.kd) (q : Ms) (hd : c = 68 → q.dt = []) (r : List UInt8) :
 ∃ q', mtk (q, (m.wput [] c.toNat ++ r, false)) c.toNat = (q', (r, false)) ∧ Like q' (m.put q c.toNat) := by
 have hL := Like.refl q
 by_cases hB : c.toNat = 66
 ·(have hm : (66 : UInt8) ∈ fieldsOf m.kd := by rw [← show c = 66 from UInt8.toNat_inj.1 hB]; exact hc);rw [hB];(have hb : 0 ≤ m.bn ∧ m.bn < 5 := by have := S.b hm; unfold B.formed at this; simpa using this);rw [mtk_B, wput_B];simp only;rw [bback m.br m.bn r F.n.br (S.b hm)];exact ⟨_, rfl, { hL with br := rfl, bn := (by show ((m.bn.toNat : Nat) : Int) = m.bn; omega) }⟩
 by_cases hS : c.toNat = 83
 ·(have hm : (83 : UInt8) ∈ fieldsOf m.kd := by rw [← show c = 83 from UInt8.toNat_inj.1 hS]; exact hc);rw [hS];rw [mtk_S, wput_S, put4, List.nil_append];simp only;rw [take4 _ (by have := S.sl; unfold T.nz; omega)];exact ⟨_, rfl, { hL with sl := nz_of S.sl.1 (by have := S.sl; omega) }⟩
 by_cases hH : c.toNat = 72
 ·(have hm : (72 : UInt8) ∈ fieldsOf m.kd := by rw [← show c = 72 from UInt8.toNat_inj.1 hH]; exact hc);rw [hH];rw [wput_H]
  cases hh : m.ha with
  | false =>
    rw [if_neg (by decide), show T.bit false = 0 from rfl, put1, List.nil_append];have ht : C.take 1 (C.be 0 1 ++ r, false) = (0, (r, false)) := take1 0 (by decide) r;rw [mtk_H0 _ (by show ¬ (C.take 1 (C.be 0 1 ++ r, false)).1 = 1; rw [ht]; exact Nat.zero_ne_one)];simp only;rw [ht];refine ⟨_, rfl, ?_⟩;rw [show m.put q 72 = (if m.ha then { q with ha := m.ha, vr := m.vr, vn := m.vn, c := m.c } else { q with ha := m.ha }) from rfl, hh];exact { hL with ha := rfl }
  | true =>
    rw [if_pos rfl, show T.bit true = 1 from rfl];(have hv : 0 ≤ m.vn ∧ m.vn < 5 := by have := S.v hh; unfold B.formed at this; simpa using this)
    have e : cput (B.put (C.put [] 1 1) m.vr m.vn) m.c ++ r = C.be 1 1 ++ (B.put [] m.vr m.vn ++ (cput [] m.c ++ r)) := by
     rw [cputA, bputA, put1]; simp
    rw [e];have ht : C.take 1 (C.be 1 1 ++ (B.put [] m.vr m.vn ++ (cput [] m.c ++ r)), false) = (1, (B.put [] m.vr m.vn ++ (cput [] m.c ++ r), false)) := take1 1 (by decide) _;obtain ⟨y, hy, hs⟩ := cback m.c r (S.c (Or.inr hh)) F.c;rw [mtk_H1 _ (by show (C.take 1 (C.be 1 1 ++ _, false)).1 = 1; rw [ht])];simp only;rw [ht];simp only;rw [bback m.vr m.vn _ F.n.vr (S.v hh)];simp only;rw [hy];refine ⟨_, rfl, ?_⟩;rw [show m.put q 72 = (if m.ha then { q with ha := m.ha, vr := m.vr, vn := m.vn, c := m.c } else { q with ha := m.ha }) from rfl, hh];exact { hL with ha := rfl, vr := rfl, vn := (by show ((m.vn.toNat : Nat) : Int) = m.vn; omega), c := hs }
 by_cases hC : c.toNat = 67
 ·(have hm : (67 : UInt8) ∈ fieldsOf m.kd := by rw [← show c = 67 from UInt8.toNat_inj.1 hC]; exact hc);rw [hC];obtain ⟨y, hy, hs⟩ := cback m.c r (S.c (Or.inl hm)) F.c;rw [mtk_C, wput_C];simp only;rw [hy];exact ⟨_, rfl, { hL with c := hs }⟩
 by_cases hT : c.toNat = 84
 ·(have hm : (84 : UInt8) ∈ fieldsOf m.kd := by rw [← show c = 84 from UInt8.toNat_inj.1 hT]; exact hc);rw [hT];obtain ⟨e1, e2, e3⟩ := tback' m.t.s m.t.q m.t.rs m.t.ws r (S.t hm) F.r F.w;rw [mtk_T, wput_T];simp only;rw [e1];exact ⟨_, rfl, { hL with ts := e2, tq := e3, tr := rfl, tw := rfl }⟩
 by_cases hI : c.toNat = 73
 ·(have hm : (73 : UInt8) ∈ fieldsOf m.kd := by rw [← show c = 73 from UInt8.toNat_inj.1 hI]; exact hc);rw [hI];obtain ⟨e1, e2, e3⟩ := idback' m.ii m.ij r (S.i hm);rw [mtk_I, wput_I];simp only;rw [e1];exact ⟨_, rfl, { hL with ii := e2, ij := e3 }⟩
 by_cases hG : c.toNat = 71
 ·(have hm : (71 : UInt8) ∈ fieldsOf m.kd := by rw [← show c = 71 from UInt8.toNat_inj.1 hG]; exact hc);rw [hG];rw [mtk_G, wput_G, put1, List.nil_append];simp only;rw [take1 _ (by have := S.g; unfold T.nz; omega)];exact ⟨_, rfl, { hL with g := nz_of S.g.1 (by have := S.g; omega) }⟩
 by_cases hP : c.toNat = 80
 ·(have hm : (80 : UInt8) ∈ fieldsOf m.kd := by rw [← show c = 80 from UInt8.toNat_inj.1 hP]; exact hc);rw [hP];rw [mtk_P, wput_P, put8, List.nil_append];simp only;rw [take8 _ F.n.st];exact ⟨_, rfl, { hL with st := rfl }⟩
 by_cases hY : c.toNat = 89
 ·(have hm : (89 : UInt8) ∈ fieldsOf m.kd := by rw [← show c = 89 from UInt8.toNat_inj.1 hY]; exact hc);rw [hY];rw [mtk_Y, wput_Y, put1, List.nil_append];simp only;rw [take1 _ (by cases m.ye <;> decide)];exact ⟨_, rfl, { hL with ye := (by show decide (T.bit m.ye = 1) = m.ye; cases m.ye <;> rfl) }⟩
 by_cases hN : c.toNat = 78
 ·(have hm : (78 : UInt8) ∈ fieldsOf m.kd := by rw [← show c = 78 from UInt8.toNat_inj.1 hN]; exact hc);rw [hN];rw [mtk_N, wput_N, put4, List.nil_append];simp only;rw [take4 _ (by have := S.nu; unfold T.nz; omega)];exact ⟨_, rfl, { hL with nu := nz_of S.nu.1 (by have := S.nu; omega) }⟩
 by_cases hK : c.toNat = 75
 ·(have hm : (75 : UInt8) ∈ fieldsOf m.kd := by rw [← show c = 75 from UInt8.toNat_inj.1 hK]; exact hc);rw [hK];have hk := S.k hm;rw [mtk_K, wput_K, text_short [] _ (by omega), List.nil_append];simp only;rw [text_app 12 _ r (by omega) (by omega)];exact ⟨_, rfl, { hL with ky := arr_back m.ky }⟩
 by_cases hV : c.toNat = 86
 ·(have hm : (86 : UInt8) ∈ fieldsOf m.kd := by rw [← show c = 86 from UInt8.toNat_inj.1 hV]; exact hc);rw [hV];rw [mtk_V, wput_V, put8, List.nil_append];simp only;rw [take8 _ F.n.ve];exact ⟨_, rfl, { hL with ve := rfl }⟩
 by_cases hX : c.toNat = 88
 ·(have hm : (88 : UInt8) ∈ fieldsOf m.kd := by rw [← show c = 88 from UInt8.toNat_inj.1 hX]; exact hc);rw [hX];obtain ⟨e1, e2, e3, e4⟩ := vback m.vk m.vb m.vt.data.toList r F.n.vb S.x;rw [mtk_X, wput_X];refine ⟨_, Prod.ext rfl e4, { hL with vk := e1, vb := e2, vt := ?_ }⟩;show (⟨(V.take (V.put [] m.vk m.vb m.vt.data.toList ++ r, false)).1.2.2.toArray⟩ : ByteArray) = m.vt;rw [e3]
 by_cases hE : c.toNat = 69
 ·(have hm : (69 : UInt8) ∈ fieldsOf m.kd := by rw [← show c = 69 from UInt8.toNat_inj.1 hE]; exact hc);rw [hE];rw [mtk_E, wput_E, put1, List.nil_append];simp only;rw [take1 _ (by have := S.er; unfold T.nz; omega)];exact ⟨_, rfl, { hL with er := nz_of S.er.1 (by have := S.er; omega) }⟩
 by_cases hD : c.toNat = 68
 ·(have hm : (68 : UInt8) ∈ fieldsOf m.kd := by rw [← show c = 68 from UInt8.toNat_inj.1 hD]; exact hc);rw [hD];have hdt := S.dt;(have e : C.put [] m.dt.length 4 ++ m.dt ++ r = C.be m.dt.length 4 ++ (m.dt ++ r) := by rw [put4]; simp);have h4 : C.take 4 (C.be m.dt.length 4 ++ (m.dt ++ r), false) = (m.dt.length, (m.dt ++ r, false)) := take4 _ (by omega) _;have hmin : min m.dt.length (m.dt ++ r).length = m.dt.length := Nat.min_eq_left (by rw [List.length_append]; omega)
  have h5 : dtake (C.be m.dt.length 4 ++ (m.dt ++ r), false) = (m.dt, (r, false)) := by
   unfold dtake C.left;rw [h4];simp only [Bool.false_eq_true, if_false, hmin, List.take_left', List.drop_left']
  rw [mtk_D, wput_D, e];simp only;rw [h5];refine ⟨_, rfl, { hL with dt := ?_ }⟩;show q.dt ++ m.dt = m.dt;rw [hd (UInt8.toNat_inj.1 hD)]; rfl
 rw [mtk_none _ _ hB hS hH hC hT hI hG hP hY hN hK hV hX hE hD, wput_none m _ _ hB hS hH hC hT hI hG hP hY hN hK hV hX hE hD, put_none m _ _ hB hS hH hC hT hI hG hP hY hN hK hV hX hE hD];exact ⟨q, rfl, hL⟩
theorem T.Like.put {a b : Ms} (m : Ms) (h : Like a b) (c : Nat) : Like (m.put a c) (m.put b c) := by
 by_cases hB : c = 66
 ·subst hB;exact { h with br := rfl, bn := rfl }
 by_cases hS : c = 83
 ·subst hS;exact { h with sl := rfl }
 by_cases hH : c = 72
 ·subst hH;show Like (if m.ha then { a with ha := m.ha, vr := m.vr, vn := m.vn, c := m.c } else { a with ha := m.ha }) (if m.ha then { b with ha := m.ha, vr := m.vr, vn := m.vn, c := m.c } else { b with ha := m.ha })
  split
  ·exact { h with ha := rfl, vr := rfl, vn := rfl, c := SameC_self _ }
  ·exact { h with ha := rfl }
 by_cases hC : c = 67
 ·subst hC;exact { h with c := SameC_self _ }
 by_cases hT : c = 84
 ·subst hT;exact { h with ts := rfl, tq := rfl, tr := rfl, tw := rfl }
 by_cases hI : c = 73
 ·subst hI;exact { h with ii := rfl, ij := rfl }
 by_cases hG : c = 71
 ·subst hG;exact { h with g := rfl }
 by_cases hP : c = 80
 ·subst hP;exact { h with st := rfl }
 by_cases hY : c = 89
 ·subst hY;exact { h with ye := rfl }
 by_cases hN : c = 78
 ·subst hN;exact { h with nu := rfl }
 by_cases hK : c = 75
 ·subst hK;exact { h with ky := rfl }
 by_cases hV : c = 86
 ·subst hV;exact { h with ve := rfl }
 by_cases hX : c = 88
 ·subst hX;exact { h with vk := rfl, vb := rfl, vt := rfl }
 by_cases hE : c = 69
 ·subst hE;exact { h with er := rfl }
 by_cases hD : c = 68
 ·subst hD;exact { h with dt := rfl }
 rw [put_none m a c hB hS hH hC hT hI hG hP hY hN hK hV hX hE hD, put_none m b c hB hS hH hC hT hI hG hP hY hN hK hV hX hE hD];exact h
theorem T.Like.trans {a b c : Ms} (h : Like a b) (g : Like b c) : Like a c :=
 ⟨h.kd.trans g.kd, h.br.trans g.br, h.bn.trans g.bn, h.sl.trans g.sl, h.ha.trans g.ha, h.vr.trans g.vr, h.vn.trans g.vn, SameC.trans h.c g.c, h.ts.trans g.ts, h.tq.trans g.tq, h.tr.trans g.tr, h.tw.trans g.tw, h.ii.trans g.ii, h.ij.trans g.ij, h.g.trans g.g, h.st.trans g.st, h.ye.trans g.ye, h.nu.trans g.nu, h.ky.trans g.ky, h.ve.trans g.ve, h.vk.trans g.vk, h.vb.trans g.vb, h.vt.trans g.vt, h.er.trans g.er, h.dt.trans g.dt⟩
theorem T.Like.symm {a b : Ms} (h : Like a b) : Like b a :=
 ⟨h.kd.symm, h.br.symm, h.bn.symm, h.sl.symm, h.ha.symm, h.vr.symm, h.vn.symm, SameC.symm h.c, h.ts.symm, h.tq.symm, h.tr.symm, h.tw.symm, h.ii.symm, h.ij.symm, h.g.symm, h.st.symm, h.ye.symm, h.nu.symm, h.ky.symm, h.ve.symm, h.vk.symm, h.vb.symm, h.vt.symm, h.er.symm, h.dt.symm⟩
theorem T.Like.fold {a b : Ms} (m : Ms) (fs : List UInt8) (h : Like a b) : Like (fs.foldl (fun o l => m.put o l.toNat) a) (fs.foldl (fun o l => m.put o l.toNat) b) := by
 induction fs generalizing a b with
 | nil => exact h
 | cons c r ih => exact ih (h.put m c.toNat)
theorem put_dt (m o : Ms) (c : Nat) (h : c ≠ 68) : (m.put o c).dt = o.dt := by
 by_cases hB : c = 66
 ·subst hB;rfl
 by_cases hS : c = 83
 ·subst hS;rfl
 by_cases hH : c = 72
 ·subst hH;show (if m.ha then { o with ha := m.ha, vr := m.vr, vn := m.vn, c := m.c } else { o with ha := m.ha } : Ms).dt = _
  split <;> rfl
 by_cases hC : c = 67
 ·subst hC;rfl
 by_cases hT : c = 84
 ·subst hT;rfl
 by_cases hI : c = 73
 ·subst hI;rfl
 by_cases hG : c = 71
 ·subst hG;rfl
 by_cases hP : c = 80
 ·subst hP;rfl
 by_cases hY : c = 89
 ·subst hY;rfl
 by_cases hN : c = 78
 ·subst hN;rfl
 by_cases hK : c = 75
 ·subst hK;rfl
 by_cases hV : c = 86
 ·subst hV;rfl
 by_cases hX : c = 88
 ·subst hX;rfl
 by_cases hE : c = 69
 ·subst hE;rfl
 rw [put_none m o c hB hS hH hC hT hI hG hP hY hN hK hV hX hE h]
theorem formed_kd2 (m : Ms) (hf : m.formed = true) : 1 ≤ m.kd ∧ m.kd ≤ 15 := by
 rw [formed_eq] at hf;unfold T.Ms.rformed at hf
 by_cases h1 : m.kd < 1
 ·simp [h1] at hf
 by_cases h2 : m.kd > 15
 ·simp [h2] at hf
 omega
theorem fold_back (m : Ms) (S : Sound m) (F : FitsM m) : ∀ (fs : List UInt8), (∀ c ∈ fs, c ∈ fieldsOf m.kd) → fs.Nodup → ∀ (q : Ms) (r : List UInt8), ((68 : UInt8) ∈ fs → q.dt = []) →
 ∃ q', fs.foldl (fun p c => mtk p c.toNat) (q, (fs.foldl (fun l c => m.wput l c.toNat) [] ++ r, false)) = (q', (r, false)) ∧ Like q' (fs.foldl (fun o l => m.put o l.toNat) q)
 | [], _, _, q, r, _ => ⟨q, rfl, Like.refl q⟩
 | c :: fs, hm, hn, q, r, hd => by
   have hn2 := List.nodup_cons.1 hn;obtain ⟨q1, h1, l1⟩ := mtk_back m S F c (hm c List.mem_cons_self) q (fun e => hd (by rw [e]; exact List.mem_cons_self)) (fs.foldl (fun l c => m.wput l c.toNat) [] ++ r)
   obtain ⟨q2, h2, l2⟩ := fold_back m S F fs (fun x hx => hm x (List.mem_cons_of_mem _ hx)) hn2.2 q1 r (fun h68 => by
    rw [l1.dt, put_dt m q c.toNat (fun e => hn2.1 (by rw [show c = 68 from UInt8.toNat_inj.1 e]; exact h68))]
    exact hd (List.mem_cons_of_mem _ h68))
   refine ⟨q2, ?_, l2.trans (l1.fold m fs)⟩;rw [List.foldl_cons, List.foldl_cons, fold_app (fun (l : List UInt8) (c : UInt8) => m.wput l c.toNat) (fun l c => wputA m l c.toNat) fs (m.wput [] c.toNat), List.append_assoc, h1];exact h2
theorem fields_nodup (k : Int) : (fieldsOf k).Nodup := by
 by_cases k1 : k = 1
 ·subst k1; decide
 by_cases k2 : k = 2
 ·subst k2; decide
 by_cases k3 : k = 3
 ·subst k3; decide
 by_cases k4 : k = 4
 ·subst k4; decide
 by_cases k5 : k = 5
 ·subst k5; decide
 by_cases k6 : k = 6
 ·subst k6; decide
 by_cases k7 : k = 7
 ·subst k7; decide
 by_cases k8 : k = 8
 ·subst k8; decide
 by_cases k9 : k = 9
 ·subst k9; decide
 by_cases k10 : k = 10
 ·subst k10; decide
 by_cases k11 : k = 11
 ·subst k11; decide
 by_cases k12 : k = 12
 ·subst k12; decide
 by_cases k13 : k = 13
 ·subst k13; decide
 by_cases k14 : k = 14
 ·subst k14; decide
 by_cases k15 : k = 15
 ·subst k15; decide
 rw [show fieldsOf k = [] from by unfold fieldsOf; simp only [k1, k2, k3, k4, k5, k6, k7, k8, k9, k10, k11, k12, k13, k14, k15, if_false, or_self]];exact List.nodup_nil
theorem baExt {a b : ByteArray} (h : a.toList = b.toList) : a = b := by
 rw [Lib.toList_data, Lib.toList_data] at h
 cases a with | mk x => cases b with | mk y => exact congrArg ByteArray.mk (Array.toList_inj.1 h)
theorem likeOf {a b : Ms} (h : a.same b = true) : Like a b := by
 unfold T.Ms.same at h;simp only [Bool.and_eq_true, beq_iff_eq, decide_eq_true_eq] at h;obtain ⟨⟨⟨⟨⟨⟨⟨⟨⟨⟨⟨⟨⟨⟨⟨⟨h1, h2⟩, h3⟩, h4⟩, h5⟩, h6⟩, h7⟩, h8⟩, h9⟩, h10⟩, h11⟩, h12⟩, h13⟩, h14⟩, h15⟩, h16⟩, h17⟩ := h;unfold SameT at h16;rw [decide_eq_true_eq] at h16;obtain ⟨t1, t2, t3, t4⟩ := h16;exact ⟨h1, h2.1, h2.2, h3, h4, h5.1, h5.2, h15, t1, t2, t3, t4, h6.1, h6.2, h7, by omega, h9, h10, baExt h11, by omega, h13.1, h13.2.1, baExt h13.2.2, h14, h17⟩
theorem rdm_wr (m : Ms) (hf : m.formed = true) (F : FitsM m) (r : List UInt8) : Like (rdm (m.wr ++ r)) m := by
 have S := soundOf hf;obtain ⟨k1, k2⟩ := formed_kd2 m hf;have hk : T.nz m.kd = m.kd.toNat := nz_nat (by omega) (by omega)
 have e : m.wr ++ r = C.be m.kd.toNat 1 ++ ((fieldsOf m.kd).foldl (fun l c => m.wput l c.toNat) [] ++ r) := by
  unfold T.Ms.wr;rw [fold_app (fun (l : List UInt8) (c : UInt8) => m.wput l c.toNat) (fun l c => wputA m l c.toNat) (fieldsOf m.kd) (C.put [] (T.nz m.kd) 1), put1, hk];simp
 (have h1 : C.take 1 (m.wr ++ r, false) = (m.kd.toNat, ((fieldsOf m.kd).foldl (fun l c => m.wput l c.toNat) [] ++ r, false)) := by rw [e]; exact take1 _ (by omega) _);(have hrk : rk (m.wr ++ r) = m.kd := by unfold rk; rw [h1]; show ((m.kd.toNat : Nat) : Int) = m.kd; omega);obtain ⟨q, hq, lq⟩ := fold_back m S F (fieldsOf m.kd) (fun _ h => h) (fields_nodup m.kd) (Ms.zero m.kd) r (fun _ => rfl);unfold rdm;rw [hrk, h1];simp only;rw [hq];exact lq.trans (likeOf S.only)
theorem rok_wr (m : Ms) (hf : m.formed = true) (F : FitsM m) : rok m.wr = true := by
 have h := rdm_wr m hf F [];rw [List.append_nil] at h;unfold rok;rw [h.formed, h.wr, hf]; simp
end
end Go.Proofs.YthclniimhpmeoaaGreatDoor
