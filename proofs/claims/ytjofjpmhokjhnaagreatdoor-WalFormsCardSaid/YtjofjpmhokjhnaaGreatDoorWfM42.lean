import Derived.Test.YtjofjpmhokjhnaaGreatDoorWfM39
import Derived.Test.YtjofjpmhokjhnaaGreatDoorWfM40
import Derived.Test.YtjofjpmhokjhnaaGreatDoorWfM41
import Derived.Test.YtjofjpmhokjhnaaGreatDoorWfM6
import Derived.Test.YtjofjpmhokjhnaaGreatDoorWfM4
set_option linter.unusedSimpArgs false
set_option linter.unusedVariables false
namespace Go.Proofs.YtjofjpmhokjhnaaGreatDoor
set_option maxRecDepth 20000
open Go.RowKit T
namespace T
def LikeL (xs ys : List Rc) : Prop := xs.length = ys.length ∧ ∀ (i : Nat) (a b : Rc), xs[i]? = some a → ys[i]? = some b → LikeR a b
end T
theorem LikeL.nil : LikeL [] [] := ⟨rfl, fun i a b h => by simp at h⟩
theorem T.LikeL.snoc {xs ys : List Rc} {a b : Rc} (h : LikeL xs ys) (g : LikeR a b) : LikeL (xs ++ [a]) (ys ++ [b]) := by
 refine ⟨by rw [List.length_append, List.length_append, h.1]; rfl, fun i x y h1 h2 => ?_⟩
 rw [List.getElem?_append] at h1 h2
 rw [h.1] at h1
 split at h1
 ·rename_i hi
  rw [if_pos hi] at h2
  exact h.2 i x y h1 h2
 ·rename_i hi
  rw [if_neg hi] at h2
  have : i - ys.length = 0 := by
   have := (List.getElem?_eq_some_iff.1 h1).1
   simpa using this
  rw [this] at h1 h2
  simp at h1 h2
  subst h1; subst h2
  exact g
theorem all_small (l : List UInt8) : ∀ b ∈ (F.all l).1, b.length ≤ 60000 := by
 generalize hk : l.length = k
 induction k using Nat.strongRecOn generalizing l with
 | ind k ih =>
   by_cases h : (F.unwrap l).2.2 = 0
   ·obtain ⟨n, h1, h2, h3, _⟩ := F.unwrap_ok h
    rw [F.all_ok h]
    intro b hb
    rcases List.mem_cons.1 hb with rfl | hb
    ·rw [h3]; simp; omega
    ·exact ih _ (by rw [h3]; simp; omega) _ rfl b hb
   ·rw [F.all_err h]
    intro b hb
    cases hb
theorem all_s {w : World} {B : Nat} {v : Value} {l : List UInt8} (h : SlB w B v l) (hl : l.length ≤ 2147483648) (hB : B ≤ w.heap.size) : Calls Tryz.prog 82 #[v] w (MadeLs w (F.all l)) := by
 obtain ⟨A, c, rfl, hc, hm, hA, hr⟩ := h
 exact all_any A c l w B hl hc hm hA hr hB
theorem wread_s {w : World} {v : Value} {l : List UInt8} (h : SlB w w.heap.size v l) (hl : l.length ≤ 100000000) (hT : Tabs w) : Calls Tryz.prog 11 #[v] w fun e w' => ReadN w l e w' ∧ Below w.heap.size w w' := by
 have h0 := h
 obtain ⟨A, c, rfl, _⟩ := h0
 exact wread_any A c l w h hl hT
section
variable {w w' z : World} {base g : Nat} {bv rv : Value} {D D' : Nat → Prop} {d : Dk}
theorem Mv.orR (h : Mv w w' D D') (E : Nat → Prop) : Mv w w' (fun k => D k ∨ E k) (fun k => D' k ∨ E k) :=
 ⟨⟨h.fr.os, h.fr.tape, h.fr.output, h.fr.size, fun k hk hd => h.fr.block k hk (fun q => hd (Or.inl q))⟩, fun k hk => by
   rcases hk with q | q
   ·exact (h.sub k q).imp Or.inl id
   ·exact Or.inl (Or.inr q)⟩
theorem kindNe {b e sz n b' e' sz' n' : Nat} {u v : Value} {xs ys : List Value} (hv : w.ownsRow b e sz v n xs) (hu : w.ownsRow b' e' sz' u n' ys) (hne : e ≠ e') : ∀ i, u.ownBlock = some i → ¬ v.ownBlock = some i := fun i h1 h2 => by
 obtain ⟨c1, f1, e1⟩ := Lib.ownsRow_kind hv i h2
 obtain ⟨c2, f2, e2⟩ := Lib.ownsRow_kind hu i h1
 rw [e1] at e2
 injection e2 with e2
 injection e2 with _ e2 _
 exact hne e2
theorem ftOwn {b e sz n : Nat} {v : Value} {xs : List Value} (h : DkAt w base g bv rv d) (hv : w.ownsRow b e sz v n xs) (h1 : e ≠ 5) (h2 : e ≠ 114) : ∀ k, Ft g bv rv k → ¬ v.ownBlock = some k := fun k hk hb => by
 obtain ⟨c1, f1, e1⟩ := Lib.ownsRow_kind hv k hb
 exact notFt h e1 h1 h2 hk
theorem ogDk {P : Nat → Prop} (mr : OgF w z P) (dk : DkAt w base g bv rv d) (hP : ∀ k, Ft g bv rv k → ¬ P k) : DkAt z base g bv rv d := dk.other fun k hk e => mr.2 k hk (hP k e)
theorem frOg {P : Nat → Prop} (mr : OgF w z P) (hP : ∀ k, P k → D k) : Fr w z D := ⟨mr.1.os, mr.1.tape, mr.1.output, mr.1.size, fun k hk hd => mr.2 k hk (fun q => hd (hP k q))⟩
theorem NewR.kp {B : Nat} {x : Rc} (h : NewR B w x) (hD : ∀ k, D k → k < B) : Kp w D (fun z => RcOk z z.heap.size x) := fun z hz => h z fun i hi hl => hz.block i hl (fun q => by have := hD i q; omega)
theorem Owns.og {b : Nat} {vs : List Value} {ls : List (List UInt8)} {P : Nat → Prop} (h : Owns w b vs ls) (mr : OgF w z P) (hP : ∀ (i : Nat) (v : Value) (l : List UInt8), vs[i]? = some v → ls[i]? = some l → ∀ j, v.ownBlock = some j → ¬ P j) : Owns z b vs ls :=
 ⟨h.1, fun i v l h1 h2 => mr.own (h.2 i v l h1 h2) (hP i v l h1 h2)⟩
theorem ownK2 {b n c : Nat} {A : Option Addr} {l : List UInt8} (h : OwnB w b (.slice A l.length c) l) (hg : g < b) (hn : n ≤ l.length) : SlK w g (.slice A n c) (l.take n) := fun z hz => by
 have := ownK h hg z hz
 exact SlF.first' this hn
theorem exec_slice_h {a : Act} {o : Oper} {w : World} (x hi : Operand) {A : Option Addr} {len cap : Nat} {h : Nat} (ho : o.op = .slice 34 x none (some hi) none) (hx : a.eval x = .slice A len cap) (hh : a.eval hi = .int .i64 (h : Int)) (h2 : h ≤ cap) :
 (execOp a.eval o).run Tryz.prog w = .ok (.value (.slice A h cap)) w := by
 have q := run_slice_h (P := Tryz.prog) (w := w) 34 A len cap (by kernel_rfl) .i64 (h : Int) (by omega) (by omega)
 have hz : (sizeOf (Tryz.prog.elem 34)).run Tryz.prog w = .ok 1 w := by kernel_rfl
 rw [hz] at q
 simp only [Result.andThen_ok, sliced, Nat.zero_mul, Int.toNat_natCast, Nat.sub_zero] at q
 have hA : (if cap = 0 then A else A.map (·.add 0)) = A := by
  split
  ·rfl
  ·cases A with
   | none => rfl
   | some p => exact congrArg some (by cases p; simp [Addr.add])
 rw [hA] at q
 unfold execOp
 simp only [ho, hx, hh, Option.map_some, Option.map_none, Sem.run_bind, Sem.run_pure, Result.andThen_ok, run_sliceAt_slice (P := Tryz.prog) (w := w) 34 _ _ _ _ (by kernel_rfl), q]
end
def OpP (w : World) (base g : Nat) (bv rv : Value) (p : List Rc × Nat × Dk) (e : Ending) (w' : World) : Prop :=
 ∃ v ns bv' rv', e = .returned (.tuple #[v, .int .i64 (p.2.1 : Int)]) ∧ LikeL ns p.1 ∧ DkAt w' base g bv' rv' p.2.2 ∧ Mv w w' (Ft g bv rv) (Ft g bv' rv') ∧ OwnR w' w.heap.size v ns ∧ Kp w' (fun k => Ft g bv' rv' k ∨ v.ownBlock = some k) (fun z => ∀ x ∈ ns, RcOk z z.heap.size x)
theorem told_stop {bs : List (List UInt8)} {k : Nat} (h : ∀ b, bs[k]? = some b → rcok b = false) : told (bs.drop k) = [] ∧ tend (bs.drop k) = 0 := by
 cases hk : bs[k]? with
 | none => rw [List.drop_eq_nil_of_le (by simpa using hk)]; exact ⟨rfl, rfl⟩
 | some b =>
   obtain ⟨hl, e⟩ := List.getElem?_eq_some_iff.1 hk
   rw [List.drop_eq_getElem_cons hl, e]
   have := h b hk
   exact ⟨by show (bif rcok b then _ else _) = _; rw [this]; rfl, by show (bif rcok b then _ else _) = _; rw [this]; rfl⟩
theorem told_step {bs : List (List UInt8)} {k : Nat} {b : List UInt8} (hk : bs[k]? = some b) (h : rcok b = true) : told (bs.drop k) = rcm b :: told (bs.drop (k + 1)) ∧ tend (bs.drop k) = 8 + b.length + tend (bs.drop (k + 1)) := by
 obtain ⟨hl, e⟩ := List.getElem?_eq_some_iff.1 hk
 rw [List.drop_eq_getElem_cons hl, e]
 exact ⟨by show (bif rcok b then _ else _) = _; rw [h]; rfl, by show (bif rcok b then _ else _) = _; rw [h]; rfl⟩
set_option maxHeartbeats 25600000 in
theorem wopen_any (base g : Nat) (bv rv : Value) (d : Dk) (w : World) (hb : base ≤ w.heap.size) (dk : DkAt w base g bv rv d) (hT : Tabs w) :
 Calls Tryz.prog 29 #[.pointer (some ⟨g, 0, none⟩)] w fun e w' => OpP w base g bv rv (opened d) e w' := by
 have dsz := dk.2.2.2.2.2.2.2.2.1
 have dbl := dk.2.2.2.2.2.2.1
 have ee : Below w.heap.size w w := Below.refl _ _
 go_enter Tryz.func29, Tryz.ntmps29
 refine wp_seq_k fun K1 hK1 => ?_
 refine wp_region_lit ?_
 with_reducible
  refine wv (.slice none 0 0) ?_
  refine wv (.int .i64 0) ?_
 try simp only [zP]
 refine wpList_nil ?_
 refine hK1 _ _ ?_
 refine wp_seq_k fun K2 hK2 => ?_
 refine wp_seq_k fun K3 hK3 => ?_
 refine wp_region_lit ?_
 with_reducible
  refine wv (.pointer (some ⟨g, 0, none⟩)) ?_
  try simp only [zP]
  refine wc 81 #[.pointer (some ⟨g, 0, none⟩)] (ddown_any base g bv rv d w dk) ?_
 rintro e z1 ⟨rfl, hw_⟩
 refine ⟨_, rfl, ?_⟩
 rw [← hw_]
 clear hw_ z1
 generalize hb4 : d.down = b4
 try simp only [zP]
 refine wpList_nil ?_
 refine hK3 _ _ ?_
 cases b4
 ·refine wp_cond_false (by kernel_rfl) ?_
  refine wp_skip ?_
  refine hK2 _ _ ?_
  refine wp_seq_k fun K5 hK5 => ?_
  refine wp_region_lit ?_
  with_reducible
   refine wv (.pointer (some ⟨g, 0, none⟩)) ?_
   try simp only [zP]
   refine wc 22 #[.pointer (some ⟨g, 0, none⟩)] (dbytes_any base g bv rv d w dk) ?_
  rintro e z2 ⟨v4, rfl, OB, t⟩
  refine ⟨_, rfl, ?_⟩
  have glt := dk.lt
  have OB := OwnB.mono OB ee.size
  have dk := dk.below t
  have ee := ee.trans (t.mono ee.size)
  clear t
  obtain ⟨A4, c4, e4, hc4, _, _⟩ := ownShape OB
  subst e4
  try simp only [zP]
  with_reducible refine wv (.slice A4 d.b.length c4) ?_
  try simp only [zP]
  refine wpList_nil ?_
  refine hK5 _ _ ?_
  refine wp_seq_k fun K6 hK6 => ?_
  refine wp_region_lit ?_
  with_reducible
   refine wv (.slice A4 d.b.length c4) ?_
   try simp only [zP]
   refine wc 82 #[.slice A4 d.b.length c4] (all_s (SlB.ofOwn OB) (by omega) (Nat.le_refl _)) ?_
  rintro e z3 ⟨v5, vs, rfl, OS, ow, t⟩
  refine ⟨_, rfl, ?_⟩
  have OS := ownMore OS ee.size
  have ow : Owns z3 w.heap.size vs _ := ⟨ow.1, fun i v l h1 h2 => ownMore (ow.2 i v l h1 h2) ee.size⟩
  have dk := dk.below t
  have OB := ownBelow OB t
  have ee := ee.trans (t.mono ee.size)
  clear t
  have hsm := all_small d.b
  have hcn := F.all_count d.b
  have hcl := F.all_le d.b
  obtain ⟨bs, hbs⟩ : ∃ q, q = (F.all d.b).1 := ⟨_, rfl⟩
  obtain ⟨n5, hn5⟩ : ∃ q : Int, q = ((F.all d.b).2 : Int) := ⟨_, rfl⟩
  rw [← hbs] at OS ow hsm hcn
  rw [← hn5]
  obtain ⟨A5, c5, e5, hc5, _, _⟩ := ownShape OS
  subst e5
  try simp only [zP]
  with_reducible
   refine wv (.tuple #[.slice A5 bs.length c5, .int .i64 n5]) ?_
   iterate 2 ((refine wv (.slice A5 bs.length c5) ?_);(refine wv (.int .i64 n5) ?_))
  try simp only [zP]
  refine wpList_nil ?_
  refine hK6 _ _ ?_
  refine wp_seq_k fun K7 hK7 => ?_
  refine wp_region_lit ?_
  with_reducible refine wv (.slice none 0 0) ?_
  try simp only [zP]
  refine wpList_nil ?_
  refine hK7 _ _ ?_
  refine wp_seq_k fun K8 hK8 => ?_
  refine wp_region_lit ?_
  with_reducible refine wv (.int .i64 0) ?_
  try simp only [zP]
  refine wpList_nil ?_
  refine hK8 _ _ ?_
  refine wp_seq_k fun K9 hK9 => ?_
  refine wp_seq_k fun K10 hK10 => ?_
  refine wp_region_lit ?_
  with_reducible
   refine wv (.slice A5 bs.length c5) ?_
   refine wv (.int .i64 ((bs.length : Int))) ?_
   refine wv (.int .i64 0) ?_
  try simp only [zP]
  refine wpList_nil ?_
  refine hK10 _ _ ?_
  refine wp_block ?_
  with_reducible refine wp_loop_su (bs.length) (fun k u_ alzl10 zl10 => ∃ (v7 : Value) (xs : List Rc) (pre : List Rc) (te : Nat), alzl10 = ⟨#[.pointer (some ⟨g, 0, none⟩), undef, .slice none 0 0, .int .i64 0, .slice A4 d.b.length c4, .slice A5 bs.length c5, .int .i64 n5, v7, .int .i64 ((te : Int)), undef, u_ 10, u_ 11, u_ 12, undef, .pointer (some ⟨g, 0, none⟩), .bool false, .pointer (some ⟨g, 0, none⟩), .slice A4 d.b.length c4, .tuple #[.slice A5 bs.length c5, .int .i64 n5], .slice A4 d.b.length c4, .tuple #[.slice A5 bs.length c5, .int .i64 n5], .slice A5 bs.length c5, .int .i64 n5, .slice A5 bs.length c5, .int .i64 ((bs.length : Int)), .int .i64 (((k : Nat) : Int)), u_ 26, u_ 27, u_ 28, u_ 29, u_ 30, u_ 31, u_ 32, u_ 33, u_ 34, u_ 35, u_ 36, u_ 37, u_ 38, u_ 39, u_ 40, u_ 41, u_ 42, u_ 43, u_ 44, u_ 45, undef, undef, undef, undef, undef, undef, undef, undef, undef, undef, undef, undef, undef], []⟩ ∧ Hid (Below w.heap.size w zl10) ∧ Hid (DkAt zl10 base g bv rv d) ∧ Hid (OwnB zl10 w.heap.size (.slice A4 d.b.length c4) d.b) ∧ Hid (zl10.ownsRow w.heap.size 34 1 (.slice A5 bs.length c5) bs.length vs) ∧ Hid (Owns zl10 w.heap.size vs bs) ∧ Hid (OwnR zl10 w.heap.size v7 xs) ∧ Hid (Kp zl10 (fun k => Ft g bv rv k ∨ v7.ownBlock = some k) (fun z => ∀ x ∈ xs, RcOk z z.heap.size x)) ∧ Hid (LikeL xs pre) ∧ Hid (told bs = pre ++ told (bs.drop (k))) ∧ Hid (tend bs = te + tend (bs.drop (k))) ∧ Hid (te ≤ (k) * 60008) ∧ Hid (xs.length = k)) 0 (Nat.zero_le _) ?_ ?_
  ·exact ⟨.slice none 0 0, [], [], 0, by kernel_rfl, ee, dk, OB, OS, ow, OwnR.nil, (fun z _ x hx => by cases hx), LikeL.nil, rfl, (Nat.zero_add _).symm, (Nat.zero_le _), rfl⟩
  clear ee
  intro k u_ alzl10 zl10 hkzl10 hszl10
  obtain ⟨v7, xs, pre, te, rfl, ee, dk, OB, OS, ow, OX, kx, hpre, htold, htend, hte, hxl⟩ := hszl10
  have ee := ee.out
  have dk := dk.out
  have OB := OB.out
  have OS := OS.out
  have ow := ow.out
  have OX := OX.out
  have kx := kx.out
  have hpre := hpre.out
  have htold := htold.out
  have htend := htend.out
  have hte := hte.out
  have hxl := hxl.out
  have OX0 := OX
  have mr : OgF zl10 zl10 (fun i => v7.ownBlock = some i) := OgF.refl _ _
  refine wp_seq_k fun K12 hK12 => ?_
  refine wp_region_lit ?_
  obtain ⟨b13, hb13⟩ : ∃ d_ : Bool, (decide ((k : Int) < (bs.length : Int))) = d_ := ⟨_, rfl⟩
  with_reducible refine wb (.bool b13) (.int .i64 ((k : Int))) (.int .i64 ((bs.length : Int))) 3 (run_lssI hb13) ?_
  try simp only [zP]
  refine wpList_nil ?_
  refine hK12 _ _ ?_
  refine wp_seq_k fun K14 hK14 => ?_
  cases b13
  ·have pb13 : ¬ ((k : Int) < (bs.length : Int)) := of_decide_eq_false hb13
   refine wp_cond_false (by kernel_rfl) ?_
   refine wp_exit ?_
   iterate 2 (refine then_exit ?_)
   refine inBlock_here ?_
   refine hK9 _ _ ?_
   refine wp_seq_k fun K15 hK15 => ?_
   obtain ⟨hs1, hs2⟩ := told_stop (bs := bs) (k := k) (fun b_ h_ => by have := (List.getElem?_eq_some_iff.1 h_).1; omega)
   rw [hs1, List.append_nil] at htold
   rw [hs2, Nat.add_zero] at htend
   have OB := mr.own OB (kindNe OX0 OB (by decide))
   have kx : Kp zl10 (fun k => Ft g bv rv k ∨ v7.ownBlock = some k) (fun z => ∀ x ∈ xs, RcOk z z.heap.size x) := kx.mv ⟨frOg mr (fun _ q => Or.inr q), fun k_ h_ => Or.inl h_⟩
   have dk := ogDk mr dk (ftOwn dk OX0 (by decide) (by decide))
   refine wp_seq_k fun K16 hK16 => ?_
   refine wp_region_lit ?_
   with_reducible
    refine wv (.int .i64 ((te : Int))) ?_
    refine wv (.slice A4 d.b.length c4) ?_
    refine wv (.int .i64 ((d.b.length : Int))) ?_
   try simp only [zP]
   obtain ⟨b17, hb17⟩ : ∃ d_ : Bool, (decide ((te : Int) < (d.b.length : Int))) = d_ := ⟨_, rfl⟩
   with_reducible refine wb (.bool b17) (.int .i64 ((te : Int))) (.int .i64 ((d.b.length : Int))) 3 (run_lssI hb17) ?_
   try simp only [zP]
   refine wpList_nil ?_
   refine hK16 _ _ ?_
   cases b17
   ·have pb17 : ¬ ((te : Int) < (d.b.length : Int)) := of_decide_eq_false hb17
    refine wp_cond_false (by kernel_rfl) ?_
    refine wp_skip ?_
    refine hK15 _ _ ?_
    refine wp_seq_k fun K18 hK18 => ?_
    refine wp_region_lit ?_
    iterate 2 (with_reducible refine wv (v7) ?_)
    with_reducible refine wv (.int .i64 0) ?_
    try simp only [zP]
    refine wpList_nil ?_
    refine hK18 _ _ ?_
    refine wp_ret ?_
    exact bodyPost_ret (v := .tuple #[v7, .int .i64 0]) (by kernel_rfl) rfl (by unfold T.opened; rw [if_neg (by rw [hb4]; decide), ← hbs, htold, htend, if_neg (by omega)]; exact ⟨_, xs, bv, rv, rfl, hpre, dk, Mv.ofBelow ee, OX, kx⟩)
   have pb17 : (te : Int) < (d.b.length : Int) := of_decide_eq_true hb17
   refine wp_cond_true (by kernel_rfl) ?_
   refine wp_seq_k fun K19 hK19 => ?_
   refine wp_region_lit ?_
   with_reducible
    refine wv (.pointer (some ⟨g, 0, none⟩)) ?_
    refine wv (.slice A4 d.b.length c4) ?_
    refine wv (.int .i64 ((te : Int))) ?_
    try simp only [zP]
    refine wq (.slice A4 te c4) (exec_slice_h (.tmp 51) (.tmp 52) (A := A4) (len := d.b.length) (cap := c4) (h := te) rfl rfl rfl (by omega)) ?_
    try simp only [zP]
    refine wc 83 #[.pointer (some ⟨g, 0, none⟩), .slice A4 te c4] (dreplace_s (Nat.le_trans hb ee.size) dk (ownK2 OB glt (by omega))) ?_
   rintro e z4 ⟨bv1, rv1, rfl, dk_, mv_⟩
   refine ⟨_, rfl, ?_⟩
   have mv : Mv w _ (Ft g bv rv) (Ft g bv1 rv1) := (Mv.ofBelow ee).trans mv_
   have OX := mvOwn mv_ dk OX (by decide) (by decide)
   have kx := kx.mv (mv_.orR (fun k => v7.ownBlock = some k))
   clear dk mv_ ee
   have dk := dk_
   clear dk_
   obtain ⟨n1, hn1⟩ : ∃ q : Int, q = ((D.replace d (d.b.take te)).1 : Int) := ⟨_, rfl⟩
   rw [← hn1]
   try simp only [zP]
   with_reducible refine wv (.int .i64 n1) ?_
   try simp only [zP]
   refine wpList_nil ?_
   refine hK19 _ _ ?_
   refine wp_seq_k fun K20 hK20 => ?_
   refine wp_region_lit ?_
   with_reducible refine wv (.int .i64 n1) ?_
   try simp only [zP]
   obtain ⟨b21, hb21⟩ : ∃ d_ : Bool, (decide (n1 = 0)) = d_ := ⟨_, rfl⟩
   cases b21
   ·have pb21 : ¬ (n1 = 0) := of_decide_eq_false hb21
    with_reducible refine wb (.bool true) (.int .i64 n1) (.int .i64 0) 40 (run_neqI hb21) ?_
    try simp only [zP]
    refine wpList_nil ?_
    refine hK20 _ _ ?_
    refine wp_cond_true (by kernel_rfl) ?_
    refine wp_seq_k fun K22 hK22 => ?_
    refine wp_region_lit ?_
    with_reducible
     refine wv (.int .i64 n1) ?_
     refine wv (.slice none 0 0) ?_
     refine wv (.int .i64 n1) ?_
    try simp only [zP]
    refine wpList_nil ?_
    refine hK22 _ _ ?_
    refine wp_ret ?_
    refine then_ret ?_
    subst hn1
    exact bodyPost_ret (v := .tuple #[.slice none 0 0, .int .i64 ((D.replace d (d.b.take te)).1 : Int)]) (by kernel_rfl) rfl (by unfold T.opened; rw [if_neg (by rw [hb4]; decide), ← hbs, htold, htend, if_pos (by omega), if_neg (by omega)]; exact ⟨_, [], _, _, rfl, LikeL.nil, dk, mv, OwnR.nil, fun z _ x hx => by cases hx⟩)
   have pb21 : n1 = 0 := of_decide_eq_true hb21
   have eb21 : n1 = 0 := of_decide_eq_true hb21
   with_reducible refine wb (.bool false) (.int .i64 n1) (.int .i64 0) 40 (run_neqI hb21) ?_
   try simp only [zP]
   refine wpList_nil ?_
   refine hK20 _ _ ?_
   refine wp_cond_false (by kernel_rfl) ?_
   refine wp_skip ?_
   refine hK15 _ _ ?_
   refine wp_seq_k fun K23 hK23 => ?_
   refine wp_region_lit ?_
   iterate 2 (with_reducible refine wv (v7) ?_)
   with_reducible refine wv (.int .i64 0) ?_
   try simp only [zP]
   refine wpList_nil ?_
   refine hK23 _ _ ?_
   refine wp_ret ?_
   have h0 : (D.replace d (d.b.take te)).1 = 0 := by omega
   exact bodyPost_ret (v := .tuple #[v7, .int .i64 0]) (by kernel_rfl) rfl (by unfold T.opened; rw [if_neg (by rw [hb4]; decide), ← hbs, htold, htend, if_pos (by omega), if_pos h0]; exact ⟨_, xs, _, _, by rw [h0]; rfl, hpre, dk, mv, OX, kx⟩)
  have pb13 : (k : Int) < (bs.length : Int) := of_decide_eq_true hb13
  refine wp_cond_true (by kernel_rfl) ?_
  refine wp_skip ?_
  refine hK14 _ _ ?_
  refine wp_seq_k fun K24 hK24 => ?_
  refine wp_block ?_
  have hkn : k < bs.length := by omega
  obtain ⟨gb, eb, hgb1, hgb2, _⟩ := ownPtr OS (by omega)
  subst eb
  have hvl : vs.length = bs.length := ow.1
  obtain ⟨vk, hvk⟩ : ∃ q, vs[k]? = some q := ⟨_, List.getElem?_eq_getElem (by omega)⟩
  obtain ⟨bk, hbk⟩ : ∃ q, bs[k]? = some q := ⟨_, List.getElem?_eq_getElem hkn⟩
  have hsk : SlB zl10 zl10.heap.size vk bk := SlF.ofOwn (ow.2 k vk bk hvk hbk)
  obtain ⟨Ak, ckk, ek, _⟩ := id hsk
  subst ek
  have hck : zl10.cell? ⟨gb, k, none⟩ = some (.slice Ak bk.length ckk) := by
   have := OS.cells (g := gb) rfl k _ hvk
   rwa [Addr.add_lit, Nat.zero_add] at this
  have hlk : bk.length ≤ 60000 := hsm bk (List.mem_of_getElem? hbk)
  refine wp_seq_k fun K25 hK25 => ?_
  refine wp_region_lit ?_
  with_reducible
   refine wq (.pointer (some ⟨gb, k, none⟩)) (exec_ix1 (.tmp 23) (.tmp 25) (b := gb) (len := bs.length) (cap := c5) (k := .i64) (i := k) rfl rfl rfl Tryz.underlying139 hkn) ?_
   refine wl (.slice Ak bk.length ckk) ⟨gb, k, none⟩ hck Tryz.underlying34 ?_
   refine wv (.slice Ak bk.length ckk) ?_
  try simp only [zP]
  refine wpList_nil ?_
  refine hK25 _ _ ?_
  refine wp_seq_k fun K26 hK26 => ?_
  refine wp_region_lit ?_
  with_reducible
   refine wv (.slice Ak bk.length ckk) ?_
   try simp only [zP]
   refine wc 11 #[.slice Ak bk.length ckk] (wread_s hsk (by omega) (hT.below ee)) ?_
  rintro e z4 ⟨⟨n, x, rfl, hn, hx, lk⟩, t⟩
  refine ⟨_, rfl, ?_⟩
  have hD0 : ∀ k_, (fun k => Ft g bv rv k ∨ v7.ownBlock = some k) k_ → k_ < zl10.heap.size := fun k_ h_ => h_.elim (fun q => (dk.ft q).2) (fun q => (OX0.lt k_ q).2)
  have OX := ownBelow OX t
  have ee := ee.trans (t.mono ee.size)
  have mr := ogBelow mr t
  clear t
  have kn := NewR.kp hn hD0
  have mn : OgF z4 z4 (fun k => Ft g bv rv k ∨ v7.ownBlock = some k) := OgF.refl _ _
  try simp only [zP]
  with_reducible
   refine wv (.tuple #[.agg (n.cells).toArray, .int .i64 x]) ?_
   refine wv (.agg (n.cells).toArray) ?_
   refine wv (.int .i64 x) ?_
   refine ww (.pointer (some ⟨z4.heap.size, 0, none⟩)) (z4.alloc (.cells #[.int .i64 0, .int .u32 0, .int .i64 0, .int .i64 0, .int .i64 0, .int .i64 0, .int .i64 0, .slice none 0 0, .slice none 0 0, .int .i64 0, .int .i64 0, .int .i64 0, .int .u64 0, .bool false, .slice none 0 0] 36)) ?_
  try simp only [zP]
  have sz_g27 := ee.size
  have sz_g27_mr := mr.size
  have sz_g27_mn := mn.size
  have sz_ := mr.size
  have ne_OX_Zv11 : (v7 : Value).ownBlock ≠ some (z4.heap.size) := fun hb_ => by have hh_ := (OX.lt _ hb_).2; omega
  have OX := OX.alloc (.cells #[.int .i64 0, .int .u32 0, .int .i64 0, .int .i64 0, .int .i64 0, .int .i64 0, .int .i64 0, .slice none 0 0, .slice none 0 0, .int .i64 0, .int .i64 0, .int .i64 0, .int .u64 0, .bool false, .slice none 0 0] 36)
  have ee := ee.alloc ee.size (.cells #[.int .i64 0, .int .u32 0, .int .i64 0, .int .i64 0, .int .i64 0, .int .i64 0, .int .i64 0, .slice none 0 0, .slice none 0 0, .int .i64 0, .int .i64 0, .int .i64 0, .int .u64 0, .bool false, .slice none 0 0] 36)
  have mr := ogAlloc mr (.cells #[.int .i64 0, .int .u32 0, .int .i64 0, .int .i64 0, .int .i64 0, .int .i64 0, .int .i64 0, .slice none 0 0, .slice none 0 0, .int .i64 0, .int .i64 0, .int .i64 0, .int .u64 0, .bool false, .slice none 0 0] 36)
  have mn := ogAlloc mn (.cells #[.int .i64 0, .int .u32 0, .int .i64 0, .int .i64 0, .int .i64 0, .int .i64 0, .int .i64 0, .slice none 0 0, .slice none 0 0, .int .i64 0, .int .i64 0, .int .i64 0, .int .u64 0, .bool false, .slice none 0 0] 36)
  have Zv11 := hpN z4 (.cells #[.int .i64 0, .int .u32 0, .int .i64 0, .int .i64 0, .int .i64 0, .int .i64 0, .int .i64 0, .slice none 0 0, .slice none 0 0, .int .i64 0, .int .i64 0, .int .i64 0, .int .u64 0, .bool false, .slice none 0 0] 36) rfl
  obtain ⟨z5, hz_⟩ : ∃ z_ : World, z_ = z4.alloc (.cells #[.int .i64 0, .int .u32 0, .int .i64 0, .int .i64 0, .int .i64 0, .int .i64 0, .int .i64 0, .slice none 0 0, .slice none 0 0, .int .i64 0, .int .i64 0, .int .i64 0, .int .u64 0, .bool false, .slice none 0 0] 36) := ⟨_, rfl⟩
  rw [← hz_] at Zv11 OX ee mr mn ⊢
  clear hz_
  obtain ⟨g27, hg_g27⟩ : ∃ g_, g_ = z4.heap.size := ⟨_, rfl⟩
  have hB_g27 : w.heap.size ≤ g27 := by rw [hg_g27]; exact sz_g27
  have hB_g27_mr : zl10.heap.size ≤ g27 := by rw [hg_g27]; exact sz_g27_mr
  have hB_g27_mn : z4.heap.size ≤ g27 := by rw [hg_g27]; exact sz_g27_mn
  rw [← hg_g27] at Zv11 ne_OX_Zv11 ⊢
  clear hg_g27
  refine wpList_store_row rfl 36 _ _ rfl (g27) (n.cells).toArray rfl rfl 36 _ Zv11 sizeRc (by rfl) (Rc.one _) ?_
  have N_ := setRow_heap z5 (g27) _ (n.cells).toArray _ _ Zv11
  have OX := ogOwnR (cs := (n.cells).toArray) OX ne_OX_Zv11
  have ee := belowSet (cs := (n.cells).toArray) ee Zv11 (by omega)
  have mr := ogRow (cs := (n.cells).toArray) (by first | (right; omega) | (left; first | rfl | omega)) Zv11 mr
  have mn := ogRow (cs := (n.cells).toArray) (by first | (right; omega) | (left; first | rfl | omega)) Zv11 mn
  clear Zv11
  have Zv11 := N_
  clear N_
  obtain ⟨z6, hz_⟩ : ∃ z_ : World, z_ = z5.setRow (g27) (n.cells).toArray := ⟨_, rfl⟩
  rw [← hz_] at Zv11 OX ee mr mn ⊢
  clear hz_
  try simp only [zP]
  with_reducible refine wv (.int .i64 x) ?_
  try simp only [zP]
  refine wpList_nil ?_
  refine hK26 _ _ ?_
  refine wp_seq_k fun K28 hK28 => ?_
  refine wp_seq_k fun K29 hK29 => ?_
  refine wp_region_lit ?_
  with_reducible refine wv (.int .i64 x) ?_
  try simp only [zP]
  obtain ⟨b30, hb30⟩ : ∃ d_ : Bool, (decide (x = 0)) = d_ := ⟨_, rfl⟩
  cases b30
  ·have pb30 : ¬ (x = 0) := of_decide_eq_false hb30
   with_reducible refine wb (.bool true) (.int .i64 x) (.int .i64 0) 40 (run_neqI hb30) ?_
   try simp only [zP]
   refine wpList_nil ?_
   refine hK29 _ _ ?_
   refine wp_cond_true (by kernel_rfl) ?_
   refine wp_exit ?_
   refine then_exit ?_
   refine inBlock_exit (by decide) ?_
   iterate 2 (refine then_exit ?_)
   refine inBlock_here ?_
   refine hK9 _ _ ?_
   refine wp_seq_k fun K31 hK31 => ?_
   have hno : rcok bk = false := by
    cases hq : rcok bk with
    | false => rfl
    | true => rw [hq] at hx; have h_ : x = 0 := hx; omega
   obtain ⟨hs1, hs2⟩ := told_stop (bs := bs) (k := k) (fun b_ h_ => by rw [hbk] at h_; injection h_ with h_; rw [← h_]; exact hno)
   rw [hs1, List.append_nil] at htold
   rw [hs2, Nat.add_zero] at htend
   have OB := mr.own OB (kindNe OX0 OB (by decide))
   have kx : Kp z6 (fun k => Ft g bv rv k ∨ v7.ownBlock = some k) (fun z => ∀ x ∈ xs, RcOk z z.heap.size x) := kx.mv ⟨frOg mr (fun _ q => Or.inr q), fun k_ h_ => Or.inl h_⟩
   have dk := ogDk mr dk (ftOwn dk OX0 (by decide) (by decide))
   refine wp_seq_k fun K32 hK32 => ?_
   refine wp_region_lit ?_
   with_reducible
    refine wv (.int .i64 ((te : Int))) ?_
    refine wv (.slice A4 d.b.length c4) ?_
    refine wv (.int .i64 ((d.b.length : Int))) ?_
   try simp only [zP]
   obtain ⟨b33, hb33⟩ : ∃ d_ : Bool, (decide ((te : Int) < (d.b.length : Int))) = d_ := ⟨_, rfl⟩
   with_reducible refine wb (.bool b33) (.int .i64 ((te : Int))) (.int .i64 ((d.b.length : Int))) 3 (run_lssI hb33) ?_
   try simp only [zP]
   refine wpList_nil ?_
   refine hK32 _ _ ?_
   cases b33
   ·have pb33 : ¬ ((te : Int) < (d.b.length : Int)) := of_decide_eq_false hb33
    refine wp_cond_false (by kernel_rfl) ?_
    refine wp_skip ?_
    refine hK31 _ _ ?_
    refine wp_seq_k fun K34 hK34 => ?_
    refine wp_region_lit ?_
    iterate 2 (with_reducible refine wv (v7) ?_)
    with_reducible refine wv (.int .i64 0) ?_
    try simp only [zP]
    refine wpList_nil ?_
    refine hK34 _ _ ?_
    refine wp_ret ?_
    exact bodyPost_ret (v := .tuple #[v7, .int .i64 0]) (by kernel_rfl) rfl (by unfold T.opened; rw [if_neg (by rw [hb4]; decide), ← hbs, htold, htend, if_neg (by omega)]; exact ⟨_, xs, bv, rv, rfl, hpre, dk, Mv.ofBelow ee, OX, kx⟩)
   have pb33 : (te : Int) < (d.b.length : Int) := of_decide_eq_true hb33
   refine wp_cond_true (by kernel_rfl) ?_
   refine wp_seq_k fun K35 hK35 => ?_
   refine wp_region_lit ?_
   with_reducible
    refine wv (.pointer (some ⟨g, 0, none⟩)) ?_
    refine wv (.slice A4 d.b.length c4) ?_
    refine wv (.int .i64 ((te : Int))) ?_
    try simp only [zP]
    refine wq (.slice A4 te c4) (exec_slice_h (.tmp 51) (.tmp 52) (A := A4) (len := d.b.length) (cap := c4) (h := te) rfl rfl rfl (by omega)) ?_
    try simp only [zP]
    refine wc 83 #[.pointer (some ⟨g, 0, none⟩), .slice A4 te c4] (dreplace_s (Nat.le_trans hb ee.size) dk (ownK2 OB glt (by omega))) ?_
   rintro e z7 ⟨bv1, rv1, rfl, dk_, mv_⟩
   refine ⟨_, rfl, ?_⟩
   have mv : Mv w _ (Ft g bv rv) (Ft g bv1 rv1) := (Mv.ofBelow ee).trans mv_
   have OX := mvOwn mv_ dk OX (by decide) (by decide)
   have kx := kx.mv (mv_.orR (fun k => v7.ownBlock = some k))
   clear dk mv_ ee
   have dk := dk_
   clear dk_
   obtain ⟨n1, hn1⟩ : ∃ q : Int, q = ((D.replace d (d.b.take te)).1 : Int) := ⟨_, rfl⟩
   rw [← hn1]
   try simp only [zP]
   with_reducible refine wv (.int .i64 n1) ?_
   try simp only [zP]
   refine wpList_nil ?_
   refine hK35 _ _ ?_
   refine wp_seq_k fun K36 hK36 => ?_
   refine wp_region_lit ?_
   with_reducible refine wv (.int .i64 n1) ?_
   try simp only [zP]
   obtain ⟨b37, hb37⟩ : ∃ d_ : Bool, (decide (n1 = 0)) = d_ := ⟨_, rfl⟩
   cases b37
   ·have pb37 : ¬ (n1 = 0) := of_decide_eq_false hb37
    with_reducible refine wb (.bool true) (.int .i64 n1) (.int .i64 0) 40 (run_neqI hb37) ?_
    try simp only [zP]
    refine wpList_nil ?_
    refine hK36 _ _ ?_
    refine wp_cond_true (by kernel_rfl) ?_
    refine wp_seq_k fun K38 hK38 => ?_
    refine wp_region_lit ?_
    with_reducible
     refine wv (.int .i64 n1) ?_
     refine wv (.slice none 0 0) ?_
     refine wv (.int .i64 n1) ?_
    try simp only [zP]
    refine wpList_nil ?_
    refine hK38 _ _ ?_
    refine wp_ret ?_
    refine then_ret ?_
    subst hn1
    exact bodyPost_ret (v := .tuple #[.slice none 0 0, .int .i64 ((D.replace d (d.b.take te)).1 : Int)]) (by kernel_rfl) rfl (by unfold T.opened; rw [if_neg (by rw [hb4]; decide), ← hbs, htold, htend, if_pos (by omega), if_neg (by omega)]; exact ⟨_, [], _, _, rfl, LikeL.nil, dk, mv, OwnR.nil, fun z _ x hx => by cases hx⟩)
   have pb37 : n1 = 0 := of_decide_eq_true hb37
   have eb37 : n1 = 0 := of_decide_eq_true hb37
   with_reducible refine wb (.bool false) (.int .i64 n1) (.int .i64 0) 40 (run_neqI hb37) ?_
   try simp only [zP]
   refine wpList_nil ?_
   refine hK36 _ _ ?_
   refine wp_cond_false (by kernel_rfl) ?_
   refine wp_skip ?_
   refine hK31 _ _ ?_
   refine wp_seq_k fun K39 hK39 => ?_
   refine wp_region_lit ?_
   iterate 2 (with_reducible refine wv (v7) ?_)
   with_reducible refine wv (.int .i64 0) ?_
   try simp only [zP]
   refine wpList_nil ?_
   refine hK39 _ _ ?_
   refine wp_ret ?_
   have h0 : (D.replace d (d.b.take te)).1 = 0 := by omega
   exact bodyPost_ret (v := .tuple #[v7, .int .i64 0]) (by kernel_rfl) rfl (by unfold T.opened; rw [if_neg (by rw [hb4]; decide), ← hbs, htold, htend, if_pos (by omega), if_pos h0]; exact ⟨_, xs, _, _, by rw [h0]; rfl, hpre, dk, mv, OX, kx⟩)
  have pb30 : x = 0 := of_decide_eq_true hb30
  have eb30 : x = 0 := of_decide_eq_true hb30
  with_reducible refine wb (.bool false) (.int .i64 x) (.int .i64 0) 40 (run_neqI hb30) ?_
  try simp only [zP]
  refine wpList_nil ?_
  refine hK29 _ _ ?_
  refine wp_cond_false (by kernel_rfl) ?_
  refine wp_skip ?_
  refine hK28 _ _ ?_
  have hok : rcok bk = true := by
   cases hq : rcok bk with
   | true => rfl
   | false => rw [hq] at hx; have h_ : x = 2 := hx; omega
  rw [hok] at lk
  have lk : LikeR n (rcm bk) := lk
  refine wp_seq_k fun K40 hK40 => ?_
  refine wp_region_lit ?_
  with_reducible
   refine wv (v7) ?_
   refine wg (g27) (0) (n.cells) (rowAt Zv11) Tryz.underlying36 ?_
   refine ww (.slice (some ⟨z6.heap.size, 0, none⟩) 1 1) (z6.alloc (.cells (n.cells).toArray 36)) ?_
  try simp only [zP]
  have sz_g41 := ee.size
  have sz_g41_mr := mr.size
  have sz_g41_mn := mn.size
  have lZv11 := (Array.getElem?_eq_some_iff.1 Zv11).1
  have sz_ := mr.size
  have ne_OX_Zs38 : (v7 : Value).ownBlock ≠ some (z6.heap.size) := fun hb_ => by have hh_ := (OX.lt _ hb_).2; omega
  have Zv11 := hpA Zv11 (.cells (n.cells).toArray 36)
  have OX := OX.alloc (.cells (n.cells).toArray 36)
  have ee := ee.alloc ee.size (.cells (n.cells).toArray 36)
  have mr := ogAlloc mr (.cells (n.cells).toArray 36)
  have mn := ogAlloc mn (.cells (n.cells).toArray 36)
  have Zs38 := hpN z6 (.cells (n.cells).toArray 36) rfl
  obtain ⟨z7, hz_⟩ : ∃ z_ : World, z_ = z6.alloc (.cells (n.cells).toArray 36) := ⟨_, rfl⟩
  rw [← hz_] at Zv11 Zs38 OX ee mr mn ⊢
  clear hz_
  obtain ⟨g41, hg_g41⟩ : ∃ g_, g_ = z6.heap.size := ⟨_, rfl⟩
  have n_g41_Zv11 : g27 < g41 := by rw [hg_g41]; exact lZv11
  have hB_g41 : w.heap.size ≤ g41 := by rw [hg_g41]; exact sz_g41
  have hB_g41_mr : zl10.heap.size ≤ g41 := by rw [hg_g41]; exact sz_g41_mr
  have hB_g41_mn : z4.heap.size ≤ g41 := by rw [hg_g41]; exact sz_g41_mn
  rw [← hg_g41] at Zs38 ne_OX_Zs38 ⊢
  clear hg_g41 lZv11
  have hzs := mr.1.size
  have hzn := mn.1.size
  with_reducible refine waR (c := 1) (ys := [n]) (.tmp 36) (.tmp 38) OX (rcRow Zs38) (fun h_ => by cases h_) (by omega) (by simp) ee.size ?_
  intro v8 z8 OX_ g_ wh
  clear Zv11
  clear Zs38
  have mr := ogOwnE mr g_ (fun i_ h_ => Or.inl h_)
  have mn := ogOwnE mn g_ (fun i_ h_ => Or.inl (Or.inr h_))
  have ee := ee.grown g_ ee.size (fun i_ h_ => (OX.lt i_ h_).1)
  clear g_ OX
  have OX := OX_
  clear OX_
  with_reducible refine wv (v8) ?_
  try simp only [zP]
  refine wpList_nil ?_
  refine hK40 _ _ ?_
  refine wp_region_lit ?_
  with_reducible
   refine wv (.int .i64 ((te : Int))) ?_
   refine wv (.slice Ak bk.length ckk) ?_
   refine wv (.int .i64 ((bk.length : Int))) ?_
   try simp only [zP]
   refine wq (.int .i64 (((8 + bk.length : Nat) : Int))) (okIntP ((by rw [IntKind.wrap_i64]; omega) : IntKind.i64.wrap (8 + (bk.length : Int)) = ((8 + bk.length : Nat) : Int)) (by kernel_rfl)) ?_
   try simp only [zP]
   refine wq (.int .i64 (((te + (8 + bk.length) : Nat) : Int))) (okIntP ((by rw [IntKind.wrap_i64]; omega) : IntKind.i64.wrap ((te : Int) + ((8 + bk.length : Nat) : Int)) = ((te + (8 + bk.length) : Nat) : Int)) (by kernel_rfl)) ?_
   refine wv (.int .i64 (((te + (8 + bk.length) : Nat) : Int))) ?_
  try simp only [zP]
  refine wpList_nil ?_
  refine inBlock_normal ?_
  refine hK24 _ _ ?_
  refine wp_region_lit ?_
  with_reducible
   refine wq (.int .i64 (((k + 1 : Nat) : Int))) (okIntP ((by rw [IntKind.wrap_i64]; omega) : IntKind.i64.wrap ((k : Int) + 1) = ((k + 1 : Nat) : Int)) (by kernel_rfl)) ?_
   refine wv (.int .i64 (((k + 1 : Nat) : Int))) ?_
  try simp only [zP]
  refine wpList_nil ?_
  refine then_normal ?_
  have hxk := told_step hbk hok
  have dk_ := ogDk mr dk (ftOwn dk OX0 (by decide) (by decide))
  have OB_ := mr.own OB (kindNe OX0 OB (by decide))
  have OS_ := mr.own OS (kindNe OX0 OS (by decide))
  have ow_ := ow.og mr (fun i v l h1 h2 => kindNe OX0 (ow.2 i v l h1 h2) (by decide))
  have hDD : ∀ k_, (fun k => Ft g bv rv k ∨ v8.ownBlock = some k) k_ → (fun k => Ft g bv rv k ∨ v7.ownBlock = some k) k_ ∨ z7.heap.size ≤ k_ := fun k_ h_ => by
   rcases h_ with q | q
   ·exact Or.inl (Or.inl q)
   ·rcases wh with r | r | r
    ·rw [r] at q; cases q
    ·exact Or.inl (Or.inr (r ▸ q))
    ·rw [r] at q; cases q; exact Or.inr (Nat.le_refl _)
  have kx_ : Kp z8 (fun k => Ft g bv rv k ∨ v8.ownBlock = some k) (fun z => ∀ x ∈ (xs ++ [n]), RcOk z z.heap.size x) := fun z_ h_ x_ hx_ => by
   rcases List.mem_append.1 hx_ with q | q
   ·exact kx.mv ⟨frOg mr (fun _ q => Or.inr q), fun k_ h2_ => (hDD k_ h2_).imp id (fun q => Nat.le_trans hzs q)⟩ z_ h_ x_ q
   ·rw [List.mem_singleton.1 q]; exact kn.mv ⟨frOg mn (fun _ q => q), fun k_ h2_ => (hDD k_ h2_).imp id (fun q => Nat.le_trans hzn q)⟩ z_ h_
  have a1_ : told bs = (pre ++ [rcm bk]) ++ told (bs.drop (k + 1)) := by rw [htold, hxk.1]; simp
  have a2_ : tend bs = (te + (8 + bk.length)) + tend (bs.drop (k + 1)) := by rw [htend, hxk.2]; omega
  have a3_ : te + (8 + bk.length) ≤ (k + 1) * 60008 := by rw [Nat.add_mul]; omega
  have a4_ : (xs ++ [n]).length = k + 1 := by rw [List.length_append, hxl]; rfl
  exact ⟨hkn, v8, xs ++ [n], pre ++ [rcm bk], te + (8 + bk.length), by kernel_rfl, ee, dk_, OB_, OS_, ow_, OX, kx_, (hpre.snoc lk), a1_, a2_, a3_, a4_⟩
 refine wp_cond_true (by kernel_rfl) ?_
 refine wp_seq_k fun K42 hK42 => ?_
 refine wp_region_lit ?_
 with_reducible
  refine wv (.slice none 0 0) ?_
  refine wv (.int .i64 8) ?_
 try simp only [zP]
 refine wpList_nil ?_
 refine hK42 _ _ ?_
 refine wp_ret ?_
 refine then_ret ?_
 exact bodyPost_ret (v := .tuple #[.slice none 0 0, .int .i64 8]) (by kernel_rfl) rfl (by unfold T.opened; rw [if_pos hb4]; exact ⟨_, [], bv, rv, rfl, LikeL.nil, dk, Mv.refl, OwnR.nil, fun z _ x hx => by cases hx⟩)
end Go.Proofs.YtjofjpmhokjhnaaGreatDoor
