/- A record that is read lies in blocks of its own: what else turns doesn't matter. No condition. -/
import Derived.Test.YtjofjpmhokjhnaaDoorWlM37
import Derived.Test.YtjofjpmhokjhnaaDoorWlM26
import Derived.Test.YtjofjpmhokjhnaaDoorWlM9
import Derived.Test.YtjofjpmhokjhnaaDoorWlM36
namespace Go.Proofs.YtjofjpmhokjhnaaDoor
set_option maxRecDepth 20000
open Go.RowKit T
set_option linter.unusedSimpArgs false
set_option linter.unusedVariables false

theorem Mv.drew {w : World} {D : Nat → Prop} : Mv w w.drew D D := ⟨Fr.drew, fun _ h => Or.inl h⟩
theorem Kp.drew {w : World} {D : Nat → Prop} {P : World → Prop} (h : Kp w D P) : Kp w.drew D P := h.mv Mv.drew
theorem wrap_s {w : World} {B : Nat} {v : Value} {l : List UInt8} (h : SlB w B v l) (hl : l.length ≤ 2147483648) (hB : B ≤ w.heap.size) : Calls Tryd.prog 116 #[v] w (MadeE w (F.wrap l)) := by
  obtain ⟨A, c, rfl, hc, hm, hA, hr⟩ := h
  exact wrap_any A c l w B hl hc hA hr hB
section
variable {w w' : World} {base g : Nat} {bv rv : Value} {D' : Nat → Prop} {d : Dk}
theorem dkDrew (h : DkAt w base g bv rv d) : DkAt w.drew base g bv rv d := h
theorem DkAt.lt (h : DkAt w base g bv rv d) : g < w.heap.size := ltAt h.1
theorem notFt {k : Nat} {cs : Array Value} {t : TypeId} {m : Nat × Nat} (h : DkAt w base g bv rv d) (hz : w.heap[k]? = some (.cells cs t m)) (h1 : t ≠ 5) (h2 : t ≠ 113) : ¬ Ft g bv rv k := fun hk => by
  rcases hk with rfl | e | e
  · rw [h.1] at hz; injection hz with hz; injection hz with _ e _; exact h2 e.symm
  · exact ogKind h.2.2.1 hz h1 e
  · exact ogKind h.2.2.2.1 hz h1 e
theorem mvHeap {k : Nat} {cs : Array Value} {t : TypeId} {m : Nat × Nat} (mv : Mv w w' (Ft g bv rv) D') (h : DkAt w base g bv rv d) (hz : w.heap[k]? = some (.cells cs t m)) (h1 : t ≠ 5) (h2 : t ≠ 113) : w'.heap[k]? = some (.cells cs t m) :=
  (mv.fr.block k (Array.getElem?_eq_some_iff.1 hz).1 (notFt h hz h1 h2)).trans hz
theorem mvOwn {e sz n b : Nat} {v : Value} {xs : List Value} (mv : Mv w w' (Ft g bv rv) D') (h : DkAt w base g bv rv d) (hv : w.ownsRow b e sz v n xs) (h1 : e ≠ 5) (h2 : e ≠ 113) : w'.ownsRow b e sz v n xs := by
  refine ⟨hv.1, ?_⟩
  rcases hv.2 with q | ⟨k, cap, cur, e1, hk, hh, r⟩
  · exact Or.inl q
  · exact Or.inr ⟨k, cap, cur, e1, hk, mvHeap mv h hh h1 h2, r⟩
theorem ownK {b : Nat} {v : Value} {l : List UInt8} (h : OwnB w b v l) (hg : g < b) : SlK w g v l := fun z hz =>
  SlF.bound (SlF.ofOwn h) (SlF.ofOwn (h.kept hz (Or.inr (fun e => by have := (h.lt g e).1; omega))))
theorem dappend_s (hb : base ≤ w.heap.size) (h : DkAt w base g bv rv d) {v : Value} {l : List UInt8} (hx : SlK w g v l) : Calls Tryd.prog 81 #[.pointer (some ⟨g, 0, none⟩), v] w (DkP w base g bv rv (D.append d l)) := by
  obtain ⟨A, c, rfl, _⟩ := hx w (World.grownBy.refl w _)
  exact (dappend_any base g bv rv d A c l w hb h hx).mono fun e w' q => q.mv
theorem dreplace_s (hb : base ≤ w.heap.size) (h : DkAt w base g bv rv d) {v : Value} {l : List UInt8} (hx : SlK w g v l) : Calls Tryd.prog 86 #[.pointer (some ⟨g, 0, none⟩), v] w (DkP w base g bv rv (D.replace d l)) := by
  obtain ⟨A, c, rfl, _⟩ := hx w (World.grownBy.refl w _)
  exact (dreplace_any base g bv rv d A c l w hb h hx).mono fun e w' q => q.mv
end
set_option maxHeartbeats 25600000 in
theorem wframed_any (x : Rc) (w : World) (B0 : Nat) (hB : B0 ≤ w.heap.size) (ok : RcOk w B0 x) (hdt : x.dt.length ≤ 100000000) (hT : Tabs w) :
    Calls Tryd.prog 80 #[.agg x.cells.toArray] w fun e w' => MadeE w x.frame e w' := by
  have ee : Below w.heap.size w w := Below.refl _ _
  go_enter Tryd.func80, Tryd.ntmps80
  refine wp_seq_k fun K1 hK1 => ?_
  refine wp_region_lit ?_
  with_reducible refine ww (.pointer (some ⟨w.heap.size, 0, none⟩)) (w.alloc (.cells (x.cells).toArray 65)) ?_
  try simp only [nP, nN, nA, n0, nS]
  have sz_g2 := ee.size
  have sz_ := ee.size
  have ee := ee.alloc ee.size (.cells (x.cells).toArray 65)
  have Zb1 := hpN w (.cells (x.cells).toArray 65) rfl
  obtain ⟨z1, hz_⟩ : ∃ z_ : World, z_ = w.alloc (.cells (x.cells).toArray 65) := ⟨_, rfl⟩
  rw [← hz_] at Zb1 ee ⊢
  clear hz_
  obtain ⟨g2, hg_g2⟩ : ∃ g_, g_ = w.heap.size := ⟨_, rfl⟩
  have hB_g2 : w.heap.size ≤ g2 := by rw [hg_g2]; exact sz_g2
  rw [← hg_g2] at Zb1 ⊢
  clear hg_g2
  with_reducible refine wv (.slice none 0 0) ?_
  try simp only [nP, nN, nA, n0, nS]
  with_reducible refine wv (.int .i64 0) ?_
  try simp only [nP, nN, nA, n0, nS]
  refine wpList_nil ?_
  refine hK1 _ _ ?_
  refine wp_seq_k fun K3 hK3 => ?_
  refine wp_region_lit ?_
  with_reducible refine wg (g2) (0) (x.cells) (rowAt Zb1) Tryd.underlying65 ?_
  try simp only [nP, nN, nA, n0, nS]
  with_reducible refine wc 115 #[.agg (x.cells).toArray] (wwrite_any x z1 B0 (Nat.le_trans hB ee.size) (ok.below ee hB) hdt (hT.below ee)) ?_
  rintro e z2 ⟨⟨v1, l1, x1, rfl, s1, hx1, hl1⟩, t⟩
  refine ⟨_, rfl, ?_⟩
  have Zb1 := hpB Zb1 t
  have ee := ee.trans (t.mono ee.size)
  clear t
  have hl2 : l1.length ≤ 60000 := by
    rw [hl1]
    cases hf : x.formed with
    | false => simp
    | true => exact (rcwr_len hf).2
  try simp only [nP, nN, nA, n0, nS]
  with_reducible refine wv (.tuple #[v1, .int .i64 x1]) ?_
  try simp only [nP, nN, nA, n0, nS]
  with_reducible refine wv (v1) ?_
  try simp only [nP, nN, nA, n0, nS]
  with_reducible refine wv (.int .i64 x1) ?_
  try simp only [nP, nN, nA, n0, nS]
  with_reducible refine wv (v1) ?_
  try simp only [nP, nN, nA, n0, nS]
  with_reducible refine wv (.int .i64 x1) ?_
  try simp only [nP, nN, nA, n0, nS]
  refine wpList_nil ?_
  refine hK3 _ _ ?_
  refine wp_seq_k fun K4 hK4 => ?_
  refine wp_seq_k fun K5 hK5 => ?_
  refine wp_region_lit ?_
  with_reducible refine wv (.int .i64 x1) ?_
  try simp only [nP, nN, nA, n0, nS]
  obtain ⟨b6, hb6⟩ : ∃ d_ : Bool, (decide (x1 = 0)) = d_ := ⟨_, rfl⟩
  cases b6
  · have pb6 : ¬ (x1 = 0) := of_decide_eq_false hb6
    with_reducible refine wb (.bool true) (.int .i64 x1) (.int .i64 0) 36 (run_neqI hb6) ?_
    try simp only [nP, nN, nA, n0, nS]
    refine wpList_nil ?_
    refine hK5 _ _ ?_
    refine wp_cond_true (by kernel_rfl) ?_
    refine wp_seq_k fun K7 hK7 => ?_
    refine wp_region_lit ?_
    with_reducible refine wv (.int .i64 x1) ?_
    try simp only [nP, nN, nA, n0, nS]
    with_reducible refine wv (.slice none 0 0) ?_
    try simp only [nP, nN, nA, n0, nS]
    with_reducible refine wv (.int .i64 x1) ?_
    try simp only [nP, nN, nA, n0, nS]
    refine wpList_nil ?_
    refine hK7 _ _ ?_
    refine wp_ret ?_
    refine then_ret ?_
    have hf : x.formed = false := by
      cases hf : x.formed with
      | false => rfl
      | true => rw [hf] at hx1; exact absurd hx1 pb6
    rw [hf] at hx1
    subst hx1
    exact bodyPost_ret (v := .tuple #[.slice none 0 0, .int .i64 2]) (by kernel_rfl) rfl (by unfold T.Rc.frame; rw [if_neg (by rw [hf]; decide)]; exact ⟨_, rfl, OwnB.nil, ee⟩)
  have pb6 : x1 = 0 := of_decide_eq_true hb6
  have eb6 : x1 = 0 := of_decide_eq_true hb6
  with_reducible refine wb (.bool false) (.int .i64 x1) (.int .i64 0) 36 (run_neqI hb6) ?_
  try simp only [nP, nN, nA, n0, nS]
  refine wpList_nil ?_
  refine hK5 _ _ ?_
  refine wp_cond_false (by kernel_rfl) ?_
  refine wp_skip ?_
  refine hK4 _ _ ?_
  refine wp_seq_k fun K8 hK8 => ?_
  refine wp_region_lit ?_
  with_reducible refine wv (v1) ?_
  try simp only [nP, nN, nA, n0, nS]
  with_reducible refine wc 116 #[v1] (wrap_s s1 (by omega) (Nat.le_refl _)) ?_
  rintro e z3 ⟨v2, rfl, O2, t⟩
  refine ⟨_, rfl, ?_⟩
  have O2 := OwnB.mono O2 ee.size
  have Zb1 := hpB Zb1 t
  have ee := ee.trans (t.mono ee.size)
  clear t
  try simp only [nP, nN, nA, n0, nS]
  with_reducible refine wv (v2) ?_
  try simp only [nP, nN, nA, n0, nS]
  with_reducible refine wv (.int .i64 (((F.wrap l1).2 : Int))) ?_
  try simp only [nP, nN, nA, n0, nS]
  with_reducible refine wv (v2) ?_
  try simp only [nP, nN, nA, n0, nS]
  with_reducible refine wv (.int .i64 (((F.wrap l1).2 : Int))) ?_
  try simp only [nP, nN, nA, n0, nS]
  refine wpList_nil ?_
  refine hK8 _ _ ?_
  refine wp_ret ?_
  have hf : x.formed = true := by
    cases hf : x.formed with
    | true => rfl
    | false => rw [hf] at hx1; have h_ : x1 = 2 := hx1; omega
  rw [hf] at hl1
  have hl1 : l1 = x.wr := hl1
  subst hl1
  exact bodyPost_ret (v := .tuple #[v2, .int .i64 ((F.wrap x.wr).2 : Int)]) (by kernel_rfl) rfl (by unfold T.Rc.frame; rw [if_pos hf]; exact ⟨_, rfl, O2, ee⟩)
theorem frame_err (x : Rc) : (x.frame.2 : Int) = (if x.formed = true then 0 else 2) := by
  unfold T.Rc.frame
  split
  · rename_i hf
    have := (rcwr_len hf).2
    unfold F.wrap
    rw [if_neg (by omega)]; rfl
  · rfl
set_option maxHeartbeats 25600000 in
theorem wadd_any (x : Rc) (w : World) (B0 : Nat) (hB : B0 ≤ w.heap.size) (ok : RcOk w B0 x) (hdt : x.dt.length ≤ 100000000) (hT : Tabs w) (base g : Nat) (bv rv : Value) (d : Dk) (hb : base ≤ w.heap.size) (dk : DkAt w base g bv rv d) :
    Calls Tryd.prog 28 #[.pointer (some ⟨g, 0, none⟩), .agg x.cells.toArray] w fun e w' => DkP w base g bv rv (added d x) e w' := by
  have mv : Mv w w (Ft g bv rv) (Ft g bv rv) := Mv.refl
  have ee : Below w.heap.size w w := Below.refl _ _
  go_enter Tryd.func28, Tryd.ntmps28
  refine wp_seq_k fun K1 hK1 => ?_
  refine wp_region_lit ?_
  with_reducible refine ww (.pointer (some ⟨w.heap.size, 0, none⟩)) (w.alloc (.cells (x.cells).toArray 65)) ?_
  try simp only [nP, nN, nA, n0, nS]
  have sz_g2 := ee.size
  have ldk := dk.lt
  have dk := dk.below ((Below.refl _ w).alloc (Nat.le_refl _) (.cells (x.cells).toArray 65))
  have mv := mv.trans (Mv.ofBelow ((Below.refl _ w).alloc (Nat.le_refl _) (.cells (x.cells).toArray 65)))
  have sz_ := ee.size
  have ee := ee.alloc ee.size (.cells (x.cells).toArray 65)
  have Zb3 := hpN w (.cells (x.cells).toArray 65) rfl
  obtain ⟨z1, hz_⟩ : ∃ z_ : World, z_ = w.alloc (.cells (x.cells).toArray 65) := ⟨_, rfl⟩
  rw [← hz_] at Zb3 ee dk mv ⊢
  clear hz_
  obtain ⟨g2, hg_g2⟩ : ∃ g_, g_ = w.heap.size := ⟨_, rfl⟩
  have n_g2_dk : g < g2 := by rw [hg_g2]; exact ldk
  clear ldk
  have hB_g2 : w.heap.size ≤ g2 := by rw [hg_g2]; exact sz_g2
  rw [← hg_g2] at Zb3 ⊢
  clear hg_g2
  with_reducible refine wv (.int .i64 0) ?_
  try simp only [nP, nN, nA, n0, nS]
  refine wpList_nil ?_
  refine hK1 _ _ ?_
  refine wp_seq_k fun K3 hK3 => ?_
  refine wp_region_lit ?_
  with_reducible refine wg (g2) (0) (x.cells) (rowAt Zb3) Tryd.underlying65 ?_
  try simp only [nP, nN, nA, n0, nS]
  with_reducible refine wc 80 #[.agg (x.cells).toArray] (wframed_any x z1 B0 (Nat.le_trans hB ee.size) (ok.below ee hB) hdt (hT.below ee)) ?_
  rintro e z2 ⟨v1, rfl, O1, t⟩
  refine ⟨_, rfl, ?_⟩
  have glt := dk.lt
  have hsz := ee.size
  have dk := dk.below t
  have mv := mv.trans (Mv.ofBelow t)
  have Zb3 := hpB Zb3 t
  have ee := ee.trans (t.mono ee.size)
  clear t
  have fe := frame_err x
  obtain ⟨n1, hn1⟩ : ∃ n_ : Int, n_ = (x.frame.2 : Int) := ⟨_, rfl⟩
  rw [← hn1] at fe ⊢
  try simp only [nP, nN, nA, n0, nS]
  with_reducible refine wv (.tuple #[v1, .int .i64 n1]) ?_
  try simp only [nP, nN, nA, n0, nS]
  with_reducible refine wv (v1) ?_
  try simp only [nP, nN, nA, n0, nS]
  with_reducible refine wv (.int .i64 n1) ?_
  try simp only [nP, nN, nA, n0, nS]
  with_reducible refine wv (v1) ?_
  try simp only [nP, nN, nA, n0, nS]
  with_reducible refine wv (.int .i64 n1) ?_
  try simp only [nP, nN, nA, n0, nS]
  refine wpList_nil ?_
  refine hK3 _ _ ?_
  refine wp_seq_k fun K4 hK4 => ?_
  refine wp_seq_k fun K5 hK5 => ?_
  refine wp_region_lit ?_
  with_reducible refine wv (.int .i64 n1) ?_
  try simp only [nP, nN, nA, n0, nS]
  obtain ⟨b6, hb6⟩ : ∃ d_ : Bool, (decide (n1 = 0)) = d_ := ⟨_, rfl⟩
  cases b6
  · have pb6 : ¬ (n1 = 0) := of_decide_eq_false hb6
    with_reducible refine wb (.bool true) (.int .i64 n1) (.int .i64 0) 36 (run_neqI hb6) ?_
    try simp only [nP, nN, nA, n0, nS]
    refine wpList_nil ?_
    refine hK5 _ _ ?_
    refine wp_cond_true (by kernel_rfl) ?_
    refine wp_seq_k fun K7 hK7 => ?_
    refine wp_region_lit ?_
    with_reducible refine wv (.int .i64 n1) ?_
    try simp only [nP, nN, nA, n0, nS]
    with_reducible refine wv (.int .i64 n1) ?_
    try simp only [nP, nN, nA, n0, nS]
    refine wpList_nil ?_
    refine hK7 _ _ ?_
    refine wp_ret ?_
    refine then_ret ?_
    have hf : ¬ x.formed = true := fun hf => by rw [if_pos hf] at fe; exact pb6 fe
    rw [if_neg hf] at fe
    subst fe
    exact bodyPost_ret (v := .int .i64 2) (by kernel_rfl) rfl (by unfold T.added; rw [if_neg hf]; exact ⟨bv, rv, rfl, dk, mv⟩)
  have pb6 : n1 = 0 := of_decide_eq_true hb6
  have eb6 : n1 = 0 := of_decide_eq_true hb6
  with_reducible refine wb (.bool false) (.int .i64 n1) (.int .i64 0) 36 (run_neqI hb6) ?_
  try simp only [nP, nN, nA, n0, nS]
  refine wpList_nil ?_
  refine hK5 _ _ ?_
  refine wp_cond_false (by kernel_rfl) ?_
  refine wp_skip ?_
  refine hK4 _ _ ?_
  refine wp_seq_k fun K8 hK8 => ?_
  refine wp_region_lit ?_
  with_reducible refine wv (.pointer (some ⟨g, 0, none⟩)) ?_
  try simp only [nP, nN, nA, n0, nS]
  with_reducible refine wv (v1) ?_
  try simp only [nP, nN, nA, n0, nS]
  with_reducible refine wc 81 #[.pointer (some ⟨g, 0, none⟩), v1] (dappend_s (Nat.le_trans hb ee.size) dk (ownK O1 glt)) ?_
  rintro e z3 ⟨bv1, rv1, rfl, dk_, mv_⟩
  refine ⟨_, rfl, ?_⟩
  have Zb3 := mvHeap mv_ dk Zb3 (by decide) (by decide)
  have sz_ee := ee.size
  clear ee
  have mv := mv.trans mv_
  clear dk mv_
  have dk := dk_
  clear dk_
  try simp only [nP, nN, nA, n0, nS]
  with_reducible refine wv (.int .i64 (((D.append d x.frame.1).1 : Int))) ?_
  try simp only [nP, nN, nA, n0, nS]
  refine wpList_nil ?_
  refine hK8 _ _ ?_
  refine wp_ret ?_
  have hf : x.formed = true := by
    cases hf : x.formed with
    | true => rfl
    | false => rw [if_neg (by rw [hf]; decide)] at fe; omega
  have hfr : x.frame.1 = (F.wrap x.wr).1 := by unfold T.Rc.frame; rw [if_pos hf]
  rw [hfr] at dk ⊢
  exact bodyPost_ret (v := .int .i64 ((D.append d (F.wrap x.wr).1).1 : Int)) (by kernel_rfl) rfl (by unfold T.added; rw [if_pos hf]; exact ⟨_, _, rfl, dk, mv⟩)
end Go.Proofs.YtjofjpmhokjhnaaDoor

namespace Go.Proofs.YtjofjpmhokjhnaaDoor
set_option maxRecDepth 20001
open Go.RowKit T
set_option linter.unusedSimpArgs false
set_option linter.unusedVariables false
/-- a command lies, whatever the blocks below B do, and these four -/
def CtN (z : World) (B g a b d : Nat) (m : Ms) : Prop := ∀ z' : World, (∀ i, B ≤ i → i < z.heap.size → i ≠ g → i ≠ a → i ≠ b → i ≠ d → z'.heap[i]? = z.heap[i]?) → CmOk z' z'.heap.size m.c
theorem CtN.zero (z : World) (B g a b d : Nat) (k : Int) : CtN z B g a b d (Ms.zero k) := fun _ _ => CmOk.zero
section
variable {z z1 : World} {B g a b d : Nat} {m : Ms}
theorem CtN.step (h : CtN z B g a b d m) (hs : z.heap.size ≤ z1.heap.size) (hk : ∀ i, B ≤ i → i < z.heap.size → i ≠ g → i ≠ a → i ≠ b → i ≠ d → z1.heap[i]? = z.heap[i]?) : CtN z1 B g a b d m :=
  fun z' h' => h z' fun i hB hi h1 h2 h3 h4 => (h' i hB (by omega) h1 h2 h3 h4).trans (hk i hB hi h1 h2 h3 h4)
theorem CtN.below (h : CtN z B g a b d m) (hb : Below z.heap.size z z1) : CtN z1 B g a b d m := h.step hb.size fun i _ hi _ _ _ _ => hb.block i hi
theorem CtN.drew (h : CtN z B g a b d m) : CtN z.drew B g a b d m := h
theorem CtN.alloc (h : CtN z B g a b d m) (o : Obj) : CtN (z.alloc o) B g a b d m := h.below ((Below.refl _ z).alloc (Nat.le_refl _) o)
theorem CtN.rdr (h : CtN z B g a b d m) (hg : z.grownBy z1 (some g)) : CtN z1 B g a b d m := h.step hg.size fun i _ hi hn _ _ _ => hg.block i hi (fun e => hn (by injection e))
theorem CtN.cells (h : CtN z B g a b d m) (vs : List Value) (o : Nat) : CtN (z.setCells a o vs) B g a b d m := h.step (by rw [setCells_size]; exact Nat.le_refl _) fun i _ _ _ ha _ _ => setCells_heap ha vs o z
theorem CtN.rowB (h : CtN z B g a b d m) (cs : Array Value) : CtN (z.setRow b cs) B g a b d m := h.step (by rw [setRow_size]; exact Nat.le_refl _) fun i _ _ _ _ hb _ => setRow_other z b i cs hb
theorem CtN.newC {w0 : World} {y : Cm} (h : CtN z B g a b d m) (f : ∀ z' : World, (∀ i, w0.heap.size ≤ i → i < z.heap.size → z'.heap[i]? = z.heap[i]?) → CmOk z' z'.heap.size y) (hB : B ≤ w0.heap.size) (l1 : g < w0.heap.size) (l2 : a < w0.heap.size) (l3 : b < w0.heap.size) (l4 : d < w0.heap.size) : CtN z B g a b d { m with c := y } :=
  fun z' h' => f z' fun i hi hl => h' i (by omega) hl (by omega) (by omega) (by omega) (by omega)
end
/-- a record lies in blocks from B on -/
def NewR (B : Nat) (z : World) (x : Rc) : Prop := ∀ z' : World, (∀ i, B ≤ i → i < z.heap.size → z'.heap[i]? = z.heap[i]?) → RcOk z' z'.heap.size x
theorem NewR.out {B : Nat} {z : World} {x : Rc} (h : NewR B z x) : RcOk z z.heap.size x := h z fun _ _ _ => rfl
theorem NewR.zero {B : Nat} {z : World} : NewR B z Rc.zero := fun _ _ => rcZero
theorem rcOk1N {z : World} {B g a b d : Nat} {m : Ms} (ck : CtN z B g a b d m) (x : Rc) (hc : x.c = m.c) (hb : x.br < 4294967296) (h1 : x.D = none) (h2 : x.dt = []) (h3 : x.dc = 0) : NewR B z x := fun z' hz => by
  refine ⟨by rw [hc]; exact ck z' (fun i hB hi _ _ _ _ => hz i hB hi), ?_, by rw [h2, h3]; exact Nat.le_refl _, by rw [h3]; exact Nat.zero_le _, fun _ => ⟨h2, h3⟩, hb⟩
  rw [h2]
  exact Rd.nil
theorem ownKeep {z z' : World} {B : Nat} {v : Value} {l : List UInt8} (o : OwnB z B v l) (hz : ∀ i, B ≤ i → i < z.heap.size → z'.heap[i]? = z.heap[i]?) : OwnB z' B v l := by
  refine ⟨o.1, ?_⟩
  rcases o.2 with h | ⟨k, cap, cur, e, hk, hh, r⟩
  · exact Or.inl h
  · exact Or.inr ⟨k, cap, cur, e, hk, (hz k hk (Array.getElem?_eq_some_iff.1 hh).1).trans hh, r⟩
theorem rcOk2N {z : World} {B g a b d : Nat} {m : Ms} (ck : CtN z B g a b d m) (x : Rc) (hc : x.c = m.c) (hb : x.br < 4294967296) (o : OwnB z B (.slice x.D x.dt.length x.dc) x.dt) : NewR B z x := fun z' hz => by
  obtain ⟨A, c, e1, e2, e3, e4, e5⟩ := SlB.ofOwn (ownKeep o hz)
  injection e1 with e6 e7 e8
  subst e6; subst e8
  exact ⟨by rw [hc]; exact ck z' (fun i hB hi _ _ _ _ => hz i hB hi), e5, e2, e3, e4, hb⟩
/-- a record and an error are returned as the bytes say; the record is new -/
def ReadN (w : World) (l : List UInt8) (e : Ending) (w' : World) : Prop :=
  ∃ n x, e = .returned (.tuple #[.agg n.cells.toArray, .int .i64 x]) ∧ NewR w.heap.size w' n ∧ x = (bif rcok l then 0 else 2) ∧ LikeR n (bif rcok l then rcm l else Rc.zero)
end Go.Proofs.YtjofjpmhokjhnaaDoor
