/- The law WalLasts. Conditions: what lies, lies below. (Printed by gen_msg.py.) -/
import Derived.Test.YtjofjpmhokjhnaaDoorWlM44
namespace Go.Proofs.YtjofjpmhokjhnaaDoor
set_option maxRecDepth 20000
open Go.RowKit T
set_option linter.unusedSimpArgs false
set_option linter.unusedVariables false

theorem run_remN {P : Program} {w : World} {t : TypeId} {a b : Nat} (hb : 0 < b) : (binOp .rem t (.int .i64 (a : Int)) (.int .i64 (b : Int))).run P w = .ok (.int .i64 ((a % b : Nat) : Int)) w := by
 have h : b ≠ 0 := by omega
 have h2 : (a : Int).tmod (b : Int) = (a : Int) % (b : Int) := Int.tmod_eq_emod_of_nonneg (by omega)
 simp [binOp, Op.intDiv, h, h2]
theorem dsync_ok {w : World} {base g s : Nat} {bv rv : Value} {d : Dk} {b : List UInt8} (h : DkAt w base g bv rv d) (hd : DInv d s b) : Calls Tryd.prog 27 #[.pointer (some ⟨g, 0, none⟩)] w fun e w' => e = .returned (.int .i64 0) ∧ DkAt w' base g bv rv { d with lasts := d.b.length } ∧ Mv w w' (Ft g bv rv) (Ft g bv rv) := by
 obtain ⟨h1, h2, h3, h4, h5⟩ := hd
 have ha : D.act d = (true, d) := by unfold D.act; rw [if_neg (by omega), if_neg (by omega)]
 have hs : D.sync d = (0, { d with lasts := d.b.length }) := by unfold D.sync; rw [if_neg (by rw [h4]; decide), ha, if_pos rfl]
 refine (dsync_any base g bv rv d w h).mono ?_
 rintro e w' ⟨q1, q2, q3⟩
 rw [hs] at q1 q2
 exact ⟨q1, q2, grownMv (base := base) q3⟩
theorem T.DInv.lasts {d : Dk} {s n : Nat} {b : List UInt8} (h : DInv d s b) : DInv { d with lasts := n } s b := h
theorem T.DInv.bytes {d : Dk} {s : Nat} {b b' : List UInt8} (h : DInv d s b) : DInv { d with b := b' } s b' := ⟨h.1, rfl, h.2.2.1, h.2.2.2.1, h.2.2.2.2⟩
theorem dsum_le (xs : List Rc) (k : Nat) : dsum (xs.take k) ≤ dsum xs := by
 have : dsum xs = dsum (xs.take k) + dsum (xs.drop k) := by
  unfold dsum
  rw [← List.sum_append, ← List.map_append, List.take_append_drop]
 omega
theorem cats_small {ys : List Rc} (h : ∀ y ∈ ys, y.good) (h1 : ys.length ≤ 30) (h2 : dsum ys ≤ 200000) : (cats ys).length ≤ 220700 := by
 have := cats_dsum (fun x hx => (h x hx).1)
 omega
theorem good_of {w : World} {B : Nat} {x : Rc} (ok : RcOk w B x) (hf : x.formed = true) : x.good := ⟨hf, ok.br, ok.c.fits⟩
theorem dcut_inv {d : Dk} {s : Nat} {b : List UInt8} (h : DInv d s b) (hl : d.lasts ≤ b.length) (n : Int) : (D.cut d n).b = b.take (d.lasts + (min (max n 0) ((b.length : Int) - d.lasts)).toNat) ∧ (D.cut d n).size = s ∧ (D.cut d n).fuse = -1 ∧ (D.cut d n).down = false ∧ (D.cut d n).within = false := by
 obtain ⟨h1, h2, h3, h4, h5⟩ := h
 refine ⟨?_, ?_, rfl, rfl, rfl⟩
 ·show D.cutB d n = _
  unfold D.cutB
  rw [if_neg (by rw [h5]; decide), h2]
 ·show ((max (d.size : Int) 0).toNat) = s
  omega
theorem ownRows {w : World} {b n c : Nat} {A : Option Addr} {l : List Rc} (h : OwnR w b (.slice A n c) l) : RowsAt w w.heap.size A 15 (l.map Rc.cells) ∧ l.length ≤ c ∧ c ≤ maxLen ∧ (A = none → c = 0) := by
 obtain ⟨A', c', e, h1, h2, h3⟩ := h.rows
 injection e with e1 e2 e3
 subst e1; subst e3
 obtain ⟨A2, c2, e, _, _, h4⟩ := ownShape h
 injection e with e1 e2 e3
 subst e3
 exact ⟨h2, h1, h4, fun q => (h3 q).2⟩
theorem like_take {xs ns : List Rc} {j : Nat} (h : ∀ x ∈ xs, x.good) (hj : j ≤ xs.length) (g : LikeL ns (reads (xs.take j))) : ns.length = j ∧ ∀ (i : Nat) (a b : Rc), ns[i]? = some a → xs[i]? = some b → LikeR a b := by
 obtain ⟨r1, r2⟩ := reads_like (good_take h j)
 have hl : ns.length = j := by rw [g.1, r1, List.length_take]; omega
 refine ⟨hl, fun i a b h1 h2 => ?_⟩
 have hi : i < j := by rw [← hl]; exact (List.getElem?_eq_some_iff.1 h1).1
 have h3 : (xs.take j)[i]? = some b := by rw [List.getElem?_take, if_pos hi]; exact h2
 have hi2 : i < (reads (xs.take j)).length := by rw [← g.1, hl]; exact hi
 exact (g.2 i a _ h1 (List.getElem?_eq_getElem hi2)).trans (r2 i _ b (List.getElem?_eq_getElem hi2) h3)
theorem like_all {xs ns : List Rc} (h : ∀ x ∈ xs, x.good) (g : LikeL ns (reads xs)) : ns.length = xs.length ∧ ∀ (i : Nat) (a b : Rc), ns[i]? = some a → xs[i]? = some b → LikeR a b := by
 have := like_take (ns := ns) (j := xs.length) h (Nat.le_refl _) (by rw [List.take_length]; exact g)
 exact this
theorem like_dt {xs ns : List Rc} (h : ∀ x ∈ xs, x.good) (hl : ns.length ≤ xs.length) (g : ∀ (i : Nat) (a b : Rc), ns[i]? = some a → xs[i]? = some b → LikeR a b) : ∀ x ∈ ns, x.dt.length ≤ 70000 := fun x hx => by
 obtain ⟨i, hi, rfl⟩ := List.getElem_of_mem hx
 have hk : i < xs.length := by omega
 rw [(g i _ _ (List.getElem?_eq_getElem hi) (List.getElem?_eq_getElem hk)).dt]
 have := (rc_sound (h _ (List.getElem_mem hk)).1).2.2.2.2.2
 omega
theorem good_dt {xs : List Rc} (h : ∀ x ∈ xs, x.good) : ∀ x ∈ xs, x.dt.length ≤ 70000 := fun x hx => by
 have := (rc_sound (h x hx).1).2.2.2.2.2
 omega
theorem rngMv {z z' : World} {base g b o : Nat} {bv rv : Value} {D' : Nat → Prop} {d : Dk} {cs : List Value} (h : Rng z b o cs) (mv : Mv z z' (Ft g bv rv) D') (dk : DkAt z base g bv rv d) (hb : b < base) : Rng z' b o cs := by
 have hk : z'.heap[b]? = z.heap[b]? := mv.fr.block b h.lt (fun q => by have := (dk.ft q).1; omega)
 refine ⟨Nat.lt_of_lt_of_le h.lt mv.fr.size, fun j v hv => ?_⟩
 have := h.rg j v hv
 unfold World.cell? at this ⊢
 rw [hk]; exact this
section
variable {w w' : World} {base g b : Nat} {bv rv v v' : Value} {d : Dk} {xs : List Rc}
theorem dkApp (dk : DkAt w base g bv rv d) (hx : OwnR w b v xs) (g_ : w.grownBy w' v.ownBlock) : DkAt w' base g bv rv d := dk.other fun k hk e => g_.block k hk (fun q => ftOwn dk hx (by decide) (by decide) k e q.symm)
theorem mvApp (F : Nat → Prop) (g_ : w.grownBy w' v.ownBlock) (wh : v'.ownBlock = none ∨ v'.ownBlock = v.ownBlock ∨ v'.ownBlock = some w.heap.size) : Mv w w' (fun k => F k ∨ v.ownBlock = some k) (fun k => F k ∨ v'.ownBlock = some k) :=
 ⟨⟨g_.os, g_.tape, g_.output, g_.size, fun k hk hd => g_.block k hk (fun q => hd (Or.inr q.symm))⟩, fun k hk => by
  rcases hk with q | q
  ·exact Or.inl (Or.inl q)
  ·rcases wh with r | r | r
   ·rw [r] at q; cases q
   ·exact Or.inl (Or.inr (r ▸ q))
   ·rw [r] at q; cases q; exact Or.inr (Nat.le_refl _)⟩
end
set_option maxHeartbeats 25600000 in
theorem wlasts_any (A B : Option Addr) (c d0 : Nat) (xs ys : List Rc) (u0 u1 : Nat) (w : World) (hu0 : u0 < 65536) (hu1 : u1 < 65536) (hc1 : xs.length ≤ c) (hm1 : c ≤ maxLen) (hR1 : RowsAt w w.heap.size A 15 (xs.map Rc.cells)) (hO1 : ∀ x ∈ xs, RcOk w w.heap.size x) (hc2 : ys.length ≤ d0) (hm2 : d0 ≤ maxLen) (hR2 : RowsAt w w.heap.size B 15 (ys.map Rc.cells)) (hO2 : ∀ x ∈ ys, RcOk w w.heap.size x) (hn2 : B = none → d0 = 0) (hT : Tabs w) :
  Calls Tryd.prog 6 #[.slice A xs.length c, .slice B ys.length d0, .agg #[.int .u16 (u0 : Int), .int .u16 (u1 : Int)]] w fun e w' => e = .returned (.bool true) ∧ Below w.heap.size w w' := by
 have ee : Below w.heap.size w w := Below.refl _ _
 go_enter Tryd.func6, Tryd.ntmps6
 refine wp_seq_k fun K1 hK1 => ?_
 refine wp_region_lit ?_
 with_reducible refine ww (.pointer (some ⟨w.heap.size, 0, none⟩)) (w.alloc (.cells ([.int .u16 (u0 : Int), .int .u16 (u1 : Int)]).toArray 59)) ?_
 try simp only [nP, nN, nA, n0, nS]
 have sz_g2 := ee.size
 have sz_ := ee.size
 have ee := ee.alloc ee.size (.cells ([.int .u16 (u0 : Int), .int .u16 (u1 : Int)]).toArray 59)
 have Zb5 := hpN w (.cells ([.int .u16 (u0 : Int), .int .u16 (u1 : Int)]).toArray 59) rfl
 obtain ⟨z1, hz_⟩ : ∃ z_ : World, z_ = w.alloc (.cells ([.int .u16 (u0 : Int), .int .u16 (u1 : Int)]).toArray 59) := ⟨_, rfl⟩
 rw [← hz_] at Zb5 ee ⊢
 clear hz_
 obtain ⟨g2, hg_g2⟩ : ∃ g_, g_ = w.heap.size := ⟨_, rfl⟩
 have hB_g2 : w.heap.size ≤ g2 := by rw [hg_g2]; exact sz_g2
 rw [← hg_g2] at Zb5 ⊢
 clear hg_g2
 with_reducible refine wv (.bool false) ?_
 try simp only [nP, nN, nA, n0, nS]
 refine wpList_nil ?_
 refine hK1 _ _ ?_
 refine wp_seq_k fun K3 hK3 => ?_
 refine wp_seq_k fun K4 hK4 => ?_
 refine wp_region_lit ?_
 with_reducible refine wc 23 #[] (awake13_any z1 (hT.below ee)) ?_
 rintro e z2 ⟨rfl, t⟩
 refine ⟨_, rfl, ?_⟩
 have Zb5 := hpB Zb5 t
 have ee := ee.trans (t.mono ee.size)
 clear t
 try simp only [nP, nN, nA, n0, nS]
 with_reducible refine wv (.bool false) ?_
 try simp only [nP, nN, nA, n0, nS]
 with_reducible refine wv (.bool false) ?_
 try simp only [nP, nN, nA, n0, nS]
 with_reducible refine wv (.slice A xs.length c) ?_
 try simp only [nP, nN, nA, n0, nS]
 with_reducible refine wc 24 #[.slice A xs.length c, .int .i64 30] (few13_any A c xs 30 z2 (by decide) hc1 hm1 ((hR1.below ee (Nat.le_refl _)).more ee.size) (fun x_ hx_ => ((hO1 x_ hx_).below ee (Nat.le_refl _)).more ee.size)) ?_
 rintro e z3 ⟨⟨rf1, rfl, hfw1⟩, t⟩
 refine ⟨_, rfl, ?_⟩
 have Zb5 := hpB Zb5 t
 have ee := ee.trans (t.mono ee.size)
 clear t
 try simp only [nP, nN, nA, n0, nS]
 cases rf1
 ·with_reducible refine wv (.bool true) ?_
  try simp only [nP, nN, nA, n0, nS]
  with_reducible refine wv (.bool true) ?_
  try simp only [nP, nN, nA, n0, nS]
  with_reducible refine wv (.bool true) ?_
  try simp only [nP, nN, nA, n0, nS]
  with_reducible refine wk ?_
  try simp only [nP, nN, nA, n0, nS]
  with_reducible refine wk ?_
  try simp only [nP, nN, nA, n0, nS]
  with_reducible refine wk ?_
  try simp only [nP, nN, nA, n0, nS]
  with_reducible refine wv (.bool true) ?_
  try simp only [nP, nN, nA, n0, nS]
  refine wpList_nil ?_
  refine hK4 _ _ ?_
  refine wp_cond_true (by kernel_rfl) ?_
  refine wp_seq_k fun K5 hK5 => ?_
  refine wp_region_lit ?_
  with_reducible refine wc 23 #[] (awake13_any z3 (hT.below ee)) ?_
  rintro e z4 ⟨rfl, t⟩
  refine ⟨_, rfl, ?_⟩
  have Zb5 := hpB Zb5 t
  have ee := ee.trans (t.mono ee.size)
  clear t
  try simp only [nP, nN, nA, n0, nS]
  with_reducible refine wv (.bool true) ?_
  try simp only [nP, nN, nA, n0, nS]
  refine wpList_nil ?_
  refine hK5 _ _ ?_
  refine wp_ret ?_
  refine then_ret ?_
  exact bodyPost_ret (v := .bool true) (by kernel_rfl) rfl ⟨rfl, ee⟩
 with_reducible refine wv (.bool false) ?_
 try simp only [nP, nN, nA, n0, nS]
 with_reducible refine wv (.bool false) ?_
 try simp only [nP, nN, nA, n0, nS]
 with_reducible refine wv (.bool false) ?_
 try simp only [nP, nN, nA, n0, nS]
 with_reducible refine wv (.slice B ys.length d0) ?_
 try simp only [nP, nN, nA, n0, nS]
 with_reducible refine wc 24 #[.slice B ys.length d0, .int .i64 30] (few13_any B d0 ys 30 z3 (by decide) hc2 hm2 ((hR2.below ee (Nat.le_refl _)).more ee.size) (fun x_ hx_ => ((hO2 x_ hx_).below ee (Nat.le_refl _)).more ee.size)) ?_
 rintro e z4 ⟨⟨rf2, rfl, hfw2⟩, t⟩
 refine ⟨_, rfl, ?_⟩
 have Zb5 := hpB Zb5 t
 have ee := ee.trans (t.mono ee.size)
 clear t
 try simp only [nP, nN, nA, n0, nS]
 cases rf2
 ·with_reducible refine wv (.bool true) ?_
  try simp only [nP, nN, nA, n0, nS]
  with_reducible refine wv (.bool true) ?_
  try simp only [nP, nN, nA, n0, nS]
  refine wpList_nil ?_
  refine hK4 _ _ ?_
  refine wp_cond_true (by kernel_rfl) ?_
  refine wp_seq_k fun K6 hK6 => ?_
  refine wp_region_lit ?_
  with_reducible refine wc 23 #[] (awake13_any z4 (hT.below ee)) ?_
  rintro e z5 ⟨rfl, t⟩
  refine ⟨_, rfl, ?_⟩
  have Zb5 := hpB Zb5 t
  have ee := ee.trans (t.mono ee.size)
  clear t
  try simp only [nP, nN, nA, n0, nS]
  with_reducible refine wv (.bool true) ?_
  try simp only [nP, nN, nA, n0, nS]
  refine wpList_nil ?_
  refine hK6 _ _ ?_
  refine wp_ret ?_
  refine then_ret ?_
  exact bodyPost_ret (v := .bool true) (by kernel_rfl) rfl ⟨rfl, ee⟩
 with_reducible refine wv (.bool false) ?_
 try simp only [nP, nN, nA, n0, nS]
 with_reducible refine wv (.bool false) ?_
 try simp only [nP, nN, nA, n0, nS]
 refine wpList_nil ?_
 refine hK4 _ _ ?_
 refine wp_cond_false (by kernel_rfl) ?_
 refine wp_skip ?_
 refine hK3 _ _ ?_
 obtain ⟨hx30, hxd⟩ := hfw1 rfl
 obtain ⟨hy30, hyd⟩ := hfw2 rfl
 refine wp_seq_k fun K7 hK7 => ?_
 refine wp_region_lit ?_
 with_reducible refine wc 25 #[.int .i64 1000000] (dnew_any 1000000 z4 (by omega)) ?_
 rintro e z5 ⟨rfl, dk, t, hsz_⟩
 refine ⟨_, rfl, ?_⟩
 obtain ⟨gd, hgd⟩ : ∃ q, q = z4.heap.size := ⟨_, rfl⟩
 have hle_ : w.heap.size ≤ gd := by rw [hgd]; exact ee.size
 rw [← hgd] at dk ⊢
 have dk := dk.mono hle_
 clear hgd hsz_ hle_
 have Zb5 := hpB Zb5 t
 have ee := ee.trans (t.mono ee.size)
 clear t
 try simp only [nP, nN, nA, n0, nS]
 with_reducible refine wv (.pointer (some ⟨gd, 0, none⟩)) ?_
 try simp only [nP, nN, nA, n0, nS]
 refine wpList_nil ?_
 refine hK7 _ _ ?_
 refine wp_seq_k fun K8 hK8 => ?_
 refine wp_region_lit ?_
 with_reducible refine wv (.int .i64 0) ?_
 try simp only [nP, nN, nA, n0, nS]
 refine wpList_nil ?_
 refine hK8 _ _ ?_
 refine wp_seq_k fun K9 hK9 => ?_
 have hjK9 : ∀ (u32 u33 u34 u35 u36 u37 u38 u39 u40 u41 : Value) (sy : Nat) (zj9 : World), zj9.heap[g2]? = some (.cells ([.int .u16 (u0 : Int), .int .u16 (u1 : Int)]).toArray 59 (0, 0)) → Below w.heap.size w zj9 → DkAt zj9 w.heap.size gd (.slice none 0 0) (.slice none 0 0) (D.new 1000000) → sy ≤ xs.length → K9 ⟨#[.slice A xs.length c, .slice B ys.length d0, .agg ([.int .u16 (u0 : Int), .int .u16 (u1 : Int)]).toArray, undef, undef, .pointer (some ⟨g2, 0, none⟩), .bool false, .pointer (some ⟨gd, 0, none⟩), .int .i64 ((sy : Int)), undef, undef, undef, undef, undef, undef, undef, undef, undef, .bool true, .bool false, .bool false, .slice A xs.length c, .bool true, .bool false, .bool false, .bool false, .slice B ys.length d0, .bool true, .bool false, .bool false, undef, .pointer (some ⟨gd, 0, none⟩), u32, u33, u34, u35, u36, u37, u38, u39, u40, u41, undef, undef, undef, undef, undef, undef, undef, undef, undef, undef, undef, undef, undef, undef, undef, undef, undef, undef, undef, undef, undef, undef, undef, undef, undef, undef, undef, undef, undef, undef, undef, undef, undef, undef, undef, undef, undef, undef, undef, undef, undef, undef, undef, undef, undef, undef, undef, undef, undef, undef, undef, undef, undef, undef, undef, undef, undef, undef, undef, undef, undef, undef, undef, undef, undef, undef, undef, undef, undef, undef, undef, undef, undef, undef, undef, undef, undef, undef, undef, undef, undef, undef, undef, undef, undef, undef, undef, undef, undef, undef, undef, undef, undef, undef, undef, undef, undef, undef, undef, undef, undef, undef, undef, undef, undef, undef, undef, undef, undef, undef, undef, undef, undef, undef, undef, undef, undef, undef, undef, undef, undef, undef], []⟩ zj9 := by
  clear Zb5 ee
  intro u32 u33 u34 u35 u36 u37 u38 u39 u40 u41 sy zj9 Zb5 ee dk hsyl
  refine hK9 _ _ ?_
  refine wp_seq_k fun K11 hK11 => ?_
  refine wp_seq_k fun K12 hK12 => ?_
  refine wp_region_lit ?_
  with_reducible refine wv (.int .i64 0) ?_
  try simp only [nP, nN, nA, n0, nS]
  refine wpList_nil ?_
  refine hK12 _ _ ?_
  refine wp_block ?_
  with_reducible refine wp_loop_su (xs.length) (fun k u_ alzl12 zl12 => ∃ (bv : Value) (rv : Value) (d : Dk), alzl12 = ⟨#[.slice A xs.length c, .slice B ys.length d0, .agg ([.int .u16 (u0 : Int), .int .u16 (u1 : Int)]).toArray, undef, undef, .pointer (some ⟨g2, 0, none⟩), u_ 6, .pointer (some ⟨gd, 0, none⟩), .int .i64 ((sy : Int)), .int .i64 (((k : Nat) : Int)), undef, undef, undef, undef, undef, undef, undef, undef, .bool true, .bool false, .bool false, .slice A xs.length c, .bool true, .bool false, .bool false, .bool false, .slice B ys.length d0, .bool true, .bool false, .bool false, undef, .pointer (some ⟨gd, 0, none⟩), u32, u33, u34, u35, u36, u37, u38, u39, u40, u41, u_ 42, u_ 43, u_ 44, u_ 45, u_ 46, u_ 47, u_ 48, u_ 49, u_ 50, u_ 51, u_ 52, u_ 53, u_ 54, u_ 55, u_ 56, u_ 57, u_ 58, u_ 59, u_ 60, u_ 61, u_ 62, u_ 63, u_ 64, u_ 65, u_ 66, u_ 67, u_ 68, u_ 69, u_ 70, undef, undef, undef, undef, undef, undef, undef, undef, undef, undef, undef, undef, undef, undef, undef, undef, undef, undef, undef, undef, undef, undef, undef, undef, undef, undef, undef, undef, undef, undef, undef, undef, undef, undef, undef, undef, undef, undef, undef, undef, undef, undef, undef, undef, undef, undef, undef, undef, undef, undef, undef, undef, undef, undef, undef, undef, undef, undef, undef, undef, undef, undef, undef, undef, undef, undef, undef, undef, undef, undef, undef, undef, undef, undef, undef, undef, undef, undef, undef, undef, undef, undef, undef, undef, undef, undef, undef, undef, undef, undef, undef, undef, undef], []⟩ ∧ Hid (zl12.heap[g2]? = some (.cells ([.int .u16 (u0 : Int), .int .u16 (u1 : Int)]).toArray 59 (0, 0))) ∧ Hid (Below w.heap.size w zl12) ∧ Hid (DkAt zl12 w.heap.size gd bv rv d) ∧ Hid (DInv d 1000000 (cats (xs.take (k)))) ∧ Hid (sy < k → d.lasts = (cats (xs.take sy)).length) ∧ Hid (∀ x ∈ xs.take (k), x.good)) 0 (Nat.zero_le _) ?_ ?_
  ·exact ⟨(.slice none 0 0), (.slice none 0 0), (D.new 1000000), by kernel_rfl, Zb5, ee, dk, ⟨rfl, rfl, rfl, rfl, rfl⟩, (fun h => absurd h (Nat.not_lt_zero _)), (fun x hx => by cases hx)⟩
  clear Zb5 ee
  intro k u_ alzl12 zl12 hkzl12 hszl12
  obtain ⟨bv, rv, d, rfl, Zb5, ee, dk, hd, hla, hgo⟩ := hszl12
  have Zb5 := Zb5.out
  have ee := ee.out
  have dk := dk.out
  have hd := hd.out
  have hla := hla.out
  have hgo := hgo.out
  refine wp_seq_k fun K14 hK14 => ?_
  refine wp_seq_k fun K15 hK15 => ?_
  refine wp_region_lit ?_
  with_reducible refine wv (.int .i64 ((k : Int))) ?_
  try simp only [nP, nN, nA, n0, nS]
  with_reducible refine wv (.slice A xs.length c) ?_
  try simp only [nP, nN, nA, n0, nS]
  with_reducible refine wv (.int .i64 ((xs.length : Int))) ?_
  try simp only [nP, nN, nA, n0, nS]
  obtain ⟨b16, hb16⟩ : ∃ d_ : Bool, (decide ((k : Int) < (xs.length : Int))) = d_ := ⟨_, rfl⟩
  with_reducible refine wb (.bool b16) (.int .i64 ((k : Int))) (.int .i64 ((xs.length : Int))) 3 (run_lssI hb16) ?_
  try simp only [nP, nN, nA, n0, nS]
  refine wpList_nil ?_
  refine hK15 _ _ ?_
  cases b16
  ·have pb16 : ¬ ((k : Int) < (xs.length : Int)) := of_decide_eq_false hb16
   refine wp_cond_false (by kernel_rfl) ?_
   refine wp_exit ?_
   refine then_exit ?_
   refine then_exit ?_
   refine inBlock_here ?_
   refine hK11 _ _ ?_
   refine wp_seq_k fun K17 hK17 => ?_
   have hkx : k = xs.length := by omega
   rw [hkx, List.take_length] at hd hgo
   have hgx := hgo
   rw [hkx] at hla
   refine wp_seq_k fun K18 hK18 => ?_
   refine wp_region_lit ?_
   with_reducible refine wv (.int .i64 ((sy : Int))) ?_
   try simp only [nP, nN, nA, n0, nS]
   with_reducible refine wv (.slice A xs.length c) ?_
   try simp only [nP, nN, nA, n0, nS]
   with_reducible refine wv (.int .i64 ((xs.length : Int))) ?_
   try simp only [nP, nN, nA, n0, nS]
   obtain ⟨b19, hb19⟩ : ∃ d_ : Bool, (decide ((sy : Int) = (xs.length : Int))) = d_ := ⟨_, rfl⟩
   with_reducible refine wb (.bool b19) (.int .i64 ((sy : Int))) (.int .i64 ((xs.length : Int))) 3 (run_eqlI hb19) ?_
   try simp only [nP, nN, nA, n0, nS]
   with_reducible refine wv (.bool b19) ?_
   try simp only [nP, nN, nA, n0, nS]
   cases b19
   ·have pb19 : ¬ ((sy : Int) = (xs.length : Int)) := of_decide_eq_false hb19
    with_reducible refine wk ?_
    try simp only [nP, nN, nA, n0, nS]
    with_reducible refine wk ?_
    try simp only [nP, nN, nA, n0, nS]
    with_reducible refine wk ?_
    try simp only [nP, nN, nA, n0, nS]
    with_reducible refine wv (.bool false) ?_
    try simp only [nP, nN, nA, n0, nS]
    refine wpList_nil ?_
    refine hK18 _ _ ?_
    refine wp_cond_false (by kernel_rfl) ?_
    refine wp_skip ?_
    refine hK17 _ _ ?_
    have hla := hla (by omega)
    have hlb : (d).lasts ≤ (cats xs).length := by rw [hla]; have := cats_mono hgx sy xs.length hsyl (Nat.le_refl _); rw [List.take_length] at this; exact this
    refine wp_seq_k fun K20 hK20 => ?_
    refine wp_region_lit ?_
    with_reducible refine wv (.pointer (some ⟨gd, 0, none⟩)) ?_
    try simp only [nP, nN, nA, n0, nS]
    with_reducible refine wv (.pointer (some ⟨g2, 1, none⟩)) ?_
    try simp only [nP, nN, nA, n0, nS]
    with_reducible refine wl (.int .u16 ((u1 : Int))) ⟨g2, 1, none⟩ (rowCell Zb5 (1) rfl) Tryd.underlying58 ?_
    try simp only [nP, nN, nA, n0, nS]
    with_reducible refine wq (.int .i64 ((u1 : Int))) (okIntP ((by rw [IntKind.wrap_i64]; omega) : IntKind.i64.wrap ((u1 : Int)) = (u1 : Int)) (by kernel_rfl)) ?_
    try simp only [nP, nN, nA, n0, nS]
    with_reducible refine wc 29 #[.pointer (some ⟨gd, 0, none⟩), .int .i64 ((u1 : Int))] (dcut_any w.heap.size gd bv rv d ((u1 : Int)) zl12 ee.size dk) ?_
    rintro e z6 ⟨gx, bvx, rfl, _, dkx, _, g_⟩
    refine ⟨_, rfl, ?_⟩
    have mv_ := grownMv (base := w.heap.size) (bv := bv) (rv := rv) g_
    have dkx := dkx.mono ee.size
    have Zb5 := mvHeap mv_ dk Zb5 (by decide) (by decide)
    have ee := ee.trans (mv_.fr.below (fun k_ h_ => (dk.ft h_).1) ee.size)
    clear dk mv_ g_
    have dk := dkx
    clear dkx
    obtain ⟨hb1, hb2, hb3, hb4, hb5⟩ := dcut_inv hd hlb ((u1 : Int))
    obtain ⟨dc, hdc⟩ : ∃ q : Dk, q = D.cut d ((u1 : Int)) := ⟨_, rfl⟩
    rw [← hdc] at dk hb1 hb2 hb3 hb4 hb5
    clear hdc
    obtain ⟨j, dj, hj1, hj2, hj3, hop, hj4, hj5, hj6, hj7, hj8⟩ := opened_cut hgx dc _ hb1 hb4 (by omega) (dk.2.2.2.2.2.2.1)
    have hsj : sy ≤ j := hj2 sy hsyl (by rw [hla]; omega)
    have hdj : DInv dj 1000000 (cats (xs.take j)) := ⟨hj5.trans hb2, hj4, hj7.trans hb3, hj6, hj8.trans hb5⟩
    have hop2 := opened_all (good_take hgx j) dj hj4 hj6
    try simp only [nP, nN, nA, n0, nS]
    with_reducible refine wv (.pointer (some ⟨gx, 0, none⟩)) ?_
    try simp only [nP, nN, nA, n0, nS]
    refine wpList_nil ?_
    refine hK20 _ _ ?_
    refine wp_seq_k fun K21 hK21 => ?_
    refine wp_region_lit ?_
    with_reducible refine wv (.pointer (some ⟨gx, 0, none⟩)) ?_
    try simp only [nP, nN, nA, n0, nS]
    with_reducible refine wc 30 #[.pointer (some ⟨gx, 0, none⟩)] (wopen_any w.heap.size gx bvx (.slice none 0 0) dc z6 ee.size dk (hT.below ee)) ?_
    rintro e z7 ⟨v1_, ns1, bo1, ro1, rfl, hlk1, dk_, mv_, OX1, kx1⟩
    refine ⟨_, rfl, ?_⟩
    rw [hop] at hlk1 dk_ ⊢
    have OX1 := OwnR.mono OX1 ee.size
    have Zb5 := mvHeap mv_ dk Zb5 (by decide) (by decide)
    have ee := ee.trans (mv_.fr.below (fun k_ h_ => Nat.le_trans (Nat.le_refl _) (dk.ft h_).1) ee.size)
    clear dk mv_
    have dk := dk_
    clear dk_
    obtain ⟨A1, c1, e1_, hcc1, _, _⟩ := OX1.rows
    subst e1_
    have hcm1 := (ownRows OX1).2.2.1
    have hd := hdj
    obtain ⟨hln1, hli1⟩ := like_take hgx hj1 hlk1
    try simp only [nP, nN, nA, n0, nS]
    with_reducible refine wv (.tuple #[.slice A1 ns1.length c1, .int .i64 0]) ?_
    try simp only [nP, nN, nA, n0, nS]
    with_reducible refine wv (.slice A1 ns1.length c1) ?_
    try simp only [nP, nN, nA, n0, nS]
    with_reducible refine wv (.int .i64 0) ?_
    try simp only [nP, nN, nA, n0, nS]
    with_reducible refine wv (.slice A1 ns1.length c1) ?_
    try simp only [nP, nN, nA, n0, nS]
    with_reducible refine wv (.int .i64 0) ?_
    try simp only [nP, nN, nA, n0, nS]
    refine wpList_nil ?_
    refine hK21 _ _ ?_
    refine wp_seq_k fun K22 hK22 => ?_
    refine wp_region_lit ?_
    with_reducible refine wv (.pointer (some ⟨gx, 0, none⟩)) ?_
    try simp only [nP, nN, nA, n0, nS]
    with_reducible refine wc 30 #[.pointer (some ⟨gx, 0, none⟩)] (wopen_any w.heap.size gx bo1 ro1 dj z7 ee.size dk (hT.below ee)) ?_
    rintro e z8 ⟨v2_, ns2, bo2, ro2, rfl, hlk2, dk_, mv_, OX2, kx2⟩
    refine ⟨_, rfl, ?_⟩
    rw [hop2] at hlk2 dk_ ⊢
    have OX2 := OwnR.mono OX2 ee.size
    have Zb5 := mvHeap mv_ dk Zb5 (by decide) (by decide)
    have OX1 := mvOwn mv_ dk OX1 (by decide) (by decide)
    have ee := ee.trans (mv_.fr.below (fun k_ h_ => Nat.le_trans (Nat.le_refl _) (dk.ft h_).1) ee.size)
    have kx1 := kx1.mv (mv_.orR _)
    clear dk mv_
    have dk := dk_
    clear dk_
    obtain ⟨A2, c2, e2_, hcc2, _, _⟩ := OX2.rows
    subst e2_
    have hcm2 := (ownRows OX2).2.2.1
    obtain ⟨hln2, hli2⟩ := like_take hgx hj1 hlk2
    try simp only [nP, nN, nA, n0, nS]
    with_reducible refine wv (.tuple #[.slice A2 ns2.length c2, .int .i64 0]) ?_
    try simp only [nP, nN, nA, n0, nS]
    with_reducible refine wv (.slice A2 ns2.length c2) ?_
    try simp only [nP, nN, nA, n0, nS]
    with_reducible refine wv (.int .i64 0) ?_
    try simp only [nP, nN, nA, n0, nS]
    with_reducible refine wv (.slice A2 ns2.length c2) ?_
    try simp only [nP, nN, nA, n0, nS]
    with_reducible refine wv (.int .i64 0) ?_
    try simp only [nP, nN, nA, n0, nS]
    refine wpList_nil ?_
    refine hK22 _ _ ?_
    refine wp_seq_k fun K23 hK23 => ?_
    refine wp_seq_k fun K24 hK24 => ?_
    refine wp_region_lit ?_
    with_reducible refine wv (.int .i64 0) ?_
    try simp only [nP, nN, nA, n0, nS]
    with_reducible refine wb (.bool false) (.int .i64 0) (.int .i64 0) 36 (run_neqI (show (decide (0 = 0)) = true from by decide)) ?_
    try simp only [nP, nN, nA, n0, nS]
    with_reducible refine wv (.bool false) ?_
    try simp only [nP, nN, nA, n0, nS]
    with_reducible refine wv (.int .i64 0) ?_
    try simp only [nP, nN, nA, n0, nS]
    with_reducible refine wb (.bool false) (.int .i64 0) (.int .i64 0) 36 (run_neqI (show (decide (0 = 0)) = true from by decide)) ?_
    try simp only [nP, nN, nA, n0, nS]
    with_reducible refine wv (.bool false) ?_
    try simp only [nP, nN, nA, n0, nS]
    with_reducible refine wv (.bool false) ?_
    try simp only [nP, nN, nA, n0, nS]
    with_reducible refine wv (.slice A1 ns1.length c1) ?_
    try simp only [nP, nN, nA, n0, nS]
    with_reducible refine wv (.slice A xs.length c) ?_
    try simp only [nP, nN, nA, n0, nS]
    with_reducible refine wv (.int .i64 ((sy : Int))) ?_
    try simp only [nP, nN, nA, n0, nS]
    with_reducible refine wc 31 #[.slice A1 ns1.length c1, .slice A xs.length c, .int .i64 ((sy : Int))] (front_t A1 A c1 c ns1 xs (sy : Int) z8 hcc1 hcm1 (ownRows OX1).1 kx1.out ((hR1.below ee (Nat.le_refl _)).more ee.size) (fun x_ hx_ => ((hO1 x_ hx_).below ee (Nat.le_refl _)).more ee.size) (by omega) (by omega) (good_dt hgx) hli1) ?_
    rintro e z9 ⟨rfl, t⟩
    refine ⟨_, rfl, ?_⟩
    have dk := dk.below t
    have kx1 := kx1.below t
    have kx2 := kx2.below t
    have Zb5 := hpB Zb5 t
    have OX1 := ownBelow OX1 t
    have OX2 := ownBelow OX2 t
    have ee := ee.trans (t.mono ee.size)
    clear t
    try simp only [nP, nN, nA, n0, nS]
    with_reducible refine wv (.bool false) ?_
    try simp only [nP, nN, nA, n0, nS]
    with_reducible refine wv (.bool false) ?_
    try simp only [nP, nN, nA, n0, nS]
    with_reducible refine wv (.bool false) ?_
    try simp only [nP, nN, nA, n0, nS]
    with_reducible refine wv (.slice A2 ns2.length c2) ?_
    try simp only [nP, nN, nA, n0, nS]
    with_reducible refine wv (.int .i64 ((ns2.length : Int))) ?_
    try simp only [nP, nN, nA, n0, nS]
    with_reducible refine wv (.slice A1 ns1.length c1) ?_
    try simp only [nP, nN, nA, n0, nS]
    with_reducible refine wv (.int .i64 ((ns1.length : Int))) ?_
    try simp only [nP, nN, nA, n0, nS]
    with_reducible refine wb (.bool false) (.int .i64 ((ns2.length : Int))) (.int .i64 ((ns1.length : Int))) 3 (run_neqI ((decide_eq_true (by omega)) : (decide ((ns2.length : Int) = (ns1.length : Int))) = true)) ?_
    try simp only [nP, nN, nA, n0, nS]
    with_reducible refine wv (.bool false) ?_
    try simp only [nP, nN, nA, n0, nS]
    with_reducible refine wv (.bool false) ?_
    try simp only [nP, nN, nA, n0, nS]
    with_reducible refine wv (.slice A2 ns2.length c2) ?_
    try simp only [nP, nN, nA, n0, nS]
    with_reducible refine wv (.slice A1 ns1.length c1) ?_
    try simp only [nP, nN, nA, n0, nS]
    with_reducible refine wc 31 #[.slice A2 ns2.length c2, .slice A1 ns1.length c1, .int .i64 0] (front_t A2 A1 c2 c1 ns2 ns1 0 z9 hcc2 hcm2 (ownRows OX2).1 kx2.out (ownRows OX1).1 kx1.out (by omega) (by omega) (like_dt hgx (by omega) hli1) (fun i_ a_ b_ h1_ h2_ => (hli2 i_ a_ _ h1_ (List.getElem?_eq_getElem (by have := (List.getElem?_eq_some_iff.1 h1_).1; omega))).trans (hli1 i_ b_ _ h2_ (List.getElem?_eq_getElem (by have := (List.getElem?_eq_some_iff.1 h1_).1; omega))).symm)) ?_
    rintro e z10 ⟨rfl, t⟩
    refine ⟨_, rfl, ?_⟩
    have dk := dk.below t
    have kx1 := kx1.below t
    have kx2 := kx2.below t
    have Zb5 := hpB Zb5 t
    have OX1 := ownBelow OX1 t
    have OX2 := ownBelow OX2 t
    have ee := ee.trans (t.mono ee.size)
    clear t
    try simp only [nP, nN, nA, n0, nS]
    with_reducible refine wv (.bool false) ?_
    try simp only [nP, nN, nA, n0, nS]
    with_reducible refine wv (.bool false) ?_
    try simp only [nP, nN, nA, n0, nS]
    refine wpList_nil ?_
    refine hK24 _ _ ?_
    refine wp_cond_false (by kernel_rfl) ?_
    refine wp_skip ?_
    refine hK23 _ _ ?_
    refine wp_seq_k fun K25 hK25 => ?_
    refine wp_seq_k fun K26 hK26 => ?_
    refine wp_region_lit ?_
    with_reducible refine wv (.int .i64 0) ?_
    try simp only [nP, nN, nA, n0, nS]
    refine wpList_nil ?_
    refine hK26 _ _ ?_
    refine wp_block ?_
    with_reducible refine wp_loop_su (ys.length) (fun k2 u_ alzl26 zl26 => ∃ (bw : Value) (rw_ : Value) (e_ : Dk), alzl26 = ⟨#[.slice A xs.length c, .slice B ys.length d0, .agg ([.int .u16 (u0 : Int), .int .u16 (u1 : Int)]).toArray, undef, undef, .pointer (some ⟨g2, 0, none⟩), u_ 6, .pointer (some ⟨gd, 0, none⟩), .int .i64 ((sy : Int)), .int .i64 ((k : Int)), .pointer (some ⟨gx, 0, none⟩), .slice A1 ns1.length c1, .int .i64 0, .slice A2 ns2.length c2, .int .i64 0, .int .i64 (((k2 : Nat) : Int)), undef, undef, .bool true, .bool false, .bool false, .slice A xs.length c, .bool true, .bool false, .bool false, .bool false, .slice B ys.length d0, .bool true, .bool false, .bool false, undef, .pointer (some ⟨gd, 0, none⟩), u32, u33, u34, u35, u36, u37, u38, u39, u40, u41, .int .i64 ((k : Int)), .slice A xs.length c, .int .i64 ((xs.length : Int)), .bool false, u_ 46, u_ 47, u_ 48, u_ 49, u_ 50, u_ 51, u_ 52, u_ 53, u_ 54, u_ 55, u_ 56, u_ 57, u_ 58, u_ 59, u_ 60, u_ 61, u_ 62, u_ 63, u_ 64, u_ 65, u_ 66, u_ 67, u_ 68, u_ 69, u_ 70, .int .i64 ((sy : Int)), .slice A xs.length c, .int .i64 ((xs.length : Int)), .bool false, .bool false, undef, undef, undef, .bool false, .pointer (some ⟨gd, 0, none⟩), .pointer (some ⟨g2, 1, none⟩), .int .u16 ((u1 : Int)), .int .i64 ((u1 : Int)), .pointer (some ⟨gx, 0, none⟩), .tuple #[.slice A1 ns1.length c1, .int .i64 0], .pointer (some ⟨gx, 0, none⟩), .tuple #[.slice A1 ns1.length c1, .int .i64 0], .slice A1 ns1.length c1, .int .i64 0, .tuple #[.slice A2 ns2.length c2, .int .i64 0], .pointer (some ⟨gx, 0, none⟩), .tuple #[.slice A2 ns2.length c2, .int .i64 0], .slice A2 ns2.length c2, .int .i64 0, .int .i64 0, .bool false, .bool false, .int .i64 0, .bool false, .bool false, .bool false, .slice A1 ns1.length c1, .slice A xs.length c, .int .i64 ((sy : Int)), .bool true, .bool false, .bool false, .bool false, .slice A2 ns2.length c2, .int .i64 ((ns2.length : Int)), .slice A1 ns1.length c1, .int .i64 ((ns1.length : Int)), .bool false, .bool false, .bool false, .slice A2 ns2.length c2, .slice A1 ns1.length c1, .bool true, .bool false, .bool false, u_ 121, u_ 122, u_ 123, u_ 124, u_ 125, u_ 126, u_ 127, u_ 128, u_ 129, u_ 130, u_ 131, u_ 132, u_ 133, u_ 134, u_ 135, u_ 136, u_ 137, u_ 138, u_ 139, undef, undef, undef, undef, undef, undef, undef, undef, undef, undef, undef, undef, undef, undef, undef, undef, undef, undef, undef, undef, undef, undef, undef, undef], []⟩ ∧ Hid (zl26.heap[g2]? = some (.cells ([.int .u16 (u0 : Int), .int .u16 (u1 : Int)]).toArray 59 (0, 0))) ∧ Hid (Below w.heap.size w zl26) ∧ Hid (DkAt zl26 w.heap.size gx bw rw_ e_) ∧ Hid (DInv e_ 1000000 (cats (xs.take j ++ ys.take (k2)))) ∧ Hid (∀ x ∈ ys.take (k2), x.good) ∧ Hid (OwnR zl26 w.heap.size (.slice A1 ns1.length c1) ns1) ∧ Hid (Kp zl26 (fun k_ => Ft gx bw rw_ k_ ∨ (Value.slice A1 ns1.length c1).ownBlock = some k_) (fun z => ∀ x ∈ ns1, RcOk z z.heap.size x))) 0 (Nat.zero_le _) ?_ ?_
    ·exact ⟨bo2, ro2, dj, by kernel_rfl, Zb5, ee, dk, (by rw [List.take_zero, List.append_nil]; exact hd), (fun x hx => by cases hx), OX1, kx1⟩
    clear Zb5 ee OX1
    intro k2 u_ alzl26 zl26 hkzl26 hszl26
    obtain ⟨bw, rw_, e_, rfl, Zb5, ee, dk, hd, hgo, OX1, kx1⟩ := hszl26
    have Zb5 := Zb5.out
    have ee := ee.out
    have dk := dk.out
    have hd := hd.out
    have hgo := hgo.out
    have OX1 := OX1.out
    have kx1 := kx1.out
    refine wp_seq_k fun K28 hK28 => ?_
    refine wp_seq_k fun K29 hK29 => ?_
    refine wp_region_lit ?_
    with_reducible refine wv (.int .i64 ((k2 : Int))) ?_
    try simp only [nP, nN, nA, n0, nS]
    with_reducible refine wv (.slice B ys.length d0) ?_
    try simp only [nP, nN, nA, n0, nS]
    with_reducible refine wv (.int .i64 ((ys.length : Int))) ?_
    try simp only [nP, nN, nA, n0, nS]
    obtain ⟨b30, hb30⟩ : ∃ d_ : Bool, (decide ((k2 : Int) < (ys.length : Int))) = d_ := ⟨_, rfl⟩
    with_reducible refine wb (.bool b30) (.int .i64 ((k2 : Int))) (.int .i64 ((ys.length : Int))) 3 (run_lssI hb30) ?_
    try simp only [nP, nN, nA, n0, nS]
    refine wpList_nil ?_
    refine hK29 _ _ ?_
    cases b30
    ·have pb30 : ¬ ((k2 : Int) < (ys.length : Int)) := of_decide_eq_false hb30
     refine wp_cond_false (by kernel_rfl) ?_
     refine wp_exit ?_
     refine then_exit ?_
     refine then_exit ?_
     refine inBlock_here ?_
     refine hK25 _ _ ?_
     have hk2 : ys.take k2 = ys := List.take_of_length_le (by omega)
     rw [hk2] at hd hgo
     refine wp_seq_k fun K31 hK31 => ?_
     refine wp_region_lit ?_
     with_reducible refine wv (.slice A1 ns1.length c1) ?_
     try simp only [nP, nN, nA, n0, nS]
     with_reducible refine wv (.slice B ys.length d0) ?_
     try simp only [nP, nN, nA, n0, nS]
     with_reducible refine waR (c := d0) (ys := ys) (.tmp 140) (.tmp 141) OX1 ((hR2.below ee (Nat.le_refl _)).more ee.size) hn2 (by omega) (by omega) ee.size ?_
     intro v9 z11 OX_ g_ wh
     have Zb5 := ogHeap Zb5 OX1 (by decide) g_
     have dk := dkApp dk OX1 g_
     have kx1 := kx1.mv (mvApp _ g_ wh)
     have ee := ee.grown g_ ee.size (fun i_ h_ => (OX1.lt i_ h_).1)
     clear g_ OX1
     have OX1 := OX_
     clear OX_
     obtain ⟨zs, hzs⟩ : ∃ q, q = ns1 ++ ys := ⟨_, rfl⟩
     rw [← hzs] at OX1
     have hzl : zs.length = ns1.length + ys.length := by rw [hzs, List.length_append]
     obtain ⟨A9, c9, e9_, hcc9, _, _⟩ := OX1.rows
     subst e9_
     have hcm9 := (ownRows OX1).2.2.1
     with_reducible refine wv (.slice A9 zs.length c9) ?_
     try simp only [nP, nN, nA, n0, nS]
     refine wpList_nil ?_
     refine hK31 _ _ ?_
     refine wp_seq_k fun K32 hK32 => ?_
     refine wp_region_lit ?_
     with_reducible refine wv (.pointer (some ⟨gx, 0, none⟩)) ?_
     try simp only [nP, nN, nA, n0, nS]
     have hgy2 : ∀ x ∈ xs.take j ++ ys, x.good := fun x_ hx_ => by
      rcases List.mem_append.1 hx_ with q | q
      ·exact good_take hgx j x_ q
      ·exact hgo x_ q
     have hop3 := opened_all hgy2 e_ hd.2.1 hd.2.2.2.1
     with_reducible refine wc 30 #[.pointer (some ⟨gx, 0, none⟩)] (wopen_any w.heap.size gx bw rw_ e_ z11 ee.size dk (hT.below ee)) ?_
     rintro e z12 ⟨v3_, ns3, bo3, ro3, rfl, hlk3, dk_, mv_, OX3, kx3⟩
     refine ⟨_, rfl, ?_⟩
     rw [hop3] at hlk3 dk_ ⊢
     have OX3 := OwnR.mono OX3 ee.size
     have Zb5 := mvHeap mv_ dk Zb5 (by decide) (by decide)
     have OX1 := mvOwn mv_ dk OX1 (by decide) (by decide)
     have ee := ee.trans (mv_.fr.below (fun k_ h_ => Nat.le_trans (Nat.le_refl _) (dk.ft h_).1) ee.size)
     have kx1 := kx1.mv (mv_.orR _)
     clear dk mv_
     have dk := dk_
     clear dk_
     obtain ⟨A3, c3, e3_, hcc3, _, _⟩ := OX3.rows
     subst e3_
     have hcm3 := (ownRows OX3).2.2.1
     obtain ⟨hln3, hli3⟩ := like_all hgy2 hlk3
     rw [List.length_append, List.length_take, Nat.min_eq_left hj1] at hln3
     try simp only [nP, nN, nA, n0, nS]
     with_reducible refine wv (.tuple #[.slice A3 ns3.length c3, .int .i64 0]) ?_
     try simp only [nP, nN, nA, n0, nS]
     with_reducible refine wv (.slice A3 ns3.length c3) ?_
     try simp only [nP, nN, nA, n0, nS]
     with_reducible refine wv (.int .i64 0) ?_
     try simp only [nP, nN, nA, n0, nS]
     with_reducible refine wv (.slice A3 ns3.length c3) ?_
     try simp only [nP, nN, nA, n0, nS]
     with_reducible refine wv (.int .i64 0) ?_
     try simp only [nP, nN, nA, n0, nS]
     refine wpList_nil ?_
     refine hK32 _ _ ?_
     refine wp_seq_k fun K33 hK33 => ?_
     refine wp_region_lit ?_
     with_reducible refine wv (.int .i64 0) ?_
     try simp only [nP, nN, nA, n0, nS]
     with_reducible refine wb (.bool true) (.int .i64 0) (.int .i64 0) 36 (run_eqlI (show (decide (0 = 0)) = true from by decide)) ?_
     try simp only [nP, nN, nA, n0, nS]
     with_reducible refine wv (.bool true) ?_
     try simp only [nP, nN, nA, n0, nS]
     with_reducible refine wv (.slice A3 ns3.length c3) ?_
     try simp only [nP, nN, nA, n0, nS]
     with_reducible refine wv (.int .i64 ((ns3.length : Int))) ?_
     try simp only [nP, nN, nA, n0, nS]
     with_reducible refine wv (.slice A9 zs.length c9) ?_
     try simp only [nP, nN, nA, n0, nS]
     with_reducible refine wv (.int .i64 ((zs.length : Int))) ?_
     try simp only [nP, nN, nA, n0, nS]
     with_reducible refine wb (.bool true) (.int .i64 ((ns3.length : Int))) (.int .i64 ((zs.length : Int))) 3 (run_eqlI ((decide_eq_true (by omega)) : (decide ((ns3.length : Int) = (zs.length : Int))) = true)) ?_
     try simp only [nP, nN, nA, n0, nS]
     with_reducible refine wv (.bool true) ?_
     try simp only [nP, nN, nA, n0, nS]
     with_reducible refine wv (.bool true) ?_
     try simp only [nP, nN, nA, n0, nS]
     with_reducible refine wv (.slice A3 ns3.length c3) ?_
     try simp only [nP, nN, nA, n0, nS]
     with_reducible refine wv (.slice A9 zs.length c9) ?_
     try simp only [nP, nN, nA, n0, nS]
     with_reducible refine wv (.slice A9 zs.length c9) ?_
     try simp only [nP, nN, nA, n0, nS]
     with_reducible refine wv (.int .i64 ((zs.length : Int))) ?_
     try simp only [nP, nN, nA, n0, nS]
     have hok9 : ∀ x ∈ zs, RcOk z12 z12.heap.size x := fun x_ hx_ => by
      rw [hzs] at hx_
      rcases List.mem_append.1 hx_ with q | q
      ·exact kx1.out x_ q
      ·exact ((hO2 x_ q).below ee (Nat.le_refl _)).more ee.size
     have hdt9 : ∀ x ∈ zs, x.dt.length ≤ 70000 := fun x_ hx_ => by
      rw [hzs] at hx_
      rcases List.mem_append.1 hx_ with q | q
      ·exact like_dt hgx (by omega) hli1 x_ q
      ·exact good_dt hgo x_ q
     have hli9 : ∀ (i : Nat) (a b : Rc), ns3[i]? = some a → zs[i]? = some b → LikeR a b := fun i_ a_ b_ h1_ h2_ => by
      have hi := (List.getElem?_eq_some_iff.1 h1_).1
      rw [hzs, List.getElem?_append] at h2_
      split at h2_
      ·rename_i q
       have h3 := hli1 i_ b_ _ h2_ (List.getElem?_eq_getElem (by omega))
       refine (hli3 i_ a_ _ h1_ ?_).trans h3.symm
       rw [List.getElem?_append_left (by rw [List.length_take]; omega), List.getElem?_take, if_pos (by omega)]
       exact List.getElem?_eq_getElem _
      ·rename_i q
       exact hli3 i_ a_ b_ h1_ (by rw [List.getElem?_append_right (by rw [List.length_take]; omega), List.length_take, Nat.min_eq_left hj1, ← hln1]; exact h2_)
     with_reducible refine wc 31 #[.slice A3 ns3.length c3, .slice A9 zs.length c9, .int .i64 ((zs.length : Int))] (front_t A3 A9 c3 c9 ns3 zs (zs.length : Int) z12 hcc3 hcm3 (ownRows OX3).1 kx3.out (ownRows OX1).1 hok9 (by omega) (by omega) hdt9 hli9) ?_
     rintro e z13 ⟨rfl, t⟩
     refine ⟨_, rfl, ?_⟩
     have dk := dk.below t
     have kx1 := kx1.below t
     have kx3 := kx3.below t
     have Zb5 := hpB Zb5 t
     have OX1 := ownBelow OX1 t
     have OX3 := ownBelow OX3 t
     have ee := ee.trans (t.mono ee.size)
     clear t
     try simp only [nP, nN, nA, n0, nS]
     with_reducible refine wv (.bool true) ?_
     try simp only [nP, nN, nA, n0, nS]
     with_reducible refine wv (.bool true) ?_
     try simp only [nP, nN, nA, n0, nS]
     refine wpList_nil ?_
     refine hK33 _ _ ?_
     refine wp_ret ?_
     exact bodyPost_ret (v := .bool true) (by kernel_rfl) rfl ⟨rfl, ee⟩
    have pb30 : (k2 : Int) < (ys.length : Int) := of_decide_eq_true hb30
    refine wp_cond_true (by kernel_rfl) ?_
    refine wp_skip ?_
    refine hK28 _ _ ?_
    refine wp_seq_k fun K34 hK34 => ?_
    refine wp_block ?_
    refine wp_seq_k fun K35 hK35 => ?_
    have hkl2 : k2 < ys.length := by omega
    obtain ⟨y, hy⟩ : ∃ q, ys[k2]? = some q := ⟨_, List.getElem?_eq_getElem hkl2⟩
    obtain ⟨bby, oy, hAy, hry, hbd_y⟩ := rowPtr (hR2.below ee (Nat.le_refl _)) hy ee.size
    have oky := (fun x_ hx_ => (hO2 x_ hx_).below ee (Nat.le_refl _)) y (List.mem_of_getElem? hy)
    have hby : bby < w.heap.size := hbd_y
    refine wp_seq_k fun K36 hK36 => ?_
    refine wp_region_lit ?_
    with_reducible refine wv (.slice B ys.length d0) ?_
    try simp only [nP, nN, nA, n0, nS]
    with_reducible refine wv (.int .i64 ((k2 : Int))) ?_
    try simp only [nP, nN, nA, n0, nS]
    with_reducible refine wq (.pointer (some ⟨bby, oy + k2 * 15, none⟩)) (exec_ixA (.tmp 127) (.tmp 128) (A := B) (b := bby) (off := oy) (len := ys.length) (cap := d0) (i := k2) 15 rfl rfl rfl Tryd.underlying57 hAy hkl2) ?_
    try simp only [nP, nN, nA, n0, nS]
    with_reducible refine wg (bby) (oy + k2 * 15) (y.cells) hry.rg Tryd.underlying65 ?_
    try simp only [nP, nN, nA, n0, nS]
    with_reducible refine wc 26 #[.agg (y.cells).toArray] (wformed_any y zl26 w.heap.size ee.size oky (hT.below ee)) ?_
    rintro e z11 ⟨rfl, t⟩
    refine ⟨_, rfl, ?_⟩
    have dk := dk.below t
    have kx1 := kx1.below t
    have hry := rngBelow hry t
    have Zb5 := hpB Zb5 t
    have OX1 := ownBelow OX1 t
    have ee := ee.trans (t.mono ee.size)
    clear t
    generalize hb37 : y.formed = b37
    try simp only [nP, nN, nA, n0, nS]
    cases b37
    ·with_reducible refine wv (.bool true) ?_
     try simp only [nP, nN, nA, n0, nS]
     refine wpList_nil ?_
     refine hK36 _ _ ?_
     refine wp_cond_true (by kernel_rfl) ?_
     refine wp_seq_k fun K38 hK38 => ?_
     refine wp_region_lit ?_
     with_reducible refine wv (.bool true) ?_
     try simp only [nP, nN, nA, n0, nS]
     refine wpList_nil ?_
     refine hK38 _ _ ?_
     refine wp_ret ?_
     refine then_ret ?_
     refine inBlock_ret ?_
     refine then_ret ?_
     refine then_ret ?_
     refine inBlock_ret ?_
     refine then_ret ?_
     exact bodyPost_ret (v := .bool true) (by kernel_rfl) rfl ⟨rfl, ee⟩
    with_reducible refine wv (.bool false) ?_
    try simp only [nP, nN, nA, n0, nS]
    refine wpList_nil ?_
    refine hK36 _ _ ?_
    refine wp_cond_false (by kernel_rfl) ?_
    refine wp_skip ?_
    refine hK35 _ _ ?_
    have hfo : y.formed = true := hb37
    refine wp_seq_k fun K39 hK39 => ?_
    refine wp_region_lit ?_
    with_reducible refine wv (.pointer (some ⟨gx, 0, none⟩)) ?_
    try simp only [nP, nN, nA, n0, nS]
    with_reducible refine wv (.slice B ys.length d0) ?_
    try simp only [nP, nN, nA, n0, nS]
    with_reducible refine wv (.int .i64 ((k2 : Int))) ?_
    try simp only [nP, nN, nA, n0, nS]
    with_reducible refine wq (.pointer (some ⟨bby, oy + k2 * 15, none⟩)) (exec_ixA (.tmp 134) (.tmp 135) (A := B) (b := bby) (off := oy) (len := ys.length) (cap := d0) (i := k2) 15 rfl rfl rfl Tryd.underlying57 hAy hkl2) ?_
    try simp only [nP, nN, nA, n0, nS]
    with_reducible refine wg (bby) (oy + k2 * 15) (y.cells) hry.rg Tryd.underlying65 ?_
    try simp only [nP, nN, nA, n0, nS]
    have hg0 := good_of oky hfo
    have hg1 := all_snoc ys k2 y hy (fun y => y.good) hgo hg0
    have hds := dsum_le ys (k2 + 1)
    have hc1_ := cats_small hg1 (by rw [List.length_take]; omega) (by omega)
    have hc2_ := cats_small (good_take hgx j) (by rw [List.length_take]; omega) (by have := dsum_le xs j; omega)
    have hadd : added e_ y = (0, { e_ with b := cats (xs.take j ++ ys.take (k2 + 1)) }) := by
     have q := added_ok (x := y) hd hfo (by rw [List.append_assoc, ← take_snoc hy, cats_app, List.length_append]; omega)
     rw [List.append_assoc, ← take_snoc hy] at q
     exact q
    with_reducible refine wc 28 #[.pointer (some ⟨gx, 0, none⟩), .agg (y.cells).toArray] (wadd_any y z11 w.heap.size ee.size ((hO2 y (List.mem_of_getElem? hy)).below ee (Nat.le_refl _)) (by have := (rc_sound hfo).2.2.2.2.2; omega) (hT.below ee) w.heap.size gx bw rw_ e_ ee.size dk) ?_
    rintro e z12 ⟨bv1, rv1, rfl, dk_, mv_⟩
    refine ⟨_, rfl, ?_⟩
    rw [hadd] at dk_ ⊢
    have Zb5 := mvHeap mv_ dk Zb5 (by decide) (by decide)
    have OX1 := mvOwn mv_ dk OX1 (by decide) (by decide)
    have ee := ee.trans (mv_.fr.below (fun k_ h_ => Nat.le_trans (Nat.le_refl _) (dk.ft h_).1) ee.size)
    have kx1 := kx1.mv (mv_.orR _)
    have hry := rngMv hry mv_ dk hby
    clear dk mv_
    have dk := dk_
    clear dk_
    try simp only [nP, nN, nA, n0, nS]
    with_reducible refine wb (.bool false) (.int .i64 0) (.int .i64 0) 36 (run_neqI (show (decide (0 = 0)) = true from by decide)) ?_
    try simp only [nP, nN, nA, n0, nS]
    refine wpList_nil ?_
    refine hK39 _ _ ?_
    refine wp_cond_false (by kernel_rfl) ?_
    refine wp_skip ?_
    refine inBlock_normal ?_
    refine hK34 _ _ ?_
    refine wp_region_lit ?_
    with_reducible refine wv (.int .i64 ((k2 : Int))) ?_
    try simp only [nP, nN, nA, n0, nS]
    with_reducible refine wq (.int .i64 (((k2 + 1 : Nat) : Int))) (okIntP ((by rw [IntKind.wrap_i64]; omega) : IntKind.i64.wrap ((k2 : Int) + 1) = ((k2 + 1 : Nat) : Int)) (by kernel_rfl)) ?_
    try simp only [nP, nN, nA, n0, nS]
    with_reducible refine wv (.int .i64 (((k2 + 1 : Nat) : Int))) ?_
    try simp only [nP, nN, nA, n0, nS]
    refine wpList_nil ?_
    refine then_normal ?_
    have hd_ : DInv { e_ with b := cats (xs.take j ++ ys.take (k2 + 1)) } 1000000 (cats (xs.take j ++ ys.take (k2 + 1))) := T.DInv.bytes hd
    exact ⟨hkl2, bv1, rv1, { e_ with b := cats (xs.take j ++ ys.take (k2 + 1)) }, by kernel_rfl, Zb5, ee, dk, hd_, hg1, OX1, kx1⟩
   have pb19 : (sy : Int) = (xs.length : Int) := of_decide_eq_true hb19
   with_reducible refine wv (.pointer (some ⟨gd, 0, none⟩)) ?_
   try simp only [nP, nN, nA, n0, nS]
   have hdb0 := hd.2.1
   with_reducible refine wc 27 #[.pointer (some ⟨gd, 0, none⟩)] (dsync_ok dk hd) ?_
   rintro e z6 ⟨rfl, dk_, mv_⟩
   refine ⟨_, rfl, ?_⟩
   have Zb5 := mvHeap mv_ dk Zb5 (by decide) (by decide)
   have ee := ee.trans (mv_.fr.below (fun k_ h_ => Nat.le_trans (Nat.le_refl _) (dk.ft h_).1) ee.size)
   clear dk mv_
   have dk := dk_
   clear dk_
   have hd := T.DInv.lasts (n := (d).b.length) hd
   have hsy_ : ({ d with lasts := (d).b.length } : Dk).lasts = (d).b.length := rfl
   obtain ⟨d40, hd40⟩ : ∃ q_ : Dk, q_ = { d with lasts := (d).b.length } := ⟨_, rfl⟩
   rw [← hd40] at dk hd hsy_
   clear hd40
   try simp only [nP, nN, nA, n0, nS]
   with_reducible refine wb (.bool false) (.int .i64 0) (.int .i64 0) 36 (run_neqI (show (decide (0 = 0)) = true from by decide)) ?_
   try simp only [nP, nN, nA, n0, nS]
   with_reducible refine wv (.bool false) ?_
   try simp only [nP, nN, nA, n0, nS]
   refine wpList_nil ?_
   refine hK18 _ _ ?_
   refine wp_cond_false (by kernel_rfl) ?_
   refine wp_skip ?_
   refine hK17 _ _ ?_
   have hla : (d40).lasts = (cats (xs.take sy)).length := by rw [hsy_, hdb0, show sy = xs.length by omega, List.take_length]
   have hlb : (d40).lasts ≤ (cats xs).length := by rw [hla]; have := cats_mono hgx sy xs.length hsyl (Nat.le_refl _); rw [List.take_length] at this; exact this
   refine wp_seq_k fun K41 hK41 => ?_
   refine wp_region_lit ?_
   with_reducible refine wv (.pointer (some ⟨gd, 0, none⟩)) ?_
   try simp only [nP, nN, nA, n0, nS]
   with_reducible refine wv (.pointer (some ⟨g2, 1, none⟩)) ?_
   try simp only [nP, nN, nA, n0, nS]
   with_reducible refine wl (.int .u16 ((u1 : Int))) ⟨g2, 1, none⟩ (rowCell Zb5 (1) rfl) Tryd.underlying58 ?_
   try simp only [nP, nN, nA, n0, nS]
   with_reducible refine wq (.int .i64 ((u1 : Int))) (okIntP ((by rw [IntKind.wrap_i64]; omega) : IntKind.i64.wrap ((u1 : Int)) = (u1 : Int)) (by kernel_rfl)) ?_
   try simp only [nP, nN, nA, n0, nS]
   with_reducible refine wc 29 #[.pointer (some ⟨gd, 0, none⟩), .int .i64 ((u1 : Int))] (dcut_any w.heap.size gd bv rv d40 ((u1 : Int)) z6 ee.size dk) ?_
   rintro e z7 ⟨gx, bvx, rfl, _, dkx, _, g_⟩
   refine ⟨_, rfl, ?_⟩
   have mv_ := grownMv (base := w.heap.size) (bv := bv) (rv := rv) g_
   have dkx := dkx.mono ee.size
   have Zb5 := mvHeap mv_ dk Zb5 (by decide) (by decide)
   have ee := ee.trans (mv_.fr.below (fun k_ h_ => (dk.ft h_).1) ee.size)
   clear dk mv_ g_
   have dk := dkx
   clear dkx
   obtain ⟨hb1, hb2, hb3, hb4, hb5⟩ := dcut_inv hd hlb ((u1 : Int))
   obtain ⟨dc, hdc⟩ : ∃ q : Dk, q = D.cut d40 ((u1 : Int)) := ⟨_, rfl⟩
   rw [← hdc] at dk hb1 hb2 hb3 hb4 hb5
   clear hdc
   obtain ⟨j, dj, hj1, hj2, hj3, hop, hj4, hj5, hj6, hj7, hj8⟩ := opened_cut hgx dc _ hb1 hb4 (by omega) (dk.2.2.2.2.2.2.1)
   have hsj : sy ≤ j := hj2 sy hsyl (by rw [hla]; omega)
   have hdj : DInv dj 1000000 (cats (xs.take j)) := ⟨hj5.trans hb2, hj4, hj7.trans hb3, hj6, hj8.trans hb5⟩
   have hop2 := opened_all (good_take hgx j) dj hj4 hj6
   try simp only [nP, nN, nA, n0, nS]
   with_reducible refine wv (.pointer (some ⟨gx, 0, none⟩)) ?_
   try simp only [nP, nN, nA, n0, nS]
   refine wpList_nil ?_
   refine hK41 _ _ ?_
   refine wp_seq_k fun K42 hK42 => ?_
   refine wp_region_lit ?_
   with_reducible refine wv (.pointer (some ⟨gx, 0, none⟩)) ?_
   try simp only [nP, nN, nA, n0, nS]
   with_reducible refine wc 30 #[.pointer (some ⟨gx, 0, none⟩)] (wopen_any w.heap.size gx bvx (.slice none 0 0) dc z7 ee.size dk (hT.below ee)) ?_
   rintro e z8 ⟨v1_, ns1, bo1, ro1, rfl, hlk1, dk_, mv_, OX1, kx1⟩
   refine ⟨_, rfl, ?_⟩
   rw [hop] at hlk1 dk_ ⊢
   have OX1 := OwnR.mono OX1 ee.size
   have Zb5 := mvHeap mv_ dk Zb5 (by decide) (by decide)
   have ee := ee.trans (mv_.fr.below (fun k_ h_ => Nat.le_trans (Nat.le_refl _) (dk.ft h_).1) ee.size)
   clear dk mv_
   have dk := dk_
   clear dk_
   obtain ⟨A1, c1, e1_, hcc1, _, _⟩ := OX1.rows
   subst e1_
   have hcm1 := (ownRows OX1).2.2.1
   have hd := hdj
   obtain ⟨hln1, hli1⟩ := like_take hgx hj1 hlk1
   try simp only [nP, nN, nA, n0, nS]
   with_reducible refine wv (.tuple #[.slice A1 ns1.length c1, .int .i64 0]) ?_
   try simp only [nP, nN, nA, n0, nS]
   with_reducible refine wv (.slice A1 ns1.length c1) ?_
   try simp only [nP, nN, nA, n0, nS]
   with_reducible refine wv (.int .i64 0) ?_
   try simp only [nP, nN, nA, n0, nS]
   with_reducible refine wv (.slice A1 ns1.length c1) ?_
   try simp only [nP, nN, nA, n0, nS]
   with_reducible refine wv (.int .i64 0) ?_
   try simp only [nP, nN, nA, n0, nS]
   refine wpList_nil ?_
   refine hK42 _ _ ?_
   refine wp_seq_k fun K43 hK43 => ?_
   refine wp_region_lit ?_
   with_reducible refine wv (.pointer (some ⟨gx, 0, none⟩)) ?_
   try simp only [nP, nN, nA, n0, nS]
   with_reducible refine wc 30 #[.pointer (some ⟨gx, 0, none⟩)] (wopen_any w.heap.size gx bo1 ro1 dj z8 ee.size dk (hT.below ee)) ?_
   rintro e z9 ⟨v2_, ns2, bo2, ro2, rfl, hlk2, dk_, mv_, OX2, kx2⟩
   refine ⟨_, rfl, ?_⟩
   rw [hop2] at hlk2 dk_ ⊢
   have OX2 := OwnR.mono OX2 ee.size
   have Zb5 := mvHeap mv_ dk Zb5 (by decide) (by decide)
   have OX1 := mvOwn mv_ dk OX1 (by decide) (by decide)
   have ee := ee.trans (mv_.fr.below (fun k_ h_ => Nat.le_trans (Nat.le_refl _) (dk.ft h_).1) ee.size)
   have kx1 := kx1.mv (mv_.orR _)
   clear dk mv_
   have dk := dk_
   clear dk_
   obtain ⟨A2, c2, e2_, hcc2, _, _⟩ := OX2.rows
   subst e2_
   have hcm2 := (ownRows OX2).2.2.1
   obtain ⟨hln2, hli2⟩ := like_take hgx hj1 hlk2
   try simp only [nP, nN, nA, n0, nS]
   with_reducible refine wv (.tuple #[.slice A2 ns2.length c2, .int .i64 0]) ?_
   try simp only [nP, nN, nA, n0, nS]
   with_reducible refine wv (.slice A2 ns2.length c2) ?_
   try simp only [nP, nN, nA, n0, nS]
   with_reducible refine wv (.int .i64 0) ?_
   try simp only [nP, nN, nA, n0, nS]
   with_reducible refine wv (.slice A2 ns2.length c2) ?_
   try simp only [nP, nN, nA, n0, nS]
   with_reducible refine wv (.int .i64 0) ?_
   try simp only [nP, nN, nA, n0, nS]
   refine wpList_nil ?_
   refine hK43 _ _ ?_
   refine wp_seq_k fun K44 hK44 => ?_
   refine wp_seq_k fun K45 hK45 => ?_
   refine wp_region_lit ?_
   with_reducible refine wv (.int .i64 0) ?_
   try simp only [nP, nN, nA, n0, nS]
   with_reducible refine wb (.bool false) (.int .i64 0) (.int .i64 0) 36 (run_neqI (show (decide (0 = 0)) = true from by decide)) ?_
   try simp only [nP, nN, nA, n0, nS]
   with_reducible refine wv (.bool false) ?_
   try simp only [nP, nN, nA, n0, nS]
   with_reducible refine wv (.int .i64 0) ?_
   try simp only [nP, nN, nA, n0, nS]
   with_reducible refine wb (.bool false) (.int .i64 0) (.int .i64 0) 36 (run_neqI (show (decide (0 = 0)) = true from by decide)) ?_
   try simp only [nP, nN, nA, n0, nS]
   with_reducible refine wv (.bool false) ?_
   try simp only [nP, nN, nA, n0, nS]
   with_reducible refine wv (.bool false) ?_
   try simp only [nP, nN, nA, n0, nS]
   with_reducible refine wv (.slice A1 ns1.length c1) ?_
   try simp only [nP, nN, nA, n0, nS]
   with_reducible refine wv (.slice A xs.length c) ?_
   try simp only [nP, nN, nA, n0, nS]
   with_reducible refine wv (.int .i64 ((sy : Int))) ?_
   try simp only [nP, nN, nA, n0, nS]
   with_reducible refine wc 31 #[.slice A1 ns1.length c1, .slice A xs.length c, .int .i64 ((sy : Int))] (front_t A1 A c1 c ns1 xs (sy : Int) z9 hcc1 hcm1 (ownRows OX1).1 kx1.out ((hR1.below ee (Nat.le_refl _)).more ee.size) (fun x_ hx_ => ((hO1 x_ hx_).below ee (Nat.le_refl _)).more ee.size) (by omega) (by omega) (good_dt hgx) hli1) ?_
   rintro e z10 ⟨rfl, t⟩
   refine ⟨_, rfl, ?_⟩
   have dk := dk.below t
   have kx1 := kx1.below t
   have kx2 := kx2.below t
   have Zb5 := hpB Zb5 t
   have OX1 := ownBelow OX1 t
   have OX2 := ownBelow OX2 t
   have ee := ee.trans (t.mono ee.size)
   clear t
   try simp only [nP, nN, nA, n0, nS]
   with_reducible refine wv (.bool false) ?_
   try simp only [nP, nN, nA, n0, nS]
   with_reducible refine wv (.bool false) ?_
   try simp only [nP, nN, nA, n0, nS]
   with_reducible refine wv (.bool false) ?_
   try simp only [nP, nN, nA, n0, nS]
   with_reducible refine wv (.slice A2 ns2.length c2) ?_
   try simp only [nP, nN, nA, n0, nS]
   with_reducible refine wv (.int .i64 ((ns2.length : Int))) ?_
   try simp only [nP, nN, nA, n0, nS]
   with_reducible refine wv (.slice A1 ns1.length c1) ?_
   try simp only [nP, nN, nA, n0, nS]
   with_reducible refine wv (.int .i64 ((ns1.length : Int))) ?_
   try simp only [nP, nN, nA, n0, nS]
   with_reducible refine wb (.bool false) (.int .i64 ((ns2.length : Int))) (.int .i64 ((ns1.length : Int))) 3 (run_neqI ((decide_eq_true (by omega)) : (decide ((ns2.length : Int) = (ns1.length : Int))) = true)) ?_
   try simp only [nP, nN, nA, n0, nS]
   with_reducible refine wv (.bool false) ?_
   try simp only [nP, nN, nA, n0, nS]
   with_reducible refine wv (.bool false) ?_
   try simp only [nP, nN, nA, n0, nS]
   with_reducible refine wv (.slice A2 ns2.length c2) ?_
   try simp only [nP, nN, nA, n0, nS]
   with_reducible refine wv (.slice A1 ns1.length c1) ?_
   try simp only [nP, nN, nA, n0, nS]
   with_reducible refine wc 31 #[.slice A2 ns2.length c2, .slice A1 ns1.length c1, .int .i64 0] (front_t A2 A1 c2 c1 ns2 ns1 0 z10 hcc2 hcm2 (ownRows OX2).1 kx2.out (ownRows OX1).1 kx1.out (by omega) (by omega) (like_dt hgx (by omega) hli1) (fun i_ a_ b_ h1_ h2_ => (hli2 i_ a_ _ h1_ (List.getElem?_eq_getElem (by have := (List.getElem?_eq_some_iff.1 h1_).1; omega))).trans (hli1 i_ b_ _ h2_ (List.getElem?_eq_getElem (by have := (List.getElem?_eq_some_iff.1 h1_).1; omega))).symm)) ?_
   rintro e z11 ⟨rfl, t⟩
   refine ⟨_, rfl, ?_⟩
   have dk := dk.below t
   have kx1 := kx1.below t
   have kx2 := kx2.below t
   have Zb5 := hpB Zb5 t
   have OX1 := ownBelow OX1 t
   have OX2 := ownBelow OX2 t
   have ee := ee.trans (t.mono ee.size)
   clear t
   try simp only [nP, nN, nA, n0, nS]
   with_reducible refine wv (.bool false) ?_
   try simp only [nP, nN, nA, n0, nS]
   with_reducible refine wv (.bool false) ?_
   try simp only [nP, nN, nA, n0, nS]
   refine wpList_nil ?_
   refine hK45 _ _ ?_
   refine wp_cond_false (by kernel_rfl) ?_
   refine wp_skip ?_
   refine hK44 _ _ ?_
   refine wp_seq_k fun K46 hK46 => ?_
   refine wp_seq_k fun K47 hK47 => ?_
   refine wp_region_lit ?_
   with_reducible refine wv (.int .i64 0) ?_
   try simp only [nP, nN, nA, n0, nS]
   refine wpList_nil ?_
   refine hK47 _ _ ?_
   refine wp_block ?_
   with_reducible refine wp_loop_su (ys.length) (fun k2 u_ alzl47 zl47 => ∃ (bw : Value) (rw_ : Value) (e_ : Dk), alzl47 = ⟨#[.slice A xs.length c, .slice B ys.length d0, .agg ([.int .u16 (u0 : Int), .int .u16 (u1 : Int)]).toArray, undef, undef, .pointer (some ⟨g2, 0, none⟩), u_ 6, .pointer (some ⟨gd, 0, none⟩), .int .i64 ((sy : Int)), .int .i64 ((k : Int)), .pointer (some ⟨gx, 0, none⟩), .slice A1 ns1.length c1, .int .i64 0, .slice A2 ns2.length c2, .int .i64 0, .int .i64 (((k2 : Nat) : Int)), undef, undef, .bool true, .bool false, .bool false, .slice A xs.length c, .bool true, .bool false, .bool false, .bool false, .slice B ys.length d0, .bool true, .bool false, .bool false, undef, .pointer (some ⟨gd, 0, none⟩), u32, u33, u34, u35, u36, u37, u38, u39, u40, u41, .int .i64 ((k : Int)), .slice A xs.length c, .int .i64 ((xs.length : Int)), .bool false, u_ 46, u_ 47, u_ 48, u_ 49, u_ 50, u_ 51, u_ 52, u_ 53, u_ 54, u_ 55, u_ 56, u_ 57, u_ 58, u_ 59, u_ 60, u_ 61, u_ 62, u_ 63, u_ 64, u_ 65, u_ 66, u_ 67, u_ 68, u_ 69, u_ 70, .int .i64 ((sy : Int)), .slice A xs.length c, .int .i64 ((xs.length : Int)), .bool true, .bool true, .pointer (some ⟨gd, 0, none⟩), .int .i64 0, .bool false, .bool false, .pointer (some ⟨gd, 0, none⟩), .pointer (some ⟨g2, 1, none⟩), .int .u16 ((u1 : Int)), .int .i64 ((u1 : Int)), .pointer (some ⟨gx, 0, none⟩), .tuple #[.slice A1 ns1.length c1, .int .i64 0], .pointer (some ⟨gx, 0, none⟩), .tuple #[.slice A1 ns1.length c1, .int .i64 0], .slice A1 ns1.length c1, .int .i64 0, .tuple #[.slice A2 ns2.length c2, .int .i64 0], .pointer (some ⟨gx, 0, none⟩), .tuple #[.slice A2 ns2.length c2, .int .i64 0], .slice A2 ns2.length c2, .int .i64 0, .int .i64 0, .bool false, .bool false, .int .i64 0, .bool false, .bool false, .bool false, .slice A1 ns1.length c1, .slice A xs.length c, .int .i64 ((sy : Int)), .bool true, .bool false, .bool false, .bool false, .slice A2 ns2.length c2, .int .i64 ((ns2.length : Int)), .slice A1 ns1.length c1, .int .i64 ((ns1.length : Int)), .bool false, .bool false, .bool false, .slice A2 ns2.length c2, .slice A1 ns1.length c1, .bool true, .bool false, .bool false, u_ 121, u_ 122, u_ 123, u_ 124, u_ 125, u_ 126, u_ 127, u_ 128, u_ 129, u_ 130, u_ 131, u_ 132, u_ 133, u_ 134, u_ 135, u_ 136, u_ 137, u_ 138, u_ 139, undef, undef, undef, undef, undef, undef, undef, undef, undef, undef, undef, undef, undef, undef, undef, undef, undef, undef, undef, undef, undef, undef, undef, undef], []⟩ ∧ Hid (zl47.heap[g2]? = some (.cells ([.int .u16 (u0 : Int), .int .u16 (u1 : Int)]).toArray 59 (0, 0))) ∧ Hid (Below w.heap.size w zl47) ∧ Hid (DkAt zl47 w.heap.size gx bw rw_ e_) ∧ Hid (DInv e_ 1000000 (cats (xs.take j ++ ys.take (k2)))) ∧ Hid (∀ x ∈ ys.take (k2), x.good) ∧ Hid (OwnR zl47 w.heap.size (.slice A1 ns1.length c1) ns1) ∧ Hid (Kp zl47 (fun k_ => Ft gx bw rw_ k_ ∨ (Value.slice A1 ns1.length c1).ownBlock = some k_) (fun z => ∀ x ∈ ns1, RcOk z z.heap.size x))) 0 (Nat.zero_le _) ?_ ?_
   ·exact ⟨bo2, ro2, dj, by kernel_rfl, Zb5, ee, dk, (by rw [List.take_zero, List.append_nil]; exact hd), (fun x hx => by cases hx), OX1, kx1⟩
   clear Zb5 ee OX1
   intro k2 u_ alzl47 zl47 hkzl47 hszl47
   obtain ⟨bw, rw_, e_, rfl, Zb5, ee, dk, hd, hgo, OX1, kx1⟩ := hszl47
   have Zb5 := Zb5.out
   have ee := ee.out
   have dk := dk.out
   have hd := hd.out
   have hgo := hgo.out
   have OX1 := OX1.out
   have kx1 := kx1.out
   refine wp_seq_k fun K49 hK49 => ?_
   refine wp_seq_k fun K50 hK50 => ?_
   refine wp_region_lit ?_
   with_reducible refine wv (.int .i64 ((k2 : Int))) ?_
   try simp only [nP, nN, nA, n0, nS]
   with_reducible refine wv (.slice B ys.length d0) ?_
   try simp only [nP, nN, nA, n0, nS]
   with_reducible refine wv (.int .i64 ((ys.length : Int))) ?_
   try simp only [nP, nN, nA, n0, nS]
   obtain ⟨b51, hb51⟩ : ∃ d_ : Bool, (decide ((k2 : Int) < (ys.length : Int))) = d_ := ⟨_, rfl⟩
   with_reducible refine wb (.bool b51) (.int .i64 ((k2 : Int))) (.int .i64 ((ys.length : Int))) 3 (run_lssI hb51) ?_
   try simp only [nP, nN, nA, n0, nS]
   refine wpList_nil ?_
   refine hK50 _ _ ?_
   cases b51
   ·have pb51 : ¬ ((k2 : Int) < (ys.length : Int)) := of_decide_eq_false hb51
    refine wp_cond_false (by kernel_rfl) ?_
    refine wp_exit ?_
    refine then_exit ?_
    refine then_exit ?_
    refine inBlock_here ?_
    refine hK46 _ _ ?_
    have hk2 : ys.take k2 = ys := List.take_of_length_le (by omega)
    rw [hk2] at hd hgo
    refine wp_seq_k fun K52 hK52 => ?_
    refine wp_region_lit ?_
    with_reducible refine wv (.slice A1 ns1.length c1) ?_
    try simp only [nP, nN, nA, n0, nS]
    with_reducible refine wv (.slice B ys.length d0) ?_
    try simp only [nP, nN, nA, n0, nS]
    with_reducible refine waR (c := d0) (ys := ys) (.tmp 140) (.tmp 141) OX1 ((hR2.below ee (Nat.le_refl _)).more ee.size) hn2 (by omega) (by omega) ee.size ?_
    intro v9 z12 OX_ g_ wh
    have Zb5 := ogHeap Zb5 OX1 (by decide) g_
    have dk := dkApp dk OX1 g_
    have kx1 := kx1.mv (mvApp _ g_ wh)
    have ee := ee.grown g_ ee.size (fun i_ h_ => (OX1.lt i_ h_).1)
    clear g_ OX1
    have OX1 := OX_
    clear OX_
    obtain ⟨zs, hzs⟩ : ∃ q, q = ns1 ++ ys := ⟨_, rfl⟩
    rw [← hzs] at OX1
    have hzl : zs.length = ns1.length + ys.length := by rw [hzs, List.length_append]
    obtain ⟨A9, c9, e9_, hcc9, _, _⟩ := OX1.rows
    subst e9_
    have hcm9 := (ownRows OX1).2.2.1
    with_reducible refine wv (.slice A9 zs.length c9) ?_
    try simp only [nP, nN, nA, n0, nS]
    refine wpList_nil ?_
    refine hK52 _ _ ?_
    refine wp_seq_k fun K53 hK53 => ?_
    refine wp_region_lit ?_
    with_reducible refine wv (.pointer (some ⟨gx, 0, none⟩)) ?_
    try simp only [nP, nN, nA, n0, nS]
    have hgy2 : ∀ x ∈ xs.take j ++ ys, x.good := fun x_ hx_ => by
     rcases List.mem_append.1 hx_ with q | q
     ·exact good_take hgx j x_ q
     ·exact hgo x_ q
    have hop3 := opened_all hgy2 e_ hd.2.1 hd.2.2.2.1
    with_reducible refine wc 30 #[.pointer (some ⟨gx, 0, none⟩)] (wopen_any w.heap.size gx bw rw_ e_ z12 ee.size dk (hT.below ee)) ?_
    rintro e z13 ⟨v3_, ns3, bo3, ro3, rfl, hlk3, dk_, mv_, OX3, kx3⟩
    refine ⟨_, rfl, ?_⟩
    rw [hop3] at hlk3 dk_ ⊢
    have OX3 := OwnR.mono OX3 ee.size
    have Zb5 := mvHeap mv_ dk Zb5 (by decide) (by decide)
    have OX1 := mvOwn mv_ dk OX1 (by decide) (by decide)
    have ee := ee.trans (mv_.fr.below (fun k_ h_ => Nat.le_trans (Nat.le_refl _) (dk.ft h_).1) ee.size)
    have kx1 := kx1.mv (mv_.orR _)
    clear dk mv_
    have dk := dk_
    clear dk_
    obtain ⟨A3, c3, e3_, hcc3, _, _⟩ := OX3.rows
    subst e3_
    have hcm3 := (ownRows OX3).2.2.1
    obtain ⟨hln3, hli3⟩ := like_all hgy2 hlk3
    rw [List.length_append, List.length_take, Nat.min_eq_left hj1] at hln3
    try simp only [nP, nN, nA, n0, nS]
    with_reducible refine wv (.tuple #[.slice A3 ns3.length c3, .int .i64 0]) ?_
    try simp only [nP, nN, nA, n0, nS]
    with_reducible refine wv (.slice A3 ns3.length c3) ?_
    try simp only [nP, nN, nA, n0, nS]
    with_reducible refine wv (.int .i64 0) ?_
    try simp only [nP, nN, nA, n0, nS]
    with_reducible refine wv (.slice A3 ns3.length c3) ?_
    try simp only [nP, nN, nA, n0, nS]
    with_reducible refine wv (.int .i64 0) ?_
    try simp only [nP, nN, nA, n0, nS]
    refine wpList_nil ?_
    refine hK53 _ _ ?_
    refine wp_seq_k fun K54 hK54 => ?_
    refine wp_region_lit ?_
    with_reducible refine wv (.int .i64 0) ?_
    try simp only [nP, nN, nA, n0, nS]
    with_reducible refine wb (.bool true) (.int .i64 0) (.int .i64 0) 36 (run_eqlI (show (decide (0 = 0)) = true from by decide)) ?_
    try simp only [nP, nN, nA, n0, nS]
    with_reducible refine wv (.bool true) ?_
    try simp only [nP, nN, nA, n0, nS]
    with_reducible refine wv (.slice A3 ns3.length c3) ?_
    try simp only [nP, nN, nA, n0, nS]
    with_reducible refine wv (.int .i64 ((ns3.length : Int))) ?_
    try simp only [nP, nN, nA, n0, nS]
    with_reducible refine wv (.slice A9 zs.length c9) ?_
    try simp only [nP, nN, nA, n0, nS]
    with_reducible refine wv (.int .i64 ((zs.length : Int))) ?_
    try simp only [nP, nN, nA, n0, nS]
    with_reducible refine wb (.bool true) (.int .i64 ((ns3.length : Int))) (.int .i64 ((zs.length : Int))) 3 (run_eqlI ((decide_eq_true (by omega)) : (decide ((ns3.length : Int) = (zs.length : Int))) = true)) ?_
    try simp only [nP, nN, nA, n0, nS]
    with_reducible refine wv (.bool true) ?_
    try simp only [nP, nN, nA, n0, nS]
    with_reducible refine wv (.bool true) ?_
    try simp only [nP, nN, nA, n0, nS]
    with_reducible refine wv (.slice A3 ns3.length c3) ?_
    try simp only [nP, nN, nA, n0, nS]
    with_reducible refine wv (.slice A9 zs.length c9) ?_
    try simp only [nP, nN, nA, n0, nS]
    with_reducible refine wv (.slice A9 zs.length c9) ?_
    try simp only [nP, nN, nA, n0, nS]
    with_reducible refine wv (.int .i64 ((zs.length : Int))) ?_
    try simp only [nP, nN, nA, n0, nS]
    have hok9 : ∀ x ∈ zs, RcOk z13 z13.heap.size x := fun x_ hx_ => by
     rw [hzs] at hx_
     rcases List.mem_append.1 hx_ with q | q
     ·exact kx1.out x_ q
     ·exact ((hO2 x_ q).below ee (Nat.le_refl _)).more ee.size
    have hdt9 : ∀ x ∈ zs, x.dt.length ≤ 70000 := fun x_ hx_ => by
     rw [hzs] at hx_
     rcases List.mem_append.1 hx_ with q | q
     ·exact like_dt hgx (by omega) hli1 x_ q
     ·exact good_dt hgo x_ q
    have hli9 : ∀ (i : Nat) (a b : Rc), ns3[i]? = some a → zs[i]? = some b → LikeR a b := fun i_ a_ b_ h1_ h2_ => by
     have hi := (List.getElem?_eq_some_iff.1 h1_).1
     rw [hzs, List.getElem?_append] at h2_
     split at h2_
     ·rename_i q
      have h3 := hli1 i_ b_ _ h2_ (List.getElem?_eq_getElem (by omega))
      refine (hli3 i_ a_ _ h1_ ?_).trans h3.symm
      rw [List.getElem?_append_left (by rw [List.length_take]; omega), List.getElem?_take, if_pos (by omega)]
      exact List.getElem?_eq_getElem _
     ·rename_i q
      exact hli3 i_ a_ b_ h1_ (by rw [List.getElem?_append_right (by rw [List.length_take]; omega), List.length_take, Nat.min_eq_left hj1, ← hln1]; exact h2_)
    with_reducible refine wc 31 #[.slice A3 ns3.length c3, .slice A9 zs.length c9, .int .i64 ((zs.length : Int))] (front_t A3 A9 c3 c9 ns3 zs (zs.length : Int) z13 hcc3 hcm3 (ownRows OX3).1 kx3.out (ownRows OX1).1 hok9 (by omega) (by omega) hdt9 hli9) ?_
    rintro e z14 ⟨rfl, t⟩
    refine ⟨_, rfl, ?_⟩
    have dk := dk.below t
    have kx1 := kx1.below t
    have kx3 := kx3.below t
    have Zb5 := hpB Zb5 t
    have OX1 := ownBelow OX1 t
    have OX3 := ownBelow OX3 t
    have ee := ee.trans (t.mono ee.size)
    clear t
    try simp only [nP, nN, nA, n0, nS]
    with_reducible refine wv (.bool true) ?_
    try simp only [nP, nN, nA, n0, nS]
    with_reducible refine wv (.bool true) ?_
    try simp only [nP, nN, nA, n0, nS]
    refine wpList_nil ?_
    refine hK54 _ _ ?_
    refine wp_ret ?_
    exact bodyPost_ret (v := .bool true) (by kernel_rfl) rfl ⟨rfl, ee⟩
   have pb51 : (k2 : Int) < (ys.length : Int) := of_decide_eq_true hb51
   refine wp_cond_true (by kernel_rfl) ?_
   refine wp_skip ?_
   refine hK49 _ _ ?_
   refine wp_seq_k fun K55 hK55 => ?_
   refine wp_block ?_
   refine wp_seq_k fun K56 hK56 => ?_
   have hkl2 : k2 < ys.length := by omega
   obtain ⟨y, hy⟩ : ∃ q, ys[k2]? = some q := ⟨_, List.getElem?_eq_getElem hkl2⟩
   obtain ⟨bby, oy, hAy, hry, hbd_y⟩ := rowPtr (hR2.below ee (Nat.le_refl _)) hy ee.size
   have oky := (fun x_ hx_ => (hO2 x_ hx_).below ee (Nat.le_refl _)) y (List.mem_of_getElem? hy)
   have hby : bby < w.heap.size := hbd_y
   refine wp_seq_k fun K57 hK57 => ?_
   refine wp_region_lit ?_
   with_reducible refine wv (.slice B ys.length d0) ?_
   try simp only [nP, nN, nA, n0, nS]
   with_reducible refine wv (.int .i64 ((k2 : Int))) ?_
   try simp only [nP, nN, nA, n0, nS]
   with_reducible refine wq (.pointer (some ⟨bby, oy + k2 * 15, none⟩)) (exec_ixA (.tmp 127) (.tmp 128) (A := B) (b := bby) (off := oy) (len := ys.length) (cap := d0) (i := k2) 15 rfl rfl rfl Tryd.underlying57 hAy hkl2) ?_
   try simp only [nP, nN, nA, n0, nS]
   with_reducible refine wg (bby) (oy + k2 * 15) (y.cells) hry.rg Tryd.underlying65 ?_
   try simp only [nP, nN, nA, n0, nS]
   with_reducible refine wc 26 #[.agg (y.cells).toArray] (wformed_any y zl47 w.heap.size ee.size oky (hT.below ee)) ?_
   rintro e z12 ⟨rfl, t⟩
   refine ⟨_, rfl, ?_⟩
   have dk := dk.below t
   have kx1 := kx1.below t
   have hry := rngBelow hry t
   have Zb5 := hpB Zb5 t
   have OX1 := ownBelow OX1 t
   have ee := ee.trans (t.mono ee.size)
   clear t
   generalize hb58 : y.formed = b58
   try simp only [nP, nN, nA, n0, nS]
   cases b58
   ·with_reducible refine wv (.bool true) ?_
    try simp only [nP, nN, nA, n0, nS]
    refine wpList_nil ?_
    refine hK57 _ _ ?_
    refine wp_cond_true (by kernel_rfl) ?_
    refine wp_seq_k fun K59 hK59 => ?_
    refine wp_region_lit ?_
    with_reducible refine wv (.bool true) ?_
    try simp only [nP, nN, nA, n0, nS]
    refine wpList_nil ?_
    refine hK59 _ _ ?_
    refine wp_ret ?_
    refine then_ret ?_
    refine inBlock_ret ?_
    refine then_ret ?_
    refine then_ret ?_
    refine inBlock_ret ?_
    refine then_ret ?_
    exact bodyPost_ret (v := .bool true) (by kernel_rfl) rfl ⟨rfl, ee⟩
   with_reducible refine wv (.bool false) ?_
   try simp only [nP, nN, nA, n0, nS]
   refine wpList_nil ?_
   refine hK57 _ _ ?_
   refine wp_cond_false (by kernel_rfl) ?_
   refine wp_skip ?_
   refine hK56 _ _ ?_
   have hfo : y.formed = true := hb58
   refine wp_seq_k fun K60 hK60 => ?_
   refine wp_region_lit ?_
   with_reducible refine wv (.pointer (some ⟨gx, 0, none⟩)) ?_
   try simp only [nP, nN, nA, n0, nS]
   with_reducible refine wv (.slice B ys.length d0) ?_
   try simp only [nP, nN, nA, n0, nS]
   with_reducible refine wv (.int .i64 ((k2 : Int))) ?_
   try simp only [nP, nN, nA, n0, nS]
   with_reducible refine wq (.pointer (some ⟨bby, oy + k2 * 15, none⟩)) (exec_ixA (.tmp 134) (.tmp 135) (A := B) (b := bby) (off := oy) (len := ys.length) (cap := d0) (i := k2) 15 rfl rfl rfl Tryd.underlying57 hAy hkl2) ?_
   try simp only [nP, nN, nA, n0, nS]
   with_reducible refine wg (bby) (oy + k2 * 15) (y.cells) hry.rg Tryd.underlying65 ?_
   try simp only [nP, nN, nA, n0, nS]
   have hg0 := good_of oky hfo
   have hg1 := all_snoc ys k2 y hy (fun y => y.good) hgo hg0
   have hds := dsum_le ys (k2 + 1)
   have hc1_ := cats_small hg1 (by rw [List.length_take]; omega) (by omega)
   have hc2_ := cats_small (good_take hgx j) (by rw [List.length_take]; omega) (by have := dsum_le xs j; omega)
   have hadd : added e_ y = (0, { e_ with b := cats (xs.take j ++ ys.take (k2 + 1)) }) := by
    have q := added_ok (x := y) hd hfo (by rw [List.append_assoc, ← take_snoc hy, cats_app, List.length_append]; omega)
    rw [List.append_assoc, ← take_snoc hy] at q
    exact q
   with_reducible refine wc 28 #[.pointer (some ⟨gx, 0, none⟩), .agg (y.cells).toArray] (wadd_any y z12 w.heap.size ee.size ((hO2 y (List.mem_of_getElem? hy)).below ee (Nat.le_refl _)) (by have := (rc_sound hfo).2.2.2.2.2; omega) (hT.below ee) w.heap.size gx bw rw_ e_ ee.size dk) ?_
   rintro e z13 ⟨bv1, rv1, rfl, dk_, mv_⟩
   refine ⟨_, rfl, ?_⟩
   rw [hadd] at dk_ ⊢
   have Zb5 := mvHeap mv_ dk Zb5 (by decide) (by decide)
   have OX1 := mvOwn mv_ dk OX1 (by decide) (by decide)
   have ee := ee.trans (mv_.fr.below (fun k_ h_ => Nat.le_trans (Nat.le_refl _) (dk.ft h_).1) ee.size)
   have kx1 := kx1.mv (mv_.orR _)
   have hry := rngMv hry mv_ dk hby
   clear dk mv_
   have dk := dk_
   clear dk_
   try simp only [nP, nN, nA, n0, nS]
   with_reducible refine wb (.bool false) (.int .i64 0) (.int .i64 0) 36 (run_neqI (show (decide (0 = 0)) = true from by decide)) ?_
   try simp only [nP, nN, nA, n0, nS]
   refine wpList_nil ?_
   refine hK60 _ _ ?_
   refine wp_cond_false (by kernel_rfl) ?_
   refine wp_skip ?_
   refine inBlock_normal ?_
   refine hK55 _ _ ?_
   refine wp_region_lit ?_
   with_reducible refine wv (.int .i64 ((k2 : Int))) ?_
   try simp only [nP, nN, nA, n0, nS]
   with_reducible refine wq (.int .i64 (((k2 + 1 : Nat) : Int))) (okIntP ((by rw [IntKind.wrap_i64]; omega) : IntKind.i64.wrap ((k2 : Int) + 1) = ((k2 + 1 : Nat) : Int)) (by kernel_rfl)) ?_
   try simp only [nP, nN, nA, n0, nS]
   with_reducible refine wv (.int .i64 (((k2 + 1 : Nat) : Int))) ?_
   try simp only [nP, nN, nA, n0, nS]
   refine wpList_nil ?_
   refine then_normal ?_
   have hd_ : DInv { e_ with b := cats (xs.take j ++ ys.take (k2 + 1)) } 1000000 (cats (xs.take j ++ ys.take (k2 + 1))) := T.DInv.bytes hd
   exact ⟨hkl2, bv1, rv1, { e_ with b := cats (xs.take j ++ ys.take (k2 + 1)) }, by kernel_rfl, Zb5, ee, dk, hd_, hg1, OX1, kx1⟩
  have pb16 : (k : Int) < (xs.length : Int) := of_decide_eq_true hb16
  refine wp_cond_true (by kernel_rfl) ?_
  refine wp_skip ?_
  refine hK14 _ _ ?_
  refine wp_seq_k fun K61 hK61 => ?_
  refine wp_block ?_
  refine wp_seq_k fun K62 hK62 => ?_
  have hkl : k < xs.length := by omega
  obtain ⟨x, hx⟩ : ∃ q, xs[k]? = some q := ⟨_, List.getElem?_eq_getElem hkl⟩
  obtain ⟨bx, ox, hAx, hrx, hbd_x⟩ := rowPtr (hR1.below ee (Nat.le_refl _)) hx ee.size
  have okx := (fun x_ hx_ => (hO1 x_ hx_).below ee (Nat.le_refl _)) x (List.mem_of_getElem? hx)
  have hbx : bx < w.heap.size := hbd_x
  refine wp_seq_k fun K63 hK63 => ?_
  refine wp_region_lit ?_
  with_reducible refine wv (.slice A xs.length c) ?_
  try simp only [nP, nN, nA, n0, nS]
  with_reducible refine wv (.int .i64 ((k : Int))) ?_
  try simp only [nP, nN, nA, n0, nS]
  with_reducible refine wq (.pointer (some ⟨bx, ox + k * 15, none⟩)) (exec_ixA (.tmp 48) (.tmp 49) (A := A) (b := bx) (off := ox) (len := xs.length) (cap := c) (i := k) 15 rfl rfl rfl Tryd.underlying57 hAx hkl) ?_
  try simp only [nP, nN, nA, n0, nS]
  with_reducible refine wg (bx) (ox + k * 15) (x.cells) hrx.rg Tryd.underlying65 ?_
  try simp only [nP, nN, nA, n0, nS]
  with_reducible refine wc 26 #[.agg (x.cells).toArray] (wformed_any x zl12 w.heap.size ee.size okx (hT.below ee)) ?_
  rintro e z6 ⟨rfl, t⟩
  refine ⟨_, rfl, ?_⟩
  have dk := dk.below t
  have hrx := rngBelow hrx t
  have Zb5 := hpB Zb5 t
  have ee := ee.trans (t.mono ee.size)
  clear t
  generalize hb64 : x.formed = b64
  try simp only [nP, nN, nA, n0, nS]
  cases b64
  ·with_reducible refine wv (.bool true) ?_
   try simp only [nP, nN, nA, n0, nS]
   refine wpList_nil ?_
   refine hK63 _ _ ?_
   refine wp_cond_true (by kernel_rfl) ?_
   refine wp_seq_k fun K65 hK65 => ?_
   refine wp_region_lit ?_
   with_reducible refine wv (.bool true) ?_
   try simp only [nP, nN, nA, n0, nS]
   refine wpList_nil ?_
   refine hK65 _ _ ?_
   refine wp_ret ?_
   refine then_ret ?_
   refine inBlock_ret ?_
   refine then_ret ?_
   refine then_ret ?_
   refine inBlock_ret ?_
   refine then_ret ?_
   exact bodyPost_ret (v := .bool true) (by kernel_rfl) rfl ⟨rfl, ee⟩
  with_reducible refine wv (.bool false) ?_
  try simp only [nP, nN, nA, n0, nS]
  refine wpList_nil ?_
  refine hK63 _ _ ?_
  refine wp_cond_false (by kernel_rfl) ?_
  refine wp_skip ?_
  refine hK62 _ _ ?_
  have hfo : x.formed = true := hb64
  refine wp_seq_k fun K66 hK66 => ?_
  refine wp_region_lit ?_
  with_reducible refine wv (.int .i64 ((k : Int))) ?_
  try simp only [nP, nN, nA, n0, nS]
  with_reducible refine wv (.int .i64 ((sy : Int))) ?_
  try simp only [nP, nN, nA, n0, nS]
  obtain ⟨b67, hb67⟩ : ∃ d_ : Bool, (decide ((k : Int) = (sy : Int))) = d_ := ⟨_, rfl⟩
  with_reducible refine wb (.bool b67) (.int .i64 ((k : Int))) (.int .i64 ((sy : Int))) 3 (run_eqlI hb67) ?_
  try simp only [nP, nN, nA, n0, nS]
  with_reducible refine wv (.bool b67) ?_
  try simp only [nP, nN, nA, n0, nS]
  cases b67
  ·have pb67 : ¬ ((k : Int) = (sy : Int)) := of_decide_eq_false hb67
   with_reducible refine wk ?_
   try simp only [nP, nN, nA, n0, nS]
   with_reducible refine wk ?_
   try simp only [nP, nN, nA, n0, nS]
   with_reducible refine wk ?_
   try simp only [nP, nN, nA, n0, nS]
   with_reducible refine wv (.bool false) ?_
   try simp only [nP, nN, nA, n0, nS]
   with_reducible refine wv (.bool false) ?_
   try simp only [nP, nN, nA, n0, nS]
   with_reducible refine wv (.pointer (some ⟨gd, 0, none⟩)) ?_
   try simp only [nP, nN, nA, n0, nS]
   with_reducible refine wv (.slice A xs.length c) ?_
   try simp only [nP, nN, nA, n0, nS]
   with_reducible refine wv (.int .i64 ((k : Int))) ?_
   try simp only [nP, nN, nA, n0, nS]
   with_reducible refine wq (.pointer (some ⟨bx, ox + k * 15, none⟩)) (exec_ixA (.tmp 64) (.tmp 65) (A := A) (b := bx) (off := ox) (len := xs.length) (cap := c) (i := k) 15 rfl rfl rfl Tryd.underlying57 hAx hkl) ?_
   try simp only [nP, nN, nA, n0, nS]
   with_reducible refine wg (bx) (ox + k * 15) (x.cells) hrx.rg Tryd.underlying65 ?_
   try simp only [nP, nN, nA, n0, nS]
   have hg0 := good_of okx hfo
   have hg1 := all_snoc xs k x hx (fun y => y.good) hgo hg0
   have hds := dsum_le xs (k + 1)
   have hc1_ := cats_small hg1 (by rw [List.length_take]; omega) (by omega)
   have hdb := hd.2.1
   have hadd : added d x = (0, { d with b := cats (xs.take (k + 1)) }) := by
    have q := added_ok (x := x) hd hfo (by rw [← take_snoc hx]; omega)
    rw [← take_snoc hx] at q
    exact q
   with_reducible refine wc 28 #[.pointer (some ⟨gd, 0, none⟩), .agg (x.cells).toArray] (wadd_any x z6 w.heap.size ee.size ((hO1 x (List.mem_of_getElem? hx)).below ee (Nat.le_refl _)) (by have := (rc_sound hfo).2.2.2.2.2; omega) (hT.below ee) w.heap.size gd bv rv d ee.size dk) ?_
   rintro e z7 ⟨bv1, rv1, rfl, dk_, mv_⟩
   refine ⟨_, rfl, ?_⟩
   rw [hadd] at dk_ ⊢
   have Zb5 := mvHeap mv_ dk Zb5 (by decide) (by decide)
   have ee := ee.trans (mv_.fr.below (fun k_ h_ => Nat.le_trans (Nat.le_refl _) (dk.ft h_).1) ee.size)
   have hrx := rngMv hrx mv_ dk hbx
   clear dk mv_
   have dk := dk_
   clear dk_
   try simp only [nP, nN, nA, n0, nS]
   with_reducible refine wb (.bool false) (.int .i64 0) (.int .i64 0) 36 (run_neqI (show (decide (0 = 0)) = true from by decide)) ?_
   try simp only [nP, nN, nA, n0, nS]
   with_reducible refine wv (.bool false) ?_
   try simp only [nP, nN, nA, n0, nS]
   refine wpList_nil ?_
   refine hK66 _ _ ?_
   refine wp_cond_false (by kernel_rfl) ?_
   refine wp_skip ?_
   refine inBlock_normal ?_
   refine hK61 _ _ ?_
   refine wp_region_lit ?_
   with_reducible refine wv (.int .i64 ((k : Int))) ?_
   try simp only [nP, nN, nA, n0, nS]
   with_reducible refine wq (.int .i64 (((k + 1 : Nat) : Int))) (okIntP ((by rw [IntKind.wrap_i64]; omega) : IntKind.i64.wrap ((k : Int) + 1) = ((k + 1 : Nat) : Int)) (by kernel_rfl)) ?_
   try simp only [nP, nN, nA, n0, nS]
   with_reducible refine wv (.int .i64 (((k + 1 : Nat) : Int))) ?_
   try simp only [nP, nN, nA, n0, nS]
   refine wpList_nil ?_
   refine then_normal ?_
   have hd_ : DInv { d with b := cats (xs.take (k + 1)) } 1000000 (cats (xs.take (k + 1))) := T.DInv.bytes hd
   have hla_ : sy < k + 1 → ({ d with b := cats (xs.take (k + 1)) } : Dk).lasts = (cats (xs.take sy)).length := fun h_ => by rw [show (({ d with b := cats (xs.take (k + 1)) } : Dk).lasts) = (d).lasts from rfl]; exact hla (by omega)
   exact ⟨hkl, bv1, rv1, { d with b := cats (xs.take (k + 1)) }, by kernel_rfl, Zb5, ee, dk, hd_, hla_, hg1⟩
  have pb67 : (k : Int) = (sy : Int) := of_decide_eq_true hb67
  with_reducible refine wv (.pointer (some ⟨gd, 0, none⟩)) ?_
  try simp only [nP, nN, nA, n0, nS]
  have hdb0 := hd.2.1
  with_reducible refine wc 27 #[.pointer (some ⟨gd, 0, none⟩)] (dsync_ok dk hd) ?_
  rintro e z7 ⟨rfl, dk_, mv_⟩
  refine ⟨_, rfl, ?_⟩
  have Zb5 := mvHeap mv_ dk Zb5 (by decide) (by decide)
  have ee := ee.trans (mv_.fr.below (fun k_ h_ => Nat.le_trans (Nat.le_refl _) (dk.ft h_).1) ee.size)
  have hrx := rngMv hrx mv_ dk hbx
  clear dk mv_
  have dk := dk_
  clear dk_
  have hd := T.DInv.lasts (n := (d).b.length) hd
  have hsy_ : ({ d with lasts := (d).b.length } : Dk).lasts = (d).b.length := rfl
  obtain ⟨d68, hd68⟩ : ∃ q_ : Dk, q_ = { d with lasts := (d).b.length } := ⟨_, rfl⟩
  rw [← hd68] at dk hd hsy_
  clear hd68
  try simp only [nP, nN, nA, n0, nS]
  with_reducible refine wb (.bool false) (.int .i64 0) (.int .i64 0) 36 (run_neqI (show (decide (0 = 0)) = true from by decide)) ?_
  try simp only [nP, nN, nA, n0, nS]
  with_reducible refine wv (.bool false) ?_
  try simp only [nP, nN, nA, n0, nS]
  with_reducible refine wv (.bool false) ?_
  try simp only [nP, nN, nA, n0, nS]
  with_reducible refine wv (.pointer (some ⟨gd, 0, none⟩)) ?_
  try simp only [nP, nN, nA, n0, nS]
  with_reducible refine wv (.slice A xs.length c) ?_
  try simp only [nP, nN, nA, n0, nS]
  with_reducible refine wv (.int .i64 ((k : Int))) ?_
  try simp only [nP, nN, nA, n0, nS]
  with_reducible refine wq (.pointer (some ⟨bx, ox + k * 15, none⟩)) (exec_ixA (.tmp 64) (.tmp 65) (A := A) (b := bx) (off := ox) (len := xs.length) (cap := c) (i := k) 15 rfl rfl rfl Tryd.underlying57 hAx hkl) ?_
  try simp only [nP, nN, nA, n0, nS]
  with_reducible refine wg (bx) (ox + k * 15) (x.cells) hrx.rg Tryd.underlying65 ?_
  try simp only [nP, nN, nA, n0, nS]
  have hg0 := good_of okx hfo
  have hg1 := all_snoc xs k x hx (fun y => y.good) hgo hg0
  have hds := dsum_le xs (k + 1)
  have hc1_ := cats_small hg1 (by rw [List.length_take]; omega) (by omega)
  have hdb := hd.2.1
  have hadd : added d68 x = (0, { d68 with b := cats (xs.take (k + 1)) }) := by
   have q := added_ok (x := x) hd hfo (by rw [← take_snoc hx]; omega)
   rw [← take_snoc hx] at q
   exact q
  with_reducible refine wc 28 #[.pointer (some ⟨gd, 0, none⟩), .agg (x.cells).toArray] (wadd_any x z7 w.heap.size ee.size ((hO1 x (List.mem_of_getElem? hx)).below ee (Nat.le_refl _)) (by have := (rc_sound hfo).2.2.2.2.2; omega) (hT.below ee) w.heap.size gd bv rv d68 ee.size dk) ?_
  rintro e z8 ⟨bv1, rv1, rfl, dk_, mv_⟩
  refine ⟨_, rfl, ?_⟩
  rw [hadd] at dk_ ⊢
  have Zb5 := mvHeap mv_ dk Zb5 (by decide) (by decide)
  have ee := ee.trans (mv_.fr.below (fun k_ h_ => Nat.le_trans (Nat.le_refl _) (dk.ft h_).1) ee.size)
  have hrx := rngMv hrx mv_ dk hbx
  clear dk mv_
  have dk := dk_
  clear dk_
  try simp only [nP, nN, nA, n0, nS]
  with_reducible refine wb (.bool false) (.int .i64 0) (.int .i64 0) 36 (run_neqI (show (decide (0 = 0)) = true from by decide)) ?_
  try simp only [nP, nN, nA, n0, nS]
  with_reducible refine wv (.bool false) ?_
  try simp only [nP, nN, nA, n0, nS]
  refine wpList_nil ?_
  refine hK66 _ _ ?_
  refine wp_cond_false (by kernel_rfl) ?_
  refine wp_skip ?_
  refine inBlock_normal ?_
  refine hK61 _ _ ?_
  refine wp_region_lit ?_
  with_reducible refine wv (.int .i64 ((k : Int))) ?_
  try simp only [nP, nN, nA, n0, nS]
  with_reducible refine wq (.int .i64 (((k + 1 : Nat) : Int))) (okIntP ((by rw [IntKind.wrap_i64]; omega) : IntKind.i64.wrap ((k : Int) + 1) = ((k + 1 : Nat) : Int)) (by kernel_rfl)) ?_
  try simp only [nP, nN, nA, n0, nS]
  with_reducible refine wv (.int .i64 (((k + 1 : Nat) : Int))) ?_
  try simp only [nP, nN, nA, n0, nS]
  refine wpList_nil ?_
  refine then_normal ?_
  have hd_ : DInv { d68 with b := cats (xs.take (k + 1)) } 1000000 (cats (xs.take (k + 1))) := T.DInv.bytes hd
  have hla_ : sy < k + 1 → ({ d68 with b := cats (xs.take (k + 1)) } : Dk).lasts = (cats (xs.take sy)).length := fun h_ => by rw [show (({ d68 with b := cats (xs.take (k + 1)) } : Dk).lasts) = (d68).lasts from rfl]; rw [hsy_, hdb0, show sy = k by omega]
  exact ⟨hkl, bv1, rv1, { d68 with b := cats (xs.take (k + 1)) }, by kernel_rfl, Zb5, ee, dk, hd_, hla_, hg1⟩
 refine wp_seq_k fun K69 hK69 => ?_
 refine wp_region_lit ?_
 with_reducible refine wv (.slice A xs.length c) ?_
 try simp only [nP, nN, nA, n0, nS]
 with_reducible refine wv (.int .i64 ((xs.length : Int))) ?_
 try simp only [nP, nN, nA, n0, nS]
 obtain ⟨b70, hb70⟩ : ∃ d_ : Bool, (decide ((xs.length : Int) > 0)) = d_ := ⟨_, rfl⟩
 with_reducible refine wb (.bool b70) (.int .i64 ((xs.length : Int))) (.int .i64 0) 3 (run_gtrI hb70) ?_
 try simp only [nP, nN, nA, n0, nS]
 refine wpList_nil ?_
 refine hK69 _ _ ?_
 cases b70
 ·have pb70 : ¬ ((xs.length : Int) > 0) := of_decide_eq_false hb70
  refine wp_cond_false (by kernel_rfl) ?_
  refine wp_skip ?_
  exact hjK9 _ _ _ _ _ _ _ _ _ _ 0 _ Zb5 ee dk (Nat.zero_le _ : _ ≤ xs.length)
 have pb70 : (xs.length : Int) > 0 := of_decide_eq_true hb70
 refine wp_cond_true (by kernel_rfl) ?_
 refine wp_region_lit ?_
 with_reducible refine wv (.pointer (some ⟨g2, 0, none⟩)) ?_
 try simp only [nP, nN, nA, n0, nS]
 with_reducible refine wl (.int .u16 ((u0 : Int))) ⟨g2, 0, none⟩ (rowCell Zb5 (0) rfl) Tryd.underlying58 ?_
 try simp only [nP, nN, nA, n0, nS]
 with_reducible refine wq (.int .i64 ((u0 : Int))) (okIntP ((by rw [IntKind.wrap_i64]; omega) : IntKind.i64.wrap ((u0 : Int)) = (u0 : Int)) (by kernel_rfl)) ?_
 try simp only [nP, nN, nA, n0, nS]
 with_reducible refine wv (.slice A xs.length c) ?_
 try simp only [nP, nN, nA, n0, nS]
 with_reducible refine wv (.int .i64 ((xs.length : Int))) ?_
 try simp only [nP, nN, nA, n0, nS]
 with_reducible refine wq (.int .i64 (((xs.length + 1 : Nat) : Int))) (okIntP ((by rw [IntKind.wrap_i64]; omega) : IntKind.i64.wrap ((xs.length : Int) + 1) = ((xs.length + 1 : Nat) : Int)) (by kernel_rfl)) ?_
 try simp only [nP, nN, nA, n0, nS]
 with_reducible refine wb (.int .i64 ((u0 % (xs.length + 1) : Nat) : Int)) (.int .i64 (u0 : Int)) (.int .i64 ((xs.length + 1 : Nat) : Int)) 3 (run_remN (by omega)) ?_
 try simp only [nP, nN, nA, n0, nS]
 with_reducible refine wv (.int .i64 (((u0 % (xs.length + 1) : Nat) : Int))) ?_
 try simp only [nP, nN, nA, n0, nS]
 refine wpList_nil ?_
 exact hjK9 _ _ _ _ _ _ _ _ _ _ (u0 % (xs.length + 1)) _ Zb5 ee dk (by have := Nat.mod_lt u0 (show 0 < xs.length + 1 by omega); omega : _ ≤ xs.length)
theorem walLasts_walk (W : World) (hT : Tabs W) (v0 v1 v2 : Value) (h0 : Arg W 57 v0) (h1 : Arg W 57 v1) (h2 : Arg W 59 v2) :
  Calls Tryd.prog 6 #[v0, v1, v2] W fun e W' => e = .returned (.bool true) ∧ Below W.heap.size W W' := by
 obtain ⟨A, c, xs, rfl, a1, a2, a3, a4, _⟩ := h0.rcsn
 obtain ⟨B, d, ys, rfl, b1, b2, b3, b4, b5⟩ := h1.rcsn
 obtain ⟨u, v, rfl, hu, hv⟩ := h2.u16pair Tryd.underlying59 Tryd.underlying58 (by kernel_rfl) (by kernel_rfl)
 exact wlasts_any A B c d xs ys u v W hu hv a1 a2 a3 a4 b1 b2 b3 b4 b5 hT
end Go.Proofs.YtjofjpmhokjhnaaDoor
