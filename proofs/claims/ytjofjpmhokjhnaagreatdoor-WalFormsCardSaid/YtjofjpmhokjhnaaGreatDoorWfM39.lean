import Derived.Test.YtjofjpmhokjhnaaGreatDoorWfM38
import Derived.Test.YtjofjpmhokjhnaaGreatDoorWfM32
import Derived.Test.YtjofjpmhokjhnaaGreatDoorWfM21
import Derived.Test.YtjofjpmhokjhnaaGreatDoorWfM6
set_option linter.unusedSimpArgs false
set_option linter.unusedVariables false
namespace Go.Proofs.YtjofjpmhokjhnaaGreatDoor
set_option maxRecDepth 20000
open Go.RowKit T
theorem rcback (x : Cm) (r : List UInt8) (hf : x.formed = true) (hx : Fits x) : ∃ y, rctake (cput [] x ++ r, false) = (y, (r, false)) ∧ SameC y x = true := by
 obtain ⟨y, h1, h2⟩ := cback x r hf hx
 obtain ⟨a1, a2, a3⟩ := ctake_agree (cput [] x ++ r, false)
 rw [h1] at a1 a2 a3
 exact ⟨y, Prod.ext a1 (a3 rfl), h2⟩
theorem rrcm_wr (x : Rc) (hf : x.formed = true) (hb : x.br < 4294967296) (hc : Fits x.c) : LikeR (rrcm x.wr) x := by
 obtain ⟨lo, s1, s2, s3, s4, s5⟩ := rc_sound hf
 obtain ⟨z1, z2⟩ := nz_sl s3 s4
 have hbn : 0 ≤ x.bn ∧ x.bn < 5 := by unfold B.formed at s1; simpa using s1
 rcases rc_kd hf with k | k | k | k
 ·have hy : x.only = { Rc.zero with kd := 1, br := x.br, bn := x.bn } := by unfold T.Rc.only; rw [if_pos k]
  rw [hy] at lo
  have e : x.wr = C.be 1 1 ++ (B.put [] x.br x.bn ++ []) := by
   unfold T.Rc.wr; rw [if_pos k, k, bputA, put1]; simp [T.nz]
  have h1 : C.take 1 (x.wr, false) = (1, (B.put [] x.br x.bn ++ [], false)) := by rw [e]; exact take1 1 (by decide) _
  have hk : rk x.wr = 1 := by unfold rk; rw [h1]; rfl
  unfold T.rrcm
  rw [if_pos hk, hk, h1]
  simp only
  rw [bback x.br x.bn [] hb s1]
  exact ⟨k.symm, rfl, (by show ((x.bn.toNat : Nat) : Int) = x.bn; omega), lo.sl.symm, SameC.symm lo.c, lo.dt.symm⟩
 ·have hy : x.only = { Rc.zero with kd := 2, br := x.br, bn := x.bn, sl := x.sl, c := x.c } := by unfold T.Rc.only; rw [if_neg (by omega), if_pos k]
  rw [hy] at lo
  have e : x.wr = C.be 2 1 ++ (B.put [] x.br x.bn ++ (C.be (T.nz x.sl) 4 ++ (cput [] x.c ++ []))) := by
   unfold T.Rc.wr; rw [if_neg (by omega), if_pos k, k, cputA, put4, bputA, put1]; simp [T.nz]
  have h1 : C.take 1 (x.wr, false) = (2, (B.put [] x.br x.bn ++ (C.be (T.nz x.sl) 4 ++ (cput [] x.c ++ [])), false)) := by rw [e]; exact take1 2 (by decide) _
  have hk : rk x.wr = 2 := by unfold rk; rw [h1]; rfl
  obtain ⟨y, hy1, hy2⟩ := rcback x.c [] s2 hc
  unfold T.rrcm
  rw [if_neg (by omega), if_pos hk, hk, h1]
  simp only
  rw [bback x.br x.bn _ hb s1]
  simp only
  rw [take4 _ z1]
  simp only
  rw [hy1]
  exact ⟨k.symm, rfl, (by show ((x.bn.toNat : Nat) : Int) = x.bn; omega), z2, hy2, lo.dt.symm⟩
 ·have hy : x.only = { Rc.zero with kd := 3, sl := x.sl, c := x.c } := by unfold T.Rc.only; rw [if_neg (by omega), if_neg (by omega), if_pos k]
  rw [hy] at lo
  have e : x.wr = C.be 3 1 ++ (C.be (T.nz x.sl) 4 ++ (cput [] x.c ++ [])) := by
   unfold T.Rc.wr; rw [if_neg (by omega), if_neg (by omega), if_pos k, k, cputA, put4, put1]; simp [T.nz]
  have h1 : C.take 1 (x.wr, false) = (3, (C.be (T.nz x.sl) 4 ++ (cput [] x.c ++ []), false)) := by rw [e]; exact take1 3 (by decide) _
  have hk : rk x.wr = 3 := by unfold rk; rw [h1]; rfl
  obtain ⟨y, hy1, hy2⟩ := rcback x.c [] s2 hc
  unfold T.rrcm
  rw [if_neg (by omega), if_neg (by omega), if_pos hk, hk, h1]
  simp only
  rw [take4 _ z1]
  simp only
  rw [hy1]
  exact ⟨k.symm, lo.br.symm, lo.bn.symm, z2, hy2, lo.dt.symm⟩
 ·have hy : x.only = { Rc.zero with kd := 4, sl := x.sl, dt := x.dt, D := x.D, dc := x.dc } := by unfold T.Rc.only; rw [if_neg (by omega), if_neg (by omega), if_neg (by omega), if_pos k]
  rw [hy] at lo
  have e : x.wr = C.be 4 1 ++ (C.be (T.nz x.sl) 4 ++ (C.be x.dt.length 4 ++ x.dt)) := by
   unfold T.Rc.wr; rw [if_neg (by omega), if_neg (by omega), if_neg (by omega), k, put4, put4, put1]; simp [T.nz]
  have h1 : C.take 1 (x.wr, false) = (4, (C.be (T.nz x.sl) 4 ++ (C.be x.dt.length 4 ++ x.dt), false)) := by rw [e]; exact take1 4 (by decide) _
  have hk : rk x.wr = 4 := by unfold rk; rw [h1]; rfl
  unfold T.rrcm
  rw [if_neg (by omega), if_neg (by omega), if_neg (by omega), if_pos hk, hk, h1]
  simp only
  rw [take4 _ z1]
  simp only
  rw [take4 _ (by omega)]
  exact ⟨k.symm, lo.br.symm, lo.bn.symm, z2, SameC.symm lo.c, rfl⟩
theorem rrcok_wr (x : Rc) (hf : x.formed = true) (hb : x.br < 4294967296) (hc : Fits x.c) : rrcok x.wr = true := by
 have h := rrcm_wr x hf hb hc
 unfold rrcok
 rw [h.formed, h.wr, hf]; simp
theorem fitsR {w : World} {B : Nat} {x : Rc} (h : RcOk w B x) : x.br < 4294967296 ∧ Fits x.c := ⟨h.br, h.c.fits⟩
theorem both_read {l : List UInt8} {n m : Rc} {w1 w2 : World} {B1 B2 : Nat} (okn : RcOk w1 B1 n) (okm : RcOk w2 B2 m) (hn : LikeR n (bif rcok l then rcm l else Rc.zero)) (hm : LikeR m (bif rrcok l then rrcm l else Rc.zero)) : rcok l = rrcok l ∧ LikeR n m := by
 obtain ⟨n1, n2⟩ := fitsR okn
 obtain ⟨m1, m2⟩ := fitsR okm
 cases h : rcok l with
 | true =>
   rw [h] at hn
   have hn : LikeR n (rcm l) := hn
   unfold rcok at h
   simp only [Bool.and_eq_true, decide_eq_true_eq] at h
   have hf : n.formed = true := by rw [hn.formed]; exact h.1
   have hw : n.wr = l := by rw [hn.wr]; exact h.2.symm
   have k1 := rrcok_wr n hf n1 n2
   have k2 := rrcm_wr n hf n1 n2
   rw [hw] at k1 k2
   rw [k1] at hm ⊢
   have hm : LikeR m (rrcm l) := hm
   exact ⟨rfl, (hm.trans k2).symm⟩
 | false =>
   cases g : rrcok l with
   | false =>
     rw [h] at hn
     rw [g] at hm
     have hn : LikeR n Rc.zero := hn
     have hm : LikeR m Rc.zero := hm
     exact ⟨rfl, hn.trans hm.symm⟩
   | true =>
     exfalso
     rw [g] at hm
     have hm : LikeR m (rrcm l) := hm
     unfold rrcok at g
     simp only [Bool.and_eq_true, decide_eq_true_eq] at g
     have hf : m.formed = true := by rw [hm.formed]; exact g.1
     have hw : m.wr = l := by rw [hm.wr]; exact g.2.symm
     have k1 := rcok_wr m hf m1 m2
     rw [hw, h] at k1
     cases k1
end Go.Proofs.YtjofjpmhokjhnaaGreatDoor
namespace Go.Proofs.YtjofjpmhokjhnaaGreatDoor
set_option maxRecDepth 20001
open Go.RowKit T
theorem Mv.drew {w : World} {D : Nat → Prop} : Mv w w.drew D D := ⟨Fr.drew, fun _ h => Or.inl h⟩
theorem Kp.drew {w : World} {D : Nat → Prop} {P : World → Prop} (h : Kp w D P) : Kp w.drew D P := h.mv Mv.drew
theorem wrap_s {w : World} {B : Nat} {v : Value} {l : List UInt8} (h : SlB w B v l) (hl : l.length ≤ 2147483648) (hB : B ≤ w.heap.size) : Calls Tryz.prog 119 #[v] w (MadeE w (F.wrap l)) := by
 obtain ⟨A, c, rfl, hc, hm, hA, hr⟩ := h
 exact wrap_any A c l w B hl hc hA hr hB
section
variable {w w' : World} {base g : Nat} {bv rv : Value} {D' : Nat → Prop} {d : Dk}
theorem DkAt.lt (h : DkAt w base g bv rv d) : g < w.heap.size := ltAt h.1
theorem notFt {k : Nat} {cs : Array Value} {t : TypeId} {m : Nat × Nat} (h : DkAt w base g bv rv d) (hz : w.heap[k]? = some (.cells cs t m)) (h1 : t ≠ 5) (h2 : t ≠ 114) : ¬ Ft g bv rv k := fun hk => by
 rcases hk with rfl | e | e
 ·rw [h.1] at hz; injection hz with hz; injection hz with _ e _; exact h2 e.symm
 ·exact ogKind h.2.2.1 hz h1 e
 ·exact ogKind h.2.2.2.1 hz h1 e
theorem mvHeap {k : Nat} {cs : Array Value} {t : TypeId} {m : Nat × Nat} (mv : Mv w w' (Ft g bv rv) D') (h : DkAt w base g bv rv d) (hz : w.heap[k]? = some (.cells cs t m)) (h1 : t ≠ 5) (h2 : t ≠ 114) : w'.heap[k]? = some (.cells cs t m) :=
 (mv.fr.block k (Array.getElem?_eq_some_iff.1 hz).1 (notFt h hz h1 h2)).trans hz
theorem mvOwn {e sz n b : Nat} {v : Value} {xs : List Value} (mv : Mv w w' (Ft g bv rv) D') (h : DkAt w base g bv rv d) (hv : w.ownsRow b e sz v n xs) (h1 : e ≠ 5) (h2 : e ≠ 114) : w'.ownsRow b e sz v n xs := by
 refine ⟨hv.1, ?_⟩
 rcases hv.2 with q | ⟨k, cap, cur, e1, hk, hh, r⟩
 ·exact Or.inl q
 ·exact Or.inr ⟨k, cap, cur, e1, hk, mvHeap mv h hh h1 h2, r⟩
theorem ownK {b : Nat} {v : Value} {l : List UInt8} (h : OwnB w b v l) (hg : g < b) : SlK w g v l := fun z hz =>
 SlF.bound (SlF.ofOwn h) (SlF.ofOwn (h.kept hz (Or.inr (fun e => by have := (h.lt g e).1; omega))))
theorem dappend_s (hb : base ≤ w.heap.size) (h : DkAt w base g bv rv d) {v : Value} {l : List UInt8} (hx : SlK w g v l) : Calls Tryz.prog 64 #[.pointer (some ⟨g, 0, none⟩), v] w (DkP w base g bv rv (D.append d l)) := by
 obtain ⟨A, c, rfl, _⟩ := hx w (World.grownBy.refl w _)
 exact (dappend_any base g bv rv d A c l w hb h hx).mono fun e w' q => q.mv
theorem dreplace_s (hb : base ≤ w.heap.size) (h : DkAt w base g bv rv d) {v : Value} {l : List UInt8} (hx : SlK w g v l) : Calls Tryz.prog 83 #[.pointer (some ⟨g, 0, none⟩), v] w (DkP w base g bv rv (D.replace d l)) := by
 obtain ⟨A, c, rfl, _⟩ := hx w (World.grownBy.refl w _)
 exact (dreplace_any base g bv rv d A c l w hb h hx).mono fun e w' q => q.mv
end
set_option maxHeartbeats 25600000 in
theorem wframed_any (x : Rc) (w : World) (B0 : Nat) (hB : B0 ≤ w.heap.size) (ok : RcOk w B0 x) (hdt : x.dt.length ≤ 100000000) (hT : Tabs w) :
 Calls Tryz.prog 84 #[.agg x.cells.toArray] w fun e w' => MadeE w x.frame e w' := by
 have ee : Below w.heap.size w w := Below.refl _ _
 go_enter Tryz.func84, Tryz.ntmps84
 refine wp_seq_k fun K1 hK1 => ?_
 refine wp_region_lit ?_
 with_reducible refine ww (.pointer (some ⟨w.heap.size, 0, none⟩)) (w.alloc (.cells (x.cells).toArray 36)) ?_
 try simp only [zP]
 have sz_g2 := ee.size
 have sz_ := ee.size
 have ee := ee.alloc ee.size (.cells (x.cells).toArray 36)
 have Zb1 := hpN w (.cells (x.cells).toArray 36) rfl
 obtain ⟨z1, hz_⟩ : ∃ z_ : World, z_ = w.alloc (.cells (x.cells).toArray 36) := ⟨_, rfl⟩
 rw [← hz_] at Zb1 ee ⊢
 clear hz_
 obtain ⟨g2, hg_g2⟩ : ∃ g_, g_ = w.heap.size := ⟨_, rfl⟩
 have hB_g2 : w.heap.size ≤ g2 := by rw [hg_g2]; exact sz_g2
 rw [← hg_g2] at Zb1 ⊢
 clear hg_g2
 with_reducible
  refine wv (.slice none 0 0) ?_
  refine wv (.int .i64 0) ?_
 try simp only [zP]
 refine wpList_nil ?_
 refine hK1 _ _ ?_
 refine wp_seq_k fun K3 hK3 => ?_
 refine wp_region_lit ?_
 with_reducible
  refine wg (g2) (0) (x.cells) (rowAt Zb1) Tryz.underlying36 ?_
  try simp only [zP]
  refine wc 8 #[.agg (x.cells).toArray] (wwrite_any x z1 B0 (Nat.le_trans hB ee.size) (ok.below ee hB) hdt (hT.below ee)) ?_
 rintro e z2 ⟨⟨v1, l1, x1, rfl, s1, hx1, hl1⟩, t⟩
 refine ⟨_, rfl, ?_⟩
 have Zb1 := hpB Zb1 t
 have ee := ee.trans (t.mono ee.size)
 clear t
 have hl2 : l1.length ≤ 60000 := by
  rw [hl1]
  cases hf : x.formed with
  | false => simp
  | true => exact (rcwr_len hf).2
 try simp only [zP]
 with_reducible
  refine wv (.tuple #[v1, .int .i64 x1]) ?_
  iterate 2 ((refine wv (v1) ?_);(refine wv (.int .i64 x1) ?_))
 try simp only [zP]
 refine wpList_nil ?_
 refine hK3 _ _ ?_
 refine wp_seq_k fun K4 hK4 => ?_
 refine wp_seq_k fun K5 hK5 => ?_
 refine wp_region_lit ?_
 with_reducible refine wv (.int .i64 x1) ?_
 try simp only [zP]
 obtain ⟨b6, hb6⟩ : ∃ d_ : Bool, (decide (x1 = 0)) = d_ := ⟨_, rfl⟩
 cases b6
 ·have pb6 : ¬ (x1 = 0) := of_decide_eq_false hb6
  with_reducible refine wb (.bool true) (.int .i64 x1) (.int .i64 0) 40 (run_neqI hb6) ?_
  try simp only [zP]
  refine wpList_nil ?_
  refine hK5 _ _ ?_
  refine wp_cond_true (by kernel_rfl) ?_
  refine wp_seq_k fun K7 hK7 => ?_
  refine wp_region_lit ?_
  with_reducible
   refine wv (.int .i64 x1) ?_
   refine wv (.slice none 0 0) ?_
   refine wv (.int .i64 x1) ?_
  try simp only [zP]
  refine wpList_nil ?_
  refine hK7 _ _ ?_
  refine wp_ret ?_
  refine then_ret ?_
  have hf : x.formed = false := by
   cases hf : x.formed with
   | false => rfl
   | true => rw [hf] at hx1; exact absurd hx1 pb6
  rw [hf] at hx1
  subst hx1
  exact bodyPost_ret (v := .tuple #[.slice none 0 0, .int .i64 2]) (by kernel_rfl) rfl (by unfold T.Rc.frame; rw [if_neg (by rw [hf]; decide)]; exact ⟨_, rfl, OwnB.nil, ee⟩)
 have pb6 : x1 = 0 := of_decide_eq_true hb6
 have eb6 : x1 = 0 := of_decide_eq_true hb6
 with_reducible refine wb (.bool false) (.int .i64 x1) (.int .i64 0) 40 (run_neqI hb6) ?_
 try simp only [zP]
 refine wpList_nil ?_
 refine hK5 _ _ ?_
 refine wp_cond_false (by kernel_rfl) ?_
 refine wp_skip ?_
 refine hK4 _ _ ?_
 refine wp_seq_k fun K8 hK8 => ?_
 refine wp_region_lit ?_
 with_reducible
  refine wv (v1) ?_
  try simp only [zP]
  refine wc 119 #[v1] (wrap_s s1 (by omega) (Nat.le_refl _)) ?_
 rintro e z3 ⟨v2, rfl, O2, t⟩
 refine ⟨_, rfl, ?_⟩
 have O2 := OwnB.mono O2 ee.size
 have Zb1 := hpB Zb1 t
 have ee := ee.trans (t.mono ee.size)
 clear t
 try simp only [zP]
 with_reducible
  iterate 2 ((refine wv (v2) ?_);(refine wv (.int .i64 (((F.wrap l1).2 : Int))) ?_))
 try simp only [zP]
 refine wpList_nil ?_
 refine hK8 _ _ ?_
 refine wp_ret ?_
 have hf : x.formed = true := by
  cases hf : x.formed with
  | true => rfl
  | false => rw [hf] at hx1; have h_ : x1 = 2 := hx1; omega
 rw [hf] at hl1
 have hl1 : l1 = x.wr := hl1
 subst hl1
 exact bodyPost_ret (v := .tuple #[v2, .int .i64 ((F.wrap x.wr).2 : Int)]) (by kernel_rfl) rfl (by unfold T.Rc.frame; rw [if_pos hf]; exact ⟨_, rfl, O2, ee⟩)
theorem frame_err (x : Rc) : (x.frame.2 : Int) = (if x.formed = true then 0 else 2) := by
 unfold T.Rc.frame
 split
 ·rename_i hf
  have := (rcwr_len hf).2
  unfold F.wrap
  rw [if_neg (by omega)]; rfl
 ·rfl
set_option maxHeartbeats 25600000 in
theorem wadd_any (x : Rc) (w : World) (B0 : Nat) (hB : B0 ≤ w.heap.size) (ok : RcOk w B0 x) (hdt : x.dt.length ≤ 100000000) (hT : Tabs w) (base g : Nat) (bv rv : Value) (d : Dk) (hb : base ≤ w.heap.size) (dk : DkAt w base g bv rv d) :
 Calls Tryz.prog 30 #[.pointer (some ⟨g, 0, none⟩), .agg x.cells.toArray] w fun e w' => DkP w base g bv rv (added d x) e w' := by
 have mv : Mv w w (Ft g bv rv) (Ft g bv rv) := Mv.refl
 have ee : Below w.heap.size w w := Below.refl _ _
 go_enter Tryz.func30, Tryz.ntmps30
 refine wp_seq_k fun K1 hK1 => ?_
 refine wp_region_lit ?_
 with_reducible refine ww (.pointer (some ⟨w.heap.size, 0, none⟩)) (w.alloc (.cells (x.cells).toArray 36)) ?_
 try simp only [zP]
 have sz_g2 := ee.size
 have ldk := dk.lt
 have dk := dk.below ((Below.refl _ w).alloc (Nat.le_refl _) (.cells (x.cells).toArray 36))
 have mv := mv.trans (Mv.ofBelow ((Below.refl _ w).alloc (Nat.le_refl _) (.cells (x.cells).toArray 36)))
 have sz_ := ee.size
 have ee := ee.alloc ee.size (.cells (x.cells).toArray 36)
 have Zb3 := hpN w (.cells (x.cells).toArray 36) rfl
 obtain ⟨z1, hz_⟩ : ∃ z_ : World, z_ = w.alloc (.cells (x.cells).toArray 36) := ⟨_, rfl⟩
 rw [← hz_] at Zb3 ee dk mv ⊢
 clear hz_
 obtain ⟨g2, hg_g2⟩ : ∃ g_, g_ = w.heap.size := ⟨_, rfl⟩
 have n_g2_dk : g < g2 := by rw [hg_g2]; exact ldk
 clear ldk
 have hB_g2 : w.heap.size ≤ g2 := by rw [hg_g2]; exact sz_g2
 rw [← hg_g2] at Zb3 ⊢
 clear hg_g2
 with_reducible refine wv (.int .i64 0) ?_
 try simp only [zP]
 refine wpList_nil ?_
 refine hK1 _ _ ?_
 refine wp_seq_k fun K3 hK3 => ?_
 refine wp_region_lit ?_
 with_reducible
  refine wg (g2) (0) (x.cells) (rowAt Zb3) Tryz.underlying36 ?_
  try simp only [zP]
  refine wc 84 #[.agg (x.cells).toArray] (wframed_any x z1 B0 (Nat.le_trans hB ee.size) (ok.below ee hB) hdt (hT.below ee)) ?_
 rintro e z2 ⟨v1, rfl, O1, t⟩
 refine ⟨_, rfl, ?_⟩
 have glt := dk.lt
 have hsz := ee.size
 have dk := dk.below t
 have mv := mv.trans (Mv.ofBelow t)
 have Zb3 := hpB Zb3 t
 have ee := ee.trans (t.mono ee.size)
 clear t
 have fe := frame_err x
 obtain ⟨n1, hn1⟩ : ∃ n_ : Int, n_ = (x.frame.2 : Int) := ⟨_, rfl⟩
 rw [← hn1] at fe ⊢
 try simp only [zP]
 with_reducible
  refine wv (.tuple #[v1, .int .i64 n1]) ?_
  iterate 2 ((refine wv (v1) ?_);(refine wv (.int .i64 n1) ?_))
 try simp only [zP]
 refine wpList_nil ?_
 refine hK3 _ _ ?_
 refine wp_seq_k fun K4 hK4 => ?_
 refine wp_seq_k fun K5 hK5 => ?_
 refine wp_region_lit ?_
 with_reducible refine wv (.int .i64 n1) ?_
 try simp only [zP]
 obtain ⟨b6, hb6⟩ : ∃ d_ : Bool, (decide (n1 = 0)) = d_ := ⟨_, rfl⟩
 cases b6
 ·have pb6 : ¬ (n1 = 0) := of_decide_eq_false hb6
  with_reducible refine wb (.bool true) (.int .i64 n1) (.int .i64 0) 40 (run_neqI hb6) ?_
  try simp only [zP]
  refine wpList_nil ?_
  refine hK5 _ _ ?_
  refine wp_cond_true (by kernel_rfl) ?_
  refine wp_seq_k fun K7 hK7 => ?_
  refine wp_region_lit ?_
  iterate 2 (with_reducible refine wv (.int .i64 n1) ?_)
  try simp only [zP]
  refine wpList_nil ?_
  refine hK7 _ _ ?_
  refine wp_ret ?_
  refine then_ret ?_
  have hf : ¬ x.formed = true := fun hf => by rw [if_pos hf] at fe; exact pb6 fe
  rw [if_neg hf] at fe
  subst fe
  exact bodyPost_ret (v := .int .i64 2) (by kernel_rfl) rfl (by unfold T.added; rw [if_neg hf]; exact ⟨bv, rv, rfl, dk, mv⟩)
 have pb6 : n1 = 0 := of_decide_eq_true hb6
 have eb6 : n1 = 0 := of_decide_eq_true hb6
 with_reducible refine wb (.bool false) (.int .i64 n1) (.int .i64 0) 40 (run_neqI hb6) ?_
 try simp only [zP]
 refine wpList_nil ?_
 refine hK5 _ _ ?_
 refine wp_cond_false (by kernel_rfl) ?_
 refine wp_skip ?_
 refine hK4 _ _ ?_
 refine wp_seq_k fun K8 hK8 => ?_
 refine wp_region_lit ?_
 with_reducible
  refine wv (.pointer (some ⟨g, 0, none⟩)) ?_
  refine wv (v1) ?_
  try simp only [zP]
  refine wc 64 #[.pointer (some ⟨g, 0, none⟩), v1] (dappend_s (Nat.le_trans hb ee.size) dk (ownK O1 glt)) ?_
 rintro e z3 ⟨bv1, rv1, rfl, dk_, mv_⟩
 refine ⟨_, rfl, ?_⟩
 have Zb3 := mvHeap mv_ dk Zb3 (by decide) (by decide)
 have sz_ee := ee.size
 clear ee
 have mv := mv.trans mv_
 clear dk mv_
 have dk := dk_
 clear dk_
 try simp only [zP]
 with_reducible refine wv (.int .i64 (((D.append d x.frame.1).1 : Int))) ?_
 try simp only [zP]
 refine wpList_nil ?_
 refine hK8 _ _ ?_
 refine wp_ret ?_
 have hf : x.formed = true := by
  cases hf : x.formed with
  | true => rfl
  | false => rw [if_neg (by rw [hf]; decide)] at fe; omega
 have hfr : x.frame.1 = (F.wrap x.wr).1 := by unfold T.Rc.frame; rw [if_pos hf]
 rw [hfr] at dk ⊢
 exact bodyPost_ret (v := .int .i64 ((D.append d (F.wrap x.wr).1).1 : Int)) (by kernel_rfl) rfl (by unfold T.added; rw [if_pos hf]; exact ⟨_, _, rfl, dk, mv⟩)
end Go.Proofs.YtjofjpmhokjhnaaGreatDoor
