/- The law WalCompacts. Conditions: what lies, lies below. (Printed by gen_msg.py.) -/
import Derived.Test.YtjofjpmhokjhnaaDoorWlM46
namespace Go.Proofs.YtjofjpmhokjhnaaDoor
set_option maxRecDepth 20000
open Go.RowKit T
set_option linter.unusedSimpArgs false
set_option linter.unusedVariables false

theorem cut_bb (d : Dk) (n : Int) : (D.cut d n).b = D.cutB d n := rfl
theorem tmod2 (u : Nat) {r : Nat} (h : u % 2 = r) : ((u : Int)).tmod 2 = ((r : Nat) : Int) := by
 have := Int.ofNat_tmod u 2
 rw [h] at this
 exact this.symm
theorem compacted_ok {d : Dk} {s : Nat} {b : List UInt8} {ys : List Rc} (h1 : d.size = s) (h4 : d.down = false) (h3 : d.fuse = 5) (hy : ∀ y ∈ ys, y.good) (hs : (cats ys).length ≤ s) : compacted d ys = (0, { d with fuse := 4, b := cats ys, lasts := (cats ys).length }) := by
 have ha : D.act d = (true, { d with fuse := 4 }) := by unfold D.act; rw [if_neg (by omega), if_pos (by omega), h3]; rfl
 unfold T.compacted
 rw [if_pos (List.all_eq_true.2 fun y h => (hy y h).1)]
 unfold D.replace
 rw [if_neg (by rw [h4]; decide), if_neg (by omega), ha, if_pos rfl]
theorem compacted_lost {d : Dk} {s : Nat} {ys : List Rc} (h1 : d.size = s) (h4 : d.down = false) (h3 : d.fuse = 0) (hy : ∀ y ∈ ys, y.good) (hs : (cats ys).length ≤ s) : compacted d ys = (8, { d with down := true, within := true, rep := cats ys }) := by
 have ha : D.act d = (false, { d with down := true }) := by unfold D.act; rw [if_pos h3]
 unfold T.compacted
 rw [if_pos (List.all_eq_true.2 fun y h => (hy y h).1)]
 unfold D.replace
 rw [if_neg (by rw [h4]; decide), if_neg (by omega), ha, if_neg (fun h => Bool.noConfusion h)]
theorem nilGrown {w w' : World} (g : w.grownBy w' (Value.slice none 0 0).ownBlock) : Below w.heap.size w w' := ⟨g.os, g.tape, g.output, g.size, fun k hk => g.block k hk (fun e => by cases e)⟩
set_option maxHeartbeats 25600000 in
theorem wcompacts_any (A B : Option Addr) (c d0 : Nat) (xs ys : List Rc) (u0 u1 : Nat) (w : World) (hu0 : u0 < 256) (hu1 : u1 < 256) (hc1 : xs.length ≤ c) (hm1 : c ≤ maxLen) (hR1 : RowsAt w w.heap.size A 15 (xs.map Rc.cells)) (hO1 : ∀ x ∈ xs, RcOk w w.heap.size x) (hc2 : ys.length ≤ d0) (hm2 : d0 ≤ maxLen) (hR2 : RowsAt w w.heap.size B 15 (ys.map Rc.cells)) (hO2 : ∀ x ∈ ys, RcOk w w.heap.size x) (hn2 : B = none → d0 = 0) (hT : Tabs w) :
  Calls Tryd.prog 8 #[.slice A xs.length c, .slice B ys.length d0, .agg #[.int .u8 (u0 : Int), .int .u8 (u1 : Int)]] w fun e w' => e = .returned (.bool true) ∧ Below w.heap.size w w' := by
 have ee : Below w.heap.size w w := Below.refl _ _
 go_enter Tryd.func8, Tryd.ntmps8
 refine wp_seq_k fun K1 hK1 => ?_
 refine wp_region_lit ?_
 with_reducible refine ww (.pointer (some ⟨w.heap.size, 0, none⟩)) (w.alloc (.cells ([.int .u8 (u0 : Int), .int .u8 (u1 : Int)]).toArray 79)) ?_
 try simp only [nP, nN, nA, n0, nS]
 have sz_g2 := ee.size
 have sz_ := ee.size
 have ee := ee.alloc ee.size (.cells ([.int .u8 (u0 : Int), .int .u8 (u1 : Int)]).toArray 79)
 have Zb5 := hpN w (.cells ([.int .u8 (u0 : Int), .int .u8 (u1 : Int)]).toArray 79) rfl
 obtain ⟨z1, hz_⟩ : ∃ z_ : World, z_ = w.alloc (.cells ([.int .u8 (u0 : Int), .int .u8 (u1 : Int)]).toArray 79) := ⟨_, rfl⟩
 rw [← hz_] at Zb5 ee ⊢
 clear hz_
 obtain ⟨g2, hg_g2⟩ : ∃ g_, g_ = w.heap.size := ⟨_, rfl⟩
 have hB_g2 : w.heap.size ≤ g2 := by rw [hg_g2]; exact sz_g2
 rw [← hg_g2] at Zb5 ⊢
 clear hg_g2
 with_reducible refine wv (.bool false) ?_
 try simp only [nP, nN, nA, n0, nS]
 refine wpList_nil ?_
 refine hK1 _ _ ?_
 refine wp_seq_k fun K3 hK3 => ?_
 refine wp_seq_k fun K4 hK4 => ?_
 refine wp_region_lit ?_
 with_reducible refine wc 23 #[] (awake13_any z1 (hT.below ee)) ?_
 rintro e z2 ⟨rfl, t⟩
 refine ⟨_, rfl, ?_⟩
 have Zb5 := hpB Zb5 t
 have ee := ee.trans (t.mono ee.size)
 clear t
 try simp only [nP, nN, nA, n0, nS]
 with_reducible refine wv (.bool false) ?_
 try simp only [nP, nN, nA, n0, nS]
 with_reducible refine wv (.bool false) ?_
 try simp only [nP, nN, nA, n0, nS]
 with_reducible refine wv (.slice A xs.length c) ?_
 try simp only [nP, nN, nA, n0, nS]
 with_reducible refine wc 24 #[.slice A xs.length c, .int .i64 30] (few13_any A c xs 30 z2 (by decide) hc1 hm1 ((hR1.below ee (Nat.le_refl _)).more ee.size) (fun x_ hx_ => ((hO1 x_ hx_).below ee (Nat.le_refl _)).more ee.size)) ?_
 rintro e z3 ⟨⟨rf1, rfl, hfw1⟩, t⟩
 refine ⟨_, rfl, ?_⟩
 have Zb5 := hpB Zb5 t
 have ee := ee.trans (t.mono ee.size)
 clear t
 try simp only [nP, nN, nA, n0, nS]
 cases rf1
 ·with_reducible refine wv (.bool true) ?_
  try simp only [nP, nN, nA, n0, nS]
  with_reducible refine wv (.bool true) ?_
  try simp only [nP, nN, nA, n0, nS]
  with_reducible refine wv (.bool true) ?_
  try simp only [nP, nN, nA, n0, nS]
  with_reducible refine wk ?_
  try simp only [nP, nN, nA, n0, nS]
  with_reducible refine wk ?_
  try simp only [nP, nN, nA, n0, nS]
  with_reducible refine wk ?_
  try simp only [nP, nN, nA, n0, nS]
  with_reducible refine wv (.bool true) ?_
  try simp only [nP, nN, nA, n0, nS]
  refine wpList_nil ?_
  refine hK4 _ _ ?_
  refine wp_cond_true (by kernel_rfl) ?_
  refine wp_seq_k fun K5 hK5 => ?_
  refine wp_region_lit ?_
  with_reducible refine wc 23 #[] (awake13_any z3 (hT.below ee)) ?_
  rintro e z4 ⟨rfl, t⟩
  refine ⟨_, rfl, ?_⟩
  have Zb5 := hpB Zb5 t
  have ee := ee.trans (t.mono ee.size)
  clear t
  try simp only [nP, nN, nA, n0, nS]
  with_reducible refine wv (.bool true) ?_
  try simp only [nP, nN, nA, n0, nS]
  refine wpList_nil ?_
  refine hK5 _ _ ?_
  refine wp_ret ?_
  refine then_ret ?_
  exact bodyPost_ret (v := .bool true) (by kernel_rfl) rfl ⟨rfl, ee⟩
 with_reducible refine wv (.bool false) ?_
 try simp only [nP, nN, nA, n0, nS]
 with_reducible refine wv (.bool false) ?_
 try simp only [nP, nN, nA, n0, nS]
 with_reducible refine wv (.bool false) ?_
 try simp only [nP, nN, nA, n0, nS]
 with_reducible refine wv (.slice B ys.length d0) ?_
 try simp only [nP, nN, nA, n0, nS]
 with_reducible refine wc 24 #[.slice B ys.length d0, .int .i64 30] (few13_any B d0 ys 30 z3 (by decide) hc2 hm2 ((hR2.below ee (Nat.le_refl _)).more ee.size) (fun x_ hx_ => ((hO2 x_ hx_).below ee (Nat.le_refl _)).more ee.size)) ?_
 rintro e z4 ⟨⟨rf2, rfl, hfw2⟩, t⟩
 refine ⟨_, rfl, ?_⟩
 have Zb5 := hpB Zb5 t
 have ee := ee.trans (t.mono ee.size)
 clear t
 try simp only [nP, nN, nA, n0, nS]
 cases rf2
 ·with_reducible refine wv (.bool true) ?_
  try simp only [nP, nN, nA, n0, nS]
  with_reducible refine wv (.bool true) ?_
  try simp only [nP, nN, nA, n0, nS]
  refine wpList_nil ?_
  refine hK4 _ _ ?_
  refine wp_cond_true (by kernel_rfl) ?_
  refine wp_seq_k fun K6 hK6 => ?_
  refine wp_region_lit ?_
  with_reducible refine wc 23 #[] (awake13_any z4 (hT.below ee)) ?_
  rintro e z5 ⟨rfl, t⟩
  refine ⟨_, rfl, ?_⟩
  have Zb5 := hpB Zb5 t
  have ee := ee.trans (t.mono ee.size)
  clear t
  try simp only [nP, nN, nA, n0, nS]
  with_reducible refine wv (.bool true) ?_
  try simp only [nP, nN, nA, n0, nS]
  refine wpList_nil ?_
  refine hK6 _ _ ?_
  refine wp_ret ?_
  refine then_ret ?_
  exact bodyPost_ret (v := .bool true) (by kernel_rfl) rfl ⟨rfl, ee⟩
 with_reducible refine wv (.bool false) ?_
 try simp only [nP, nN, nA, n0, nS]
 with_reducible refine wv (.bool false) ?_
 try simp only [nP, nN, nA, n0, nS]
 refine wpList_nil ?_
 refine hK4 _ _ ?_
 refine wp_cond_false (by kernel_rfl) ?_
 refine wp_skip ?_
 refine hK3 _ _ ?_
 obtain ⟨hx30, hxd⟩ := hfw1 rfl
 obtain ⟨hy30, hyd⟩ := hfw2 rfl
 refine wp_seq_k fun K7 hK7 => ?_
 refine wp_region_lit ?_
 with_reducible refine wc 25 #[.int .i64 1000000] (dnew_any 1000000 z4 (by omega)) ?_
 rintro e z5 ⟨rfl, dk, t, hsz_⟩
 refine ⟨_, rfl, ?_⟩
 obtain ⟨gd, hgd⟩ : ∃ q, q = z4.heap.size := ⟨_, rfl⟩
 have hle_ : w.heap.size ≤ gd := by rw [hgd]; exact ee.size
 rw [← hgd] at dk ⊢
 have dk := dk.mono hle_
 clear hgd hsz_ hle_
 have Zb5 := hpB Zb5 t
 have ee := ee.trans (t.mono ee.size)
 clear t
 try simp only [nP, nN, nA, n0, nS]
 with_reducible refine wv (.pointer (some ⟨gd, 0, none⟩)) ?_
 try simp only [nP, nN, nA, n0, nS]
 refine wpList_nil ?_
 refine hK7 _ _ ?_
 refine wp_seq_k fun K8 hK8 => ?_
 refine wp_seq_k fun K9 hK9 => ?_
 refine wp_region_lit ?_
 with_reducible refine wv (.int .i64 0) ?_
 try simp only [nP, nN, nA, n0, nS]
 refine wpList_nil ?_
 refine hK9 _ _ ?_
 refine wp_block ?_
 with_reducible refine wp_loop_su (xs.length) (fun k u_ alzl9 zl9 => ∃ (bv : Value) (rv : Value) (d : Dk), alzl9 = ⟨#[.slice A xs.length c, .slice B ys.length d0, .agg ([.int .u8 (u0 : Int), .int .u8 (u1 : Int)]).toArray, undef, undef, .pointer (some ⟨g2, 0, none⟩), u_ 6, .pointer (some ⟨gd, 0, none⟩), .int .i64 (((k : Nat) : Int)), undef, undef, undef, undef, undef, undef, .bool true, .bool false, .bool false, .slice A xs.length c, .bool true, .bool false, .bool false, .bool false, .slice B ys.length d0, .bool true, .bool false, .bool false, undef, .pointer (some ⟨gd, 0, none⟩), u_ 29, u_ 30, u_ 31, u_ 32, u_ 33, u_ 34, u_ 35, u_ 36, u_ 37, u_ 38, u_ 39, u_ 40, u_ 41, u_ 42, u_ 43, u_ 44, u_ 45, u_ 46, undef, undef, undef, undef, undef, undef, undef, undef, undef, undef, undef, undef, undef, undef, undef, undef, undef, undef, undef, undef, undef, undef, undef, undef, undef, undef, undef, undef, undef, undef, undef, undef, undef, undef, undef, undef, undef, undef, undef, undef, undef, undef, undef, undef, undef, undef, undef, undef, undef, undef, undef, undef, undef, undef, undef, undef, undef, undef, undef, undef, undef, undef, undef, undef, undef, undef, undef, undef, undef, undef, undef, undef, undef, undef, undef, undef, undef, undef, undef, undef, undef, undef, undef, undef, undef, undef, undef, undef, undef, undef], []⟩ ∧ Hid (zl9.heap[g2]? = some (.cells ([.int .u8 (u0 : Int), .int .u8 (u1 : Int)]).toArray 79 (0, 0))) ∧ Hid (Below w.heap.size w zl9) ∧ Hid (DkAt zl9 w.heap.size gd bv rv d) ∧ Hid (DInv d 1000000 (cats (xs.take (k)))) ∧ Hid (∀ x ∈ xs.take (k), x.good)) 0 (Nat.zero_le _) ?_ ?_
 ·exact ⟨(.slice none 0 0), (.slice none 0 0), (D.new 1000000), by kernel_rfl, Zb5, ee, dk, ⟨rfl, rfl, rfl, rfl, rfl⟩, (fun x hx => by cases hx)⟩
 clear Zb5 ee
 intro k u_ alzl9 zl9 hkzl9 hszl9
 obtain ⟨bv, rv, d, rfl, Zb5, ee, dk, hd, hgo⟩ := hszl9
 have Zb5 := Zb5.out
 have ee := ee.out
 have dk := dk.out
 have hd := hd.out
 have hgo := hgo.out
 refine wp_seq_k fun K11 hK11 => ?_
 refine wp_seq_k fun K12 hK12 => ?_
 refine wp_region_lit ?_
 with_reducible refine wv (.int .i64 ((k : Int))) ?_
 try simp only [nP, nN, nA, n0, nS]
 with_reducible refine wv (.slice A xs.length c) ?_
 try simp only [nP, nN, nA, n0, nS]
 with_reducible refine wv (.int .i64 ((xs.length : Int))) ?_
 try simp only [nP, nN, nA, n0, nS]
 obtain ⟨b13, hb13⟩ : ∃ d_ : Bool, (decide ((k : Int) < (xs.length : Int))) = d_ := ⟨_, rfl⟩
 with_reducible refine wb (.bool b13) (.int .i64 ((k : Int))) (.int .i64 ((xs.length : Int))) 3 (run_lssI hb13) ?_
 try simp only [nP, nN, nA, n0, nS]
 refine wpList_nil ?_
 refine hK12 _ _ ?_
 cases b13
 ·have pb13 : ¬ ((k : Int) < (xs.length : Int)) := of_decide_eq_false hb13
  refine wp_cond_false (by kernel_rfl) ?_
  refine wp_exit ?_
  refine then_exit ?_
  refine then_exit ?_
  refine inBlock_here ?_
  refine hK8 _ _ ?_
  refine wp_seq_k fun K14 hK14 => ?_
  have hkx : k = xs.length := by omega
  rw [hkx, List.take_length] at hd hgo
  have hgx := hgo
  refine wp_seq_k fun K15 hK15 => ?_
  refine wp_region_lit ?_
  with_reducible refine wv (.int .i64 0) ?_
  try simp only [nP, nN, nA, n0, nS]
  refine wpList_nil ?_
  refine hK15 _ _ ?_
  refine wp_block ?_
  with_reducible refine wp_loop_su (ys.length) (fun k2 u_ alzl15 zl15 => alzl15 = ⟨#[.slice A xs.length c, .slice B ys.length d0, .agg ([.int .u8 (u0 : Int), .int .u8 (u1 : Int)]).toArray, undef, undef, .pointer (some ⟨g2, 0, none⟩), u_ 6, .pointer (some ⟨gd, 0, none⟩), .int .i64 ((k : Int)), .int .i64 (((k2 : Nat) : Int)), undef, undef, undef, undef, undef, .bool true, .bool false, .bool false, .slice A xs.length c, .bool true, .bool false, .bool false, .bool false, .slice B ys.length d0, .bool true, .bool false, .bool false, undef, .pointer (some ⟨gd, 0, none⟩), .int .i64 ((k : Int)), .slice A xs.length c, .int .i64 ((xs.length : Int)), .bool false, u_ 33, u_ 34, u_ 35, u_ 36, u_ 37, u_ 38, u_ 39, u_ 40, u_ 41, u_ 42, u_ 43, u_ 44, u_ 45, u_ 46, u_ 47, u_ 48, u_ 49, u_ 50, u_ 51, u_ 52, u_ 53, u_ 54, u_ 55, u_ 56, u_ 57, u_ 58, undef, undef, undef, undef, undef, undef, undef, undef, undef, undef, undef, undef, undef, undef, undef, undef, undef, undef, undef, undef, undef, undef, undef, undef, undef, undef, undef, undef, undef, undef, undef, undef, undef, undef, undef, undef, undef, undef, undef, undef, undef, undef, undef, undef, undef, undef, undef, undef, undef, undef, undef, undef, undef, undef, undef, undef, undef, undef, undef, undef, undef, undef, undef, undef, undef, undef, undef, undef, undef, undef, undef, undef, undef, undef, undef, undef, undef, undef], []⟩ ∧ Hid (zl15.heap[g2]? = some (.cells ([.int .u8 (u0 : Int), .int .u8 (u1 : Int)]).toArray 79 (0, 0))) ∧ Hid (Below w.heap.size w zl15) ∧ Hid (DkAt zl15 w.heap.size gd bv rv d) ∧ Hid (∀ x ∈ ys.take (k2), x.good)) 0 (Nat.zero_le _) ?_ ?_
  ·exact ⟨by kernel_rfl, Zb5, ee, dk, (fun x hx => by cases hx)⟩
  clear Zb5 ee
  intro k2 u_ alzl15 zl15 hkzl15 hszl15
  obtain ⟨rfl, Zb5, ee, dk, hgy⟩ := hszl15
  have Zb5 := Zb5.out
  have ee := ee.out
  have dk := dk.out
  have hgy := hgy.out
  refine wp_seq_k fun K17 hK17 => ?_
  refine wp_seq_k fun K18 hK18 => ?_
  refine wp_region_lit ?_
  with_reducible refine wv (.int .i64 ((k2 : Int))) ?_
  try simp only [nP, nN, nA, n0, nS]
  with_reducible refine wv (.slice B ys.length d0) ?_
  try simp only [nP, nN, nA, n0, nS]
  with_reducible refine wv (.int .i64 ((ys.length : Int))) ?_
  try simp only [nP, nN, nA, n0, nS]
  obtain ⟨b19, hb19⟩ : ∃ d_ : Bool, (decide ((k2 : Int) < (ys.length : Int))) = d_ := ⟨_, rfl⟩
  with_reducible refine wb (.bool b19) (.int .i64 ((k2 : Int))) (.int .i64 ((ys.length : Int))) 3 (run_lssI hb19) ?_
  try simp only [nP, nN, nA, n0, nS]
  refine wpList_nil ?_
  refine hK18 _ _ ?_
  cases b19
  ·have pb19 : ¬ ((k2 : Int) < (ys.length : Int)) := of_decide_eq_false hb19
   refine wp_cond_false (by kernel_rfl) ?_
   refine wp_exit ?_
   refine then_exit ?_
   refine then_exit ?_
   refine inBlock_here ?_
   refine hK14 _ _ ?_
   refine wp_seq_k fun K20 hK20 => ?_
   refine wp_seq_k fun K21 hK21 => ?_
   refine wp_region_lit ?_
   with_reducible refine wv (.pointer (some ⟨gd, 0, none⟩)) ?_
   try simp only [nP, nN, nA, n0, nS]
   have hk2 : ys.take k2 = ys := List.take_of_length_le (by omega)
   rw [hk2] at hgy
   have hdb0 := hd.2.1
   with_reducible refine wc 27 #[.pointer (some ⟨gd, 0, none⟩)] (dsync_ok dk hd) ?_
   rintro e z6 ⟨rfl, dk_, mv_⟩
   refine ⟨_, rfl, ?_⟩
   have Zb5 := mvHeap mv_ dk Zb5 (by decide) (by decide)
   have ee := ee.trans (mv_.fr.below (fun k_ h_ => Nat.le_trans (Nat.le_refl _) (dk.ft h_).1) ee.size)
   clear dk mv_
   have dk := dk_
   clear dk_
   have hd := T.DInv.lasts (n := (d).b.length) hd
   have hsy_ : ({ d with lasts := (d).b.length } : Dk).lasts = (d).b.length := rfl
   obtain ⟨d22, hd22⟩ : ∃ q_ : Dk, q_ = { d with lasts := (d).b.length } := ⟨_, rfl⟩
   rw [← hd22] at dk hd hsy_
   clear hd22
   have hla : (d22).lasts = (cats xs).length := by rw [hsy_, hdb0]
   obtain ⟨hsz, hbb, hfu, hdn, hwi⟩ := hd
   try simp only [nP, nN, nA, n0, nS]
   with_reducible refine wb (.bool false) (.int .i64 0) (.int .i64 0) 36 (run_neqI (show (decide (0 = 0)) = true from by decide)) ?_
   try simp only [nP, nN, nA, n0, nS]
   refine wpList_nil ?_
   refine hK21 _ _ ?_
   refine wp_cond_false (by kernel_rfl) ?_
   refine wp_skip ?_
   refine hK20 _ _ ?_
   obtain ⟨bz23, hbz23⟩ : ∃ q : Bool, decide (u0 % 2 = 1) = q := ⟨_, rfl⟩
   cases bz23
   ·have hz0 : u0 % 2 = 0 := by have := of_decide_eq_false hbz23; omega
    refine wp_seq_k fun K24 hK24 => ?_
    refine wp_region_lit ?_
    with_reducible refine wv (.pointer (some ⟨g2, 0, none⟩)) ?_
    try simp only [nP, nN, nA, n0, nS]
    with_reducible refine wl (.int .u8 ((u0 : Int))) ⟨g2, 0, none⟩ (rowCell Zb5 (0) rfl) Tryd.underlying5 ?_
    try simp only [nP, nN, nA, n0, nS]
    with_reducible refine wq (.int .u8 0) (okIntP (((tmod2 u0 hz0).trans (by decide)) : ((u0 : Int)).tmod 2 = 0) (by kernel_rfl)) ?_
    try simp only [nP, nN, nA, n0, nS]
    with_reducible refine wq (.int .i64 0) (okIntP ((by decide) : IntKind.i64.wrap 0 = 0) (by kernel_rfl)) ?_
    try simp only [nP, nN, nA, n0, nS]
    with_reducible refine wq (.int .i64 0) (okIntP ((by decide) : IntKind.i64.wrap (0 * 5) = 0) (by kernel_rfl)) ?_
    try simp only [nP, nN, nA, n0, nS]
    with_reducible refine wv (.int .i64 0) ?_
    try simp only [nP, nN, nA, n0, nS]
    refine wpList_nil ?_
    refine hK24 _ _ ?_
    refine wp_seq_k fun K25 hK25 => ?_
    refine wp_region_lit ?_
    with_reducible refine wv (.pointer (some ⟨gd, 0, none⟩)) ?_
    try simp only [nP, nN, nA, n0, nS]
    with_reducible refine wv (.int .i64 0) ?_
    try simp only [nP, nN, nA, n0, nS]
    with_reducible refine wc 33 #[.pointer (some ⟨gd, 0, none⟩), .int .i64 0] (dfuse_any w.heap.size gd bv rv d22 0 z6 (by decide) dk) ?_
    rintro e z7 ⟨rfl, dk_, g_⟩
    refine ⟨_, rfl, ?_⟩
    have mv_ := grownMv (base := w.heap.size) (bv := bv) (rv := rv) g_
    have Zb5 := mvHeap mv_ dk Zb5 (by decide) (by decide)
    have ee := ee.trans (mv_.fr.below (fun k_ h_ => Nat.le_trans (Nat.le_refl _) (dk.ft h_).1) ee.size)
    clear dk mv_
    have dk := dk_
    clear dk_
    obtain ⟨d1, hd1⟩ : ∃ q : Dk, q = D.setFuse d22 0 := ⟨_, rfl⟩
    rw [← hd1] at dk
    have hbb : d1.b = cats xs := by rw [hd1]; exact hbb
    have hsz : d1.size = 1000000 := by rw [hd1]; exact hsz
    have hwi : d1.within = false := by rw [hd1]; exact hwi
    have hdn : d1.down = false := by rw [hd1]; exact hdn
    have hfu : d1.fuse = 0 := by rw [hd1]; rfl
    have hla : d1.lasts = (cats xs).length := by rw [hd1]; exact hla
    clear hd1
    try simp only [nP, nN, nA, n0, nS]
    refine wpList_nil ?_
    refine hK25 _ _ ?_
    refine wp_seq_k fun K26 hK26 => ?_
    refine wp_region_lit ?_
    with_reducible refine wv (.slice none 0 0) ?_
    try simp only [nP, nN, nA, n0, nS]
    refine wpList_nil ?_
    refine hK26 _ _ ?_
    refine wp_seq_k fun K27 hK27 => ?_
    refine wp_region_lit ?_
    with_reducible refine wv (.slice none 0 0) ?_
    try simp only [nP, nN, nA, n0, nS]
    with_reducible refine wv (.slice B ys.length d0) ?_
    try simp only [nP, nN, nA, n0, nS]
    with_reducible refine waR (base := w.heap.size) (c := d0) (ys := ys) (.tmp 70) (.tmp 71) (OwnR.nil : OwnR z7 w.heap.size (.slice none 0 0) []) ((hR2.below ee (Nat.le_refl _)).more ee.size) hn2 (by simp) (by omega) ee.size ?_
    intro v9 z8 OO g_ wh
    rw [List.nil_append] at OO
    have Zb5 := hpB Zb5 (nilGrown g_)
    have dk := dk.below (nilGrown g_)
    have ee := ee.trans ((nilGrown g_).mono ee.size)
    clear g_
    obtain ⟨A9, c9, e9_, hcc9, _, _⟩ := OO.rows
    subst e9_
    with_reducible refine wv (.slice A9 ys.length c9) ?_
    try simp only [nP, nN, nA, n0, nS]
    refine wpList_nil ?_
    refine hK27 _ _ ?_
    refine wp_seq_k fun K28 hK28 => ?_
    refine wp_region_lit ?_
    with_reducible refine wv (.pointer (some ⟨gd, 0, none⟩)) ?_
    try simp only [nP, nN, nA, n0, nS]
    with_reducible refine wv (.slice A9 ys.length c9) ?_
    try simp only [nP, nN, nA, n0, nS]
    have hcy := cats_small hgy (by omega) hyd
    have hcom := compacted_lost hsz hdn hfu hgy (by omega)
    with_reducible refine wc 36 #[.pointer (some ⟨gd, 0, none⟩), .slice A9 ys.length c9] (wcompact_any A9 c9 ys z8 (by omega) (ownRows OO).1 (fun x_ hx_ => ((hO2 x_ hx_).below ee (Nat.le_refl _)).more ee.size) (fun x_ hx_ => by have := good_dt hgy x_ hx_; omega) (hT.below ee) w.heap.size gd bv rv d1 ee.size dk) ?_
    rintro e z9 ⟨bv1, rv1, rfl, dk_, mv_⟩
    refine ⟨_, rfl, ?_⟩
    rw [hcom] at dk_ ⊢
    clear OO
    have Zb5 := mvHeap mv_ dk Zb5 (by decide) (by decide)
    have ee := ee.trans (mv_.fr.below (fun k_ h_ => Nat.le_trans (Nat.le_refl _) (dk.ft h_).1) ee.size)
    clear dk mv_
    have dk := dk_
    clear dk_
    obtain ⟨d2, hd2⟩ : ∃ q : Dk, q = { d1 with down := true, within := true, rep := cats ys } := ⟨_, rfl⟩
    rw [← hd2] at dk
    try simp only [nP, nN, nA, n0, nS]
    with_reducible refine wv (.int .i64 8) ?_
    try simp only [nP, nN, nA, n0, nS]
    refine wpList_nil ?_
    refine hK28 _ _ ?_
    obtain ⟨bz29, hbz29⟩ : ∃ q : Bool, decide (u1 % 2 = 1) = q := ⟨_, rfl⟩
    cases bz29
    ·have hz1 : u1 % 2 = 0 := by have := of_decide_eq_false hbz29; omega
     refine wp_seq_k fun K30 hK30 => ?_
     refine wp_region_lit ?_
     with_reducible refine wv (.pointer (some ⟨gd, 0, none⟩)) ?_
     try simp only [nP, nN, nA, n0, nS]
     with_reducible refine wv (.pointer (some ⟨g2, 1, none⟩)) ?_
     try simp only [nP, nN, nA, n0, nS]
     with_reducible refine wl (.int .u8 ((u1 : Int))) ⟨g2, 1, none⟩ (rowCell Zb5 (1) rfl) Tryd.underlying5 ?_
     try simp only [nP, nN, nA, n0, nS]
     with_reducible refine wq (.int .u8 0) (okIntP (((tmod2 u1 hz1).trans (by decide)) : ((u1 : Int)).tmod 2 = 0) (by kernel_rfl)) ?_
     try simp only [nP, nN, nA, n0, nS]
     with_reducible refine wq (.int .i64 0) (okIntP ((by decide) : IntKind.i64.wrap 0 = 0) (by kernel_rfl)) ?_
     try simp only [nP, nN, nA, n0, nS]
     with_reducible refine wc 29 #[.pointer (some ⟨gd, 0, none⟩), .int .i64 0] (dcut_any w.heap.size gd bv1 rv1 d2 0 z9 ee.size dk) ?_
     rintro e z10 ⟨gx, bvx, rfl, _, dkx, _, g_⟩
     refine ⟨_, rfl, ?_⟩
     have mv_ := grownMv (base := w.heap.size) (bv := bv1) (rv := rv1) g_
     have dkx := dkx.mono ee.size
     have Zb5 := mvHeap mv_ dk Zb5 (by decide) (by decide)
     have ee := ee.trans (mv_.fr.below (fun k_ h_ => (dk.ft h_).1) ee.size)
     clear dk mv_ g_
     have dk := dkx
     clear dkx
     have hcb : (D.cut d2 0).b = cats xs := by
      rw [hd2, cut_bb]
      unfold D.cutB
      rw [if_pos rfl, if_neg (by decide)]
      show d1.b.take d1.lasts = _
      rw [hbb, hla]; exact List.take_of_length_le (Nat.le_refl _)
     obtain ⟨dc, hdc⟩ : ∃ q : Dk, q = D.cut d2 0 := ⟨_, rfl⟩
     rw [← hdc] at dk hcb
     have hcd : dc.down = false := by rw [hdc]; rfl
     clear hdc
     have hop := opened_all hgx dc hcb hcd
     try simp only [nP, nN, nA, n0, nS]
     with_reducible refine wc 30 #[.pointer (some ⟨gx, 0, none⟩)] (wopen_any w.heap.size gx bvx (.slice none 0 0) dc z10 ee.size dk (hT.below ee)) ?_
     rintro e z11 ⟨v1_, ns1, bo1, ro1, rfl, hlk1, dk_, mv_, OX1, kx1⟩
     refine ⟨_, rfl, ?_⟩
     rw [hop] at hlk1 dk_ ⊢
     have OX1 := OwnR.mono OX1 ee.size
     have Zb5 := mvHeap mv_ dk Zb5 (by decide) (by decide)
     have ee := ee.trans (mv_.fr.below (fun k_ h_ => Nat.le_trans (Nat.le_refl _) (dk.ft h_).1) ee.size)
     clear dk mv_
     have dk := dk_
     clear dk_
     obtain ⟨A1, c1, e1_, hcc1, _, _⟩ := OX1.rows
     subst e1_
     have hcm1 := (ownRows OX1).2.2.1
     obtain ⟨hln1, hli1⟩ := like_all hgx hlk1
     try simp only [nP, nN, nA, n0, nS]
     with_reducible refine wv (.tuple #[.slice A1 ns1.length c1, .int .i64 0]) ?_
     try simp only [nP, nN, nA, n0, nS]
     with_reducible refine wv (.slice A1 ns1.length c1) ?_
     try simp only [nP, nN, nA, n0, nS]
     with_reducible refine wv (.int .i64 0) ?_
     try simp only [nP, nN, nA, n0, nS]
     with_reducible refine wv (.slice A1 ns1.length c1) ?_
     try simp only [nP, nN, nA, n0, nS]
     with_reducible refine wv (.int .i64 0) ?_
     try simp only [nP, nN, nA, n0, nS]
     refine wpList_nil ?_
     refine hK30 _ _ ?_
     refine wp_seq_k fun K31 hK31 => ?_
     refine wp_seq_k fun K32 hK32 => ?_
     refine wp_region_lit ?_
     with_reducible refine wv (.int .i64 0) ?_
     try simp only [nP, nN, nA, n0, nS]
     with_reducible refine wb (.bool false) (.int .i64 0) (.int .i64 0) 3 (run_gtrI (show (decide (0 > 0)) = false from by decide)) ?_
     try simp only [nP, nN, nA, n0, nS]
     with_reducible refine wv (.bool false) ?_
     try simp only [nP, nN, nA, n0, nS]
     with_reducible refine wv (.pointer (some ⟨g2, 1, none⟩)) ?_
     try simp only [nP, nN, nA, n0, nS]
     with_reducible refine wl (.int .u8 ((u1 : Int))) ⟨g2, 1, none⟩ (rowCell Zb5 (1) rfl) Tryd.underlying5 ?_
     try simp only [nP, nN, nA, n0, nS]
     with_reducible refine wq (.int .u8 0) (okIntP (((tmod2 u1 hz1).trans (by decide)) : ((u1 : Int)).tmod 2 = 0) (by kernel_rfl)) ?_
     try simp only [nP, nN, nA, n0, nS]
     with_reducible refine wb (.bool false) (.int .u8 0) (.int .u8 1) 5 (run_eqlI (show (decide (0 = 1)) = false from by decide)) ?_
     try simp only [nP, nN, nA, n0, nS]
     with_reducible refine wv (.bool false) ?_
     try simp only [nP, nN, nA, n0, nS]
     refine wpList_nil ?_
     refine hK32 _ _ ?_
     refine wp_cond_false (by kernel_rfl) ?_
     refine wp_skip ?_
     refine hK31 _ _ ?_
     refine wp_seq_k fun K33 hK33 => ?_
     refine wp_region_lit ?_
     with_reducible refine wv (.int .i64 0) ?_
     try simp only [nP, nN, nA, n0, nS]
     with_reducible refine wb (.bool true) (.int .i64 0) (.int .i64 0) 36 (run_eqlI (show (decide (0 = 0)) = true from by decide)) ?_
     try simp only [nP, nN, nA, n0, nS]
     with_reducible refine wv (.bool true) ?_
     try simp only [nP, nN, nA, n0, nS]
     with_reducible refine wv (.int .i64 8) ?_
     try simp only [nP, nN, nA, n0, nS]
     with_reducible refine wb (.bool true) (.int .i64 8) (.int .i64 8) 36 (run_eqlI (show (decide (8 = 8)) = true from by decide)) ?_
     try simp only [nP, nN, nA, n0, nS]
     with_reducible refine wv (.bool true) ?_
     try simp only [nP, nN, nA, n0, nS]
     with_reducible refine wv (.bool true) ?_
     try simp only [nP, nN, nA, n0, nS]
     with_reducible refine wv (.slice A1 ns1.length c1) ?_
     try simp only [nP, nN, nA, n0, nS]
     with_reducible refine wv (.int .i64 ((ns1.length : Int))) ?_
     try simp only [nP, nN, nA, n0, nS]
     with_reducible refine wv (.slice A xs.length c) ?_
     try simp only [nP, nN, nA, n0, nS]
     with_reducible refine wv (.int .i64 ((xs.length : Int))) ?_
     try simp only [nP, nN, nA, n0, nS]
     with_reducible refine wb (.bool true) (.int .i64 ((ns1.length : Int))) (.int .i64 ((xs.length : Int))) 3 (run_eqlI ((decide_eq_true (by omega)) : (decide ((ns1.length : Int) = (xs.length : Int))) = true)) ?_
     try simp only [nP, nN, nA, n0, nS]
     with_reducible refine wv (.bool true) ?_
     try simp only [nP, nN, nA, n0, nS]
     with_reducible refine wv (.bool true) ?_
     try simp only [nP, nN, nA, n0, nS]
     with_reducible refine wv (.slice A1 ns1.length c1) ?_
     try simp only [nP, nN, nA, n0, nS]
     with_reducible refine wv (.slice A xs.length c) ?_
     try simp only [nP, nN, nA, n0, nS]
     with_reducible refine wv (.slice A xs.length c) ?_
     try simp only [nP, nN, nA, n0, nS]
     with_reducible refine wv (.int .i64 ((xs.length : Int))) ?_
     try simp only [nP, nN, nA, n0, nS]
     with_reducible refine wc 31 #[.slice A1 ns1.length c1, .slice A xs.length c, .int .i64 ((xs.length : Int))] (front_t A1 A c1 c ns1 xs (xs.length : Int) z11 hcc1 hcm1 (ownRows OX1).1 kx1.out ((hR1.below ee (Nat.le_refl _)).more ee.size) (fun x_ hx_ => ((hO1 x_ hx_).below ee (Nat.le_refl _)).more ee.size) (by omega) (by omega) (good_dt hgx) hli1) ?_
     rintro e z12 ⟨rfl, t⟩
     refine ⟨_, rfl, ?_⟩
     have dk := dk.below t
     have kx1 := kx1.below t
     have Zb5 := hpB Zb5 t
     have OX1 := ownBelow OX1 t
     have ee := ee.trans (t.mono ee.size)
     clear t
     try simp only [nP, nN, nA, n0, nS]
     with_reducible refine wv (.bool true) ?_
     try simp only [nP, nN, nA, n0, nS]
     with_reducible refine wv (.bool true) ?_
     try simp only [nP, nN, nA, n0, nS]
     refine wpList_nil ?_
     refine hK33 _ _ ?_
     refine wp_ret ?_
     exact bodyPost_ret (v := .bool true) (by kernel_rfl) rfl ⟨rfl, ee⟩
    have hz1 : u1 % 2 = 1 := by have := of_decide_eq_true hbz29; omega
    refine wp_seq_k fun K34 hK34 => ?_
    refine wp_region_lit ?_
    with_reducible refine wv (.pointer (some ⟨gd, 0, none⟩)) ?_
    try simp only [nP, nN, nA, n0, nS]
    with_reducible refine wv (.pointer (some ⟨g2, 1, none⟩)) ?_
    try simp only [nP, nN, nA, n0, nS]
    with_reducible refine wl (.int .u8 ((u1 : Int))) ⟨g2, 1, none⟩ (rowCell Zb5 (1) rfl) Tryd.underlying5 ?_
    try simp only [nP, nN, nA, n0, nS]
    with_reducible refine wq (.int .u8 1) (okIntP (((tmod2 u1 hz1).trans (by decide)) : ((u1 : Int)).tmod 2 = 1) (by kernel_rfl)) ?_
    try simp only [nP, nN, nA, n0, nS]
    with_reducible refine wq (.int .i64 1) (okIntP ((by decide) : IntKind.i64.wrap 1 = 1) (by kernel_rfl)) ?_
    try simp only [nP, nN, nA, n0, nS]
    with_reducible refine wc 29 #[.pointer (some ⟨gd, 0, none⟩), .int .i64 1] (dcut_any w.heap.size gd bv1 rv1 d2 1 z9 ee.size dk) ?_
    rintro e z10 ⟨gx, bvx, rfl, _, dkx, _, g_⟩
    refine ⟨_, rfl, ?_⟩
    have mv_ := grownMv (base := w.heap.size) (bv := bv1) (rv := rv1) g_
    have dkx := dkx.mono ee.size
    have Zb5 := mvHeap mv_ dk Zb5 (by decide) (by decide)
    have ee := ee.trans (mv_.fr.below (fun k_ h_ => (dk.ft h_).1) ee.size)
    clear dk mv_ g_
    have dk := dkx
    clear dkx
    have hcb : (D.cut d2 1).b = cats ys := by
     rw [hd2, cut_bb]
     unfold D.cutB
     rw [if_pos rfl, if_pos (by decide)]
    obtain ⟨dc, hdc⟩ : ∃ q : Dk, q = D.cut d2 1 := ⟨_, rfl⟩
    rw [← hdc] at dk hcb
    have hcd : dc.down = false := by rw [hdc]; rfl
    clear hdc
    have hop := opened_all hgy dc hcb hcd
    try simp only [nP, nN, nA, n0, nS]
    with_reducible refine wc 30 #[.pointer (some ⟨gx, 0, none⟩)] (wopen_any w.heap.size gx bvx (.slice none 0 0) dc z10 ee.size dk (hT.below ee)) ?_
    rintro e z11 ⟨v1_, ns1, bo1, ro1, rfl, hlk1, dk_, mv_, OX1, kx1⟩
    refine ⟨_, rfl, ?_⟩
    rw [hop] at hlk1 dk_ ⊢
    have OX1 := OwnR.mono OX1 ee.size
    have Zb5 := mvHeap mv_ dk Zb5 (by decide) (by decide)
    have ee := ee.trans (mv_.fr.below (fun k_ h_ => Nat.le_trans (Nat.le_refl _) (dk.ft h_).1) ee.size)
    clear dk mv_
    have dk := dk_
    clear dk_
    obtain ⟨A1, c1, e1_, hcc1, _, _⟩ := OX1.rows
    subst e1_
    have hcm1 := (ownRows OX1).2.2.1
    obtain ⟨hln1, hli1⟩ := like_all hgy hlk1
    try simp only [nP, nN, nA, n0, nS]
    with_reducible refine wv (.tuple #[.slice A1 ns1.length c1, .int .i64 0]) ?_
    try simp only [nP, nN, nA, n0, nS]
    with_reducible refine wv (.slice A1 ns1.length c1) ?_
    try simp only [nP, nN, nA, n0, nS]
    with_reducible refine wv (.int .i64 0) ?_
    try simp only [nP, nN, nA, n0, nS]
    with_reducible refine wv (.slice A1 ns1.length c1) ?_
    try simp only [nP, nN, nA, n0, nS]
    with_reducible refine wv (.int .i64 0) ?_
    try simp only [nP, nN, nA, n0, nS]
    refine wpList_nil ?_
    refine hK34 _ _ ?_
    refine wp_seq_k fun K35 hK35 => ?_
    refine wp_seq_k fun K36 hK36 => ?_
    refine wp_region_lit ?_
    with_reducible refine wv (.int .i64 0) ?_
    try simp only [nP, nN, nA, n0, nS]
    with_reducible refine wb (.bool false) (.int .i64 0) (.int .i64 0) 3 (run_gtrI (show (decide (0 > 0)) = false from by decide)) ?_
    try simp only [nP, nN, nA, n0, nS]
    with_reducible refine wv (.bool false) ?_
    try simp only [nP, nN, nA, n0, nS]
    with_reducible refine wv (.pointer (some ⟨g2, 1, none⟩)) ?_
    try simp only [nP, nN, nA, n0, nS]
    with_reducible refine wl (.int .u8 ((u1 : Int))) ⟨g2, 1, none⟩ (rowCell Zb5 (1) rfl) Tryd.underlying5 ?_
    try simp only [nP, nN, nA, n0, nS]
    with_reducible refine wq (.int .u8 1) (okIntP (((tmod2 u1 hz1).trans (by decide)) : ((u1 : Int)).tmod 2 = 1) (by kernel_rfl)) ?_
    try simp only [nP, nN, nA, n0, nS]
    with_reducible refine wb (.bool true) (.int .u8 1) (.int .u8 1) 5 (run_eqlI (show (decide (1 = 1)) = true from by decide)) ?_
    try simp only [nP, nN, nA, n0, nS]
    with_reducible refine wv (.bool true) ?_
    try simp only [nP, nN, nA, n0, nS]
    refine wpList_nil ?_
    refine hK36 _ _ ?_
    refine wp_cond_true (by kernel_rfl) ?_
    refine wp_seq_k fun K37 hK37 => ?_
    refine wp_region_lit ?_
    with_reducible refine wv (.int .i64 0) ?_
    try simp only [nP, nN, nA, n0, nS]
    with_reducible refine wb (.bool true) (.int .i64 0) (.int .i64 0) 36 (run_eqlI (show (decide (0 = 0)) = true from by decide)) ?_
    try simp only [nP, nN, nA, n0, nS]
    with_reducible refine wv (.bool true) ?_
    try simp only [nP, nN, nA, n0, nS]
    with_reducible refine wv (.int .i64 8) ?_
    try simp only [nP, nN, nA, n0, nS]
    with_reducible refine wb (.bool false) (.int .i64 8) (.int .i64 0) 36 (run_eqlI (show (decide (8 = 0)) = false from by decide)) ?_
    try simp only [nP, nN, nA, n0, nS]
    with_reducible refine wv (.int .i64 0) ?_
    try simp only [nP, nN, nA, n0, nS]
    with_reducible refine wb (.bool false) (.int .i64 0) (.int .i64 0) 3 (run_gtrI (show (decide (0 > 0)) = false from by decide)) ?_
    try simp only [nP, nN, nA, n0, nS]
    with_reducible refine wv (.bool true) ?_
    try simp only [nP, nN, nA, n0, nS]
    with_reducible refine wv (.bool true) ?_
    try simp only [nP, nN, nA, n0, nS]
    with_reducible refine wv (.bool true) ?_
    try simp only [nP, nN, nA, n0, nS]
    with_reducible refine wv (.slice A1 ns1.length c1) ?_
    try simp only [nP, nN, nA, n0, nS]
    with_reducible refine wv (.int .i64 ((ns1.length : Int))) ?_
    try simp only [nP, nN, nA, n0, nS]
    with_reducible refine wv (.slice B ys.length d0) ?_
    try simp only [nP, nN, nA, n0, nS]
    with_reducible refine wv (.int .i64 ((ys.length : Int))) ?_
    try simp only [nP, nN, nA, n0, nS]
    with_reducible refine wb (.bool true) (.int .i64 ((ns1.length : Int))) (.int .i64 ((ys.length : Int))) 3 (run_eqlI ((decide_eq_true (by omega)) : (decide ((ns1.length : Int) = (ys.length : Int))) = true)) ?_
    try simp only [nP, nN, nA, n0, nS]
    with_reducible refine wv (.bool true) ?_
    try simp only [nP, nN, nA, n0, nS]
    with_reducible refine wv (.bool true) ?_
    try simp only [nP, nN, nA, n0, nS]
    with_reducible refine wv (.slice A1 ns1.length c1) ?_
    try simp only [nP, nN, nA, n0, nS]
    with_reducible refine wv (.slice B ys.length d0) ?_
    try simp only [nP, nN, nA, n0, nS]
    with_reducible refine wv (.slice B ys.length d0) ?_
    try simp only [nP, nN, nA, n0, nS]
    with_reducible refine wv (.int .i64 ((ys.length : Int))) ?_
    try simp only [nP, nN, nA, n0, nS]
    with_reducible refine wc 31 #[.slice A1 ns1.length c1, .slice B ys.length d0, .int .i64 ((ys.length : Int))] (front_t A1 B c1 d0 ns1 ys (ys.length : Int) z11 hcc1 hcm1 (ownRows OX1).1 kx1.out ((hR2.below ee (Nat.le_refl _)).more ee.size) (fun x_ hx_ => ((hO2 x_ hx_).below ee (Nat.le_refl _)).more ee.size) (by omega) (by omega) (good_dt hgy) hli1) ?_
    rintro e z12 ⟨rfl, t⟩
    refine ⟨_, rfl, ?_⟩
    have dk := dk.below t
    have kx1 := kx1.below t
    have Zb5 := hpB Zb5 t
    have OX1 := ownBelow OX1 t
    have ee := ee.trans (t.mono ee.size)
    clear t
    try simp only [nP, nN, nA, n0, nS]
    with_reducible refine wv (.bool true) ?_
    try simp only [nP, nN, nA, n0, nS]
    with_reducible refine wv (.bool true) ?_
    try simp only [nP, nN, nA, n0, nS]
    refine wpList_nil ?_
    refine hK37 _ _ ?_
    refine wp_ret ?_
    refine then_ret ?_
    exact bodyPost_ret (v := .bool true) (by kernel_rfl) rfl ⟨rfl, ee⟩
   have hz0 : u0 % 2 = 1 := by have := of_decide_eq_true hbz23; omega
   refine wp_seq_k fun K38 hK38 => ?_
   refine wp_region_lit ?_
   with_reducible refine wv (.pointer (some ⟨g2, 0, none⟩)) ?_
   try simp only [nP, nN, nA, n0, nS]
   with_reducible refine wl (.int .u8 ((u0 : Int))) ⟨g2, 0, none⟩ (rowCell Zb5 (0) rfl) Tryd.underlying5 ?_
   try simp only [nP, nN, nA, n0, nS]
   with_reducible refine wq (.int .u8 1) (okIntP (((tmod2 u0 hz0).trans (by decide)) : ((u0 : Int)).tmod 2 = 1) (by kernel_rfl)) ?_
   try simp only [nP, nN, nA, n0, nS]
   with_reducible refine wq (.int .i64 1) (okIntP ((by decide) : IntKind.i64.wrap 1 = 1) (by kernel_rfl)) ?_
   try simp only [nP, nN, nA, n0, nS]
   with_reducible refine wq (.int .i64 5) (okIntP ((by decide) : IntKind.i64.wrap (1 * 5) = 5) (by kernel_rfl)) ?_
   try simp only [nP, nN, nA, n0, nS]
   with_reducible refine wv (.int .i64 5) ?_
   try simp only [nP, nN, nA, n0, nS]
   refine wpList_nil ?_
   refine hK38 _ _ ?_
   refine wp_seq_k fun K39 hK39 => ?_
   refine wp_region_lit ?_
   with_reducible refine wv (.pointer (some ⟨gd, 0, none⟩)) ?_
   try simp only [nP, nN, nA, n0, nS]
   with_reducible refine wv (.int .i64 5) ?_
   try simp only [nP, nN, nA, n0, nS]
   with_reducible refine wc 33 #[.pointer (some ⟨gd, 0, none⟩), .int .i64 5] (dfuse_any w.heap.size gd bv rv d22 5 z6 (by decide) dk) ?_
   rintro e z7 ⟨rfl, dk_, g_⟩
   refine ⟨_, rfl, ?_⟩
   have mv_ := grownMv (base := w.heap.size) (bv := bv) (rv := rv) g_
   have Zb5 := mvHeap mv_ dk Zb5 (by decide) (by decide)
   have ee := ee.trans (mv_.fr.below (fun k_ h_ => Nat.le_trans (Nat.le_refl _) (dk.ft h_).1) ee.size)
   clear dk mv_
   have dk := dk_
   clear dk_
   obtain ⟨d1, hd1⟩ : ∃ q : Dk, q = D.setFuse d22 5 := ⟨_, rfl⟩
   rw [← hd1] at dk
   have hbb : d1.b = cats xs := by rw [hd1]; exact hbb
   have hsz : d1.size = 1000000 := by rw [hd1]; exact hsz
   have hwi : d1.within = false := by rw [hd1]; exact hwi
   have hdn : d1.down = false := by rw [hd1]; exact hdn
   have hfu : d1.fuse = 5 := by rw [hd1]; rfl
   have hla : d1.lasts = (cats xs).length := by rw [hd1]; exact hla
   clear hd1
   try simp only [nP, nN, nA, n0, nS]
   refine wpList_nil ?_
   refine hK39 _ _ ?_
   refine wp_seq_k fun K40 hK40 => ?_
   refine wp_region_lit ?_
   with_reducible refine wv (.slice none 0 0) ?_
   try simp only [nP, nN, nA, n0, nS]
   refine wpList_nil ?_
   refine hK40 _ _ ?_
   refine wp_seq_k fun K41 hK41 => ?_
   refine wp_region_lit ?_
   with_reducible refine wv (.slice none 0 0) ?_
   try simp only [nP, nN, nA, n0, nS]
   with_reducible refine wv (.slice B ys.length d0) ?_
   try simp only [nP, nN, nA, n0, nS]
   with_reducible refine waR (base := w.heap.size) (c := d0) (ys := ys) (.tmp 70) (.tmp 71) (OwnR.nil : OwnR z7 w.heap.size (.slice none 0 0) []) ((hR2.below ee (Nat.le_refl _)).more ee.size) hn2 (by simp) (by omega) ee.size ?_
   intro v9 z8 OO g_ wh
   rw [List.nil_append] at OO
   have Zb5 := hpB Zb5 (nilGrown g_)
   have dk := dk.below (nilGrown g_)
   have ee := ee.trans ((nilGrown g_).mono ee.size)
   clear g_
   obtain ⟨A9, c9, e9_, hcc9, _, _⟩ := OO.rows
   subst e9_
   with_reducible refine wv (.slice A9 ys.length c9) ?_
   try simp only [nP, nN, nA, n0, nS]
   refine wpList_nil ?_
   refine hK41 _ _ ?_
   refine wp_seq_k fun K42 hK42 => ?_
   refine wp_region_lit ?_
   with_reducible refine wv (.pointer (some ⟨gd, 0, none⟩)) ?_
   try simp only [nP, nN, nA, n0, nS]
   with_reducible refine wv (.slice A9 ys.length c9) ?_
   try simp only [nP, nN, nA, n0, nS]
   have hcy := cats_small hgy (by omega) hyd
   have hcom := compacted_ok (b := []) hsz hdn hfu hgy (by omega)
   with_reducible refine wc 36 #[.pointer (some ⟨gd, 0, none⟩), .slice A9 ys.length c9] (wcompact_any A9 c9 ys z8 (by omega) (ownRows OO).1 (fun x_ hx_ => ((hO2 x_ hx_).below ee (Nat.le_refl _)).more ee.size) (fun x_ hx_ => by have := good_dt hgy x_ hx_; omega) (hT.below ee) w.heap.size gd bv rv d1 ee.size dk) ?_
   rintro e z9 ⟨bv1, rv1, rfl, dk_, mv_⟩
   refine ⟨_, rfl, ?_⟩
   rw [hcom] at dk_ ⊢
   clear OO
   have Zb5 := mvHeap mv_ dk Zb5 (by decide) (by decide)
   have ee := ee.trans (mv_.fr.below (fun k_ h_ => Nat.le_trans (Nat.le_refl _) (dk.ft h_).1) ee.size)
   clear dk mv_
   have dk := dk_
   clear dk_
   obtain ⟨d2, hd2⟩ : ∃ q : Dk, q = { d1 with fuse := 4, b := cats ys, lasts := (cats ys).length } := ⟨_, rfl⟩
   rw [← hd2] at dk
   try simp only [nP, nN, nA, n0, nS]
   with_reducible refine wv (.int .i64 0) ?_
   try simp only [nP, nN, nA, n0, nS]
   refine wpList_nil ?_
   refine hK42 _ _ ?_
   obtain ⟨bz43, hbz43⟩ : ∃ q : Bool, decide (u1 % 2 = 1) = q := ⟨_, rfl⟩
   cases bz43
   ·have hz1 : u1 % 2 = 0 := by have := of_decide_eq_false hbz43; omega
    refine wp_seq_k fun K44 hK44 => ?_
    refine wp_region_lit ?_
    with_reducible refine wv (.pointer (some ⟨gd, 0, none⟩)) ?_
    try simp only [nP, nN, nA, n0, nS]
    with_reducible refine wv (.pointer (some ⟨g2, 1, none⟩)) ?_
    try simp only [nP, nN, nA, n0, nS]
    with_reducible refine wl (.int .u8 ((u1 : Int))) ⟨g2, 1, none⟩ (rowCell Zb5 (1) rfl) Tryd.underlying5 ?_
    try simp only [nP, nN, nA, n0, nS]
    with_reducible refine wq (.int .u8 0) (okIntP (((tmod2 u1 hz1).trans (by decide)) : ((u1 : Int)).tmod 2 = 0) (by kernel_rfl)) ?_
    try simp only [nP, nN, nA, n0, nS]
    with_reducible refine wq (.int .i64 0) (okIntP ((by decide) : IntKind.i64.wrap 0 = 0) (by kernel_rfl)) ?_
    try simp only [nP, nN, nA, n0, nS]
    with_reducible refine wc 29 #[.pointer (some ⟨gd, 0, none⟩), .int .i64 0] (dcut_any w.heap.size gd bv1 rv1 d2 0 z9 ee.size dk) ?_
    rintro e z10 ⟨gx, bvx, rfl, _, dkx, _, g_⟩
    refine ⟨_, rfl, ?_⟩
    have mv_ := grownMv (base := w.heap.size) (bv := bv1) (rv := rv1) g_
    have dkx := dkx.mono ee.size
    have Zb5 := mvHeap mv_ dk Zb5 (by decide) (by decide)
    have ee := ee.trans (mv_.fr.below (fun k_ h_ => (dk.ft h_).1) ee.size)
    clear dk mv_ g_
    have dk := dkx
    clear dkx
    have hcb : (D.cut d2 0).b = cats ys := by
     rw [hd2, cut_bb]
     unfold D.cutB
     rw [if_neg (by show ¬ d1.within = true; rw [hwi]; decide)]
     exact List.take_of_length_le (Nat.le_add_right (cats ys).length _)
    obtain ⟨dc, hdc⟩ : ∃ q : Dk, q = D.cut d2 0 := ⟨_, rfl⟩
    rw [← hdc] at dk hcb
    have hcd : dc.down = false := by rw [hdc]; rfl
    clear hdc
    have hop := opened_all hgy dc hcb hcd
    try simp only [nP, nN, nA, n0, nS]
    with_reducible refine wc 30 #[.pointer (some ⟨gx, 0, none⟩)] (wopen_any w.heap.size gx bvx (.slice none 0 0) dc z10 ee.size dk (hT.below ee)) ?_
    rintro e z11 ⟨v1_, ns1, bo1, ro1, rfl, hlk1, dk_, mv_, OX1, kx1⟩
    refine ⟨_, rfl, ?_⟩
    rw [hop] at hlk1 dk_ ⊢
    have OX1 := OwnR.mono OX1 ee.size
    have Zb5 := mvHeap mv_ dk Zb5 (by decide) (by decide)
    have ee := ee.trans (mv_.fr.below (fun k_ h_ => Nat.le_trans (Nat.le_refl _) (dk.ft h_).1) ee.size)
    clear dk mv_
    have dk := dk_
    clear dk_
    obtain ⟨A1, c1, e1_, hcc1, _, _⟩ := OX1.rows
    subst e1_
    have hcm1 := (ownRows OX1).2.2.1
    obtain ⟨hln1, hli1⟩ := like_all hgy hlk1
    try simp only [nP, nN, nA, n0, nS]
    with_reducible refine wv (.tuple #[.slice A1 ns1.length c1, .int .i64 0]) ?_
    try simp only [nP, nN, nA, n0, nS]
    with_reducible refine wv (.slice A1 ns1.length c1) ?_
    try simp only [nP, nN, nA, n0, nS]
    with_reducible refine wv (.int .i64 0) ?_
    try simp only [nP, nN, nA, n0, nS]
    with_reducible refine wv (.slice A1 ns1.length c1) ?_
    try simp only [nP, nN, nA, n0, nS]
    with_reducible refine wv (.int .i64 0) ?_
    try simp only [nP, nN, nA, n0, nS]
    refine wpList_nil ?_
    refine hK44 _ _ ?_
    refine wp_seq_k fun K45 hK45 => ?_
    refine wp_seq_k fun K46 hK46 => ?_
    refine wp_region_lit ?_
    with_reducible refine wv (.int .i64 5) ?_
    try simp only [nP, nN, nA, n0, nS]
    with_reducible refine wb (.bool true) (.int .i64 5) (.int .i64 0) 3 (run_gtrI (show (decide (5 > 0)) = true from by decide)) ?_
    try simp only [nP, nN, nA, n0, nS]
    with_reducible refine wv (.bool true) ?_
    try simp only [nP, nN, nA, n0, nS]
    with_reducible refine wk ?_
    try simp only [nP, nN, nA, n0, nS]
    with_reducible refine wk ?_
    try simp only [nP, nN, nA, n0, nS]
    with_reducible refine wk ?_
    try simp only [nP, nN, nA, n0, nS]
    with_reducible refine wk ?_
    try simp only [nP, nN, nA, n0, nS]
    with_reducible refine wv (.bool true) ?_
    try simp only [nP, nN, nA, n0, nS]
    refine wpList_nil ?_
    refine hK46 _ _ ?_
    refine wp_cond_true (by kernel_rfl) ?_
    refine wp_seq_k fun K47 hK47 => ?_
    refine wp_region_lit ?_
    with_reducible refine wv (.int .i64 0) ?_
    try simp only [nP, nN, nA, n0, nS]
    with_reducible refine wb (.bool true) (.int .i64 0) (.int .i64 0) 36 (run_eqlI (show (decide (0 = 0)) = true from by decide)) ?_
    try simp only [nP, nN, nA, n0, nS]
    with_reducible refine wv (.bool true) ?_
    try simp only [nP, nN, nA, n0, nS]
    with_reducible refine wv (.int .i64 0) ?_
    try simp only [nP, nN, nA, n0, nS]
    with_reducible refine wb (.bool true) (.int .i64 0) (.int .i64 0) 36 (run_eqlI (show (decide (0 = 0)) = true from by decide)) ?_
    try simp only [nP, nN, nA, n0, nS]
    with_reducible refine wv (.int .i64 5) ?_
    try simp only [nP, nN, nA, n0, nS]
    with_reducible refine wb (.bool true) (.int .i64 5) (.int .i64 0) 3 (run_gtrI (show (decide (5 > 0)) = true from by decide)) ?_
    try simp only [nP, nN, nA, n0, nS]
    with_reducible refine wv (.bool true) ?_
    try simp only [nP, nN, nA, n0, nS]
    with_reducible refine wv (.bool true) ?_
    try simp only [nP, nN, nA, n0, nS]
    with_reducible refine wv (.bool true) ?_
    try simp only [nP, nN, nA, n0, nS]
    with_reducible refine wv (.slice A1 ns1.length c1) ?_
    try simp only [nP, nN, nA, n0, nS]
    with_reducible refine wv (.int .i64 ((ns1.length : Int))) ?_
    try simp only [nP, nN, nA, n0, nS]
    with_reducible refine wv (.slice B ys.length d0) ?_
    try simp only [nP, nN, nA, n0, nS]
    with_reducible refine wv (.int .i64 ((ys.length : Int))) ?_
    try simp only [nP, nN, nA, n0, nS]
    with_reducible refine wb (.bool true) (.int .i64 ((ns1.length : Int))) (.int .i64 ((ys.length : Int))) 3 (run_eqlI ((decide_eq_true (by omega)) : (decide ((ns1.length : Int) = (ys.length : Int))) = true)) ?_
    try simp only [nP, nN, nA, n0, nS]
    with_reducible refine wv (.bool true) ?_
    try simp only [nP, nN, nA, n0, nS]
    with_reducible refine wv (.bool true) ?_
    try simp only [nP, nN, nA, n0, nS]
    with_reducible refine wv (.slice A1 ns1.length c1) ?_
    try simp only [nP, nN, nA, n0, nS]
    with_reducible refine wv (.slice B ys.length d0) ?_
    try simp only [nP, nN, nA, n0, nS]
    with_reducible refine wv (.slice B ys.length d0) ?_
    try simp only [nP, nN, nA, n0, nS]
    with_reducible refine wv (.int .i64 ((ys.length : Int))) ?_
    try simp only [nP, nN, nA, n0, nS]
    with_reducible refine wc 31 #[.slice A1 ns1.length c1, .slice B ys.length d0, .int .i64 ((ys.length : Int))] (front_t A1 B c1 d0 ns1 ys (ys.length : Int) z11 hcc1 hcm1 (ownRows OX1).1 kx1.out ((hR2.below ee (Nat.le_refl _)).more ee.size) (fun x_ hx_ => ((hO2 x_ hx_).below ee (Nat.le_refl _)).more ee.size) (by omega) (by omega) (good_dt hgy) hli1) ?_
    rintro e z12 ⟨rfl, t⟩
    refine ⟨_, rfl, ?_⟩
    have dk := dk.below t
    have kx1 := kx1.below t
    have Zb5 := hpB Zb5 t
    have OX1 := ownBelow OX1 t
    have ee := ee.trans (t.mono ee.size)
    clear t
    try simp only [nP, nN, nA, n0, nS]
    with_reducible refine wv (.bool true) ?_
    try simp only [nP, nN, nA, n0, nS]
    with_reducible refine wv (.bool true) ?_
    try simp only [nP, nN, nA, n0, nS]
    refine wpList_nil ?_
    refine hK47 _ _ ?_
    refine wp_ret ?_
    refine then_ret ?_
    exact bodyPost_ret (v := .bool true) (by kernel_rfl) rfl ⟨rfl, ee⟩
   have hz1 : u1 % 2 = 1 := by have := of_decide_eq_true hbz43; omega
   refine wp_seq_k fun K48 hK48 => ?_
   refine wp_region_lit ?_
   with_reducible refine wv (.pointer (some ⟨gd, 0, none⟩)) ?_
   try simp only [nP, nN, nA, n0, nS]
   with_reducible refine wv (.pointer (some ⟨g2, 1, none⟩)) ?_
   try simp only [nP, nN, nA, n0, nS]
   with_reducible refine wl (.int .u8 ((u1 : Int))) ⟨g2, 1, none⟩ (rowCell Zb5 (1) rfl) Tryd.underlying5 ?_
   try simp only [nP, nN, nA, n0, nS]
   with_reducible refine wq (.int .u8 1) (okIntP (((tmod2 u1 hz1).trans (by decide)) : ((u1 : Int)).tmod 2 = 1) (by kernel_rfl)) ?_
   try simp only [nP, nN, nA, n0, nS]
   with_reducible refine wq (.int .i64 1) (okIntP ((by decide) : IntKind.i64.wrap 1 = 1) (by kernel_rfl)) ?_
   try simp only [nP, nN, nA, n0, nS]
   with_reducible refine wc 29 #[.pointer (some ⟨gd, 0, none⟩), .int .i64 1] (dcut_any w.heap.size gd bv1 rv1 d2 1 z9 ee.size dk) ?_
   rintro e z10 ⟨gx, bvx, rfl, _, dkx, _, g_⟩
   refine ⟨_, rfl, ?_⟩
   have mv_ := grownMv (base := w.heap.size) (bv := bv1) (rv := rv1) g_
   have dkx := dkx.mono ee.size
   have Zb5 := mvHeap mv_ dk Zb5 (by decide) (by decide)
   have ee := ee.trans (mv_.fr.below (fun k_ h_ => (dk.ft h_).1) ee.size)
   clear dk mv_ g_
   have dk := dkx
   clear dkx
   have hcb : (D.cut d2 1).b = cats ys := by
    rw [hd2, cut_bb]
    unfold D.cutB
    rw [if_neg (by show ¬ d1.within = true; rw [hwi]; decide)]
    exact List.take_of_length_le (Nat.le_add_right (cats ys).length _)
   obtain ⟨dc, hdc⟩ : ∃ q : Dk, q = D.cut d2 1 := ⟨_, rfl⟩
   rw [← hdc] at dk hcb
   have hcd : dc.down = false := by rw [hdc]; rfl
   clear hdc
   have hop := opened_all hgy dc hcb hcd
   try simp only [nP, nN, nA, n0, nS]
   with_reducible refine wc 30 #[.pointer (some ⟨gx, 0, none⟩)] (wopen_any w.heap.size gx bvx (.slice none 0 0) dc z10 ee.size dk (hT.below ee)) ?_
   rintro e z11 ⟨v1_, ns1, bo1, ro1, rfl, hlk1, dk_, mv_, OX1, kx1⟩
   refine ⟨_, rfl, ?_⟩
   rw [hop] at hlk1 dk_ ⊢
   have OX1 := OwnR.mono OX1 ee.size
   have Zb5 := mvHeap mv_ dk Zb5 (by decide) (by decide)
   have ee := ee.trans (mv_.fr.below (fun k_ h_ => Nat.le_trans (Nat.le_refl _) (dk.ft h_).1) ee.size)
   clear dk mv_
   have dk := dk_
   clear dk_
   obtain ⟨A1, c1, e1_, hcc1, _, _⟩ := OX1.rows
   subst e1_
   have hcm1 := (ownRows OX1).2.2.1
   obtain ⟨hln1, hli1⟩ := like_all hgy hlk1
   try simp only [nP, nN, nA, n0, nS]
   with_reducible refine wv (.tuple #[.slice A1 ns1.length c1, .int .i64 0]) ?_
   try simp only [nP, nN, nA, n0, nS]
   with_reducible refine wv (.slice A1 ns1.length c1) ?_
   try simp only [nP, nN, nA, n0, nS]
   with_reducible refine wv (.int .i64 0) ?_
   try simp only [nP, nN, nA, n0, nS]
   with_reducible refine wv (.slice A1 ns1.length c1) ?_
   try simp only [nP, nN, nA, n0, nS]
   with_reducible refine wv (.int .i64 0) ?_
   try simp only [nP, nN, nA, n0, nS]
   refine wpList_nil ?_
   refine hK48 _ _ ?_
   refine wp_seq_k fun K49 hK49 => ?_
   refine wp_seq_k fun K50 hK50 => ?_
   refine wp_region_lit ?_
   with_reducible refine wv (.int .i64 5) ?_
   try simp only [nP, nN, nA, n0, nS]
   with_reducible refine wb (.bool true) (.int .i64 5) (.int .i64 0) 3 (run_gtrI (show (decide (5 > 0)) = true from by decide)) ?_
   try simp only [nP, nN, nA, n0, nS]
   with_reducible refine wv (.bool true) ?_
   try simp only [nP, nN, nA, n0, nS]
   with_reducible refine wk ?_
   try simp only [nP, nN, nA, n0, nS]
   with_reducible refine wk ?_
   try simp only [nP, nN, nA, n0, nS]
   with_reducible refine wk ?_
   try simp only [nP, nN, nA, n0, nS]
   with_reducible refine wk ?_
   try simp only [nP, nN, nA, n0, nS]
   with_reducible refine wv (.bool true) ?_
   try simp only [nP, nN, nA, n0, nS]
   refine wpList_nil ?_
   refine hK50 _ _ ?_
   refine wp_cond_true (by kernel_rfl) ?_
   refine wp_seq_k fun K51 hK51 => ?_
   refine wp_region_lit ?_
   with_reducible refine wv (.int .i64 0) ?_
   try simp only [nP, nN, nA, n0, nS]
   with_reducible refine wb (.bool true) (.int .i64 0) (.int .i64 0) 36 (run_eqlI (show (decide (0 = 0)) = true from by decide)) ?_
   try simp only [nP, nN, nA, n0, nS]
   with_reducible refine wv (.bool true) ?_
   try simp only [nP, nN, nA, n0, nS]
   with_reducible refine wv (.int .i64 0) ?_
   try simp only [nP, nN, nA, n0, nS]
   with_reducible refine wb (.bool true) (.int .i64 0) (.int .i64 0) 36 (run_eqlI (show (decide (0 = 0)) = true from by decide)) ?_
   try simp only [nP, nN, nA, n0, nS]
   with_reducible refine wv (.int .i64 5) ?_
   try simp only [nP, nN, nA, n0, nS]
   with_reducible refine wb (.bool true) (.int .i64 5) (.int .i64 0) 3 (run_gtrI (show (decide (5 > 0)) = true from by decide)) ?_
   try simp only [nP, nN, nA, n0, nS]
   with_reducible refine wv (.bool true) ?_
   try simp only [nP, nN, nA, n0, nS]
   with_reducible refine wv (.bool true) ?_
   try simp only [nP, nN, nA, n0, nS]
   with_reducible refine wv (.bool true) ?_
   try simp only [nP, nN, nA, n0, nS]
   with_reducible refine wv (.slice A1 ns1.length c1) ?_
   try simp only [nP, nN, nA, n0, nS]
   with_reducible refine wv (.int .i64 ((ns1.length : Int))) ?_
   try simp only [nP, nN, nA, n0, nS]
   with_reducible refine wv (.slice B ys.length d0) ?_
   try simp only [nP, nN, nA, n0, nS]
   with_reducible refine wv (.int .i64 ((ys.length : Int))) ?_
   try simp only [nP, nN, nA, n0, nS]
   with_reducible refine wb (.bool true) (.int .i64 ((ns1.length : Int))) (.int .i64 ((ys.length : Int))) 3 (run_eqlI ((decide_eq_true (by omega)) : (decide ((ns1.length : Int) = (ys.length : Int))) = true)) ?_
   try simp only [nP, nN, nA, n0, nS]
   with_reducible refine wv (.bool true) ?_
   try simp only [nP, nN, nA, n0, nS]
   with_reducible refine wv (.bool true) ?_
   try simp only [nP, nN, nA, n0, nS]
   with_reducible refine wv (.slice A1 ns1.length c1) ?_
   try simp only [nP, nN, nA, n0, nS]
   with_reducible refine wv (.slice B ys.length d0) ?_
   try simp only [nP, nN, nA, n0, nS]
   with_reducible refine wv (.slice B ys.length d0) ?_
   try simp only [nP, nN, nA, n0, nS]
   with_reducible refine wv (.int .i64 ((ys.length : Int))) ?_
   try simp only [nP, nN, nA, n0, nS]
   with_reducible refine wc 31 #[.slice A1 ns1.length c1, .slice B ys.length d0, .int .i64 ((ys.length : Int))] (front_t A1 B c1 d0 ns1 ys (ys.length : Int) z11 hcc1 hcm1 (ownRows OX1).1 kx1.out ((hR2.below ee (Nat.le_refl _)).more ee.size) (fun x_ hx_ => ((hO2 x_ hx_).below ee (Nat.le_refl _)).more ee.size) (by omega) (by omega) (good_dt hgy) hli1) ?_
   rintro e z12 ⟨rfl, t⟩
   refine ⟨_, rfl, ?_⟩
   have dk := dk.below t
   have kx1 := kx1.below t
   have Zb5 := hpB Zb5 t
   have OX1 := ownBelow OX1 t
   have ee := ee.trans (t.mono ee.size)
   clear t
   try simp only [nP, nN, nA, n0, nS]
   with_reducible refine wv (.bool true) ?_
   try simp only [nP, nN, nA, n0, nS]
   with_reducible refine wv (.bool true) ?_
   try simp only [nP, nN, nA, n0, nS]
   refine wpList_nil ?_
   refine hK51 _ _ ?_
   refine wp_ret ?_
   refine then_ret ?_
   exact bodyPost_ret (v := .bool true) (by kernel_rfl) rfl ⟨rfl, ee⟩
  have pb19 : (k2 : Int) < (ys.length : Int) := of_decide_eq_true hb19
  refine wp_cond_true (by kernel_rfl) ?_
  refine wp_skip ?_
  refine hK17 _ _ ?_
  refine wp_seq_k fun K52 hK52 => ?_
  refine wp_block ?_
  have hkl2 : k2 < ys.length := by omega
  obtain ⟨y, hy⟩ : ∃ q, ys[k2]? = some q := ⟨_, List.getElem?_eq_getElem hkl2⟩
  obtain ⟨bby, oy, hAy, hry, hbd_y⟩ := rowPtr (hR2.below ee (Nat.le_refl _)) hy ee.size
  have oky := (fun x_ hx_ => (hO2 x_ hx_).below ee (Nat.le_refl _)) y (List.mem_of_getElem? hy)
  have hby : bby < w.heap.size := hbd_y
  refine wp_seq_k fun K53 hK53 => ?_
  refine wp_region_lit ?_
  with_reducible refine wv (.slice B ys.length d0) ?_
  try simp only [nP, nN, nA, n0, nS]
  with_reducible refine wv (.int .i64 ((k2 : Int))) ?_
  try simp only [nP, nN, nA, n0, nS]
  with_reducible refine wq (.pointer (some ⟨bby, oy + k2 * 15, none⟩)) (exec_ixA (.tmp 53) (.tmp 54) (A := B) (b := bby) (off := oy) (len := ys.length) (cap := d0) (i := k2) 15 rfl rfl rfl Tryd.underlying57 hAy hkl2) ?_
  try simp only [nP, nN, nA, n0, nS]
  with_reducible refine wg (bby) (oy + k2 * 15) (y.cells) hry.rg Tryd.underlying65 ?_
  try simp only [nP, nN, nA, n0, nS]
  with_reducible refine wc 26 #[.agg (y.cells).toArray] (wformed_any y zl15 w.heap.size ee.size oky (hT.below ee)) ?_
  rintro e z6 ⟨rfl, t⟩
  refine ⟨_, rfl, ?_⟩
  have dk := dk.below t
  have hry := rngBelow hry t
  have Zb5 := hpB Zb5 t
  have ee := ee.trans (t.mono ee.size)
  clear t
  generalize hb54 : y.formed = b54
  try simp only [nP, nN, nA, n0, nS]
  cases b54
  ·with_reducible refine wv (.bool true) ?_
   try simp only [nP, nN, nA, n0, nS]
   refine wpList_nil ?_
   refine hK53 _ _ ?_
   refine wp_cond_true (by kernel_rfl) ?_
   refine wp_seq_k fun K55 hK55 => ?_
   refine wp_region_lit ?_
   with_reducible refine wv (.bool true) ?_
   try simp only [nP, nN, nA, n0, nS]
   refine wpList_nil ?_
   refine hK55 _ _ ?_
   refine wp_ret ?_
   refine inBlock_ret ?_
   refine then_ret ?_
   refine then_ret ?_
   refine inBlock_ret ?_
   refine then_ret ?_
   exact bodyPost_ret (v := .bool true) (by kernel_rfl) rfl ⟨rfl, ee⟩
  with_reducible refine wv (.bool false) ?_
  try simp only [nP, nN, nA, n0, nS]
  refine wpList_nil ?_
  refine hK53 _ _ ?_
  refine wp_cond_false (by kernel_rfl) ?_
  refine wp_skip ?_
  refine inBlock_normal ?_
  refine hK52 _ _ ?_
  refine wp_region_lit ?_
  with_reducible refine wv (.int .i64 ((k2 : Int))) ?_
  try simp only [nP, nN, nA, n0, nS]
  with_reducible refine wq (.int .i64 (((k2 + 1 : Nat) : Int))) (okIntP ((by rw [IntKind.wrap_i64]; omega) : IntKind.i64.wrap ((k2 : Int) + 1) = ((k2 + 1 : Nat) : Int)) (by kernel_rfl)) ?_
  try simp only [nP, nN, nA, n0, nS]
  with_reducible refine wv (.int .i64 (((k2 + 1 : Nat) : Int))) ?_
  try simp only [nP, nN, nA, n0, nS]
  refine wpList_nil ?_
  refine then_normal ?_
  have hg2 := all_snoc ys k2 y hy (fun y => y.good) hgy (good_of ((hO2 y (List.mem_of_getElem? hy)).below ee (Nat.le_refl _)) hb54)
  exact ⟨hkl2, by kernel_rfl, Zb5, ee, dk, hg2⟩
 have pb13 : (k : Int) < (xs.length : Int) := of_decide_eq_true hb13
 refine wp_cond_true (by kernel_rfl) ?_
 refine wp_skip ?_
 refine hK11 _ _ ?_
 refine wp_seq_k fun K56 hK56 => ?_
 refine wp_block ?_
 refine wp_seq_k fun K57 hK57 => ?_
 have hkl : k < xs.length := by omega
 obtain ⟨x, hx⟩ : ∃ q, xs[k]? = some q := ⟨_, List.getElem?_eq_getElem hkl⟩
 obtain ⟨bx, ox, hAx, hrx, hbd_x⟩ := rowPtr (hR1.below ee (Nat.le_refl _)) hx ee.size
 have okx := (fun x_ hx_ => (hO1 x_ hx_).below ee (Nat.le_refl _)) x (List.mem_of_getElem? hx)
 have hbx : bx < w.heap.size := hbd_x
 refine wp_seq_k fun K58 hK58 => ?_
 refine wp_region_lit ?_
 with_reducible refine wv (.slice A xs.length c) ?_
 try simp only [nP, nN, nA, n0, nS]
 with_reducible refine wv (.int .i64 ((k : Int))) ?_
 try simp only [nP, nN, nA, n0, nS]
 with_reducible refine wq (.pointer (some ⟨bx, ox + k * 15, none⟩)) (exec_ixA (.tmp 35) (.tmp 36) (A := A) (b := bx) (off := ox) (len := xs.length) (cap := c) (i := k) 15 rfl rfl rfl Tryd.underlying57 hAx hkl) ?_
 try simp only [nP, nN, nA, n0, nS]
 with_reducible refine wg (bx) (ox + k * 15) (x.cells) hrx.rg Tryd.underlying65 ?_
 try simp only [nP, nN, nA, n0, nS]
 with_reducible refine wc 26 #[.agg (x.cells).toArray] (wformed_any x zl9 w.heap.size ee.size okx (hT.below ee)) ?_
 rintro e z6 ⟨rfl, t⟩
 refine ⟨_, rfl, ?_⟩
 have dk := dk.below t
 have hrx := rngBelow hrx t
 have Zb5 := hpB Zb5 t
 have ee := ee.trans (t.mono ee.size)
 clear t
 generalize hb59 : x.formed = b59
 try simp only [nP, nN, nA, n0, nS]
 cases b59
 ·with_reducible refine wv (.bool true) ?_
  try simp only [nP, nN, nA, n0, nS]
  refine wpList_nil ?_
  refine hK58 _ _ ?_
  refine wp_cond_true (by kernel_rfl) ?_
  refine wp_seq_k fun K60 hK60 => ?_
  refine wp_region_lit ?_
  with_reducible refine wv (.bool true) ?_
  try simp only [nP, nN, nA, n0, nS]
  refine wpList_nil ?_
  refine hK60 _ _ ?_
  refine wp_ret ?_
  refine then_ret ?_
  refine inBlock_ret ?_
  refine then_ret ?_
  refine then_ret ?_
  refine inBlock_ret ?_
  refine then_ret ?_
  exact bodyPost_ret (v := .bool true) (by kernel_rfl) rfl ⟨rfl, ee⟩
 with_reducible refine wv (.bool false) ?_
 try simp only [nP, nN, nA, n0, nS]
 refine wpList_nil ?_
 refine hK58 _ _ ?_
 refine wp_cond_false (by kernel_rfl) ?_
 refine wp_skip ?_
 refine hK57 _ _ ?_
 have hfo : x.formed = true := hb59
 refine wp_region_lit ?_
 with_reducible refine wv (.pointer (some ⟨gd, 0, none⟩)) ?_
 try simp only [nP, nN, nA, n0, nS]
 with_reducible refine wv (.slice A xs.length c) ?_
 try simp only [nP, nN, nA, n0, nS]
 with_reducible refine wv (.int .i64 ((k : Int))) ?_
 try simp only [nP, nN, nA, n0, nS]
 with_reducible refine wq (.pointer (some ⟨bx, ox + k * 15, none⟩)) (exec_ixA (.tmp 42) (.tmp 43) (A := A) (b := bx) (off := ox) (len := xs.length) (cap := c) (i := k) 15 rfl rfl rfl Tryd.underlying57 hAx hkl) ?_
 try simp only [nP, nN, nA, n0, nS]
 with_reducible refine wg (bx) (ox + k * 15) (x.cells) hrx.rg Tryd.underlying65 ?_
 try simp only [nP, nN, nA, n0, nS]
 have hg0 := good_of okx hfo
 have hg1 := all_snoc xs k x hx (fun y => y.good) hgo hg0
 have hds := dsum_le xs (k + 1)
 have hc1_ := cats_small hg1 (by rw [List.length_take]; omega) (by omega)
 have hadd : added d x = (0, { d with b := cats (xs.take (k + 1)) }) := by
  have q := added_ok (x := x) hd hfo (by rw [← take_snoc hx]; omega)
  rw [← take_snoc hx] at q
  exact q
 with_reducible refine wc 28 #[.pointer (some ⟨gd, 0, none⟩), .agg (x.cells).toArray] (wadd_any x z6 w.heap.size ee.size ((hO1 x (List.mem_of_getElem? hx)).below ee (Nat.le_refl _)) (by have := (rc_sound hfo).2.2.2.2.2; omega) (hT.below ee) w.heap.size gd bv rv d ee.size dk) ?_
 rintro e z7 ⟨bv1, rv1, rfl, dk_, mv_⟩
 refine ⟨_, rfl, ?_⟩
 rw [hadd] at dk_ ⊢
 have Zb5 := mvHeap mv_ dk Zb5 (by decide) (by decide)
 have ee := ee.trans (mv_.fr.below (fun k_ h_ => Nat.le_trans (Nat.le_refl _) (dk.ft h_).1) ee.size)
 have hrx := rngMv hrx mv_ dk hbx
 clear dk mv_
 have dk := dk_
 clear dk_
 try simp only [nP, nN, nA, n0, nS]
 refine wpList_nil ?_
 refine inBlock_normal ?_
 refine hK56 _ _ ?_
 refine wp_region_lit ?_
 with_reducible refine wv (.int .i64 ((k : Int))) ?_
 try simp only [nP, nN, nA, n0, nS]
 with_reducible refine wq (.int .i64 (((k + 1 : Nat) : Int))) (okIntP ((by rw [IntKind.wrap_i64]; omega) : IntKind.i64.wrap ((k : Int) + 1) = ((k + 1 : Nat) : Int)) (by kernel_rfl)) ?_
 try simp only [nP, nN, nA, n0, nS]
 with_reducible refine wv (.int .i64 (((k + 1 : Nat) : Int))) ?_
 try simp only [nP, nN, nA, n0, nS]
 refine wpList_nil ?_
 refine then_normal ?_
 have hd_ : DInv { d with b := cats (xs.take (k + 1)) } 1000000 (cats (xs.take (k + 1))) := T.DInv.bytes hd
 exact ⟨hkl, bv1, rv1, { d with b := cats (xs.take (k + 1)) }, by kernel_rfl, Zb5, ee, dk, hd_, hg1⟩
theorem walCompacts_walk (W : World) (hT : Tabs W) (v0 v1 v2 : Value) (h0 : Arg W 57 v0) (h1 : Arg W 57 v1) (h2 : Arg W 79 v2) :
  Calls Tryd.prog 8 #[v0, v1, v2] W fun e W' => e = .returned (.bool true) ∧ Below W.heap.size W W' := by
 obtain ⟨A, c, xs, rfl, a1, a2, a3, a4, _⟩ := h0.rcsn
 obtain ⟨B, d, ys, rfl, b1, b2, b3, b4, b5⟩ := h1.rcsn
 obtain ⟨u, v, rfl, hu, hv⟩ := h2.u8pair Tryd.underlying79 Tryd.underlying5 (by kernel_rfl) (by kernel_rfl)
 exact wcompacts_any A B c d xs ys u v W hu hv a1 a2 a3 a4 b1 b2 b3 b4 b5 hT
end Go.Proofs.YtjofjpmhokjhnaaDoor
