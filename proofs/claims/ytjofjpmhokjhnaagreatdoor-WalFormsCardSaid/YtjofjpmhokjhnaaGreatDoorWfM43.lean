import Derived.Test.YtjofjpmhokjhnaaGreatDoorWfM28
import Derived.Test.YtjofjpmhokjhnaaGreatDoorWfM42
import Derived.Test.YtjofjpmhokjhnaaGreatDoorWfM18
set_option linter.unusedSimpArgs false
set_option linter.unusedVariables false
namespace Go.Proofs.YtjofjpmhokjhnaaGreatDoor
set_option maxRecDepth 20000
open Go.RowKit T
namespace T
def DInv (d : Dk) (s : Nat) (b : List UInt8) : Prop := d.size = s ∧ d.b = b ∧ d.fuse = -1 ∧ d.down = false ∧ d.within = false
end T
theorem added_ok {d : Dk} {s : Nat} {ys : List Rc} {x : Rc} (h : DInv d s (cats ys)) (hx : x.formed = true) (hs : (cats (ys ++ [x])).length ≤ s) : added d x = (0, { d with b := cats (ys ++ [x]) }) := by
 obtain ⟨h1, h2, h3, h4, h5⟩ := h
 have ha : D.act d = (true, d) := by unfold D.act; rw [if_neg (by omega), if_neg (by omega)]
 rw [cats_snoc] at hs ⊢
 unfold T.added
 rw [if_pos hx]
 unfold D.append
 rw [if_neg (by rw [h4]; decide), if_neg (by rw [h1, h2]; rw [List.length_append] at hs; omega), ha, if_pos rfl, h2]
def Rc1 : Rc := { Rc.zero with kd := 1 }
theorem rc1Ok (w : World) (B : Nat) : RcOk w B Rc1 := ⟨CmOk.zero, Rd.nil, Nat.le_refl _, by simp [Rc1, Rc.zero, maxLen], fun _ => ⟨rfl, rfl⟩, by simp [Rc1, Rc.zero]⟩
theorem rc1_formed : Rc1.formed = true := by decide +kernel
theorem rc1_len : Rc1.wr.length = 6 := by decide +kernel
theorem opened_new (n : Int) : opened (D.new n) = ([], 0, D.new n) := by
 unfold T.opened
 rw [if_neg (show ¬ (D.new n).down = true from fun h => Bool.noConfusion h)]
 rw [show (D.new n).b = [] from rfl, F.all_nil]
 rfl
theorem added_new : added (D.new 100) Rc1 = (0, { D.new 100 with b := cats [Rc1] }) := by
 refine added_ok (s := 100) (ys := []) ⟨rfl, rfl, rfl, rfl, rfl⟩ rc1_formed ?_
 show ((F.wrap Rc1.wr).1 ++ []).length ≤ 100
 rw [List.append_nil, F.wrap_len (by rw [rc1_len]; decide), rc1_len]; decide
theorem cats1 : (cats [Rc1]).length = 14 := by
 show ((F.wrap Rc1.wr).1 ++ []).length = 14
 rw [List.append_nil, F.wrap_len (by rw [rc1_len]; decide), rc1_len]
set_option maxHeartbeats 25600000 in
theorem awake13_any (w : World) (hT : Tabs w) :
 Calls Tryz.prog 6 #[] w fun e w' => e = .returned (.bool true) ∧ Below w.heap.size w w' := by
 have ee : Below w.heap.size w w := Below.refl _ _
 go_enter Tryz.func6, Tryz.ntmps6
 refine wp_seq_k fun K1 hK1 => ?_
 refine wp_region_lit ?_
 with_reducible refine wv (.bool false) ?_
 try simp only [zP]
 refine wpList_nil ?_
 refine hK1 _ _ ?_
 refine wp_seq_k fun K2 hK2 => ?_
 refine wp_region_lit ?_
 with_reducible refine wc 18 #[.int .i64 100] (dnew_any 100 w (by omega)) ?_
 rintro e z1 ⟨rfl, dk, t, hsz_⟩
 refine ⟨_, rfl, ?_⟩
 obtain ⟨gd, hgd⟩ : ∃ q, q = w.heap.size := ⟨_, rfl⟩
 have hle_ : w.heap.size ≤ gd := by rw [hgd]; exact ee.size
 rw [← hgd] at dk ⊢
 have dk := dk.mono hle_
 clear hgd hsz_
 have ee := ee.trans (t.mono ee.size)
 clear t
 try simp only [zP]
 with_reducible refine wv (.pointer (some ⟨gd, 0, none⟩)) ?_
 try simp only [zP]
 refine wpList_nil ?_
 refine hK2 _ _ ?_
 refine wp_seq_k fun K3 hK3 => ?_
 refine wp_region_lit ?_
 with_reducible
  refine wv (.pointer (some ⟨gd, 0, none⟩)) ?_
  try simp only [zP]
  refine wc 29 #[.pointer (some ⟨gd, 0, none⟩)] (wopen_any w.heap.size gd (.slice none 0 0) (.slice none 0 0) (D.new 100) z1 ee.size dk (hT.below ee)) ?_
 rintro e z2 ⟨v1, ns, bv1, rv1, rfl, hlk, dk_, mv_, OX, kx⟩
 refine ⟨_, rfl, ?_⟩
 rw [opened_new] at hlk dk_ ⊢
 have ee := ee.trans (mv_.fr.below (fun k_ h_ => Nat.le_trans (Nat.le_refl _) (dk.ft h_).1) ee.size)
 clear dk mv_
 have dk := dk_
 clear dk_
 have hn0 : ns = [] := List.eq_nil_of_length_eq_zero hlk.1
 subst hn0
 obtain ⟨A1, c1, e1, _⟩ := OX.rows
 subst e1
 try simp only [zP]
 with_reducible
  refine wv (.tuple #[.slice A1 0 c1, .int .i64 0]) ?_
  iterate 2 ((refine wv (.slice A1 0 c1) ?_);(refine wv (.int .i64 0) ?_))
 try simp only [zP]
 refine wpList_nil ?_
 refine hK3 _ _ ?_
 refine wp_seq_k fun K4 hK4 => ?_
 refine wp_region_lit ?_
 with_reducible
  refine wv (.int .i64 0) ?_
  refine wb (.bool true) (.int .i64 0) (.int .i64 0) 40 (run_eqlI (show (decide (0 = 0)) = true from by decide)) ?_
  refine wv (.bool true) ?_
  refine wv (.slice A1 0 c1) ?_
  refine wv (.int .i64 ((0 : Int))) ?_
  refine wb (.bool true) (.int .i64 ((0 : Int))) (.int .i64 0) 3 (run_eqlI (show (decide ((0 : Int) = 0)) = true from by decide)) ?_
 iterate 2 (with_reducible refine wv (.bool true) ?_)
 with_reducible
  refine wv (.pointer (some ⟨gd, 0, none⟩)) ?_
  refine wv (.agg (Rc1.cells).toArray) ?_
  try simp only [zP]
  refine wc 30 #[.pointer (some ⟨gd, 0, none⟩), .agg (Rc1.cells).toArray] (wadd_any Rc1 z2 w.heap.size ee.size (rc1Ok _ _) (by decide) (hT.below ee) w.heap.size gd bv1 rv1 (D.new 100) ee.size dk) ?_
 rintro e z3 ⟨bv2, rv2, rfl, dk_, mv_⟩
 refine ⟨_, rfl, ?_⟩
 rw [added_new] at dk_ ⊢
 have ee := ee.trans (mv_.fr.below (fun k_ h_ => Nat.le_trans (Nat.le_refl _) (dk.ft h_).1) ee.size)
 clear dk mv_
 have dk := dk_
 clear dk_
 try simp only [zP]
 with_reducible refine wb (.bool true) (.int .i64 0) (.int .i64 0) 40 (run_eqlI (show (decide (0 = 0)) = true from by decide)) ?_
 iterate 2 (with_reducible refine wv (.bool true) ?_)
 with_reducible
  refine wv (.pointer (some ⟨gd, 0, none⟩)) ?_
  try simp only [zP]
  refine wc 22 #[.pointer (some ⟨gd, 0, none⟩)] (dbytes_any w.heap.size gd bv2 rv2 _ z3 dk) ?_
 rintro e z4 ⟨v4, rfl, OB, t⟩
 refine ⟨_, rfl, ?_⟩
 have dk := dk.below t
 have ee := ee.trans (t.mono ee.size)
 clear t
 obtain ⟨A4, c4, e4, _⟩ := ownShape OB
 rw [show ({ D.new 100 with b := cats [Rc1] } : Dk).b.length = 14 from cats1] at e4
 subst e4
 try simp only [zP]
 with_reducible
  refine wv (.int .i64 ((14 : Int))) ?_
  refine wb (.bool true) (.int .i64 ((14 : Int))) (.int .i64 14) 3 (run_eqlI (show (decide ((14 : Int) = 14)) = true from by decide)) ?_
 iterate 2 (with_reducible refine wv (.bool true) ?_)
 try simp only [zP]
 refine wpList_nil ?_
 refine hK4 _ _ ?_
 refine wp_ret ?_
 exact bodyPost_ret (v := .bool true) (by kernel_rfl) rfl ⟨rfl, ee⟩
end Go.Proofs.YtjofjpmhokjhnaaGreatDoor
