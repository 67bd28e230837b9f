/- front of the laws over records. Conditions: what lies, lies below. (Printed by gen_msg.py.) -/
import Derived.Test.YtjofjpmhokjhnaaDoorWlM42
namespace Go.Proofs.YtjofjpmhokjhnaaDoor
set_option maxRecDepth 20000
open Go.RowKit T
set_option linter.unusedSimpArgs false
set_option linter.unusedVariables false

set_option maxHeartbeats 25600000 in
theorem front_t (A1 A2 : Option Addr) (c1 c2 : Nat) (ls al : List Rc) (m : Int) (w : World) (hc1 : ls.length ≤ c1) (hm1 : c1 ≤ maxLen) (hR1 : RowsAt w w.heap.size A1 15 (ls.map Rc.cells)) (hO1 : ∀ x ∈ ls, RcOk w w.heap.size x) (hR2 : RowsAt w w.heap.size A2 15 (al.map Rc.cells)) (hO2 : ∀ x ∈ al, RcOk w w.heap.size x) (h1 : m ≤ (ls.length : Int)) (h2 : ls.length ≤ al.length) (hs : ∀ x ∈ al, x.dt.length ≤ 70000) (hl : ∀ (i : Nat) (a b : Rc), ls[i]? = some a → al[i]? = some b → LikeR a b) :
    Calls Tryd.prog 31 #[.slice A1 ls.length c1, .slice A2 al.length c2, .int .i64 m] w fun e w' => e = .returned (.bool true) ∧ Below w.heap.size w w' := by
  unfold maxLen at hm1
  have ee : Below w.heap.size w w := Below.refl _ _
  go_enter Tryd.func31, Tryd.ntmps31
  refine wp_seq_k fun K1 hK1 => ?_
  refine wp_region_lit ?_
  with_reducible refine wv (.bool false) ?_
  try simp only [nP, nN, nA, n0, nS]
  refine wpList_nil ?_
  refine hK1 _ _ ?_
  refine wp_seq_k fun K2 hK2 => ?_
  refine wp_seq_k fun K3 hK3 => ?_
  refine wp_region_lit ?_
  with_reducible refine wv (.slice A1 ls.length c1) ?_
  try simp only [nP, nN, nA, n0, nS]
  with_reducible refine wv (.int .i64 ((ls.length : Int))) ?_
  try simp only [nP, nN, nA, n0, nS]
  with_reducible refine wv (.int .i64 m) ?_
  try simp only [nP, nN, nA, n0, nS]
  with_reducible refine wb (.bool false) (.int .i64 ((ls.length : Int))) (.int .i64 m) 3 (run_lssI ((decide_eq_false (by omega)) : (decide ((ls.length : Int) < m)) = false)) ?_
  try simp only [nP, nN, nA, n0, nS]
  with_reducible refine wv (.bool false) ?_
  try simp only [nP, nN, nA, n0, nS]
  with_reducible refine wv (.slice A1 ls.length c1) ?_
  try simp only [nP, nN, nA, n0, nS]
  with_reducible refine wv (.int .i64 ((ls.length : Int))) ?_
  try simp only [nP, nN, nA, n0, nS]
  with_reducible refine wv (.slice A2 al.length c2) ?_
  try simp only [nP, nN, nA, n0, nS]
  with_reducible refine wv (.int .i64 ((al.length : Int))) ?_
  try simp only [nP, nN, nA, n0, nS]
  with_reducible refine wb (.bool false) (.int .i64 ((ls.length : Int))) (.int .i64 ((al.length : Int))) 3 (run_gtrI ((decide_eq_false (by omega)) : (decide ((ls.length : Int) > (al.length : Int))) = false)) ?_
  try simp only [nP, nN, nA, n0, nS]
  with_reducible refine wv (.bool false) ?_
  try simp only [nP, nN, nA, n0, nS]
  refine wpList_nil ?_
  refine hK3 _ _ ?_
  refine wp_cond_false (by kernel_rfl) ?_
  refine wp_skip ?_
  refine hK2 _ _ ?_
  refine wp_seq_k fun K4 hK4 => ?_
  refine wp_seq_k fun K5 hK5 => ?_
  refine wp_region_lit ?_
  with_reducible refine wv (.int .i64 0) ?_
  try simp only [nP, nN, nA, n0, nS]
  refine wpList_nil ?_
  refine hK5 _ _ ?_
  refine wp_block ?_
  with_reducible refine wp_loop_su (ls.length) (fun k u_ alzl5 zl5 => alzl5 = ⟨#[.slice A1 ls.length c1, .slice A2 al.length c2, .int .i64 m, undef, undef, undef, u_ 6, .int .i64 (((k : Nat) : Int)), .slice A1 ls.length c1, .int .i64 ((ls.length : Int)), .int .i64 m, .bool false, .bool false, .slice A1 ls.length c1, .int .i64 ((ls.length : Int)), .slice A2 al.length c2, .int .i64 ((al.length : Int)), .bool false, .bool false, u_ 19, u_ 20, u_ 21, u_ 22, u_ 23, u_ 24, u_ 25, u_ 26, u_ 27, u_ 28, u_ 29, u_ 30, u_ 31, u_ 32, u_ 33, u_ 34, u_ 35, u_ 36], []⟩ ∧ Hid (Below w.heap.size w zl5)) 0 (Nat.zero_le _) ?_ ?_
  · exact ⟨by kernel_rfl, ee⟩
  clear ee
  intro k u_ alzl5 zl5 hkzl5 hszl5
  obtain ⟨rfl, ee⟩ := hszl5
  have ee := ee.out
  refine wp_seq_k fun K7 hK7 => ?_
  refine wp_seq_k fun K8 hK8 => ?_
  refine wp_region_lit ?_
  with_reducible refine wv (.int .i64 ((k : Int))) ?_
  try simp only [nP, nN, nA, n0, nS]
  with_reducible refine wv (.slice A1 ls.length c1) ?_
  try simp only [nP, nN, nA, n0, nS]
  with_reducible refine wv (.int .i64 ((ls.length : Int))) ?_
  try simp only [nP, nN, nA, n0, nS]
  obtain ⟨b9, hb9⟩ : ∃ d_ : Bool, (decide ((k : Int) < (ls.length : Int))) = d_ := ⟨_, rfl⟩
  with_reducible refine wb (.bool b9) (.int .i64 ((k : Int))) (.int .i64 ((ls.length : Int))) 3 (run_lssI hb9) ?_
  try simp only [nP, nN, nA, n0, nS]
  refine wpList_nil ?_
  refine hK8 _ _ ?_
  cases b9
  · have pb9 : ¬ ((k : Int) < (ls.length : Int)) := of_decide_eq_false hb9
    refine wp_cond_false (by kernel_rfl) ?_
    refine wp_exit ?_
    refine then_exit ?_
    refine then_exit ?_
    refine inBlock_here ?_
    refine hK4 _ _ ?_
    refine wp_seq_k fun K10 hK10 => ?_
    refine wp_region_lit ?_
    with_reducible refine wv (.bool true) ?_
    try simp only [nP, nN, nA, n0, nS]
    refine wpList_nil ?_
    refine hK10 _ _ ?_
    refine wp_ret ?_
    exact bodyPost_ret (v := .bool true) (by kernel_rfl) rfl ⟨rfl, ee⟩
  have pb9 : (k : Int) < (ls.length : Int) := of_decide_eq_true hb9
  refine wp_cond_true (by kernel_rfl) ?_
  refine wp_skip ?_
  refine hK7 _ _ ?_
  refine wp_seq_k fun K11 hK11 => ?_
  refine wp_block ?_
  have hkl : k < ls.length := by omega
  have hka : k < al.length := by omega
  obtain ⟨x, hx⟩ : ∃ q, ls[k]? = some q := ⟨_, List.getElem?_eq_getElem hkl⟩
  obtain ⟨bx, ox, hAx, hrx, hbd_x⟩ := rowPtr (hR1.below ee (Nat.le_refl _)) hx ee.size
  have okx := (fun x_ hx_ => (hO1 x_ hx_).below ee (Nat.le_refl _)) x (List.mem_of_getElem? hx)
  obtain ⟨y, hy⟩ : ∃ q, al[k]? = some q := ⟨_, List.getElem?_eq_getElem hka⟩
  obtain ⟨bby, oy, hAy, hry, hbd_y⟩ := rowPtr (hR2.below ee (Nat.le_refl _)) hy ee.size
  have oky := (fun x_ hx_ => (hO2 x_ hx_).below ee (Nat.le_refl _)) y (List.mem_of_getElem? hy)
  have lk := hl k x y hx hy
  have hy7 := hs y (List.mem_of_getElem? hy)
  refine wp_seq_k fun K12 hK12 => ?_
  have hrx := rngDrew hrx
  have hry := rngDrew hry
  have ee := belowDrewS ee
  -- region 6
  with_reducible refine any_begin (fun z' => Rng z' bx (ox + k * 15) x.cells ∧ Rng z' bby (oy + k * 15) y.cells) 12 #[false, false, false, false, false, false, false, false, false, false, false, false] ⟨hrx, hry⟩ ?_ ?_
  · intro c_ a_ d_ v_ w_ h_; cases d_ <;> exact h_
  obtain ⟨z1, hz_⟩ : ∃ z_ : World, z_ = zl5.drew := ⟨_, rfl⟩
  rw [← hz_] at ee hrx hry ⊢
  clear hz_
  with_reducible refine ha 0 (some 25) (.slice A1 ls.length c1) #[true, false, false, false, false, false, false, false, false, false, false, false] (fun w_ _ => by kernel_rfl) ⟨hrx, hry⟩ ?_
  try simp only [nP, nN, nA, n0, nS]
  with_reducible refine ha 1 (some 26) (.int .i64 ((k : Int))) #[true, true, false, false, false, false, false, false, false, false, false, false] (fun w_ _ => by kernel_rfl) ⟨hrx, hry⟩ ?_
  try simp only [nP, nN, nA, n0, nS]
  with_reducible refine ha 2 (some 27) (.pointer (some ⟨bx, ox + k * 15, none⟩)) #[true, true, true, false, false, false, false, false, false, false, false, false] (fun w_ _ => (runAt_of rfl (exec_ixA (.tmp 25) (.tmp 26) (A := A1) (b := bx) (off := ox) (len := ls.length) (cap := c1) (i := k) 15 rfl rfl rfl Tryd.underlying57 hAx hkl))) ⟨hrx, hry⟩ ?_
  try simp only [nP, nN, nA, n0, nS]
  with_reducible refine hg_ 3 (some 28) (bx) (ox + k * 15) (x.cells) #[true, true, true, true, false, false, false, false, false, false, false, false] (fun _ h_ => (h_.1).rg) Tryd.underlying65 ⟨hrx, hry⟩ ?_
  try simp only [nP, nN, nA, n0, nS]
  with_reducible refine ha 5 (some 30) (.slice A2 al.length c2) #[true, true, true, true, false, true, false, false, false, false, false, false] (fun w_ _ => by kernel_rfl) ⟨hrx, hry⟩ ?_
  try simp only [nP, nN, nA, n0, nS]
  with_reducible refine ha 6 (some 31) (.int .i64 ((k : Int))) #[true, true, true, true, false, true, true, false, false, false, false, false] (fun w_ _ => by kernel_rfl) ⟨hrx, hry⟩ ?_
  try simp only [nP, nN, nA, n0, nS]
  with_reducible refine ha 7 (some 32) (.pointer (some ⟨bby, oy + k * 15, none⟩)) #[true, true, true, true, false, true, true, true, false, false, false, false] (fun w_ _ => (runAt_of rfl (exec_ixA (.tmp 30) (.tmp 31) (A := A2) (b := bby) (off := oy) (len := al.length) (cap := c2) (i := k) 15 rfl rfl rfl Tryd.underlying57 hAy hka))) ⟨hrx, hry⟩ ?_
  try simp only [nP, nN, nA, n0, nS]
  with_reducible refine hg_ 8 (some 33) (bby) (oy + k * 15) (y.cells) #[true, true, true, true, false, true, true, true, true, false, false, false] (fun _ h_ => (h_.2).rg) Tryd.underlying65 ⟨hrx, hry⟩ ?_
  try simp only [nP, nN, nA, n0, nS]
  with_reducible refine any1 4 ?_
  with_reducible refine st_f 4 (some 29) 35 #[.agg (x.cells).toArray] #[true, true, true, true, true, true, true, true, true, false, false, false] (rplain_any x z1) ?_
  rintro e z2 ⟨rfl, t⟩
  refine ⟨_, rfl, ?_⟩
  have hrx := rngBelow hrx t
  have hry := rngBelow hry t
  have ee := ee.trans (t.mono ee.size)
  clear t
  refine ⟨⟨hrx, hry⟩, ?_⟩
  try simp only [nP, nN, nA, n0, nS]
  with_reducible refine any1 9 ?_
  with_reducible refine st_f 9 (some 34) 35 #[.agg (y.cells).toArray] #[true, true, true, true, true, true, true, true, true, true, false, false] (rplain_any y z2) ?_
  rintro e z3 ⟨rfl, t⟩
  refine ⟨_, rfl, ?_⟩
  have hrx := rngBelow hrx t
  have hry := rngBelow hry t
  have ee := ee.trans (t.mono ee.size)
  clear t
  refine ⟨⟨hrx, hry⟩, ?_⟩
  try simp only [nP, nN, nA, n0, nS]
  with_reducible refine any1 10 ?_
  with_reducible refine st_f 10 (some 35) 34 #[.agg (x.cells).toArray, .agg (y.cells).toArray] #[true, true, true, true, true, true, true, true, true, true, true, false] (rrsame_t x y z3 w.heap.size ee.size ((hO1 x (List.mem_of_getElem? hx)).below ee (Nat.le_refl _)) ((hO2 y (List.mem_of_getElem? hy)).below ee (Nat.le_refl _)) (by omega) lk) ?_
  rintro e z4 ⟨rfl, t⟩
  refine ⟨_, rfl, ?_⟩
  have hrx := rngBelow hrx t
  have hry := rngBelow hry t
  have ee := ee.trans (t.mono ee.size)
  clear t
  refine ⟨⟨hrx, hry⟩, ?_⟩
  try simp only [nP, nN, nA, n0, nS]
  with_reducible refine ha 11 (some 36) (.bool false) #[true, true, true, true, true, true, true, true, true, true, true, true] (fun w_ _ => by kernel_rfl) ⟨hrx, hry⟩ ?_
  try simp only [nP, nN, nA, n0, nS]
  with_reducible refine any_end ?_
  refine hK12 _ _ ?_
  refine wp_cond_false (by kernel_rfl) ?_
  refine wp_skip ?_
  refine inBlock_normal ?_
  refine hK11 _ _ ?_
  refine wp_region_lit ?_
  with_reducible refine wv (.int .i64 ((k : Int))) ?_
  try simp only [nP, nN, nA, n0, nS]
  with_reducible refine wq (.int .i64 (((k + 1 : Nat) : Int))) (okIntP ((by rw [IntKind.wrap_i64]; omega) : IntKind.i64.wrap ((k : Int) + 1) = ((k + 1 : Nat) : Int)) (by kernel_rfl)) ?_
  try simp only [nP, nN, nA, n0, nS]
  with_reducible refine wv (.int .i64 (((k + 1 : Nat) : Int))) ?_
  try simp only [nP, nN, nA, n0, nS]
  refine wpList_nil ?_
  refine then_normal ?_
  exact ⟨(by omega), by kernel_rfl, ee⟩
end Go.Proofs.YtjofjpmhokjhnaaDoor
