/- Pairs of small numbers, and lists of records, as they come in. No condition. -/
import Derived.Test.YtjofjpmhokjhnaaDoorWlM41
import Derived.Test.YtjofjpmhokjhnaaDoorWlM43
import Derived.Test.YtjofjpmhokjhnaaDoorWlM21
import Derived.Test.YtjofjpmhokjhnaaDoorWlM13
namespace Go.Proofs.YtjofjpmhokjhnaaDoor
set_option maxRecDepth 20000
open Go.RowKit T
set_option linter.unusedSimpArgs false
set_option linter.unusedVariables false

namespace T
/-- a disk on which records are laid in the place of all -/
def compacted (d : Dk) (xs : List Rc) : Nat × Dk := if xs.all (·.formed) = true then D.replace d (cats xs) else (2, d)
/-- a disk that works, with these bytes -/
def DInv (d : Dk) (s : Nat) (b : List UInt8) : Prop := d.size = s ∧ d.b = b ∧ d.fuse = -1 ∧ d.down = false ∧ d.within = false
end T
theorem catsF {xs : List Rc} (h : ∀ x ∈ xs, x.formed = true) : (cats xs).length ≤ xs.length * 60008 := by
  induction xs with
  | nil => exact Nat.zero_le _
  | cons x xs ih =>
    have h1 := ih (fun y hy => h y (by simp [hy]))
    have h2 := (rcwr_len (h x (by simp))).2
    show ((F.wrap x.wr).1 ++ cats xs).length ≤ _
    rw [List.length_append, F.wrap_len h2, List.length_cons, Nat.add_mul]
    omega
theorem cats_dsum {xs : List Rc} (h : ∀ x ∈ xs, x.formed = true) : (cats xs).length ≤ xs.length * 690 + dsum xs := by
  induction xs with
  | nil => exact Nat.zero_le _
  | cons x xs ih =>
    have h1 := ih (fun y hy => h y (by simp [hy]))
    have h2 := rcwr_len (h x (by simp))
    show ((F.wrap x.wr).1 ++ cats xs).length ≤ _
    rw [List.length_append, F.wrap_len h2.2, List.length_cons, Nat.add_mul]
    have : dsum (x :: xs) = x.dt.length + dsum xs := by unfold dsum; simp
    omega
theorem added_ok {d : Dk} {s : Nat} {ys : List Rc} {x : Rc} (h : DInv d s (cats ys)) (hx : x.formed = true) (hs : (cats (ys ++ [x])).length ≤ s) : added d x = (0, { d with b := cats (ys ++ [x]) }) := by
  obtain ⟨h1, h2, h3, h4, h5⟩ := h
  have ha : D.act d = (true, d) := by unfold D.act; rw [if_neg (by omega), if_neg (by omega)]
  rw [cats_snoc] at hs ⊢
  unfold T.added
  rw [if_pos hx]
  unfold D.append
  rw [if_neg (by rw [h4]; decide), if_neg (by rw [h1, h2]; rw [List.length_append] at hs; omega), ha, if_pos rfl, h2]
theorem all_snoc (xs : List Rc) (k : Nat) (x : Rc) (h : xs[k]? = some x) (p : Rc → Prop) (hp : ∀ y ∈ xs.take k, p y) (hx : p x) : ∀ y ∈ xs.take (k + 1), p y := fun y hy => by
  obtain ⟨hk, e⟩ := List.getElem?_eq_some_iff.1 h
  rw [List.take_succ_eq_append_getElem hk, e] at hy
  rcases List.mem_append.1 hy with q | q
  · exact hp y q
  · rw [List.mem_singleton.1 q]; exact hx
theorem take_snoc {xs : List Rc} {k : Nat} {x : Rc} (h : xs[k]? = some x) : xs.take (k + 1) = xs.take k ++ [x] := by
  obtain ⟨hk, e⟩ := List.getElem?_eq_some_iff.1 h
  rw [List.take_succ_eq_append_getElem hk, e]
set_option maxHeartbeats 25600000 in
theorem wcompact_any (A : Option Addr) (c : Nat) (xs : List Rc) (w : World) (hl : xs.length ≤ 1000000) (hR : RowsAt w w.heap.size A 15 (xs.map Rc.cells)) (hO : ∀ x ∈ xs, RcOk w w.heap.size x) (hdt : ∀ x ∈ xs, x.dt.length ≤ 100000000) (hT : Tabs w) (base g : Nat) (bv rv : Value) (d : Dk) (hb : base ≤ w.heap.size) (dk : DkAt w base g bv rv d) :
    Calls Tryd.prog 36 #[.pointer (some ⟨g, 0, none⟩), .slice A xs.length c] w fun e w' => DkP w base g bv rv (compacted d xs) e w' := by
  have ee : Below w.heap.size w w := Below.refl _ _
  go_enter Tryd.func36, Tryd.ntmps36
  refine wp_seq_k fun K1 hK1 => ?_
  refine wp_region_lit ?_
  with_reducible refine wv (.int .i64 0) ?_
  try simp only [nP, nN, nA, n0, nS]
  refine wpList_nil ?_
  refine hK1 _ _ ?_
  refine wp_seq_k fun K2 hK2 => ?_
  refine wp_region_lit ?_
  with_reducible refine wv (.slice none 0 0) ?_
  try simp only [nP, nN, nA, n0, nS]
  refine wpList_nil ?_
  refine hK2 _ _ ?_
  refine wp_seq_k fun K3 hK3 => ?_
  refine wp_seq_k fun K4 hK4 => ?_
  refine wp_region_lit ?_
  with_reducible refine wv (.slice A xs.length c) ?_
  try simp only [nP, nN, nA, n0, nS]
  with_reducible refine wv (.int .i64 ((xs.length : Int))) ?_
  try simp only [nP, nN, nA, n0, nS]
  with_reducible refine wv (.int .i64 0) ?_
  try simp only [nP, nN, nA, n0, nS]
  refine wpList_nil ?_
  refine hK4 _ _ ?_
  refine wp_block ?_
  have OA : OwnB w w.heap.size (.slice none 0 0) (cats (xs.take 0)) := OwnB.nil
  with_reducible refine wp_loop_su (xs.length) (fun k u_ alzl4 zl4 => ∃ (v5 : Value), alzl4 = ⟨#[.pointer (some ⟨g, 0, none⟩), .slice A xs.length c, undef, undef, u_ 4, v5, undef, u_ 7, u_ 8, u_ 9, .slice A xs.length c, .int .i64 ((xs.length : Int)), .int .i64 (((k : Nat) : Int)), u_ 13, u_ 14, u_ 15, u_ 16, u_ 17, u_ 18, u_ 19, u_ 20, u_ 21, u_ 22, u_ 23, u_ 24, u_ 25, u_ 26, u_ 27, undef, undef, undef], []⟩ ∧ Hid (Below w.heap.size w zl4) ∧ Hid (OwnB zl4 w.heap.size v5 (cats (xs.take (k)))) ∧ Hid (∀ x ∈ xs.take (k), x.formed = true)) 0 (Nat.zero_le _) ?_ ?_
  · exact ⟨.slice none 0 0, by kernel_rfl, ee, OA, (fun x hx => by cases hx)⟩
  clear ee OA
  intro k u_ alzl4 zl4 hkzl4 hszl4
  obtain ⟨v5, rfl, ee, OA, hf⟩ := hszl4
  have ee := ee.out
  have OA := OA.out
  have hf := hf.out
  refine wp_seq_k fun K6 hK6 => ?_
  refine wp_region_lit ?_
  obtain ⟨b7, hb7⟩ : ∃ d_ : Bool, (decide ((k : Int) < (xs.length : Int))) = d_ := ⟨_, rfl⟩
  with_reducible refine wb (.bool b7) (.int .i64 ((k : Int))) (.int .i64 ((xs.length : Int))) 3 (run_lssI hb7) ?_
  try simp only [nP, nN, nA, n0, nS]
  refine wpList_nil ?_
  refine hK6 _ _ ?_
  refine wp_seq_k fun K8 hK8 => ?_
  cases b7
  · have pb7 : ¬ ((k : Int) < (xs.length : Int)) := of_decide_eq_false hb7
    refine wp_cond_false (by kernel_rfl) ?_
    refine wp_exit ?_
    refine then_exit ?_
    refine then_exit ?_
    refine inBlock_here ?_
    refine hK3 _ _ ?_
    have hkx : xs.take k = xs := List.take_of_length_le (by omega)
    rw [hkx] at OA hf
    have glt := dk.lt
    have dk := dk.below ee
    have hall : xs.all (·.formed) = true := List.all_eq_true.2 hf
    refine wp_seq_k fun K9 hK9 => ?_
    refine wp_region_lit ?_
    with_reducible refine wv (.pointer (some ⟨g, 0, none⟩)) ?_
    try simp only [nP, nN, nA, n0, nS]
    with_reducible refine wv (v5) ?_
    try simp only [nP, nN, nA, n0, nS]
    with_reducible refine wc 86 #[.pointer (some ⟨g, 0, none⟩), v5] (dreplace_s (Nat.le_trans hb ee.size) dk (ownK OA glt)) ?_
    rintro e z1 ⟨bv1, rv1, rfl, dk_, mv_⟩
    refine ⟨_, rfl, ?_⟩
    have mv := (Mv.ofBelow ee).trans mv_
    try simp only [nP, nN, nA, n0, nS]
    with_reducible refine wv (.int .i64 (((D.replace d (cats xs)).1 : Int))) ?_
    try simp only [nP, nN, nA, n0, nS]
    refine wpList_nil ?_
    refine hK9 _ _ ?_
    refine wp_ret ?_
    exact bodyPost_ret (v := .int .i64 ((D.replace d (cats xs)).1 : Int)) (by kernel_rfl) rfl (by unfold T.compacted; rw [if_pos hall]; exact ⟨_, _, rfl, dk_, mv⟩)
  have pb7 : (k : Int) < (xs.length : Int) := of_decide_eq_true hb7
  refine wp_cond_true (by kernel_rfl) ?_
  refine wp_skip ?_
  refine hK8 _ _ ?_
  refine wp_seq_k fun K10 hK10 => ?_
  refine wp_block ?_
  have hkl : k < xs.length := by omega
  obtain ⟨x, hx⟩ : ∃ q, xs[k]? = some q := ⟨_, List.getElem?_eq_getElem hkl⟩
  obtain ⟨bx, ox, hAx, hrx, hbd_x⟩ := rowPtr (hR.below ee (Nat.le_refl _)) hx ee.size
  have okx := (fun x_ hx_ => (hO x_ hx_).below ee (Nat.le_refl _)) x (List.mem_of_getElem? hx)
  refine wp_seq_k fun K11 hK11 => ?_
  refine wp_region_lit ?_
  with_reducible refine wq (.pointer (some ⟨bx, ox + k * 15, none⟩)) (exec_ixA (.tmp 10) (.tmp 12) (A := A) (b := bx) (off := ox) (len := xs.length) (cap := c) (i := k) 15 rfl rfl rfl Tryd.underlying57 hAx hkl) ?_
  try simp only [nP, nN, nA, n0, nS]
  with_reducible refine wg (bx) (ox + k * 15) (x.cells) hrx.rg Tryd.underlying65 ?_
  try simp only [nP, nN, nA, n0, nS]
  with_reducible refine ww (.pointer (some ⟨zl4.heap.size, 0, none⟩)) (zl4.alloc (.cells #[.int .i64 0, .int .u32 0, .int .i64 0, .int .i64 0, .int .i64 0, .int .i64 0, .int .i64 0, .slice none 0 0, .slice none 0 0, .int .i64 0, .int .i64 0, .int .i64 0, .int .u64 0, .bool false, .slice none 0 0] 65)) ?_
  try simp only [nP, nN, nA, n0, nS]
  have sz_g12 := ee.size
  have hrx := rngBelow hrx ((Below.refl _ zl4).alloc (Nat.le_refl _) (.cells #[.int .i64 0, .int .u32 0, .int .i64 0, .int .i64 0, .int .i64 0, .int .i64 0, .int .i64 0, .slice none 0 0, .slice none 0 0, .int .i64 0, .int .i64 0, .int .i64 0, .int .u64 0, .bool false, .slice none 0 0] 65))
  have sz_ := ee.size
  have OA := OA.alloc (.cells #[.int .i64 0, .int .u32 0, .int .i64 0, .int .i64 0, .int .i64 0, .int .i64 0, .int .i64 0, .slice none 0 0, .slice none 0 0, .int .i64 0, .int .i64 0, .int .i64 0, .int .u64 0, .bool false, .slice none 0 0] 65)
  have ee := ee.alloc ee.size (.cells #[.int .i64 0, .int .u32 0, .int .i64 0, .int .i64 0, .int .i64 0, .int .i64 0, .int .i64 0, .slice none 0 0, .slice none 0 0, .int .i64 0, .int .i64 0, .int .i64 0, .int .u64 0, .bool false, .slice none 0 0] 65)
  have Zv7 := hpN zl4 (.cells #[.int .i64 0, .int .u32 0, .int .i64 0, .int .i64 0, .int .i64 0, .int .i64 0, .int .i64 0, .slice none 0 0, .slice none 0 0, .int .i64 0, .int .i64 0, .int .i64 0, .int .u64 0, .bool false, .slice none 0 0] 65) rfl
  obtain ⟨z1, hz_⟩ : ∃ z_ : World, z_ = zl4.alloc (.cells #[.int .i64 0, .int .u32 0, .int .i64 0, .int .i64 0, .int .i64 0, .int .i64 0, .int .i64 0, .slice none 0 0, .slice none 0 0, .int .i64 0, .int .i64 0, .int .i64 0, .int .u64 0, .bool false, .slice none 0 0] 65) := ⟨_, rfl⟩
  rw [← hz_] at Zv7 OA ee hrx ⊢
  clear hz_
  obtain ⟨g12, hg_g12⟩ : ∃ g_, g_ = zl4.heap.size := ⟨_, rfl⟩
  have hB_g12 : w.heap.size ≤ g12 := by rw [hg_g12]; exact sz_g12
  rw [← hg_g12] at Zv7 ⊢
  clear hg_g12
  refine wpList_store_row rfl 65 _ _ rfl (g12) (x.cells).toArray rfl rfl 65 _ Zv7 sizeRc (by rfl) (Rc.one _) ?_
  clear hrx
  have N_ := setRow_heap z1 (g12) _ (x.cells).toArray _ _ Zv7
  have OA := ogOwnR (cs := (x.cells).toArray) OA (ogKind OA Zv7 (by decide))
  have ee := belowSet (cs := (x.cells).toArray) ee Zv7 (by omega)
  clear Zv7
  have Zv7 := N_
  clear N_
  obtain ⟨z2, hz_⟩ : ∃ z_ : World, z_ = z1.setRow (g12) (x.cells).toArray := ⟨_, rfl⟩
  rw [← hz_] at Zv7 OA ee ⊢
  clear hz_
  try simp only [nP, nN, nA, n0, nS]
  refine wpList_nil ?_
  refine hK11 _ _ ?_
  refine wp_seq_k fun K13 hK13 => ?_
  refine wp_region_lit ?_
  with_reducible refine wg (g12) (0) (x.cells) (rowAt Zv7) Tryd.underlying65 ?_
  try simp only [nP, nN, nA, n0, nS]
  with_reducible refine wc 80 #[.agg (x.cells).toArray] (wframed_any x z2 w.heap.size ee.size ((hO x (List.mem_of_getElem? hx)).below ee (Nat.le_refl _)) (hdt x (List.mem_of_getElem? hx)) (hT.below ee)) ?_
  rintro e z3 ⟨v1, rfl, O1, t⟩
  refine ⟨_, rfl, ?_⟩
  have O1 := OwnB.mono O1 ee.size
  have Zv7 := hpB Zv7 t
  have OA := ownBelow OA t
  have ee := ee.trans (t.mono ee.size)
  clear t
  have fe := frame_err x
  obtain ⟨n1, hn1⟩ : ∃ n_ : Int, n_ = (x.frame.2 : Int) := ⟨_, rfl⟩
  rw [← hn1] at fe ⊢
  try simp only [nP, nN, nA, n0, nS]
  with_reducible refine wv (.tuple #[v1, .int .i64 n1]) ?_
  try simp only [nP, nN, nA, n0, nS]
  with_reducible refine wv (v1) ?_
  try simp only [nP, nN, nA, n0, nS]
  with_reducible refine wv (.int .i64 n1) ?_
  try simp only [nP, nN, nA, n0, nS]
  with_reducible refine wv (v1) ?_
  try simp only [nP, nN, nA, n0, nS]
  with_reducible refine wv (.int .i64 n1) ?_
  try simp only [nP, nN, nA, n0, nS]
  refine wpList_nil ?_
  refine hK13 _ _ ?_
  refine wp_seq_k fun K14 hK14 => ?_
  refine wp_seq_k fun K15 hK15 => ?_
  refine wp_region_lit ?_
  with_reducible refine wv (.int .i64 n1) ?_
  try simp only [nP, nN, nA, n0, nS]
  obtain ⟨b16, hb16⟩ : ∃ d_ : Bool, (decide (n1 = 0)) = d_ := ⟨_, rfl⟩
  cases b16
  · have pb16 : ¬ (n1 = 0) := of_decide_eq_false hb16
    with_reducible refine wb (.bool true) (.int .i64 n1) (.int .i64 0) 36 (run_neqI hb16) ?_
    try simp only [nP, nN, nA, n0, nS]
    refine wpList_nil ?_
    refine hK15 _ _ ?_
    refine wp_cond_true (by kernel_rfl) ?_
    refine wp_seq_k fun K17 hK17 => ?_
    refine wp_region_lit ?_
    with_reducible refine wv (.int .i64 n1) ?_
    try simp only [nP, nN, nA, n0, nS]
    with_reducible refine wv (.int .i64 n1) ?_
    try simp only [nP, nN, nA, n0, nS]
    refine wpList_nil ?_
    refine hK17 _ _ ?_
    refine wp_ret ?_
    refine then_ret ?_
    refine inBlock_ret ?_
    refine then_ret ?_
    refine then_ret ?_
    refine inBlock_ret ?_
    refine then_ret ?_
    have hno : ¬ x.formed = true := fun hf => by rw [if_pos hf] at fe; exact pb16 fe
    rw [if_neg hno] at fe
    subst fe
    exact bodyPost_ret (v := .int .i64 2) (by kernel_rfl) rfl (by unfold T.compacted; rw [if_neg (fun q => hno (List.all_eq_true.1 q x (List.mem_of_getElem? hx)))]; exact ⟨bv, rv, rfl, dk.below ee, Mv.ofBelow ee⟩)
  have pb16 : n1 = 0 := of_decide_eq_true hb16
  have eb16 : n1 = 0 := of_decide_eq_true hb16
  with_reducible refine wb (.bool false) (.int .i64 n1) (.int .i64 0) 36 (run_neqI hb16) ?_
  try simp only [nP, nN, nA, n0, nS]
  refine wpList_nil ?_
  refine hK15 _ _ ?_
  refine wp_cond_false (by kernel_rfl) ?_
  refine wp_skip ?_
  refine hK14 _ _ ?_
  have hff : x.formed = true := by
    cases hf : x.formed with
    | true => rfl
    | false => rw [if_neg (by rw [hf]; decide)] at fe; omega
  have hfr : x.frame.1 = (F.wrap x.wr).1 := by unfold T.Rc.frame; rw [if_pos hff]
  refine wp_region_lit ?_
  with_reducible refine wv (v5) ?_
  try simp only [nP, nN, nA, n0, nS]
  with_reducible refine wv (v1) ?_
  try simp only [nP, nN, nA, n0, nS]
  with_reducible refine wa8 (.tmp 24) (.tmp 25) OA (SlB.ofOwn O1) (Nat.le_trans (catsF hf) (by rw [List.length_take]; omega)) (by rw [hfr, F.wrap_len (rcwr_len hff).2]; have := (rcwr_len hff).2; omega) ee.size ?_
  intro v_ z4 O_ g_
  have Zv7 := heapKind OA g_ (by decide) Zv7
  have ee := ee.grown g_ ee.size (fun i_ h_ => by have := (OA.lt i_ h_).1; omega)
  clear g_ OA
  have OA := O_
  clear O_
  obtain ⟨a18, e_a18⟩ : ∃ q_, q_ = v_ := ⟨_, rfl⟩
  subst e_a18
  with_reducible refine wv (a18) ?_
  try simp only [nP, nN, nA, n0, nS]
  refine wpList_nil ?_
  refine inBlock_normal ?_
  refine hK10 _ _ ?_
  refine wp_region_lit ?_
  with_reducible refine wq (.int .i64 (((k + 1 : Nat) : Int))) (okIntP ((by rw [IntKind.wrap_i64]; omega) : IntKind.i64.wrap ((k : Int) + 1) = ((k + 1 : Nat) : Int)) (by kernel_rfl)) ?_
  try simp only [nP, nN, nA, n0, nS]
  with_reducible refine wv (.int .i64 (((k + 1 : Nat) : Int))) ?_
  try simp only [nP, nN, nA, n0, nS]
  refine wpList_nil ?_
  refine then_normal ?_
  rw [hfr, ← cats_snoc, ← take_snoc hx] at OA
  have hf_ := all_snoc xs k x hx (fun y => y.formed = true) hf hff
  exact ⟨hkl, a18, by kernel_rfl, ee, OA, hf_⟩
def Rc1 : Rc := { Rc.zero with kd := 1 }
theorem rc1Ok (w : World) (B : Nat) : RcOk w B Rc1 := ⟨CmOk.zero, Rd.nil, Nat.le_refl _, by simp [Rc1, Rc.zero, maxLen], fun _ => ⟨rfl, rfl⟩, by simp [Rc1, Rc.zero]⟩
theorem rc1_formed : Rc1.formed = true := by decide +kernel
theorem rc1_len : Rc1.wr.length = 6 := by decide +kernel
theorem opened_new (n : Int) : opened (D.new n) = ([], 0, D.new n) := by
  unfold T.opened
  rw [if_neg (show ¬ (D.new n).down = true from fun h => Bool.noConfusion h)]
  rw [show (D.new n).b = [] from rfl, F.all_nil]
  rfl
theorem added_new : added (D.new 100) Rc1 = (0, { D.new 100 with b := cats [Rc1] }) := by
  refine added_ok (s := 100) (ys := []) ⟨rfl, rfl, rfl, rfl, rfl⟩ rc1_formed ?_
  show ((F.wrap Rc1.wr).1 ++ []).length ≤ 100
  rw [List.append_nil, F.wrap_len (by rw [rc1_len]; decide), rc1_len]; decide
theorem cats1 : (cats [Rc1]).length = 14 := by
  show ((F.wrap Rc1.wr).1 ++ []).length = 14
  rw [List.append_nil, F.wrap_len (by rw [rc1_len]; decide), rc1_len]
set_option maxHeartbeats 25600000 in
theorem awake13_any (w : World) (hT : Tabs w) :
    Calls Tryd.prog 23 #[] w fun e w' => e = .returned (.bool true) ∧ Below w.heap.size w w' := by
  have ee : Below w.heap.size w w := Below.refl _ _
  go_enter Tryd.func23, Tryd.ntmps23
  refine wp_seq_k fun K1 hK1 => ?_
  refine wp_region_lit ?_
  with_reducible refine wv (.bool false) ?_
  try simp only [nP, nN, nA, n0, nS]
  refine wpList_nil ?_
  refine hK1 _ _ ?_
  refine wp_seq_k fun K2 hK2 => ?_
  refine wp_region_lit ?_
  with_reducible refine wc 25 #[.int .i64 100] (dnew_any 100 w (by omega)) ?_
  rintro e z1 ⟨rfl, dk, t, hsz_⟩
  refine ⟨_, rfl, ?_⟩
  obtain ⟨gd, hgd⟩ : ∃ q, q = w.heap.size := ⟨_, rfl⟩
  have hle_ : w.heap.size ≤ gd := by rw [hgd]; exact ee.size
  rw [← hgd] at dk ⊢
  have dk := dk.mono hle_
  clear hgd hsz_
  have ee := ee.trans (t.mono ee.size)
  clear t
  try simp only [nP, nN, nA, n0, nS]
  with_reducible refine wv (.pointer (some ⟨gd, 0, none⟩)) ?_
  try simp only [nP, nN, nA, n0, nS]
  refine wpList_nil ?_
  refine hK2 _ _ ?_
  refine wp_seq_k fun K3 hK3 => ?_
  refine wp_region_lit ?_
  with_reducible refine wv (.pointer (some ⟨gd, 0, none⟩)) ?_
  try simp only [nP, nN, nA, n0, nS]
  with_reducible refine wc 30 #[.pointer (some ⟨gd, 0, none⟩)] (wopen_any w.heap.size gd (.slice none 0 0) (.slice none 0 0) (D.new 100) z1 ee.size dk (hT.below ee)) ?_
  rintro e z2 ⟨v1, ns, bv1, rv1, rfl, hlk, dk_, mv_, OX, kx⟩
  refine ⟨_, rfl, ?_⟩
  rw [opened_new] at hlk dk_ ⊢
  have ee := ee.trans (mv_.fr.below (fun k_ h_ => Nat.le_trans (Nat.le_refl _) (dk.ft h_).1) ee.size)
  clear dk mv_
  have dk := dk_
  clear dk_
  have hn0 : ns = [] := List.eq_nil_of_length_eq_zero hlk.1
  subst hn0
  obtain ⟨A1, c1, e1, _⟩ := OX.rows
  subst e1
  try simp only [nP, nN, nA, n0, nS]
  with_reducible refine wv (.tuple #[.slice A1 0 c1, .int .i64 0]) ?_
  try simp only [nP, nN, nA, n0, nS]
  with_reducible refine wv (.slice A1 0 c1) ?_
  try simp only [nP, nN, nA, n0, nS]
  with_reducible refine wv (.int .i64 0) ?_
  try simp only [nP, nN, nA, n0, nS]
  with_reducible refine wv (.slice A1 0 c1) ?_
  try simp only [nP, nN, nA, n0, nS]
  with_reducible refine wv (.int .i64 0) ?_
  try simp only [nP, nN, nA, n0, nS]
  refine wpList_nil ?_
  refine hK3 _ _ ?_
  refine wp_seq_k fun K4 hK4 => ?_
  refine wp_region_lit ?_
  with_reducible refine wv (.int .i64 0) ?_
  try simp only [nP, nN, nA, n0, nS]
  with_reducible refine wb (.bool true) (.int .i64 0) (.int .i64 0) 36 (run_eqlI (show (decide (0 = 0)) = true from by decide)) ?_
  try simp only [nP, nN, nA, n0, nS]
  with_reducible refine wv (.bool true) ?_
  try simp only [nP, nN, nA, n0, nS]
  with_reducible refine wv (.slice A1 0 c1) ?_
  try simp only [nP, nN, nA, n0, nS]
  with_reducible refine wv (.int .i64 ((0 : Int))) ?_
  try simp only [nP, nN, nA, n0, nS]
  with_reducible refine wb (.bool true) (.int .i64 ((0 : Int))) (.int .i64 0) 3 (run_eqlI (show (decide ((0 : Int) = 0)) = true from by decide)) ?_
  try simp only [nP, nN, nA, n0, nS]
  with_reducible refine wv (.bool true) ?_
  try simp only [nP, nN, nA, n0, nS]
  with_reducible refine wv (.bool true) ?_
  try simp only [nP, nN, nA, n0, nS]
  with_reducible refine wv (.pointer (some ⟨gd, 0, none⟩)) ?_
  try simp only [nP, nN, nA, n0, nS]
  with_reducible refine wv (.agg (Rc1.cells).toArray) ?_
  try simp only [nP, nN, nA, n0, nS]
  with_reducible refine wc 28 #[.pointer (some ⟨gd, 0, none⟩), .agg (Rc1.cells).toArray] (wadd_any Rc1 z2 w.heap.size ee.size (rc1Ok _ _) (by decide) (hT.below ee) w.heap.size gd bv1 rv1 (D.new 100) ee.size dk) ?_
  rintro e z3 ⟨bv2, rv2, rfl, dk_, mv_⟩
  refine ⟨_, rfl, ?_⟩
  rw [added_new] at dk_ ⊢
  have ee := ee.trans (mv_.fr.below (fun k_ h_ => Nat.le_trans (Nat.le_refl _) (dk.ft h_).1) ee.size)
  clear dk mv_
  have dk := dk_
  clear dk_
  try simp only [nP, nN, nA, n0, nS]
  with_reducible refine wb (.bool true) (.int .i64 0) (.int .i64 0) 36 (run_eqlI (show (decide (0 = 0)) = true from by decide)) ?_
  try simp only [nP, nN, nA, n0, nS]
  with_reducible refine wv (.bool true) ?_
  try simp only [nP, nN, nA, n0, nS]
  with_reducible refine wv (.bool true) ?_
  try simp only [nP, nN, nA, n0, nS]
  with_reducible refine wv (.pointer (some ⟨gd, 0, none⟩)) ?_
  try simp only [nP, nN, nA, n0, nS]
  with_reducible refine wc 32 #[.pointer (some ⟨gd, 0, none⟩)] (dbytes_any w.heap.size gd bv2 rv2 _ z3 dk) ?_
  rintro e z4 ⟨v4, rfl, OB, t⟩
  refine ⟨_, rfl, ?_⟩
  have dk := dk.below t
  have ee := ee.trans (t.mono ee.size)
  clear t
  obtain ⟨A4, c4, e4, _⟩ := ownShape OB
  rw [show ({ D.new 100 with b := cats [Rc1] } : Dk).b.length = 14 from cats1] at e4
  subst e4
  try simp only [nP, nN, nA, n0, nS]
  with_reducible refine wv (.int .i64 ((14 : Int))) ?_
  try simp only [nP, nN, nA, n0, nS]
  with_reducible refine wb (.bool true) (.int .i64 ((14 : Int))) (.int .i64 14) 3 (run_eqlI (show (decide ((14 : Int) = 14)) = true from by decide)) ?_
  try simp only [nP, nN, nA, n0, nS]
  with_reducible refine wv (.bool true) ?_
  try simp only [nP, nN, nA, n0, nS]
  with_reducible refine wv (.bool true) ?_
  try simp only [nP, nN, nA, n0, nS]
  refine wpList_nil ?_
  refine hK4 _ _ ?_
  refine wp_ret ?_
  exact bodyPost_ret (v := .bool true) (by kernel_rfl) rfl ⟨rfl, ee⟩
end Go.Proofs.YtjofjpmhokjhnaaDoor

namespace Go.Proofs.YtjofjpmhokjhnaaDoor
set_option maxRecDepth 20001
open Go.RowKit T
set_option linter.unusedVariables false
section
open Go.ChangeShapes Go.WideShapes Go.ChangeAt
variable {W : World} {cs : List Value} {t : TypeId} {v : Value}
theorem Cel.u16x (h : Cel W t cs) (ht : Tryd.prog.underlying t = some (.int .u16)) : ∃ a : Nat, cs = [.int .u16 (a : Int)] ∧ a < 65536 := by
  obtain ⟨a, rfl, w⟩ := h.int ht
  have := bounds_u16 w
  exact ⟨a.toNat, by rw [Int.toNat_of_nonneg this.1], by omega⟩
theorem Arg.u16x (h : Arg W t v) (ht : Tryd.prog.underlying t = some (.int .u16)) : ∃ a : Nat, v = .int .u16 (a : Int) ∧ a < 65536 := by
  obtain ⟨a, rfl, w⟩ := h.int ht
  have := bounds_u16 w
  exact ⟨a.toNat, by rw [Int.toNat_of_nonneg this.1], by omega⟩
theorem Arg.u16pair {e : TypeId} (h : Arg W t v) (ht : Tryd.prog.underlying t = some (.array 2 e)) (he : Tryd.prog.underlying e = some (.int .u16)) (hce : Tryd.prog.cellsOf e = 1) (hct : Tryd.prog.cellsOf t = 2) :
    ∃ x y : Nat, v = .agg #[.int .u16 (x : Int), .int .u16 (y : Int)] ∧ x < 65536 ∧ y < 65536 := by
  obtain ⟨⟨cs⟩, rfl, hc⟩ := h.array ht
  have hl := hc.lenA ht
  rw [hct] at hl
  match cs, hl with
  | [a, b], _ =>
    have h0 := hc.elem ht 0 (by omega)
    have h1 := hc.elem ht 1 (by omega)
    rw [hce] at h0 h1
    obtain ⟨x, e0, hx⟩ := h0.u16x he
    obtain ⟨y, e1, hy⟩ := h1.u16x he
    simp at e0 e1
    subst e0; subst e1
    exact ⟨x, y, rfl, hx, hy⟩
theorem Arg.u8pair {e : TypeId} (h : Arg W t v) (ht : Tryd.prog.underlying t = some (.array 2 e)) (he : Tryd.prog.underlying e = some (.int .u8)) (hce : Tryd.prog.cellsOf e = 1) (hct : Tryd.prog.cellsOf t = 2) :
    ∃ x y : Nat, v = .agg #[.int .u8 (x : Int), .int .u8 (y : Int)] ∧ x < 256 ∧ y < 256 := by
  obtain ⟨⟨cs⟩, rfl, hc⟩ := h.array ht
  have hl := hc.lenA ht
  rw [hct] at hl
  match cs, hl with
  | [a, b], _ =>
    have h0 := hc.elem ht 0 (by omega)
    have h1 := hc.elem ht 1 (by omega)
    rw [hce] at h0 h1
    obtain ⟨x, e0, hx⟩ := h0.u8 he
    obtain ⟨y, e1, hy⟩ := h1.u8 he
    simp at e0 e1
    subst e0; subst e1
    exact ⟨x, y, rfl, hx, hy⟩
theorem Arg.rcsn (h : Arg W 57 v) : ∃ (A : Option Addr) (c : Nat) (ls : List Rc), v = .slice A ls.length c ∧ ls.length ≤ c ∧ c ≤ maxLen ∧ RowsAt W W.heap.size A 15 (ls.map Rc.cells) ∧ (∀ x ∈ ls, RcOk W W.heap.size x) ∧ (A = none → c = 0) := by
  obtain ⟨A, n, c, rfl, hc⟩ := h.slice Tryd.underlying57
  obtain ⟨ls, r1, r2, r3, r4, r5, r6⟩ := hc.rows Rc.cells (fun x => RcOk W W.heap.size x) Tryd.underlying57 (sz := 15) (by kernel_rfl) (by omega) (fun cs hc => Cel.rc hc)
  subst r1
  exact ⟨A, c, ls, rfl, r2, r3, r5, r6, fun e => by have := r4 e; omega⟩
end
end Go.Proofs.YtjofjpmhokjhnaaDoor
