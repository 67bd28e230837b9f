/- The law MessageZero. Conditions: what lies, lies below. (Printed by gen_msg.py.) -/
import Derived.Test.YtjofjpmhokjhnaaDoorMsgK
import Derived.Test.YtjofjpmhokjhnaaDoorMsgZ
namespace Go.Proofs.YtjofjpmhokjhnaaDoor
set_option maxRecDepth 20000
open Go.RowKit T
set_option linter.unusedSimpArgs false
set_option linter.unusedVariables false

theorem formedV (m : Ms) (w : World) (B0 : Nat) (hB : B0 ≤ w.heap.size) (ok : MsOk w B0 m) (hT : Tabs w) : Calls Tryd.prog 13 #[.agg m.cells.toArray] w fun e w' => (∃ r : Bool, e = .returned (.bool r)) ∧ Below w.heap.size w w' :=
  (mformed_any m w B0 hB ok hT).mono fun e w' ⟨h, hb⟩ => ⟨⟨_, h⟩, hb⟩
theorem formedN (m : Ms) (w : World) (B0 : Nat) (hB : B0 ≤ w.heap.size) (ok : MsOk w B0 m) (hT : Tabs w) (hf : m.formed = false) : Calls Tryd.prog 13 #[.agg m.cells.toArray] w fun e w' => e = .returned (.bool false) ∧ Below w.heap.size w w' := by
  have h := mformed_any m w B0 hB ok hT
  rw [hf] at h
  exact h
theorem CmOk.zeroG {w : World} {B : Nat} {g : Int} : CmOk w B { Cm.zero with g := g } := { (CmOk.zero : CmOk w B Cm.zero) with }
theorem rdOne {w : World} {g : Nat} {b : UInt8} (h : w.heap[g]? = some (.cells #[.int .u8 (b.toNat : Int)] 5 (0, 0))) : Rd w w.heap.size (some ⟨g, 0, none⟩) (bc [b]) := fun j u hu => by
  have hg := (Array.getElem?_eq_some_iff.1 h).1
  match j, hu with
  | 0, hu => exact ⟨g, 0, rfl, hg, by rw [cell_of_row w g 0 _ _ _ h]; exact hu⟩
set_option maxHeartbeats 25600000 in
theorem mzero_any (m : Ms) (wh x : Nat) (hx : x < 18446744073709551616) (w : World) (ok : MsOk w w.heap.size m) (hT : Tabs w) :
    Calls Tryd.prog 3 #[.agg m.cells.toArray, .int .u8 (wh : Int), .int .u64 (x : Int)] w fun e w' => e = .returned (.bool true) ∧ Below w.heap.size w w' := by
  obtain ⟨q, hq, hq6⟩ : ∃ q : Nat, ((wh : Int)).tmod 6 = (q : Int) ∧ q < 6 := ⟨wh % 6, by rw [Int.tmod_eq_emod_of_nonneg (by omega)]; omega, by omega⟩
  obtain ⟨r1, hr1, hr1n, hr1b⟩ : ∃ r : Nat, IntKind.u32.wrap (1 + (IntKind.u32.wrap (((x : Int)).tmod 1000))) = (r : Int) ∧ r ≠ 0 ∧ r < 4294967296 := ⟨1 + x % 1000, by rw [Int.tmod_eq_emod_of_nonneg (by omega)]; simp only [IntKind.wrap, IntKind.signed, IntKind.bits]; simp; omega, by omega, by omega⟩
  obtain ⟨r2, hr2, hr2n⟩ : ∃ r : Nat, IntKind.i64.wrap (1 + (IntKind.i64.wrap (((x : Int)).tmod 8))) = (r : Int) ∧ r ≠ 0 := ⟨1 + x % 8, by rw [Int.tmod_eq_emod_of_nonneg (by omega)]; simp only [IntKind.wrap, IntKind.signed, IntKind.bits]; simp; omega, by omega⟩
  obtain ⟨r3, hr3, hr3n⟩ : ∃ r : Nat, IntKind.i64.wrap (1 + (IntKind.i64.wrap (((x : Int)).tmod 1000))) = (r : Int) ∧ r ≠ 0 := ⟨1 + x % 1000, by rw [Int.tmod_eq_emod_of_nonneg (by omega)]; simp only [IntKind.wrap, IntKind.signed, IntKind.bits]; simp; omega, by omega⟩
  obtain ⟨b8, hb8⟩ : ∃ b : UInt8, IntKind.u8.wrap (x : Int) = (b.toNat : Int) := ⟨UInt8.ofNat x, by rw [UInt8.toNat_ofNat']; simp only [IntKind.wrap, IntKind.signed, IntKind.bits]; simp; try omega⟩
  have ee : Below w.heap.size w w := Below.refl _ _
  go_enter Tryd.func3, Tryd.ntmps3
  refine wp_seq_k fun K1 hK1 => ?_
  refine wp_region_lit ?_
  with_reducible refine wpList_w (.pointer (some ⟨w.heap.size, 0, none⟩)) (w.alloc (.cells (m.cells).toArray 39)) (by kernel_rfl) (by kernel_rfl) ?_
  try simp only [Act.put, List.getElem_toArray, List.getElem_cons_zero, List.getElem_cons_succ, List.setIfInBounds_toArray, List.set_cons_zero, List.set_cons_succ]
  have sz_g2 := ee.size
  have sz_ := ee.size
  have ee := ee.alloc ee.size (.cells (m.cells).toArray 39)
  have Zb3 := hpN w (.cells (m.cells).toArray 39) rfl
  generalize w.alloc (.cells (m.cells).toArray 39) = z1 at Zb3 ee ⊢
  obtain ⟨g2, hg_g2⟩ : ∃ g_, g_ = w.heap.size := ⟨_, rfl⟩
  have hB_g2 : w.heap.size ≤ g2 := by rw [hg_g2]; exact sz_g2
  rw [← hg_g2] at Zb3 ⊢
  clear hg_g2
  with_reducible refine wpList_v (.bool false) (by kernel_rfl) (by kernel_rfl) ?_
  try simp only [Act.put, List.getElem_toArray, List.getElem_cons_zero, List.getElem_cons_succ, List.setIfInBounds_toArray, List.set_cons_zero, List.set_cons_succ]
  refine wpList_nil ?_
  refine hK1 _ _ ?_
  refine wp_seq_k fun K3 hK3 => ?_
  refine wp_seq_k fun K4 hK4 => ?_
  refine wp_region_lit ?_
  refine wpList_fcall 11 #[] (awake10_any z1 (hT.below ee)) (by kernel_rfl) (by kernel_rfl) ?_
  rintro e z2 ⟨rfl, t⟩
  refine ⟨_, rfl, ?_⟩
  have Zb3 := hpB Zb3 t
  have ee := ee.trans (t.mono ee.size)
  clear t
  try simp only [Act.put, List.getElem_toArray, List.getElem_cons_zero, List.getElem_cons_succ, List.setIfInBounds_toArray, List.set_cons_zero, List.set_cons_succ]
  with_reducible refine wpList_v (.bool false) (by kernel_rfl) (by kernel_rfl) ?_
  try simp only [Act.put, List.getElem_toArray, List.getElem_cons_zero, List.getElem_cons_succ, List.setIfInBounds_toArray, List.set_cons_zero, List.set_cons_succ]
  with_reducible refine wpList_v (.bool false) (by kernel_rfl) (by kernel_rfl) ?_
  try simp only [Act.put, List.getElem_toArray, List.getElem_cons_zero, List.getElem_cons_succ, List.setIfInBounds_toArray, List.set_cons_zero, List.set_cons_succ]
  refine wpList_load_g (by kernel_rfl) 39 _ rfl (g2) (0) (by kernel_rfl) (m.cells) _ (rowAt Zb3) Tryd.underlying39 rfl sizeMs ?_
  try simp only [Act.put, List.getElem_toArray, List.getElem_cons_zero, List.getElem_cons_succ, List.setIfInBounds_toArray, List.set_cons_zero, List.set_cons_succ]
  refine wpList_fcall 12 #[.agg (m.cells).toArray] (few10_any m z2 w.heap.size ee.size (ok.below ee (Nat.le_refl _))) (by kernel_rfl) (by kernel_rfl) ?_
  rintro e z3 ⟨⟨r0, rfl, _⟩, t⟩
  refine ⟨_, rfl, ?_⟩
  have Zb3 := hpB Zb3 t
  have ee := ee.trans (t.mono ee.size)
  clear t
  try simp only [Act.put, List.getElem_toArray, List.getElem_cons_zero, List.getElem_cons_succ, List.setIfInBounds_toArray, List.set_cons_zero, List.set_cons_succ]
  cases r0 with
  | false =>
    with_reducible refine wpList_v (.bool true) (by kernel_rfl) (by kernel_rfl) ?_
    try simp only [Act.put, List.getElem_toArray, List.getElem_cons_zero, List.getElem_cons_succ, List.setIfInBounds_toArray, List.set_cons_zero, List.set_cons_succ]
    with_reducible refine wpList_v (.bool true) (by kernel_rfl) (by kernel_rfl) ?_
    try simp only [Act.put, List.getElem_toArray, List.getElem_cons_zero, List.getElem_cons_succ, List.setIfInBounds_toArray, List.set_cons_zero, List.set_cons_succ]
    with_reducible refine wpList_v (.bool true) (by kernel_rfl) (by kernel_rfl) ?_
    try simp only [Act.put, List.getElem_toArray, List.getElem_cons_zero, List.getElem_cons_succ, List.setIfInBounds_toArray, List.set_cons_zero, List.set_cons_succ]
    with_reducible refine wpList_skip (by kernel_rfl) ?_
    try simp only [Act.put, List.getElem_toArray, List.getElem_cons_zero, List.getElem_cons_succ, List.setIfInBounds_toArray, List.set_cons_zero, List.set_cons_succ]
    with_reducible refine wpList_skip (by kernel_rfl) ?_
    try simp only [Act.put, List.getElem_toArray, List.getElem_cons_zero, List.getElem_cons_succ, List.setIfInBounds_toArray, List.set_cons_zero, List.set_cons_succ]
    with_reducible refine wpList_skip (by kernel_rfl) ?_
    try simp only [Act.put, List.getElem_toArray, List.getElem_cons_zero, List.getElem_cons_succ, List.setIfInBounds_toArray, List.set_cons_zero, List.set_cons_succ]
    with_reducible refine wpList_v (.bool true) (by kernel_rfl) (by kernel_rfl) ?_
    try simp only [Act.put, List.getElem_toArray, List.getElem_cons_zero, List.getElem_cons_succ, List.setIfInBounds_toArray, List.set_cons_zero, List.set_cons_succ]
    with_reducible refine wpList_v (.bool true) (by kernel_rfl) (by kernel_rfl) ?_
    try simp only [Act.put, List.getElem_toArray, List.getElem_cons_zero, List.getElem_cons_succ, List.setIfInBounds_toArray, List.set_cons_zero, List.set_cons_succ]
    with_reducible refine wpList_skip (by kernel_rfl) ?_
    try simp only [Act.put, List.getElem_toArray, List.getElem_cons_zero, List.getElem_cons_succ, List.setIfInBounds_toArray, List.set_cons_zero, List.set_cons_succ]
    with_reducible refine wpList_skip (by kernel_rfl) ?_
    try simp only [Act.put, List.getElem_toArray, List.getElem_cons_zero, List.getElem_cons_succ, List.setIfInBounds_toArray, List.set_cons_zero, List.set_cons_succ]
    with_reducible refine wpList_v (.bool true) (by kernel_rfl) (by kernel_rfl) ?_
    try simp only [Act.put, List.getElem_toArray, List.getElem_cons_zero, List.getElem_cons_succ, List.setIfInBounds_toArray, List.set_cons_zero, List.set_cons_succ]
    refine wpList_nil ?_
    refine hK4 _ _ ?_
    refine wp_cond_true (by kernel_rfl) ?_
    refine wp_seq_k fun K5 hK5 => ?_
    refine wp_region_lit ?_
    refine wpList_fcall 11 #[] (awake10_any z3 (hT.below ee)) (by kernel_rfl) (by kernel_rfl) ?_
    rintro e z4 ⟨rfl, t⟩
    refine ⟨_, rfl, ?_⟩
    have Zb3 := hpB Zb3 t
    have ee := ee.trans (t.mono ee.size)
    clear t
    try simp only [Act.put, List.getElem_toArray, List.getElem_cons_zero, List.getElem_cons_succ, List.setIfInBounds_toArray, List.set_cons_zero, List.set_cons_succ]
    with_reducible refine wpList_v (.bool true) (by kernel_rfl) (by kernel_rfl) ?_
    try simp only [Act.put, List.getElem_toArray, List.getElem_cons_zero, List.getElem_cons_succ, List.setIfInBounds_toArray, List.set_cons_zero, List.set_cons_succ]
    refine wpList_nil ?_
    refine hK5 _ _ ?_
    refine wp_ret ?_
    refine then_ret ?_
    exact bodyPost_ret (v := .bool true) (by kernel_rfl) rfl ⟨rfl, ee⟩
  | true =>
    with_reducible refine wpList_v (.bool false) (by kernel_rfl) (by kernel_rfl) ?_
    try simp only [Act.put, List.getElem_toArray, List.getElem_cons_zero, List.getElem_cons_succ, List.setIfInBounds_toArray, List.set_cons_zero, List.set_cons_succ]
    with_reducible refine wpList_v (.bool false) (by kernel_rfl) (by kernel_rfl) ?_
    try simp only [Act.put, List.getElem_toArray, List.getElem_cons_zero, List.getElem_cons_succ, List.setIfInBounds_toArray, List.set_cons_zero, List.set_cons_succ]
    with_reducible refine wpList_v (.bool false) (by kernel_rfl) (by kernel_rfl) ?_
    try simp only [Act.put, List.getElem_toArray, List.getElem_cons_zero, List.getElem_cons_succ, List.setIfInBounds_toArray, List.set_cons_zero, List.set_cons_succ]
    refine wpList_load_g (by kernel_rfl) 39 _ rfl (g2) (0) (by kernel_rfl) (m.cells) _ (rowAt Zb3) Tryd.underlying39 rfl sizeMs ?_
    try simp only [Act.put, List.getElem_toArray, List.getElem_cons_zero, List.getElem_cons_succ, List.setIfInBounds_toArray, List.set_cons_zero, List.set_cons_succ]
    refine wpList_fcall 13 #[.agg (m.cells).toArray] (formedV m z3 w.heap.size ee.size (ok.below ee (Nat.le_refl _)) (hT.below ee)) (by kernel_rfl) (by kernel_rfl) ?_
    rintro e z4 ⟨⟨fm, rfl⟩, t⟩
    refine ⟨_, rfl, ?_⟩
    have Zb3 := hpB Zb3 t
    have ee := ee.trans (t.mono ee.size)
    clear t
    try simp only [Act.put, List.getElem_toArray, List.getElem_cons_zero, List.getElem_cons_succ, List.setIfInBounds_toArray, List.set_cons_zero, List.set_cons_succ]
    cases fm with
    | false =>
      with_reducible refine wpList_v (.bool true) (by kernel_rfl) (by kernel_rfl) ?_
      try simp only [Act.put, List.getElem_toArray, List.getElem_cons_zero, List.getElem_cons_succ, List.setIfInBounds_toArray, List.set_cons_zero, List.set_cons_succ]
      with_reducible refine wpList_v (.bool true) (by kernel_rfl) (by kernel_rfl) ?_
      try simp only [Act.put, List.getElem_toArray, List.getElem_cons_zero, List.getElem_cons_succ, List.setIfInBounds_toArray, List.set_cons_zero, List.set_cons_succ]
      with_reducible refine wpList_v (.bool true) (by kernel_rfl) (by kernel_rfl) ?_
      try simp only [Act.put, List.getElem_toArray, List.getElem_cons_zero, List.getElem_cons_succ, List.setIfInBounds_toArray, List.set_cons_zero, List.set_cons_succ]
      with_reducible refine wpList_skip (by kernel_rfl) ?_
      try simp only [Act.put, List.getElem_toArray, List.getElem_cons_zero, List.getElem_cons_succ, List.setIfInBounds_toArray, List.set_cons_zero, List.set_cons_succ]
      with_reducible refine wpList_skip (by kernel_rfl) ?_
      try simp only [Act.put, List.getElem_toArray, List.getElem_cons_zero, List.getElem_cons_succ, List.setIfInBounds_toArray, List.set_cons_zero, List.set_cons_succ]
      with_reducible refine wpList_v (.bool true) (by kernel_rfl) (by kernel_rfl) ?_
      try simp only [Act.put, List.getElem_toArray, List.getElem_cons_zero, List.getElem_cons_succ, List.setIfInBounds_toArray, List.set_cons_zero, List.set_cons_succ]
      refine wpList_nil ?_
      refine hK4 _ _ ?_
      refine wp_cond_true (by kernel_rfl) ?_
      refine wp_seq_k fun K6 hK6 => ?_
      refine wp_region_lit ?_
      refine wpList_fcall 11 #[] (awake10_any z4 (hT.below ee)) (by kernel_rfl) (by kernel_rfl) ?_
      rintro e z5 ⟨rfl, t⟩
      refine ⟨_, rfl, ?_⟩
      have Zb3 := hpB Zb3 t
      have ee := ee.trans (t.mono ee.size)
      clear t
      try simp only [Act.put, List.getElem_toArray, List.getElem_cons_zero, List.getElem_cons_succ, List.setIfInBounds_toArray, List.set_cons_zero, List.set_cons_succ]
      with_reducible refine wpList_v (.bool true) (by kernel_rfl) (by kernel_rfl) ?_
      try simp only [Act.put, List.getElem_toArray, List.getElem_cons_zero, List.getElem_cons_succ, List.setIfInBounds_toArray, List.set_cons_zero, List.set_cons_succ]
      refine wpList_nil ?_
      refine hK6 _ _ ?_
      refine wp_ret ?_
      refine then_ret ?_
      exact bodyPost_ret (v := .bool true) (by kernel_rfl) rfl ⟨rfl, ee⟩
    | true =>
      with_reducible refine wpList_v (.bool false) (by kernel_rfl) (by kernel_rfl) ?_
      try simp only [Act.put, List.getElem_toArray, List.getElem_cons_zero, List.getElem_cons_succ, List.setIfInBounds_toArray, List.set_cons_zero, List.set_cons_succ]
      with_reducible refine wpList_v (.bool false) (by kernel_rfl) (by kernel_rfl) ?_
      try simp only [Act.put, List.getElem_toArray, List.getElem_cons_zero, List.getElem_cons_succ, List.setIfInBounds_toArray, List.set_cons_zero, List.set_cons_succ]
      with_reducible refine wpList_v (.bool false) (by kernel_rfl) (by kernel_rfl) ?_
      try simp only [Act.put, List.getElem_toArray, List.getElem_cons_zero, List.getElem_cons_succ, List.setIfInBounds_toArray, List.set_cons_zero, List.set_cons_succ]
      with_reducible refine wpList_v (.int .u64 ((x : Int))) (by kernel_rfl) (by kernel_rfl) ?_
      try simp only [Act.put, List.getElem_toArray, List.getElem_cons_zero, List.getElem_cons_succ, List.setIfInBounds_toArray, List.set_cons_zero, List.set_cons_succ]
      obtain ⟨b7, hb7⟩ : ∃ d_ : Bool, d_ = (decide ((x : Int) = 0)) := ⟨_, rfl⟩
      with_reducible refine wpList_v (.bool b7) (by kernel_rfl) (run_bin _ _ _ _ _ (.int .u64 ((x : Int))) (.int .u64 0) _ rfl (by kernel_rfl) (by kernel_rfl) (by kernel_rfl) (run_eqlI hb7.symm)) ?_
      try simp only [Act.put, List.getElem_toArray, List.getElem_cons_zero, List.getElem_cons_succ, List.setIfInBounds_toArray, List.set_cons_zero, List.set_cons_succ]
      with_reducible refine wpList_v (.bool b7) (by kernel_rfl) (by kernel_rfl) ?_
      try simp only [Act.put, List.getElem_toArray, List.getElem_cons_zero, List.getElem_cons_succ, List.setIfInBounds_toArray, List.set_cons_zero, List.set_cons_succ]
      refine wpList_nil ?_
      refine hK4 _ _ ?_
      cases b7 with
      | false =>
        refine wp_cond_false (by kernel_rfl) ?_
        refine wp_skip ?_
        refine hK3 _ _ ?_
        refine wp_seq_k fun K8 hK8 => ?_
        refine wp_region_lit ?_
        refine wpList_load_g (by kernel_rfl) 39 _ rfl (g2) (0) (by kernel_rfl) (m.cells) _ (rowAt Zb3) Tryd.underlying39 rfl sizeMs ?_
        try simp only [Act.put, List.getElem_toArray, List.getElem_cons_zero, List.getElem_cons_succ, List.setIfInBounds_toArray, List.set_cons_zero, List.set_cons_succ]
        with_reducible refine wpList_w (.pointer (some ⟨z4.heap.size, 0, none⟩)) (z4.alloc (.cells #[.int .i64 0, .int .u32 0, .int .i64 0, .int .i64 0, .bool false, .int .u32 0, .int .i64 0, .int .i64 0, .int .i64 0, .int .i64 0, .slice none 0 0, .slice none 0 0, .int .i64 0, .int .i64 0, .int .i64 0, .int .u64 0, .bool false, .int .i64 0, .int .i64 0, .slice none 0 0, .slice none 0 0, .int .i64 0, .int .i64 0, .int .i64 0, .int .u64 0, .bool false, .int .i64 0, .string ByteArray.empty, .int .u64 0, .int .i64 0, .int .u64 0, .string ByteArray.empty, .int .i64 0, .slice none 0 0] 39)) (by kernel_rfl) (by kernel_rfl) ?_
        try simp only [Act.put, List.getElem_toArray, List.getElem_cons_zero, List.getElem_cons_succ, List.setIfInBounds_toArray, List.set_cons_zero, List.set_cons_succ]
        have sz_g9 := ee.size
        have lZb3 := (Array.getElem?_eq_some_iff.1 Zb3).1
        have sz_ := ee.size
        have Zb3 := hpA Zb3 (.cells #[.int .i64 0, .int .u32 0, .int .i64 0, .int .i64 0, .bool false, .int .u32 0, .int .i64 0, .int .i64 0, .int .i64 0, .int .i64 0, .slice none 0 0, .slice none 0 0, .int .i64 0, .int .i64 0, .int .i64 0, .int .u64 0, .bool false, .int .i64 0, .int .i64 0, .slice none 0 0, .slice none 0 0, .int .i64 0, .int .i64 0, .int .i64 0, .int .u64 0, .bool false, .int .i64 0, .string ByteArray.empty, .int .u64 0, .int .i64 0, .int .u64 0, .string ByteArray.empty, .int .i64 0, .slice none 0 0] 39)
        have ee := ee.alloc ee.size (.cells #[.int .i64 0, .int .u32 0, .int .i64 0, .int .i64 0, .bool false, .int .u32 0, .int .i64 0, .int .i64 0, .int .i64 0, .int .i64 0, .slice none 0 0, .slice none 0 0, .int .i64 0, .int .i64 0, .int .i64 0, .int .u64 0, .bool false, .int .i64 0, .int .i64 0, .slice none 0 0, .slice none 0 0, .int .i64 0, .int .i64 0, .int .i64 0, .int .u64 0, .bool false, .int .i64 0, .string ByteArray.empty, .int .u64 0, .int .i64 0, .int .u64 0, .string ByteArray.empty, .int .i64 0, .slice none 0 0] 39)
        have Zv7 := hpN z4 (.cells #[.int .i64 0, .int .u32 0, .int .i64 0, .int .i64 0, .bool false, .int .u32 0, .int .i64 0, .int .i64 0, .int .i64 0, .int .i64 0, .slice none 0 0, .slice none 0 0, .int .i64 0, .int .i64 0, .int .i64 0, .int .u64 0, .bool false, .int .i64 0, .int .i64 0, .slice none 0 0, .slice none 0 0, .int .i64 0, .int .i64 0, .int .i64 0, .int .u64 0, .bool false, .int .i64 0, .string ByteArray.empty, .int .u64 0, .int .i64 0, .int .u64 0, .string ByteArray.empty, .int .i64 0, .slice none 0 0] 39) rfl
        generalize z4.alloc (.cells #[.int .i64 0, .int .u32 0, .int .i64 0, .int .i64 0, .bool false, .int .u32 0, .int .i64 0, .int .i64 0, .int .i64 0, .int .i64 0, .slice none 0 0, .slice none 0 0, .int .i64 0, .int .i64 0, .int .i64 0, .int .u64 0, .bool false, .int .i64 0, .int .i64 0, .slice none 0 0, .slice none 0 0, .int .i64 0, .int .i64 0, .int .i64 0, .int .u64 0, .bool false, .int .i64 0, .string ByteArray.empty, .int .u64 0, .int .i64 0, .int .u64 0, .string ByteArray.empty, .int .i64 0, .slice none 0 0] 39) = z5 at Zb3 Zv7 ee ⊢
        obtain ⟨g9, hg_g9⟩ : ∃ g_, g_ = z4.heap.size := ⟨_, rfl⟩
        have n_g9_Zb3 : g2 < g9 := by rw [hg_g9]; exact lZb3
        have hB_g9 : w.heap.size ≤ g9 := by rw [hg_g9]; exact sz_g9
        rw [← hg_g9] at Zv7 ⊢
        clear hg_g9 lZb3
        refine wpList_store_row rfl 39 _ _ rfl (g9) (m.cells).toArray rfl rfl 39 _ Zv7 sizeMs (by rfl) (Ms.one _) ?_
        have N_ := setRow_heap z5 (g9) _ (m.cells).toArray _ _ Zv7
        have ee := belowSet (cs := (m.cells).toArray) ee Zv7 (by omega)
        have Zb3 := hpR Zb3 (g' := g9) (by omega) (m.cells).toArray
        clear Zv7
        have Zv7 := N_
        clear N_
        generalize z5.setRow (g9) (m.cells).toArray = z6 at Zb3 Zv7 ee ⊢
        try simp only [Act.put, List.getElem_toArray, List.getElem_cons_zero, List.getElem_cons_succ, List.setIfInBounds_toArray, List.set_cons_zero, List.set_cons_succ]
        refine wpList_nil ?_
        refine hK8 _ _ ?_
        refine wp_seq_k fun K10 hK10 => ?_
        refine wp_region_lit ?_
        with_reducible refine wpList_v (.bool false) (by kernel_rfl) (by kernel_rfl) ?_
        try simp only [Act.put, List.getElem_toArray, List.getElem_cons_zero, List.getElem_cons_succ, List.setIfInBounds_toArray, List.set_cons_zero, List.set_cons_succ]
        refine wpList_nil ?_
        refine hK10 _ _ ?_
        refine wp_seq_k fun K11 hK11 => ?_
        refine wp_seq_k fun K12 hK12 => ?_
        refine wp_region_lit ?_
        with_reducible refine wpList_v (.int .u8 ((wh : Int))) (by kernel_rfl) (by kernel_rfl) ?_
        try simp only [Act.put, List.getElem_toArray, List.getElem_cons_zero, List.getElem_cons_succ, List.setIfInBounds_toArray, List.set_cons_zero, List.set_cons_succ]
        with_reducible refine wpList_v (.int .u8 ((q : Int))) (by kernel_rfl) (by rw [← (hq : ((wh : Int)).tmod 6 = (q : Int))]; kernel_rfl) ?_
        try simp only [Act.put, List.getElem_toArray, List.getElem_cons_zero, List.getElem_cons_succ, List.setIfInBounds_toArray, List.set_cons_zero, List.set_cons_succ]
        refine wpList_nil ?_
        refine hK12 _ _ ?_
        refine wp_block ?_
        refine wp_seq_k fun K13 hK13 => ?_
        refine wp_region_lit ?_
        obtain ⟨b14, hb14⟩ : ∃ d_ : Bool, d_ = (decide ((q : Int) = 0)) := ⟨_, rfl⟩
        with_reducible refine wpList_v (.bool b14) (by kernel_rfl) (run_bin _ _ _ _ _ (.int .u8 ((q : Int))) (.int .u8 0) _ rfl (by kernel_rfl) (by kernel_rfl) (by kernel_rfl) (run_eqlI hb14.symm)) ?_
        try simp only [Act.put, List.getElem_toArray, List.getElem_cons_zero, List.getElem_cons_succ, List.setIfInBounds_toArray, List.set_cons_zero, List.set_cons_succ]
        with_reducible refine wpList_v (.bool b14) (by kernel_rfl) (by kernel_rfl) ?_
        try simp only [Act.put, List.getElem_toArray, List.getElem_cons_zero, List.getElem_cons_succ, List.setIfInBounds_toArray, List.set_cons_zero, List.set_cons_succ]
        refine wpList_nil ?_
        refine hK13 _ _ ?_
        cases b14 with
        | false =>
          refine wp_cond_false (by kernel_rfl) ?_
          refine wp_seq_k fun K15 hK15 => ?_
          refine wp_region_lit ?_
          obtain ⟨b16, hb16⟩ : ∃ d_ : Bool, d_ = (decide ((q : Int) = 1)) := ⟨_, rfl⟩
          with_reducible refine wpList_v (.bool b16) (by kernel_rfl) (run_bin _ _ _ _ _ (.int .u8 ((q : Int))) (.int .u8 1) _ rfl (by kernel_rfl) (by kernel_rfl) (by kernel_rfl) (run_eqlI hb16.symm)) ?_
          try simp only [Act.put, List.getElem_toArray, List.getElem_cons_zero, List.getElem_cons_succ, List.setIfInBounds_toArray, List.set_cons_zero, List.set_cons_succ]
          with_reducible refine wpList_v (.bool b16) (by kernel_rfl) (by kernel_rfl) ?_
          try simp only [Act.put, List.getElem_toArray, List.getElem_cons_zero, List.getElem_cons_succ, List.setIfInBounds_toArray, List.set_cons_zero, List.set_cons_succ]
          refine wpList_nil ?_
          refine hK15 _ _ ?_
          cases b16 with
          | false =>
            refine wp_cond_false (by kernel_rfl) ?_
            refine wp_seq_k fun K17 hK17 => ?_
            refine wp_region_lit ?_
            obtain ⟨b18, hb18⟩ : ∃ d_ : Bool, d_ = (decide ((q : Int) = 2)) := ⟨_, rfl⟩
            with_reducible refine wpList_v (.bool b18) (by kernel_rfl) (run_bin _ _ _ _ _ (.int .u8 ((q : Int))) (.int .u8 2) _ rfl (by kernel_rfl) (by kernel_rfl) (by kernel_rfl) (run_eqlI hb18.symm)) ?_
            try simp only [Act.put, List.getElem_toArray, List.getElem_cons_zero, List.getElem_cons_succ, List.setIfInBounds_toArray, List.set_cons_zero, List.set_cons_succ]
            with_reducible refine wpList_v (.bool b18) (by kernel_rfl) (by kernel_rfl) ?_
            try simp only [Act.put, List.getElem_toArray, List.getElem_cons_zero, List.getElem_cons_succ, List.setIfInBounds_toArray, List.set_cons_zero, List.set_cons_succ]
            refine wpList_nil ?_
            refine hK17 _ _ ?_
            cases b18 with
            | false =>
              refine wp_cond_false (by kernel_rfl) ?_
              refine wp_seq_k fun K19 hK19 => ?_
              refine wp_region_lit ?_
              obtain ⟨b20, hb20⟩ : ∃ d_ : Bool, d_ = (decide ((q : Int) = 3)) := ⟨_, rfl⟩
              with_reducible refine wpList_v (.bool b20) (by kernel_rfl) (run_bin _ _ _ _ _ (.int .u8 ((q : Int))) (.int .u8 3) _ rfl (by kernel_rfl) (by kernel_rfl) (by kernel_rfl) (run_eqlI hb20.symm)) ?_
              try simp only [Act.put, List.getElem_toArray, List.getElem_cons_zero, List.getElem_cons_succ, List.setIfInBounds_toArray, List.set_cons_zero, List.set_cons_succ]
              with_reducible refine wpList_v (.bool b20) (by kernel_rfl) (by kernel_rfl) ?_
              try simp only [Act.put, List.getElem_toArray, List.getElem_cons_zero, List.getElem_cons_succ, List.setIfInBounds_toArray, List.set_cons_zero, List.set_cons_succ]
              refine wpList_nil ?_
              refine hK19 _ _ ?_
              cases b20 with
              | false =>
                refine wp_cond_false (by kernel_rfl) ?_
                refine wp_seq_k fun K21 hK21 => ?_
                refine wp_region_lit ?_
                obtain ⟨b22, hb22⟩ : ∃ d_ : Bool, d_ = (decide ((q : Int) = 4)) := ⟨_, rfl⟩
                with_reducible refine wpList_v (.bool b22) (by kernel_rfl) (run_bin _ _ _ _ _ (.int .u8 ((q : Int))) (.int .u8 4) _ rfl (by kernel_rfl) (by kernel_rfl) (by kernel_rfl) (run_eqlI hb22.symm)) ?_
                try simp only [Act.put, List.getElem_toArray, List.getElem_cons_zero, List.getElem_cons_succ, List.setIfInBounds_toArray, List.set_cons_zero, List.set_cons_succ]
                with_reducible refine wpList_v (.bool b22) (by kernel_rfl) (by kernel_rfl) ?_
                try simp only [Act.put, List.getElem_toArray, List.getElem_cons_zero, List.getElem_cons_succ, List.setIfInBounds_toArray, List.set_cons_zero, List.set_cons_succ]
                refine wpList_nil ?_
                refine hK21 _ _ ?_
                cases b22 with
                | false =>
                  refine wp_cond_false (by kernel_rfl) ?_
                  refine wp_seq_k fun K23 hK23 => ?_
                  refine wp_region_lit ?_
                  obtain ⟨b24, hb24⟩ : ∃ d_ : Bool, d_ = (decide ((q : Int) = 5)) := ⟨_, rfl⟩
                  with_reducible refine wpList_v (.bool b24) (by kernel_rfl) (run_bin _ _ _ _ _ (.int .u8 ((q : Int))) (.int .u8 5) _ rfl (by kernel_rfl) (by kernel_rfl) (by kernel_rfl) (run_eqlI hb24.symm)) ?_
                  try simp only [Act.put, List.getElem_toArray, List.getElem_cons_zero, List.getElem_cons_succ, List.setIfInBounds_toArray, List.set_cons_zero, List.set_cons_succ]
                  with_reducible refine wpList_v (.bool b24) (by kernel_rfl) (by kernel_rfl) ?_
                  try simp only [Act.put, List.getElem_toArray, List.getElem_cons_zero, List.getElem_cons_succ, List.setIfInBounds_toArray, List.set_cons_zero, List.set_cons_succ]
                  refine wpList_nil ?_
                  refine hK23 _ _ ?_
                  cases b24 with
                  | false =>
                    exfalso
                    have qb14 := of_decide_eq_false hb14.symm
                    have qb16 := of_decide_eq_false hb16.symm
                    have qb18 := of_decide_eq_false hb18.symm
                    have qb20 := of_decide_eq_false hb20.symm
                    have qb22 := of_decide_eq_false hb22.symm
                    have qb24 := of_decide_eq_false hb24.symm
                    omega
                  | true =>
                    have eb24 : (q : Int) = 5 := of_decide_eq_true hb24.symm
                    refine wp_cond_true (by kernel_rfl) ?_
                    refine wp_seq_k fun K25 hK25 => ?_
                    refine wp_region_lit ?_
                    with_reducible refine wpList_v (.int .u64 ((x : Int))) (by kernel_rfl) (by kernel_rfl) ?_
                    try simp only [Act.put, List.getElem_toArray, List.getElem_cons_zero, List.getElem_cons_succ, List.setIfInBounds_toArray, List.set_cons_zero, List.set_cons_succ]
                    with_reducible refine wpList_v (.int .u8 ((b8.toNat : Int))) (by kernel_rfl) (by rw [← (hb8 : IntKind.u8.wrap ((x : Int)) = (b8.toNat : Int))]; kernel_rfl) ?_
                    try simp only [Act.put, List.getElem_toArray, List.getElem_cons_zero, List.getElem_cons_succ, List.setIfInBounds_toArray, List.set_cons_zero, List.set_cons_succ]
                    with_reducible refine wpList_w (.slice (some ⟨z6.heap.size, 0, none⟩) 1 1) (z6.alloc (.cells #[.int .u8 ((b8.toNat : Int))] 5)) (by kernel_rfl) (by kernel_rfl) ?_
                    try simp only [Act.put, List.getElem_toArray, List.getElem_cons_zero, List.getElem_cons_succ, List.setIfInBounds_toArray, List.set_cons_zero, List.set_cons_succ]
                    have sz_g26 := ee.size
                    have lZb3 := (Array.getElem?_eq_some_iff.1 Zb3).1
                    have lZv7 := (Array.getElem?_eq_some_iff.1 Zv7).1
                    have sz_ := ee.size
                    have Zb3 := hpA Zb3 (.cells #[.int .u8 ((b8.toNat : Int))] 5)
                    have Zv7 := hpA Zv7 (.cells #[.int .u8 ((b8.toNat : Int))] 5)
                    have ee := ee.alloc ee.size (.cells #[.int .u8 ((b8.toNat : Int))] 5)
                    have Zs86 := hpN z6 (.cells #[.int .u8 ((b8.toNat : Int))] 5) rfl
                    generalize z6.alloc (.cells #[.int .u8 ((b8.toNat : Int))] 5) = z7 at Zb3 Zv7 Zs86 ee ⊢
                    obtain ⟨g26, hg_g26⟩ : ∃ g_, g_ = z6.heap.size := ⟨_, rfl⟩
                    have n_g26_Zb3 : g2 < g26 := by rw [hg_g26]; exact lZb3
                    have n_g26_Zv7 : g9 < g26 := by rw [hg_g26]; exact lZv7
                    have hB_g26 : w.heap.size ≤ g26 := by rw [hg_g26]; exact sz_g26
                    rw [← hg_g26] at Zs86 ⊢
                    clear hg_g26 lZb3 lZv7
                    with_reducible refine wpList_v (.pointer (some ⟨g9, 33, none⟩)) (by kernel_rfl) (by kernel_rfl) ?_
                    try simp only [Act.put, List.getElem_toArray, List.getElem_cons_zero, List.getElem_cons_succ, List.setIfInBounds_toArray, List.set_cons_zero, List.set_cons_succ]
                    refine wpList_storeC 37 (g9) (33) (.slice (some ⟨g26, 0, none⟩) 1 1) ([.slice (some ⟨g26, 0, none⟩) 1 1]) (rowThere Zv7 (Nat.le_of_ble_eq_true (by kernel_rfl))) (by kernel_rfl) (by kernel_rfl) (all1 rfl) _ _ (by kernel_rfl) rfl (by kernel_rfl) (by kernel_rfl) ?_
                    have N_ : (z7.setCells (g9) (33) ([.slice (some ⟨g26, 0, none⟩) 1 1])).heap[g9]? = some (.cells (({ m with dt := [b8], D := some ⟨g26, 0, none⟩, dc := 1 } : Ms).cells).toArray 39) := hpC ([.slice (some ⟨g26, 0, none⟩) 1 1]) (33) _ z7 Zv7
                    have ee := belowC (g := g9) (by omega) ([.slice (some ⟨g26, 0, none⟩) 1 1]) (33) z7 ee
                    have Zb3 := hpCo (g' := g9) (by omega) ([.slice (some ⟨g26, 0, none⟩) 1 1]) (33) z7 Zb3
                    have Zs86 := hpCo (g' := g9) (by omega) ([.slice (some ⟨g26, 0, none⟩) 1 1]) (33) z7 Zs86
                    clear Zv7
                    have Zv7 := N_
                    clear N_
                    skip
                    generalize z7.setCells (g9) (33) ([.slice (some ⟨g26, 0, none⟩) 1 1]) = z8 at Zb3 Zv7 Zs86 ee ⊢
                    try simp only [Act.put, List.getElem_toArray, List.getElem_cons_zero, List.getElem_cons_succ, List.setIfInBounds_toArray, List.set_cons_zero, List.set_cons_succ]
                    refine wpList_nil ?_
                    refine hK25 _ _ ?_
                    refine wp_region_lit ?_
                    with_reducible refine wpList_v (.pointer (some ⟨g2, 0, none⟩)) (by kernel_rfl) (by kernel_rfl) ?_
                    try simp only [Act.put, List.getElem_toArray, List.getElem_cons_zero, List.getElem_cons_succ, List.setIfInBounds_toArray, List.set_cons_zero, List.set_cons_succ]
                    refine wpList_load1 (.int .i64 m.kd) ⟨g2, 0, none⟩ 3 _ _ (rowCell Zb3 (0) rfl) (by kernel_rfl) rfl (by kernel_rfl) Tryd.underlying3 rfl ?_
                    try simp only [Act.put, List.getElem_toArray, List.getElem_cons_zero, List.getElem_cons_succ, List.setIfInBounds_toArray, List.set_cons_zero, List.set_cons_succ]
                    obtain ⟨b27, hb27⟩ : ∃ d_ : Bool, d_ = (decide (m.kd = 15)) := ⟨_, rfl⟩
                    with_reducible refine wpList_v (.bool b27) (by kernel_rfl) (run_bin _ _ _ _ _ (.int .i64 m.kd) (.int .i64 15) _ rfl (by kernel_rfl) (by kernel_rfl) (by kernel_rfl) (run_eqlI hb27.symm)) ?_
                    try simp only [Act.put, List.getElem_toArray, List.getElem_cons_zero, List.getElem_cons_succ, List.setIfInBounds_toArray, List.set_cons_zero, List.set_cons_succ]
                    with_reducible refine wpList_v (.bool b27) (by kernel_rfl) (by kernel_rfl) ?_
                    try simp only [Act.put, List.getElem_toArray, List.getElem_cons_zero, List.getElem_cons_succ, List.setIfInBounds_toArray, List.set_cons_zero, List.set_cons_succ]
                    refine wpList_nil ?_
                    refine inBlock_normal ?_
                    refine hK11 _ _ ?_
                    refine wp_seq_k fun K28 hK28 => ?_
                    refine wp_region_lit ?_
                    with_reducible refine wpList_v (.bool b27) (by kernel_rfl) (by kernel_rfl) ?_
                    try simp only [Act.put, List.getElem_toArray, List.getElem_cons_zero, List.getElem_cons_succ, List.setIfInBounds_toArray, List.set_cons_zero, List.set_cons_succ]
                    with_reducible refine wpList_v (.bool b27) (by kernel_rfl) (by kernel_rfl) ?_
                    try simp only [Act.put, List.getElem_toArray, List.getElem_cons_zero, List.getElem_cons_succ, List.setIfInBounds_toArray, List.set_cons_zero, List.set_cons_succ]
                    cases b27 with
                    | false =>
                      refine wpList_load_g (by kernel_rfl) 39 _ rfl (g9) (0) (by kernel_rfl) (({ m with dt := [b8], D := some ⟨g26, 0, none⟩, dc := 1 } : Ms).cells) _ (rowAt Zv7) Tryd.underlying39 rfl sizeMs ?_
                      try simp only [Act.put, List.getElem_toArray, List.getElem_cons_zero, List.getElem_cons_succ, List.setIfInBounds_toArray, List.set_cons_zero, List.set_cons_succ]
                      refine wpList_fcall 13 #[.agg (({ m with dt := [b8], D := some ⟨g26, 0, none⟩, dc := 1 } : Ms).cells).toArray] (formedN ({ m with dt := [b8], D := some ⟨g26, 0, none⟩, dc := 1 } : Ms) z8 _ (Nat.le_refl _) ({ (ok.below ee (Nat.le_refl _)).more ee.size with d := rdOne Zs86 , dl := Nat.le_refl _, dm := by simp [maxLen], dn := fun h => by cases h }) (hT.below ee) (z_dt ({ m with dt := [b8], D := some ⟨g26, 0, none⟩, dc := 1 } : Ms) (by have kb27 := of_decide_eq_false hb27.symm; show m.kd ≠ 15; omega) (by show [b8] ≠ []; simp))) (by kernel_rfl) (by kernel_rfl) ?_
                      rintro e z9 ⟨rfl, t⟩
                      refine ⟨_, rfl, ?_⟩
                      have Zb3 := hpB Zb3 t
                      have Zv7 := hpB Zv7 t
                      have Zs86 := hpB Zs86 t
                      have ee := ee.trans (t.mono ee.size)
                      clear t
                      try simp only [Act.put, List.getElem_toArray, List.getElem_cons_zero, List.getElem_cons_succ, List.setIfInBounds_toArray, List.set_cons_zero, List.set_cons_succ]
                      with_reducible refine wpList_v (.bool true) (by kernel_rfl) (by kernel_rfl) ?_
                      try simp only [Act.put, List.getElem_toArray, List.getElem_cons_zero, List.getElem_cons_succ, List.setIfInBounds_toArray, List.set_cons_zero, List.set_cons_succ]
                      with_reducible refine wpList_v (.bool true) (by kernel_rfl) (by kernel_rfl) ?_
                      try simp only [Act.put, List.getElem_toArray, List.getElem_cons_zero, List.getElem_cons_succ, List.setIfInBounds_toArray, List.set_cons_zero, List.set_cons_succ]
                      with_reducible refine wpList_v (.bool true) (by kernel_rfl) (by kernel_rfl) ?_
                      try simp only [Act.put, List.getElem_toArray, List.getElem_cons_zero, List.getElem_cons_succ, List.setIfInBounds_toArray, List.set_cons_zero, List.set_cons_succ]
                      refine wpList_nil ?_
                      refine hK28 _ _ ?_
                      refine wp_ret ?_
                      exact bodyPost_ret (v := .bool true) (by kernel_rfl) rfl ⟨rfl, ee⟩
                    | true =>
                      have eb27 : m.kd = 15 := of_decide_eq_true hb27.symm
                      with_reducible refine wpList_skip (by kernel_rfl) ?_
                      try simp only [Act.put, List.getElem_toArray, List.getElem_cons_zero, List.getElem_cons_succ, List.setIfInBounds_toArray, List.set_cons_zero, List.set_cons_succ]
                      with_reducible refine wpList_skip (by kernel_rfl) ?_
                      try simp only [Act.put, List.getElem_toArray, List.getElem_cons_zero, List.getElem_cons_succ, List.setIfInBounds_toArray, List.set_cons_zero, List.set_cons_succ]
                      with_reducible refine wpList_skip (by kernel_rfl) ?_
                      try simp only [Act.put, List.getElem_toArray, List.getElem_cons_zero, List.getElem_cons_succ, List.setIfInBounds_toArray, List.set_cons_zero, List.set_cons_succ]
                      with_reducible refine wpList_v (.bool true) (by kernel_rfl) (by kernel_rfl) ?_
                      try simp only [Act.put, List.getElem_toArray, List.getElem_cons_zero, List.getElem_cons_succ, List.setIfInBounds_toArray, List.set_cons_zero, List.set_cons_succ]
                      with_reducible refine wpList_v (.bool true) (by kernel_rfl) (by kernel_rfl) ?_
                      try simp only [Act.put, List.getElem_toArray, List.getElem_cons_zero, List.getElem_cons_succ, List.setIfInBounds_toArray, List.set_cons_zero, List.set_cons_succ]
                      refine wpList_nil ?_
                      refine hK28 _ _ ?_
                      refine wp_ret ?_
                      exact bodyPost_ret (v := .bool true) (by kernel_rfl) rfl ⟨rfl, ee⟩
                | true =>
                  have eb22 : (q : Int) = 4 := of_decide_eq_true hb22.symm
                  refine wp_cond_true (by kernel_rfl) ?_
                  refine wp_seq_k fun K29 hK29 => ?_
                  refine wp_region_lit ?_
                  with_reducible refine wpList_v (.int .u64 ((x : Int))) (by kernel_rfl) (by kernel_rfl) ?_
                  try simp only [Act.put, List.getElem_toArray, List.getElem_cons_zero, List.getElem_cons_succ, List.setIfInBounds_toArray, List.set_cons_zero, List.set_cons_succ]
                  with_reducible refine wpList_v (.int .u64 ((((x : Int)).tmod 1000))) (by kernel_rfl) (by kernel_rfl) ?_
                  try simp only [Act.put, List.getElem_toArray, List.getElem_cons_zero, List.getElem_cons_succ, List.setIfInBounds_toArray, List.set_cons_zero, List.set_cons_succ]
                  with_reducible refine wpList_v (.int .i64 ((IntKind.i64.wrap ((((x : Int)).tmod 1000))))) (by kernel_rfl) (by kernel_rfl) ?_
                  try simp only [Act.put, List.getElem_toArray, List.getElem_cons_zero, List.getElem_cons_succ, List.setIfInBounds_toArray, List.set_cons_zero, List.set_cons_succ]
                  with_reducible refine wpList_v (.int .i64 ((r3 : Int))) (by kernel_rfl) (by rw [← (hr3 : IntKind.i64.wrap (1 + (IntKind.i64.wrap ((((x : Int)).tmod 1000)))) = (r3 : Int))]; kernel_rfl) ?_
                  try simp only [Act.put, List.getElem_toArray, List.getElem_cons_zero, List.getElem_cons_succ, List.setIfInBounds_toArray, List.set_cons_zero, List.set_cons_succ]
                  with_reducible refine wpList_v (.pointer (some ⟨g9, 26, none⟩)) (by kernel_rfl) (by kernel_rfl) ?_
                  try simp only [Act.put, List.getElem_toArray, List.getElem_cons_zero, List.getElem_cons_succ, List.setIfInBounds_toArray, List.set_cons_zero, List.set_cons_succ]
                  refine wpList_storeC 3 (g9) (26) (.int .i64 ((r3 : Int))) ([.int .i64 ((r3 : Int))]) (rowThere Zv7 (Nat.le_of_ble_eq_true (by kernel_rfl))) (by kernel_rfl) (by kernel_rfl) (all1 rfl) _ _ (by kernel_rfl) rfl (by kernel_rfl) (by kernel_rfl) ?_
                  have N_ : (z6.setCells (g9) (26) ([.int .i64 ((r3 : Int))])).heap[g9]? = some (.cells (({ m with nu := (r3 : Int) } : Ms).cells).toArray 39) := hpC ([.int .i64 ((r3 : Int))]) (26) _ z6 Zv7
                  have ee := belowC (g := g9) (by omega) ([.int .i64 ((r3 : Int))]) (26) z6 ee
                  have Zb3 := hpCo (g' := g9) (by omega) ([.int .i64 ((r3 : Int))]) (26) z6 Zb3
                  clear Zv7
                  have Zv7 := N_
                  clear N_
                  skip
                  generalize z6.setCells (g9) (26) ([.int .i64 ((r3 : Int))]) = z7 at Zb3 Zv7 ee ⊢
                  try simp only [Act.put, List.getElem_toArray, List.getElem_cons_zero, List.getElem_cons_succ, List.setIfInBounds_toArray, List.set_cons_zero, List.set_cons_succ]
                  refine wpList_nil ?_
                  refine hK29 _ _ ?_
                  refine wp_region_lit ?_
                  with_reducible refine wpList_v (.pointer (some ⟨g2, 0, none⟩)) (by kernel_rfl) (by kernel_rfl) ?_
                  try simp only [Act.put, List.getElem_toArray, List.getElem_cons_zero, List.getElem_cons_succ, List.setIfInBounds_toArray, List.set_cons_zero, List.set_cons_succ]
                  refine wpList_load1 (.int .i64 m.kd) ⟨g2, 0, none⟩ 3 _ _ (rowCell Zb3 (0) rfl) (by kernel_rfl) rfl (by kernel_rfl) Tryd.underlying3 rfl ?_
                  try simp only [Act.put, List.getElem_toArray, List.getElem_cons_zero, List.getElem_cons_succ, List.setIfInBounds_toArray, List.set_cons_zero, List.set_cons_succ]
                  obtain ⟨b30, hb30⟩ : ∃ d_ : Bool, d_ = (decide (m.kd ≥ 12)) := ⟨_, rfl⟩
                  with_reducible refine wpList_v (.bool b30) (by kernel_rfl) (run_bin _ _ _ _ _ (.int .i64 m.kd) (.int .i64 12) _ rfl (by kernel_rfl) (by kernel_rfl) (by kernel_rfl) (run_geqI hb30.symm)) ?_
                  try simp only [Act.put, List.getElem_toArray, List.getElem_cons_zero, List.getElem_cons_succ, List.setIfInBounds_toArray, List.set_cons_zero, List.set_cons_succ]
                  with_reducible refine wpList_v (.bool b30) (by kernel_rfl) (by kernel_rfl) ?_
                  try simp only [Act.put, List.getElem_toArray, List.getElem_cons_zero, List.getElem_cons_succ, List.setIfInBounds_toArray, List.set_cons_zero, List.set_cons_succ]
                  cases b30 with
                  | false =>
                    with_reducible refine wpList_skip (by kernel_rfl) ?_
                    try simp only [Act.put, List.getElem_toArray, List.getElem_cons_zero, List.getElem_cons_succ, List.setIfInBounds_toArray, List.set_cons_zero, List.set_cons_succ]
                    with_reducible refine wpList_skip (by kernel_rfl) ?_
                    try simp only [Act.put, List.getElem_toArray, List.getElem_cons_zero, List.getElem_cons_succ, List.setIfInBounds_toArray, List.set_cons_zero, List.set_cons_succ]
                    with_reducible refine wpList_skip (by kernel_rfl) ?_
                    try simp only [Act.put, List.getElem_toArray, List.getElem_cons_zero, List.getElem_cons_succ, List.setIfInBounds_toArray, List.set_cons_zero, List.set_cons_succ]
                    with_reducible refine wpList_v (.bool false) (by kernel_rfl) (by kernel_rfl) ?_
                    try simp only [Act.put, List.getElem_toArray, List.getElem_cons_zero, List.getElem_cons_succ, List.setIfInBounds_toArray, List.set_cons_zero, List.set_cons_succ]
                    with_reducible refine wpList_v (.bool false) (by kernel_rfl) (by kernel_rfl) ?_
                    try simp only [Act.put, List.getElem_toArray, List.getElem_cons_zero, List.getElem_cons_succ, List.setIfInBounds_toArray, List.set_cons_zero, List.set_cons_succ]
                    refine wpList_nil ?_
                    refine inBlock_normal ?_
                    refine hK11 _ _ ?_
                    refine wp_seq_k fun K31 hK31 => ?_
                    refine wp_region_lit ?_
                    with_reducible refine wpList_v (.bool false) (by kernel_rfl) (by kernel_rfl) ?_
                    try simp only [Act.put, List.getElem_toArray, List.getElem_cons_zero, List.getElem_cons_succ, List.setIfInBounds_toArray, List.set_cons_zero, List.set_cons_succ]
                    with_reducible refine wpList_v (.bool false) (by kernel_rfl) (by kernel_rfl) ?_
                    try simp only [Act.put, List.getElem_toArray, List.getElem_cons_zero, List.getElem_cons_succ, List.setIfInBounds_toArray, List.set_cons_zero, List.set_cons_succ]
                    refine wpList_load_g (by kernel_rfl) 39 _ rfl (g9) (0) (by kernel_rfl) (({ m with nu := (r3 : Int) } : Ms).cells) _ (rowAt Zv7) Tryd.underlying39 rfl sizeMs ?_
                    try simp only [Act.put, List.getElem_toArray, List.getElem_cons_zero, List.getElem_cons_succ, List.setIfInBounds_toArray, List.set_cons_zero, List.set_cons_succ]
                    refine wpList_fcall 13 #[.agg (({ m with nu := (r3 : Int) } : Ms).cells).toArray] (formedN ({ m with nu := (r3 : Int) } : Ms) z7 w.heap.size ee.size ({ (ok.below ee (Nat.le_refl _)) with br := ok.br }) (hT.below ee) (z_nu ({ m with nu := (r3 : Int) } : Ms) (by have kb30 := of_decide_eq_false hb30.symm; show ¬ (12 ≤ m.kd ∧ m.kd ≤ 14); omega) (by show (r3 : Int) ≠ 0; omega))) (by kernel_rfl) (by kernel_rfl) ?_
                    rintro e z8 ⟨rfl, t⟩
                    refine ⟨_, rfl, ?_⟩
                    have Zb3 := hpB Zb3 t
                    have Zv7 := hpB Zv7 t
                    have ee := ee.trans (t.mono ee.size)
                    clear t
                    try simp only [Act.put, List.getElem_toArray, List.getElem_cons_zero, List.getElem_cons_succ, List.setIfInBounds_toArray, List.set_cons_zero, List.set_cons_succ]
                    with_reducible refine wpList_v (.bool true) (by kernel_rfl) (by kernel_rfl) ?_
                    try simp only [Act.put, List.getElem_toArray, List.getElem_cons_zero, List.getElem_cons_succ, List.setIfInBounds_toArray, List.set_cons_zero, List.set_cons_succ]
                    with_reducible refine wpList_v (.bool true) (by kernel_rfl) (by kernel_rfl) ?_
                    try simp only [Act.put, List.getElem_toArray, List.getElem_cons_zero, List.getElem_cons_succ, List.setIfInBounds_toArray, List.set_cons_zero, List.set_cons_succ]
                    with_reducible refine wpList_v (.bool true) (by kernel_rfl) (by kernel_rfl) ?_
                    try simp only [Act.put, List.getElem_toArray, List.getElem_cons_zero, List.getElem_cons_succ, List.setIfInBounds_toArray, List.set_cons_zero, List.set_cons_succ]
                    refine wpList_nil ?_
                    refine hK31 _ _ ?_
                    refine wp_ret ?_
                    exact bodyPost_ret (v := .bool true) (by kernel_rfl) rfl ⟨rfl, ee⟩
                  | true =>
                    with_reducible refine wpList_v (.pointer (some ⟨g2, 0, none⟩)) (by kernel_rfl) (by kernel_rfl) ?_
                    try simp only [Act.put, List.getElem_toArray, List.getElem_cons_zero, List.getElem_cons_succ, List.setIfInBounds_toArray, List.set_cons_zero, List.set_cons_succ]
                    refine wpList_load1 (.int .i64 m.kd) ⟨g2, 0, none⟩ 3 _ _ (rowCell Zb3 (0) rfl) (by kernel_rfl) rfl (by kernel_rfl) Tryd.underlying3 rfl ?_
                    try simp only [Act.put, List.getElem_toArray, List.getElem_cons_zero, List.getElem_cons_succ, List.setIfInBounds_toArray, List.set_cons_zero, List.set_cons_succ]
                    obtain ⟨b32, hb32⟩ : ∃ d_ : Bool, d_ = (decide (m.kd ≤ 14)) := ⟨_, rfl⟩
                    with_reducible refine wpList_v (.bool b32) (by kernel_rfl) (run_bin _ _ _ _ _ (.int .i64 m.kd) (.int .i64 14) _ rfl (by kernel_rfl) (by kernel_rfl) (by kernel_rfl) (run_leqI hb32.symm)) ?_
                    try simp only [Act.put, List.getElem_toArray, List.getElem_cons_zero, List.getElem_cons_succ, List.setIfInBounds_toArray, List.set_cons_zero, List.set_cons_succ]
                    with_reducible refine wpList_v (.bool b32) (by kernel_rfl) (by kernel_rfl) ?_
                    try simp only [Act.put, List.getElem_toArray, List.getElem_cons_zero, List.getElem_cons_succ, List.setIfInBounds_toArray, List.set_cons_zero, List.set_cons_succ]
                    with_reducible refine wpList_v (.bool b32) (by kernel_rfl) (by kernel_rfl) ?_
                    try simp only [Act.put, List.getElem_toArray, List.getElem_cons_zero, List.getElem_cons_succ, List.setIfInBounds_toArray, List.set_cons_zero, List.set_cons_succ]
                    refine wpList_nil ?_
                    refine inBlock_normal ?_
                    refine hK11 _ _ ?_
                    refine wp_seq_k fun K33 hK33 => ?_
                    refine wp_region_lit ?_
                    with_reducible refine wpList_v (.bool b32) (by kernel_rfl) (by kernel_rfl) ?_
                    try simp only [Act.put, List.getElem_toArray, List.getElem_cons_zero, List.getElem_cons_succ, List.setIfInBounds_toArray, List.set_cons_zero, List.set_cons_succ]
                    with_reducible refine wpList_v (.bool b32) (by kernel_rfl) (by kernel_rfl) ?_
                    try simp only [Act.put, List.getElem_toArray, List.getElem_cons_zero, List.getElem_cons_succ, List.setIfInBounds_toArray, List.set_cons_zero, List.set_cons_succ]
                    cases b32 with
                    | false =>
                      refine wpList_load_g (by kernel_rfl) 39 _ rfl (g9) (0) (by kernel_rfl) (({ m with nu := (r3 : Int) } : Ms).cells) _ (rowAt Zv7) Tryd.underlying39 rfl sizeMs ?_
                      try simp only [Act.put, List.getElem_toArray, List.getElem_cons_zero, List.getElem_cons_succ, List.setIfInBounds_toArray, List.set_cons_zero, List.set_cons_succ]
                      refine wpList_fcall 13 #[.agg (({ m with nu := (r3 : Int) } : Ms).cells).toArray] (formedN ({ m with nu := (r3 : Int) } : Ms) z7 w.heap.size ee.size ({ (ok.below ee (Nat.le_refl _)) with br := ok.br }) (hT.below ee) (z_nu ({ m with nu := (r3 : Int) } : Ms) (by have kb32 := of_decide_eq_false hb32.symm; show ¬ (12 ≤ m.kd ∧ m.kd ≤ 14); omega) (by show (r3 : Int) ≠ 0; omega))) (by kernel_rfl) (by kernel_rfl) ?_
                      rintro e z8 ⟨rfl, t⟩
                      refine ⟨_, rfl, ?_⟩
                      have Zb3 := hpB Zb3 t
                      have Zv7 := hpB Zv7 t
                      have ee := ee.trans (t.mono ee.size)
                      clear t
                      try simp only [Act.put, List.getElem_toArray, List.getElem_cons_zero, List.getElem_cons_succ, List.setIfInBounds_toArray, List.set_cons_zero, List.set_cons_succ]
                      with_reducible refine wpList_v (.bool true) (by kernel_rfl) (by kernel_rfl) ?_
                      try simp only [Act.put, List.getElem_toArray, List.getElem_cons_zero, List.getElem_cons_succ, List.setIfInBounds_toArray, List.set_cons_zero, List.set_cons_succ]
                      with_reducible refine wpList_v (.bool true) (by kernel_rfl) (by kernel_rfl) ?_
                      try simp only [Act.put, List.getElem_toArray, List.getElem_cons_zero, List.getElem_cons_succ, List.setIfInBounds_toArray, List.set_cons_zero, List.set_cons_succ]
                      with_reducible refine wpList_v (.bool true) (by kernel_rfl) (by kernel_rfl) ?_
                      try simp only [Act.put, List.getElem_toArray, List.getElem_cons_zero, List.getElem_cons_succ, List.setIfInBounds_toArray, List.set_cons_zero, List.set_cons_succ]
                      refine wpList_nil ?_
                      refine hK33 _ _ ?_
                      refine wp_ret ?_
                      exact bodyPost_ret (v := .bool true) (by kernel_rfl) rfl ⟨rfl, ee⟩
                    | true =>
                      with_reducible refine wpList_skip (by kernel_rfl) ?_
                      try simp only [Act.put, List.getElem_toArray, List.getElem_cons_zero, List.getElem_cons_succ, List.setIfInBounds_toArray, List.set_cons_zero, List.set_cons_succ]
                      with_reducible refine wpList_skip (by kernel_rfl) ?_
                      try simp only [Act.put, List.getElem_toArray, List.getElem_cons_zero, List.getElem_cons_succ, List.setIfInBounds_toArray, List.set_cons_zero, List.set_cons_succ]
                      with_reducible refine wpList_skip (by kernel_rfl) ?_
                      try simp only [Act.put, List.getElem_toArray, List.getElem_cons_zero, List.getElem_cons_succ, List.setIfInBounds_toArray, List.set_cons_zero, List.set_cons_succ]
                      with_reducible refine wpList_v (.bool true) (by kernel_rfl) (by kernel_rfl) ?_
                      try simp only [Act.put, List.getElem_toArray, List.getElem_cons_zero, List.getElem_cons_succ, List.setIfInBounds_toArray, List.set_cons_zero, List.set_cons_succ]
                      with_reducible refine wpList_v (.bool true) (by kernel_rfl) (by kernel_rfl) ?_
                      try simp only [Act.put, List.getElem_toArray, List.getElem_cons_zero, List.getElem_cons_succ, List.setIfInBounds_toArray, List.set_cons_zero, List.set_cons_succ]
                      refine wpList_nil ?_
                      refine hK33 _ _ ?_
                      refine wp_ret ?_
                      exact bodyPost_ret (v := .bool true) (by kernel_rfl) rfl ⟨rfl, ee⟩
              | true =>
                have eb20 : (q : Int) = 3 := of_decide_eq_true hb20.symm
                refine wp_cond_true (by kernel_rfl) ?_
                refine wp_seq_k fun K34 hK34 => ?_
                refine wp_region_lit ?_
                with_reducible refine wpList_v (.int .u64 ((x : Int))) (by kernel_rfl) (by kernel_rfl) ?_
                try simp only [Act.put, List.getElem_toArray, List.getElem_cons_zero, List.getElem_cons_succ, List.setIfInBounds_toArray, List.set_cons_zero, List.set_cons_succ]
                with_reducible refine wpList_v (.int .u64 ((((x : Int)).tmod 1000))) (by kernel_rfl) (by kernel_rfl) ?_
                try simp only [Act.put, List.getElem_toArray, List.getElem_cons_zero, List.getElem_cons_succ, List.setIfInBounds_toArray, List.set_cons_zero, List.set_cons_succ]
                with_reducible refine wpList_v (.int .i64 ((IntKind.i64.wrap ((((x : Int)).tmod 1000))))) (by kernel_rfl) (by kernel_rfl) ?_
                try simp only [Act.put, List.getElem_toArray, List.getElem_cons_zero, List.getElem_cons_succ, List.setIfInBounds_toArray, List.set_cons_zero, List.set_cons_succ]
                with_reducible refine wpList_v (.int .i64 ((r3 : Int))) (by kernel_rfl) (by rw [← (hr3 : IntKind.i64.wrap (1 + (IntKind.i64.wrap ((((x : Int)).tmod 1000)))) = (r3 : Int))]; kernel_rfl) ?_
                try simp only [Act.put, List.getElem_toArray, List.getElem_cons_zero, List.getElem_cons_succ, List.setIfInBounds_toArray, List.set_cons_zero, List.set_cons_succ]
                with_reducible refine wpList_v (.agg ([.int .i64 0, .int .i64 0, .int .i64 0, .slice none 0 0, .slice none 0 0, .int .i64 0, .int .i64 0, .int .i64 ((r3 : Int)), .int .u64 0, .bool false]).toArray) (by kernel_rfl) (by kernel_rfl) ?_
                try simp only [Act.put, List.getElem_toArray, List.getElem_cons_zero, List.getElem_cons_succ, List.setIfInBounds_toArray, List.set_cons_zero, List.set_cons_succ]
                with_reducible refine wpList_v (.pointer (some ⟨g9, 7, none⟩)) (by kernel_rfl) (by kernel_rfl) ?_
                try simp only [Act.put, List.getElem_toArray, List.getElem_cons_zero, List.getElem_cons_succ, List.setIfInBounds_toArray, List.set_cons_zero, List.set_cons_succ]
                refine wpList_storeC 33 (g9) (7) (.agg ([.int .i64 0, .int .i64 0, .int .i64 0, .slice none 0 0, .slice none 0 0, .int .i64 0, .int .i64 0, .int .i64 ((r3 : Int)), .int .u64 0, .bool false]).toArray) ([.int .i64 0, .int .i64 0, .int .i64 0, .slice none 0 0, .slice none 0 0, .int .i64 0, .int .i64 0, .int .i64 ((r3 : Int)), .int .u64 0, .bool false]) (rowThere Zv7 (Nat.le_of_ble_eq_true (by kernel_rfl))) (by kernel_rfl) sizeCm (allOf (by kernel_rfl)) _ _ (by kernel_rfl) rfl (by kernel_rfl) (by kernel_rfl) ?_
                have N_ : (z6.setCells (g9) (7) ([.int .i64 0, .int .i64 0, .int .i64 0, .slice none 0 0, .slice none 0 0, .int .i64 0, .int .i64 0, .int .i64 ((r3 : Int)), .int .u64 0, .bool false])).heap[g9]? = some (.cells (({ m with c := { Cm.zero with g := (r3 : Int) } } : Ms).cells).toArray 39) := hpC ([.int .i64 0, .int .i64 0, .int .i64 0, .slice none 0 0, .slice none 0 0, .int .i64 0, .int .i64 0, .int .i64 ((r3 : Int)), .int .u64 0, .bool false]) (7) _ z6 Zv7
                have ee := belowC (g := g9) (by omega) ([.int .i64 0, .int .i64 0, .int .i64 0, .slice none 0 0, .slice none 0 0, .int .i64 0, .int .i64 0, .int .i64 ((r3 : Int)), .int .u64 0, .bool false]) (7) z6 ee
                have Zb3 := hpCo (g' := g9) (by omega) ([.int .i64 0, .int .i64 0, .int .i64 0, .slice none 0 0, .slice none 0 0, .int .i64 0, .int .i64 0, .int .i64 ((r3 : Int)), .int .u64 0, .bool false]) (7) z6 Zb3
                clear Zv7
                have Zv7 := N_
                clear N_
                skip
                generalize z6.setCells (g9) (7) ([.int .i64 0, .int .i64 0, .int .i64 0, .slice none 0 0, .slice none 0 0, .int .i64 0, .int .i64 0, .int .i64 ((r3 : Int)), .int .u64 0, .bool false]) = z7 at Zb3 Zv7 ee ⊢
                try simp only [Act.put, List.getElem_toArray, List.getElem_cons_zero, List.getElem_cons_succ, List.setIfInBounds_toArray, List.set_cons_zero, List.set_cons_succ]
                refine wpList_nil ?_
                refine hK34 _ _ ?_
                refine wp_region_lit ?_
                with_reducible refine wpList_v (.bool false) (by kernel_rfl) (by kernel_rfl) ?_
                try simp only [Act.put, List.getElem_toArray, List.getElem_cons_zero, List.getElem_cons_succ, List.setIfInBounds_toArray, List.set_cons_zero, List.set_cons_succ]
                refine wpList_nil ?_
                refine inBlock_normal ?_
                refine hK11 _ _ ?_
                refine wp_seq_k fun K35 hK35 => ?_
                refine wp_region_lit ?_
                with_reducible refine wpList_v (.bool false) (by kernel_rfl) (by kernel_rfl) ?_
                try simp only [Act.put, List.getElem_toArray, List.getElem_cons_zero, List.getElem_cons_succ, List.setIfInBounds_toArray, List.set_cons_zero, List.set_cons_succ]
                with_reducible refine wpList_v (.bool false) (by kernel_rfl) (by kernel_rfl) ?_
                try simp only [Act.put, List.getElem_toArray, List.getElem_cons_zero, List.getElem_cons_succ, List.setIfInBounds_toArray, List.set_cons_zero, List.set_cons_succ]
                refine wpList_load_g (by kernel_rfl) 39 _ rfl (g9) (0) (by kernel_rfl) (({ m with c := { Cm.zero with g := (r3 : Int) } } : Ms).cells) _ (rowAt Zv7) Tryd.underlying39 rfl sizeMs ?_
                try simp only [Act.put, List.getElem_toArray, List.getElem_cons_zero, List.getElem_cons_succ, List.setIfInBounds_toArray, List.set_cons_zero, List.set_cons_succ]
                refine wpList_fcall 13 #[.agg (({ m with c := { Cm.zero with g := (r3 : Int) } } : Ms).cells).toArray] (formedN ({ m with c := { Cm.zero with g := (r3 : Int) } } : Ms) z7 w.heap.size ee.size ({ (ok.below ee (Nat.le_refl _)) with c := CmOk.zeroG }) (hT.below ee) (z_c ({ m with c := { Cm.zero with g := (r3 : Int) } } : Ms) rfl (by show (r3 : Int) ≠ 0; omega))) (by kernel_rfl) (by kernel_rfl) ?_
                rintro e z8 ⟨rfl, t⟩
                refine ⟨_, rfl, ?_⟩
                have Zb3 := hpB Zb3 t
                have Zv7 := hpB Zv7 t
                have ee := ee.trans (t.mono ee.size)
                clear t
                try simp only [Act.put, List.getElem_toArray, List.getElem_cons_zero, List.getElem_cons_succ, List.setIfInBounds_toArray, List.set_cons_zero, List.set_cons_succ]
                with_reducible refine wpList_v (.bool true) (by kernel_rfl) (by kernel_rfl) ?_
                try simp only [Act.put, List.getElem_toArray, List.getElem_cons_zero, List.getElem_cons_succ, List.setIfInBounds_toArray, List.set_cons_zero, List.set_cons_succ]
                with_reducible refine wpList_v (.bool true) (by kernel_rfl) (by kernel_rfl) ?_
                try simp only [Act.put, List.getElem_toArray, List.getElem_cons_zero, List.getElem_cons_succ, List.setIfInBounds_toArray, List.set_cons_zero, List.set_cons_succ]
                with_reducible refine wpList_v (.bool true) (by kernel_rfl) (by kernel_rfl) ?_
                try simp only [Act.put, List.getElem_toArray, List.getElem_cons_zero, List.getElem_cons_succ, List.setIfInBounds_toArray, List.set_cons_zero, List.set_cons_succ]
                refine wpList_nil ?_
                refine hK35 _ _ ?_
                refine wp_ret ?_
                exact bodyPost_ret (v := .bool true) (by kernel_rfl) rfl ⟨rfl, ee⟩
            | true =>
              have eb18 : (q : Int) = 2 := of_decide_eq_true hb18.symm
              refine wp_cond_true (by kernel_rfl) ?_
              refine wp_seq_k fun K36 hK36 => ?_
              refine wp_region_lit ?_
              with_reducible refine wpList_v (.int .u64 ((x : Int))) (by kernel_rfl) (by kernel_rfl) ?_
              try simp only [Act.put, List.getElem_toArray, List.getElem_cons_zero, List.getElem_cons_succ, List.setIfInBounds_toArray, List.set_cons_zero, List.set_cons_succ]
              with_reducible refine wpList_v (.pointer (some ⟨g9, 28, none⟩)) (by kernel_rfl) (by kernel_rfl) ?_
              try simp only [Act.put, List.getElem_toArray, List.getElem_cons_zero, List.getElem_cons_succ, List.setIfInBounds_toArray, List.set_cons_zero, List.set_cons_succ]
              refine wpList_storeC 31 (g9) (28) (.int .u64 ((x : Int))) ([.int .u64 ((x : Int))]) (rowThere Zv7 (Nat.le_of_ble_eq_true (by kernel_rfl))) (by kernel_rfl) (by kernel_rfl) (all1 rfl) _ _ (by kernel_rfl) rfl (by kernel_rfl) (by kernel_rfl) ?_
              have N_ : (z6.setCells (g9) (28) ([.int .u64 ((x : Int))])).heap[g9]? = some (.cells (({ m with ve := x } : Ms).cells).toArray 39) := hpC ([.int .u64 ((x : Int))]) (28) _ z6 Zv7
              have ee := belowC (g := g9) (by omega) ([.int .u64 ((x : Int))]) (28) z6 ee
              have Zb3 := hpCo (g' := g9) (by omega) ([.int .u64 ((x : Int))]) (28) z6 Zb3
              clear Zv7
              have Zv7 := N_
              clear N_
              skip
              generalize z6.setCells (g9) (28) ([.int .u64 ((x : Int))]) = z7 at Zb3 Zv7 ee ⊢
              try simp only [Act.put, List.getElem_toArray, List.getElem_cons_zero, List.getElem_cons_succ, List.setIfInBounds_toArray, List.set_cons_zero, List.set_cons_succ]
              refine wpList_nil ?_
              refine hK36 _ _ ?_
              refine wp_region_lit ?_
              with_reducible refine wpList_v (.pointer (some ⟨g2, 0, none⟩)) (by kernel_rfl) (by kernel_rfl) ?_
              try simp only [Act.put, List.getElem_toArray, List.getElem_cons_zero, List.getElem_cons_succ, List.setIfInBounds_toArray, List.set_cons_zero, List.set_cons_succ]
              refine wpList_load1 (.int .i64 m.kd) ⟨g2, 0, none⟩ 3 _ _ (rowCell Zb3 (0) rfl) (by kernel_rfl) rfl (by kernel_rfl) Tryd.underlying3 rfl ?_
              try simp only [Act.put, List.getElem_toArray, List.getElem_cons_zero, List.getElem_cons_succ, List.setIfInBounds_toArray, List.set_cons_zero, List.set_cons_succ]
              obtain ⟨b37, hb37⟩ : ∃ d_ : Bool, d_ = (decide (m.kd = 13)) := ⟨_, rfl⟩
              with_reducible refine wpList_v (.bool b37) (by kernel_rfl) (run_bin _ _ _ _ _ (.int .i64 m.kd) (.int .i64 13) _ rfl (by kernel_rfl) (by kernel_rfl) (by kernel_rfl) (run_eqlI hb37.symm)) ?_
              try simp only [Act.put, List.getElem_toArray, List.getElem_cons_zero, List.getElem_cons_succ, List.setIfInBounds_toArray, List.set_cons_zero, List.set_cons_succ]
              with_reducible refine wpList_v (.bool b37) (by kernel_rfl) (by kernel_rfl) ?_
              try simp only [Act.put, List.getElem_toArray, List.getElem_cons_zero, List.getElem_cons_succ, List.setIfInBounds_toArray, List.set_cons_zero, List.set_cons_succ]
              refine wpList_nil ?_
              refine inBlock_normal ?_
              refine hK11 _ _ ?_
              refine wp_seq_k fun K38 hK38 => ?_
              refine wp_region_lit ?_
              with_reducible refine wpList_v (.bool b37) (by kernel_rfl) (by kernel_rfl) ?_
              try simp only [Act.put, List.getElem_toArray, List.getElem_cons_zero, List.getElem_cons_succ, List.setIfInBounds_toArray, List.set_cons_zero, List.set_cons_succ]
              with_reducible refine wpList_v (.bool b37) (by kernel_rfl) (by kernel_rfl) ?_
              try simp only [Act.put, List.getElem_toArray, List.getElem_cons_zero, List.getElem_cons_succ, List.setIfInBounds_toArray, List.set_cons_zero, List.set_cons_succ]
              cases b37 with
              | false =>
                refine wpList_load_g (by kernel_rfl) 39 _ rfl (g9) (0) (by kernel_rfl) (({ m with ve := x } : Ms).cells) _ (rowAt Zv7) Tryd.underlying39 rfl sizeMs ?_
                try simp only [Act.put, List.getElem_toArray, List.getElem_cons_zero, List.getElem_cons_succ, List.setIfInBounds_toArray, List.set_cons_zero, List.set_cons_succ]
                refine wpList_fcall 13 #[.agg (({ m with ve := x } : Ms).cells).toArray] (formedN ({ m with ve := x } : Ms) z7 w.heap.size ee.size ({ (ok.below ee (Nat.le_refl _)) with ve := hx }) (hT.below ee) (z_ve ({ m with ve := x } : Ms) (by have kb37 := of_decide_eq_false hb37.symm; show m.kd ≠ 13; omega) (by have := of_decide_eq_false hb7.symm; show x ≠ 0; omega))) (by kernel_rfl) (by kernel_rfl) ?_
                rintro e z8 ⟨rfl, t⟩
                refine ⟨_, rfl, ?_⟩
                have Zb3 := hpB Zb3 t
                have Zv7 := hpB Zv7 t
                have ee := ee.trans (t.mono ee.size)
                clear t
                try simp only [Act.put, List.getElem_toArray, List.getElem_cons_zero, List.getElem_cons_succ, List.setIfInBounds_toArray, List.set_cons_zero, List.set_cons_succ]
                with_reducible refine wpList_v (.bool true) (by kernel_rfl) (by kernel_rfl) ?_
                try simp only [Act.put, List.getElem_toArray, List.getElem_cons_zero, List.getElem_cons_succ, List.setIfInBounds_toArray, List.set_cons_zero, List.set_cons_succ]
                with_reducible refine wpList_v (.bool true) (by kernel_rfl) (by kernel_rfl) ?_
                try simp only [Act.put, List.getElem_toArray, List.getElem_cons_zero, List.getElem_cons_succ, List.setIfInBounds_toArray, List.set_cons_zero, List.set_cons_succ]
                with_reducible refine wpList_v (.bool true) (by kernel_rfl) (by kernel_rfl) ?_
                try simp only [Act.put, List.getElem_toArray, List.getElem_cons_zero, List.getElem_cons_succ, List.setIfInBounds_toArray, List.set_cons_zero, List.set_cons_succ]
                refine wpList_nil ?_
                refine hK38 _ _ ?_
                refine wp_ret ?_
                exact bodyPost_ret (v := .bool true) (by kernel_rfl) rfl ⟨rfl, ee⟩
              | true =>
                have eb37 : m.kd = 13 := of_decide_eq_true hb37.symm
                with_reducible refine wpList_skip (by kernel_rfl) ?_
                try simp only [Act.put, List.getElem_toArray, List.getElem_cons_zero, List.getElem_cons_succ, List.setIfInBounds_toArray, List.set_cons_zero, List.set_cons_succ]
                with_reducible refine wpList_skip (by kernel_rfl) ?_
                try simp only [Act.put, List.getElem_toArray, List.getElem_cons_zero, List.getElem_cons_succ, List.setIfInBounds_toArray, List.set_cons_zero, List.set_cons_succ]
                with_reducible refine wpList_skip (by kernel_rfl) ?_
                try simp only [Act.put, List.getElem_toArray, List.getElem_cons_zero, List.getElem_cons_succ, List.setIfInBounds_toArray, List.set_cons_zero, List.set_cons_succ]
                with_reducible refine wpList_v (.bool true) (by kernel_rfl) (by kernel_rfl) ?_
                try simp only [Act.put, List.getElem_toArray, List.getElem_cons_zero, List.getElem_cons_succ, List.setIfInBounds_toArray, List.set_cons_zero, List.set_cons_succ]
                with_reducible refine wpList_v (.bool true) (by kernel_rfl) (by kernel_rfl) ?_
                try simp only [Act.put, List.getElem_toArray, List.getElem_cons_zero, List.getElem_cons_succ, List.setIfInBounds_toArray, List.set_cons_zero, List.set_cons_succ]
                refine wpList_nil ?_
                refine hK38 _ _ ?_
                refine wp_ret ?_
                exact bodyPost_ret (v := .bool true) (by kernel_rfl) rfl ⟨rfl, ee⟩
          | true =>
            have eb16 : (q : Int) = 1 := of_decide_eq_true hb16.symm
            refine wp_cond_true (by kernel_rfl) ?_
            refine wp_seq_k fun K39 hK39 => ?_
            refine wp_region_lit ?_
            with_reducible refine wpList_v (.int .u64 ((x : Int))) (by kernel_rfl) (by kernel_rfl) ?_
            try simp only [Act.put, List.getElem_toArray, List.getElem_cons_zero, List.getElem_cons_succ, List.setIfInBounds_toArray, List.set_cons_zero, List.set_cons_succ]
            with_reducible refine wpList_v (.int .u64 ((((x : Int)).tmod 8))) (by kernel_rfl) (by kernel_rfl) ?_
            try simp only [Act.put, List.getElem_toArray, List.getElem_cons_zero, List.getElem_cons_succ, List.setIfInBounds_toArray, List.set_cons_zero, List.set_cons_succ]
            with_reducible refine wpList_v (.int .i64 ((IntKind.i64.wrap ((((x : Int)).tmod 8))))) (by kernel_rfl) (by kernel_rfl) ?_
            try simp only [Act.put, List.getElem_toArray, List.getElem_cons_zero, List.getElem_cons_succ, List.setIfInBounds_toArray, List.set_cons_zero, List.set_cons_succ]
            with_reducible refine wpList_v (.int .i64 ((r2 : Int))) (by kernel_rfl) (by rw [← (hr2 : IntKind.i64.wrap (1 + (IntKind.i64.wrap ((((x : Int)).tmod 8)))) = (r2 : Int))]; kernel_rfl) ?_
            try simp only [Act.put, List.getElem_toArray, List.getElem_cons_zero, List.getElem_cons_succ, List.setIfInBounds_toArray, List.set_cons_zero, List.set_cons_succ]
            with_reducible refine wpList_v (.pointer (some ⟨g9, 17, none⟩)) (by kernel_rfl) (by kernel_rfl) ?_
            try simp only [Act.put, List.getElem_toArray, List.getElem_cons_zero, List.getElem_cons_succ, List.setIfInBounds_toArray, List.set_cons_zero, List.set_cons_succ]
            with_reducible refine wpList_v (.pointer (some ⟨g9, 17, none⟩)) (by kernel_rfl) (by kernel_rfl) ?_
            try simp only [Act.put, List.getElem_toArray, List.getElem_cons_zero, List.getElem_cons_succ, List.setIfInBounds_toArray, List.set_cons_zero, List.set_cons_succ]
            with_reducible refine wpList_v (.pointer (some ⟨g9, 17, none⟩)) (by kernel_rfl) (by kernel_rfl) ?_
            try simp only [Act.put, List.getElem_toArray, List.getElem_cons_zero, List.getElem_cons_succ, List.setIfInBounds_toArray, List.set_cons_zero, List.set_cons_succ]
            refine wpList_storeC 3 (g9) (17) (.int .i64 ((r2 : Int))) ([.int .i64 ((r2 : Int))]) (rowThere Zv7 (Nat.le_of_ble_eq_true (by kernel_rfl))) (by kernel_rfl) (by kernel_rfl) (all1 rfl) _ _ (by kernel_rfl) rfl (by kernel_rfl) (by kernel_rfl) ?_
            have N_ : (z6.setCells (g9) (17) ([.int .i64 ((r2 : Int))])).heap[g9]? = some (.cells (({ m with t := { m.t with s := (r2 : Int) } } : Ms).cells).toArray 39) := hpC ([.int .i64 ((r2 : Int))]) (17) _ z6 Zv7
            have ee := belowC (g := g9) (by omega) ([.int .i64 ((r2 : Int))]) (17) z6 ee
            have Zb3 := hpCo (g' := g9) (by omega) ([.int .i64 ((r2 : Int))]) (17) z6 Zb3
            clear Zv7
            have Zv7 := N_
            clear N_
            skip
            generalize z6.setCells (g9) (17) ([.int .i64 ((r2 : Int))]) = z7 at Zb3 Zv7 ee ⊢
            try simp only [Act.put, List.getElem_toArray, List.getElem_cons_zero, List.getElem_cons_succ, List.setIfInBounds_toArray, List.set_cons_zero, List.set_cons_succ]
            refine wpList_nil ?_
            refine hK39 _ _ ?_
            refine wp_region_lit ?_
            with_reducible refine wpList_v (.pointer (some ⟨g2, 0, none⟩)) (by kernel_rfl) (by kernel_rfl) ?_
            try simp only [Act.put, List.getElem_toArray, List.getElem_cons_zero, List.getElem_cons_succ, List.setIfInBounds_toArray, List.set_cons_zero, List.set_cons_succ]
            refine wpList_load1 (.int .i64 m.kd) ⟨g2, 0, none⟩ 3 _ _ (rowCell Zb3 (0) rfl) (by kernel_rfl) rfl (by kernel_rfl) Tryd.underlying3 rfl ?_
            try simp only [Act.put, List.getElem_toArray, List.getElem_cons_zero, List.getElem_cons_succ, List.setIfInBounds_toArray, List.set_cons_zero, List.set_cons_succ]
            obtain ⟨b40, hb40⟩ : ∃ d_ : Bool, d_ = (decide (m.kd = 8)) := ⟨_, rfl⟩
            with_reducible refine wpList_v (.bool b40) (by kernel_rfl) (run_bin _ _ _ _ _ (.int .i64 m.kd) (.int .i64 8) _ rfl (by kernel_rfl) (by kernel_rfl) (by kernel_rfl) (run_eqlI hb40.symm)) ?_
            try simp only [Act.put, List.getElem_toArray, List.getElem_cons_zero, List.getElem_cons_succ, List.setIfInBounds_toArray, List.set_cons_zero, List.set_cons_succ]
            with_reducible refine wpList_v (.bool b40) (by kernel_rfl) (by kernel_rfl) ?_
            try simp only [Act.put, List.getElem_toArray, List.getElem_cons_zero, List.getElem_cons_succ, List.setIfInBounds_toArray, List.set_cons_zero, List.set_cons_succ]
            refine wpList_nil ?_
            refine inBlock_normal ?_
            refine hK11 _ _ ?_
            refine wp_seq_k fun K41 hK41 => ?_
            refine wp_region_lit ?_
            with_reducible refine wpList_v (.bool b40) (by kernel_rfl) (by kernel_rfl) ?_
            try simp only [Act.put, List.getElem_toArray, List.getElem_cons_zero, List.getElem_cons_succ, List.setIfInBounds_toArray, List.set_cons_zero, List.set_cons_succ]
            with_reducible refine wpList_v (.bool b40) (by kernel_rfl) (by kernel_rfl) ?_
            try simp only [Act.put, List.getElem_toArray, List.getElem_cons_zero, List.getElem_cons_succ, List.setIfInBounds_toArray, List.set_cons_zero, List.set_cons_succ]
            cases b40 with
            | false =>
              refine wpList_load_g (by kernel_rfl) 39 _ rfl (g9) (0) (by kernel_rfl) (({ m with t := { m.t with s := (r2 : Int) } } : Ms).cells) _ (rowAt Zv7) Tryd.underlying39 rfl sizeMs ?_
              try simp only [Act.put, List.getElem_toArray, List.getElem_cons_zero, List.getElem_cons_succ, List.setIfInBounds_toArray, List.set_cons_zero, List.set_cons_succ]
              refine wpList_fcall 13 #[.agg (({ m with t := { m.t with s := (r2 : Int) } } : Ms).cells).toArray] (formedN ({ m with t := { m.t with s := (r2 : Int) } } : Ms) z7 w.heap.size ee.size ({ (ok.below ee (Nat.le_refl _)) with t := (ok.below ee (Nat.le_refl _)).t }) (hT.below ee) (z_ts ({ m with t := { m.t with s := (r2 : Int) } } : Ms) (by have kb40 := of_decide_eq_false hb40.symm; show m.kd ≠ 8; omega) (by show (r2 : Int) ≠ 0; omega))) (by kernel_rfl) (by kernel_rfl) ?_
              rintro e z8 ⟨rfl, t⟩
              refine ⟨_, rfl, ?_⟩
              have Zb3 := hpB Zb3 t
              have Zv7 := hpB Zv7 t
              have ee := ee.trans (t.mono ee.size)
              clear t
              try simp only [Act.put, List.getElem_toArray, List.getElem_cons_zero, List.getElem_cons_succ, List.setIfInBounds_toArray, List.set_cons_zero, List.set_cons_succ]
              with_reducible refine wpList_v (.bool true) (by kernel_rfl) (by kernel_rfl) ?_
              try simp only [Act.put, List.getElem_toArray, List.getElem_cons_zero, List.getElem_cons_succ, List.setIfInBounds_toArray, List.set_cons_zero, List.set_cons_succ]
              with_reducible refine wpList_v (.bool true) (by kernel_rfl) (by kernel_rfl) ?_
              try simp only [Act.put, List.getElem_toArray, List.getElem_cons_zero, List.getElem_cons_succ, List.setIfInBounds_toArray, List.set_cons_zero, List.set_cons_succ]
              with_reducible refine wpList_v (.bool true) (by kernel_rfl) (by kernel_rfl) ?_
              try simp only [Act.put, List.getElem_toArray, List.getElem_cons_zero, List.getElem_cons_succ, List.setIfInBounds_toArray, List.set_cons_zero, List.set_cons_succ]
              refine wpList_nil ?_
              refine hK41 _ _ ?_
              refine wp_ret ?_
              exact bodyPost_ret (v := .bool true) (by kernel_rfl) rfl ⟨rfl, ee⟩
            | true =>
              have eb40 : m.kd = 8 := of_decide_eq_true hb40.symm
              with_reducible refine wpList_skip (by kernel_rfl) ?_
              try simp only [Act.put, List.getElem_toArray, List.getElem_cons_zero, List.getElem_cons_succ, List.setIfInBounds_toArray, List.set_cons_zero, List.set_cons_succ]
              with_reducible refine wpList_skip (by kernel_rfl) ?_
              try simp only [Act.put, List.getElem_toArray, List.getElem_cons_zero, List.getElem_cons_succ, List.setIfInBounds_toArray, List.set_cons_zero, List.set_cons_succ]
              with_reducible refine wpList_skip (by kernel_rfl) ?_
              try simp only [Act.put, List.getElem_toArray, List.getElem_cons_zero, List.getElem_cons_succ, List.setIfInBounds_toArray, List.set_cons_zero, List.set_cons_succ]
              with_reducible refine wpList_v (.bool true) (by kernel_rfl) (by kernel_rfl) ?_
              try simp only [Act.put, List.getElem_toArray, List.getElem_cons_zero, List.getElem_cons_succ, List.setIfInBounds_toArray, List.set_cons_zero, List.set_cons_succ]
              with_reducible refine wpList_v (.bool true) (by kernel_rfl) (by kernel_rfl) ?_
              try simp only [Act.put, List.getElem_toArray, List.getElem_cons_zero, List.getElem_cons_succ, List.setIfInBounds_toArray, List.set_cons_zero, List.set_cons_succ]
              refine wpList_nil ?_
              refine hK41 _ _ ?_
              refine wp_ret ?_
              exact bodyPost_ret (v := .bool true) (by kernel_rfl) rfl ⟨rfl, ee⟩
        | true =>
          have eb14 : (q : Int) = 0 := of_decide_eq_true hb14.symm
          refine wp_cond_true (by kernel_rfl) ?_
          refine wp_seq_k fun K42 hK42 => ?_
          refine wp_region_lit ?_
          with_reducible refine wpList_v (.int .u64 ((x : Int))) (by kernel_rfl) (by kernel_rfl) ?_
          try simp only [Act.put, List.getElem_toArray, List.getElem_cons_zero, List.getElem_cons_succ, List.setIfInBounds_toArray, List.set_cons_zero, List.set_cons_succ]
          with_reducible refine wpList_v (.int .u64 ((((x : Int)).tmod 1000))) (by kernel_rfl) (by kernel_rfl) ?_
          try simp only [Act.put, List.getElem_toArray, List.getElem_cons_zero, List.getElem_cons_succ, List.setIfInBounds_toArray, List.set_cons_zero, List.set_cons_succ]
          with_reducible refine wpList_v (.int .u32 ((IntKind.u32.wrap ((((x : Int)).tmod 1000))))) (by kernel_rfl) (by kernel_rfl) ?_
          try simp only [Act.put, List.getElem_toArray, List.getElem_cons_zero, List.getElem_cons_succ, List.setIfInBounds_toArray, List.set_cons_zero, List.set_cons_succ]
          with_reducible refine wpList_v (.int .u32 ((r1 : Int))) (by kernel_rfl) (by rw [← (hr1 : IntKind.u32.wrap (1 + (IntKind.u32.wrap ((((x : Int)).tmod 1000)))) = (r1 : Int))]; kernel_rfl) ?_
          try simp only [Act.put, List.getElem_toArray, List.getElem_cons_zero, List.getElem_cons_succ, List.setIfInBounds_toArray, List.set_cons_zero, List.set_cons_succ]
          with_reducible refine wpList_v (.agg ([.int .u32 ((r1 : Int)), .int .i64 0]).toArray) (by kernel_rfl) (by kernel_rfl) ?_
          try simp only [Act.put, List.getElem_toArray, List.getElem_cons_zero, List.getElem_cons_succ, List.setIfInBounds_toArray, List.set_cons_zero, List.set_cons_succ]
          with_reducible refine wpList_v (.pointer (some ⟨g9, 1, none⟩)) (by kernel_rfl) (by kernel_rfl) ?_
          try simp only [Act.put, List.getElem_toArray, List.getElem_cons_zero, List.getElem_cons_succ, List.setIfInBounds_toArray, List.set_cons_zero, List.set_cons_succ]
          refine wpList_storeC 24 (g9) (1) (.agg ([.int .u32 ((r1 : Int)), .int .i64 0]).toArray) ([.int .u32 ((r1 : Int)), .int .i64 0]) (rowThere Zv7 (Nat.le_of_ble_eq_true (by kernel_rfl))) (by kernel_rfl) sizeBal (allOf (by kernel_rfl)) _ _ (by kernel_rfl) rfl (by kernel_rfl) (by kernel_rfl) ?_
          have N_ : (z6.setCells (g9) (1) ([.int .u32 ((r1 : Int)), .int .i64 0])).heap[g9]? = some (.cells (({ m with br := r1, bn := 0 } : Ms).cells).toArray 39) := hpC ([.int .u32 ((r1 : Int)), .int .i64 0]) (1) _ z6 Zv7
          have ee := belowC (g := g9) (by omega) ([.int .u32 ((r1 : Int)), .int .i64 0]) (1) z6 ee
          have Zb3 := hpCo (g' := g9) (by omega) ([.int .u32 ((r1 : Int)), .int .i64 0]) (1) z6 Zb3
          clear Zv7
          have Zv7 := N_
          clear N_
          skip
          generalize z6.setCells (g9) (1) ([.int .u32 ((r1 : Int)), .int .i64 0]) = z7 at Zb3 Zv7 ee ⊢
          try simp only [Act.put, List.getElem_toArray, List.getElem_cons_zero, List.getElem_cons_succ, List.setIfInBounds_toArray, List.set_cons_zero, List.set_cons_succ]
          refine wpList_nil ?_
          refine hK42 _ _ ?_
          refine wp_region_lit ?_
          with_reducible refine wpList_v (.pointer (some ⟨g2, 0, none⟩)) (by kernel_rfl) (by kernel_rfl) ?_
          try simp only [Act.put, List.getElem_toArray, List.getElem_cons_zero, List.getElem_cons_succ, List.setIfInBounds_toArray, List.set_cons_zero, List.set_cons_succ]
          refine wpList_load1 (.int .i64 m.kd) ⟨g2, 0, none⟩ 3 _ _ (rowCell Zb3 (0) rfl) (by kernel_rfl) rfl (by kernel_rfl) Tryd.underlying3 rfl ?_
          try simp only [Act.put, List.getElem_toArray, List.getElem_cons_zero, List.getElem_cons_succ, List.setIfInBounds_toArray, List.set_cons_zero, List.set_cons_succ]
          obtain ⟨b43, hb43⟩ : ∃ d_ : Bool, d_ = (decide (m.kd ≤ 5)) := ⟨_, rfl⟩
          with_reducible refine wpList_v (.bool b43) (by kernel_rfl) (run_bin _ _ _ _ _ (.int .i64 m.kd) (.int .i64 5) _ rfl (by kernel_rfl) (by kernel_rfl) (by kernel_rfl) (run_leqI hb43.symm)) ?_
          try simp only [Act.put, List.getElem_toArray, List.getElem_cons_zero, List.getElem_cons_succ, List.setIfInBounds_toArray, List.set_cons_zero, List.set_cons_succ]
          with_reducible refine wpList_v (.bool b43) (by kernel_rfl) (by kernel_rfl) ?_
          try simp only [Act.put, List.getElem_toArray, List.getElem_cons_zero, List.getElem_cons_succ, List.setIfInBounds_toArray, List.set_cons_zero, List.set_cons_succ]
          refine wpList_nil ?_
          refine inBlock_normal ?_
          refine hK11 _ _ ?_
          refine wp_seq_k fun K44 hK44 => ?_
          refine wp_region_lit ?_
          with_reducible refine wpList_v (.bool b43) (by kernel_rfl) (by kernel_rfl) ?_
          try simp only [Act.put, List.getElem_toArray, List.getElem_cons_zero, List.getElem_cons_succ, List.setIfInBounds_toArray, List.set_cons_zero, List.set_cons_succ]
          with_reducible refine wpList_v (.bool b43) (by kernel_rfl) (by kernel_rfl) ?_
          try simp only [Act.put, List.getElem_toArray, List.getElem_cons_zero, List.getElem_cons_succ, List.setIfInBounds_toArray, List.set_cons_zero, List.set_cons_succ]
          cases b43 with
          | false =>
            refine wpList_load_g (by kernel_rfl) 39 _ rfl (g9) (0) (by kernel_rfl) (({ m with br := r1, bn := 0 } : Ms).cells) _ (rowAt Zv7) Tryd.underlying39 rfl sizeMs ?_
            try simp only [Act.put, List.getElem_toArray, List.getElem_cons_zero, List.getElem_cons_succ, List.setIfInBounds_toArray, List.set_cons_zero, List.set_cons_succ]
            refine wpList_fcall 13 #[.agg (({ m with br := r1, bn := 0 } : Ms).cells).toArray] (formedN ({ m with br := r1, bn := 0 } : Ms) z7 w.heap.size ee.size ({ (ok.below ee (Nat.le_refl _)) with br := hr1b }) (hT.below ee) (z_br ({ m with br := r1, bn := 0 } : Ms) (by have kb43 := of_decide_eq_false hb43.symm; show 5 < m.kd; omega) hr1n)) (by kernel_rfl) (by kernel_rfl) ?_
            rintro e z8 ⟨rfl, t⟩
            refine ⟨_, rfl, ?_⟩
            have Zb3 := hpB Zb3 t
            have Zv7 := hpB Zv7 t
            have ee := ee.trans (t.mono ee.size)
            clear t
            try simp only [Act.put, List.getElem_toArray, List.getElem_cons_zero, List.getElem_cons_succ, List.setIfInBounds_toArray, List.set_cons_zero, List.set_cons_succ]
            with_reducible refine wpList_v (.bool true) (by kernel_rfl) (by kernel_rfl) ?_
            try simp only [Act.put, List.getElem_toArray, List.getElem_cons_zero, List.getElem_cons_succ, List.setIfInBounds_toArray, List.set_cons_zero, List.set_cons_succ]
            with_reducible refine wpList_v (.bool true) (by kernel_rfl) (by kernel_rfl) ?_
            try simp only [Act.put, List.getElem_toArray, List.getElem_cons_zero, List.getElem_cons_succ, List.setIfInBounds_toArray, List.set_cons_zero, List.set_cons_succ]
            with_reducible refine wpList_v (.bool true) (by kernel_rfl) (by kernel_rfl) ?_
            try simp only [Act.put, List.getElem_toArray, List.getElem_cons_zero, List.getElem_cons_succ, List.setIfInBounds_toArray, List.set_cons_zero, List.set_cons_succ]
            refine wpList_nil ?_
            refine hK44 _ _ ?_
            refine wp_ret ?_
            exact bodyPost_ret (v := .bool true) (by kernel_rfl) rfl ⟨rfl, ee⟩
          | true =>
            with_reducible refine wpList_skip (by kernel_rfl) ?_
            try simp only [Act.put, List.getElem_toArray, List.getElem_cons_zero, List.getElem_cons_succ, List.setIfInBounds_toArray, List.set_cons_zero, List.set_cons_succ]
            with_reducible refine wpList_skip (by kernel_rfl) ?_
            try simp only [Act.put, List.getElem_toArray, List.getElem_cons_zero, List.getElem_cons_succ, List.setIfInBounds_toArray, List.set_cons_zero, List.set_cons_succ]
            with_reducible refine wpList_skip (by kernel_rfl) ?_
            try simp only [Act.put, List.getElem_toArray, List.getElem_cons_zero, List.getElem_cons_succ, List.setIfInBounds_toArray, List.set_cons_zero, List.set_cons_succ]
            with_reducible refine wpList_v (.bool true) (by kernel_rfl) (by kernel_rfl) ?_
            try simp only [Act.put, List.getElem_toArray, List.getElem_cons_zero, List.getElem_cons_succ, List.setIfInBounds_toArray, List.set_cons_zero, List.set_cons_succ]
            with_reducible refine wpList_v (.bool true) (by kernel_rfl) (by kernel_rfl) ?_
            try simp only [Act.put, List.getElem_toArray, List.getElem_cons_zero, List.getElem_cons_succ, List.setIfInBounds_toArray, List.set_cons_zero, List.set_cons_succ]
            refine wpList_nil ?_
            refine hK44 _ _ ?_
            refine wp_ret ?_
            exact bodyPost_ret (v := .bool true) (by kernel_rfl) rfl ⟨rfl, ee⟩
      | true =>
        have eb7 : (x : Int) = 0 := of_decide_eq_true hb7.symm
        refine wp_cond_true (by kernel_rfl) ?_
        refine wp_seq_k fun K45 hK45 => ?_
        refine wp_region_lit ?_
        refine wpList_fcall 11 #[] (awake10_any z4 (hT.below ee)) (by kernel_rfl) (by kernel_rfl) ?_
        rintro e z5 ⟨rfl, t⟩
        refine ⟨_, rfl, ?_⟩
        have Zb3 := hpB Zb3 t
        have ee := ee.trans (t.mono ee.size)
        clear t
        try simp only [Act.put, List.getElem_toArray, List.getElem_cons_zero, List.getElem_cons_succ, List.setIfInBounds_toArray, List.set_cons_zero, List.set_cons_succ]
        with_reducible refine wpList_v (.bool true) (by kernel_rfl) (by kernel_rfl) ?_
        try simp only [Act.put, List.getElem_toArray, List.getElem_cons_zero, List.getElem_cons_succ, List.setIfInBounds_toArray, List.set_cons_zero, List.set_cons_succ]
        refine wpList_nil ?_
        refine hK45 _ _ ?_
        refine wp_ret ?_
        refine then_ret ?_
        exact bodyPost_ret (v := .bool true) (by kernel_rfl) rfl ⟨rfl, ee⟩
theorem messageZero_walk (W : World) (hT : Tabs W) (v0 v1 v2 : Value) (h0 : Arg W 39 v0) (h1 : Arg W 5 v1) (h2 : Arg W 31 v2) :
    Calls Tryd.prog 3 #[v0, v1, v2] W fun e W' => e = .returned (.bool true) ∧ Below W.heap.size W W' := by
  obtain ⟨m, rfl, ok⟩ := h0.ms
  obtain ⟨wh, rfl, _⟩ := h1.u8 Tryd.underlying5
  obtain ⟨x, rfl, hx⟩ := h2.u64 Tryd.underlying31
  exact mzero_any m wh x hx W ok hT
end Go.Proofs.YtjofjpmhokjhnaaDoor
