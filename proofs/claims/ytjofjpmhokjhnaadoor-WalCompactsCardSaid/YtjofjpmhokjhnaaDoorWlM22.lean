/- What puts a ballot, a flag: the program's. Conditions: what lies, lies below. (Printed by gen_msg.py.) -/
import Derived.Test.YtjofjpmhokjhnaaDoorWlM4
import Derived.Test.YtjofjpmhokjhnaaDoorWlM21
import Derived.Test.YtjofjpmhokjhnaaDoorWlM13
namespace Go.Proofs.YtjofjpmhokjhnaaDoor
set_option maxRecDepth 20000
open Go.RowKit T
set_option linter.unusedSimpArgs false
set_option linter.unusedVariables false

namespace T
/-- an int as a uint64 -/
def nz (x : Int) : Nat := (x % 18446744073709551616).toNat
end T
theorem nz_lt (x : Int) : T.nz x < 18446744073709551616 := by unfold T.nz; omega
theorem wrapU (x : Int) : IntKind.u64.wrap x = (T.nz x : Int) := by
  show x % 18446744073709551616 = _
  unfold T.nz; omega
/-- a ballot's bytes behind bytes -/
def B.put (l : List UInt8) (r : Nat) (n : Int) : List UInt8 := C.put (C.put l r 4) (T.nz n) 1
theorem B.put_len (l : List UInt8) (r : Nat) (n : Int) : (B.put l r n).length ≤ l.length + 16 := by
  unfold B.put
  have h1 := put_len2 (C.put l r 4) (T.nz n) 1
  have h2 := put_len2 l r 4
  omega
set_option maxHeartbeats 25600000 in
theorem bput_s {w : World} {v : Value} {l : List UInt8} (hs : SlB w w.heap.size v l) (hl : l.length ≤ 274877906944) (r : Nat) (n : Int) (hx : r < 4294967296) :
    Calls Tryd.prog 62 #[v, .agg #[.int .u32 (r : Int), .int .i64 n]] w fun e w' => GotB w (B.put l r n) e w' := by
  have ee : Below w.heap.size w w := Below.refl _ _
  go_enter Tryd.func62, Tryd.ntmps62
  refine wp_seq_k fun K1 hK1 => ?_
  refine wp_region_lit ?_
  with_reducible refine ww (.pointer (some ⟨w.heap.size, 0, none⟩)) (w.alloc (.cells ([.int .u32 (r : Int), .int .i64 n]).toArray 24)) ?_
  try simp only [nP, nN, nA, n0, nS]
  have sz_g2 := ee.size
  have hs := (hs.belowM ((Below.refl _ w).alloc (Nat.le_refl _) (.cells ([.int .u32 (r : Int), .int .i64 n]).toArray 24)) (Nat.le_refl _)).more (((Below.refl _ w).alloc (Nat.le_refl _) (.cells ([.int .u32 (r : Int), .int .i64 n]).toArray 24)).size)
  have sz_ := ee.size
  have ee := ee.alloc ee.size (.cells ([.int .u32 (r : Int), .int .i64 n]).toArray 24)
  have Zb3 := hpN w (.cells ([.int .u32 (r : Int), .int .i64 n]).toArray 24) rfl
  generalize w.alloc (.cells ([.int .u32 (r : Int), .int .i64 n]).toArray 24) = z1 at Zb3 ee hs ⊢
  obtain ⟨g2, hg_g2⟩ : ∃ g_, g_ = w.heap.size := ⟨_, rfl⟩
  have hB_g2 : w.heap.size ≤ g2 := by rw [hg_g2]; exact sz_g2
  rw [← hg_g2] at Zb3 ⊢
  clear hg_g2
  with_reducible refine wv (.slice none 0 0) ?_
  try simp only [nP, nN, nA, n0, nS]
  refine wpList_nil ?_
  refine hK1 _ _ ?_
  refine wp_seq_k fun K3 hK3 => ?_
  have hs : SlB z1.drew z1.drew.heap.size _ _ := SlB.drew hs
  have Zb3 : z1.drew.heap[g2]? = some (.cells ([.int .u32 (r : Int), .int .i64 n]).toArray 24) := Zb3
  have ee := belowDrewS ee
  -- region 1
  with_reducible refine any_begin (fun z' => z'.heap[g2]? = some (.cells ([.int .u32 (r : Int), .int .i64 n]).toArray 24 (0, 0))) 10 #[false, false, false, false, false, false, false, false, false, false] Zb3 ?_ ?_
  · intro c_ a_ d_ v_ w_ h_; cases d_ <;> exact h_
  generalize z1.drew = z2 at Zb3 ee hs ⊢
  with_reducible refine ha 0 (some 5) (v) #[true, false, false, false, false, false, false, false, false, false] (fun _ _ => by kernel_rfl) Zb3 ?_
  try simp only [nP, nN, nA, n0, nS]
  with_reducible refine ha 1 (some 6) (.pointer (some ⟨g2, 0, none⟩)) #[true, true, false, false, false, false, false, false, false, false] (fun _ _ => by kernel_rfl) Zb3 ?_
  try simp only [nP, nN, nA, n0, nS]
  with_reducible refine hl_ 2 (some 7) (.int .u32 ((r : Int))) ⟨g2, 0, none⟩ #[true, true, true, false, false, false, false, false, false, false] (fun _ h_ => (rowCell h_ (0) rfl)) Tryd.underlying22 Zb3 ?_
  try simp only [nP, nN, nA, n0, nS]
  with_reducible refine ha 3 (some 8) (.int .u64 ((r : Int))) #[true, true, true, true, false, false, false, false, false, false] (fun _ _ => (okIntA (wrapOf (by omega) : IntKind.u64.wrap ((r : Int)) = (r : Int)) (by kernel_rfl))) Zb3 ?_
  try simp only [nP, nN, nA, n0, nS]
  with_reducible refine ha 5 (some 10) (.pointer (some ⟨g2, 1, none⟩)) #[true, true, true, true, false, true, false, false, false, false] (fun _ _ => by kernel_rfl) Zb3 ?_
  try simp only [nP, nN, nA, n0, nS]
  with_reducible refine hl_ 6 (some 11) (.int .i64 n) ⟨g2, 1, none⟩ #[true, true, true, true, false, true, true, false, false, false] (fun _ h_ => (rowCell h_ (1) rfl)) Tryd.underlying3 Zb3 ?_
  try simp only [nP, nN, nA, n0, nS]
  with_reducible refine ha 7 (some 12) (.int .u64 ((T.nz n : Int))) #[true, true, true, true, false, true, true, true, false, false] (fun _ _ => (okIntA (wrapU n : IntKind.u64.wrap n = (T.nz n : Int)) (by kernel_rfl))) Zb3 ?_
  try simp only [nP, nN, nA, n0, nS]
  with_reducible refine any1 4 ?_
  with_reducible refine st_f 4 (some 9) 61 #[v, .int .u64 ((r : Int)), .int .i64 4] #[true, true, true, true, true, true, true, true, false, false] (put_s hs (by omega) (Nat.le_refl _) r (by omega) 4) ?_
  rintro e z3 ⟨v1, rfl, h1, t, hf_h1⟩
  refine ⟨_, rfl, ?_⟩
  have hf_h1 := hf_h1.mono ee.size
  have hs := (hs.belowM t (Nat.le_refl _)).more t.size
  have Zb3 := hpB Zb3 t
  have ee := ee.trans (t.mono ee.size)
  clear t
  refine ⟨Zb3, ?_⟩
  try simp only [nP, nN, nA, n0, nS]
  with_reducible refine any1 8 ?_
  with_reducible refine st_f 8 (some 13) 61 #[v1, .int .u64 ((T.nz n : Int)), .int .i64 1] #[true, true, true, true, true, true, true, true, true, false] (put_s h1 (by have := put_len2 l r 4; omega) (Nat.le_refl _) (T.nz n) (nz_lt n) 1) ?_
  rintro e z4 ⟨v2, rfl, h2, t, hf_h2⟩
  refine ⟨_, rfl, ?_⟩
  have hf_h2 := hf_h2.mono ee.size
  have hs := (hs.belowM t (Nat.le_refl _)).more t.size
  have h1 := (h1.belowM t (Nat.le_refl _)).more t.size
  have Zb3 := hpB Zb3 t
  have ee := ee.trans (t.mono ee.size)
  clear t
  refine ⟨Zb3, ?_⟩
  try simp only [nP, nN, nA, n0, nS]
  with_reducible refine ha 9 (some 4) (v2) #[true, true, true, true, true, true, true, true, true, true] (fun _ _ => by kernel_rfl) Zb3 ?_
  try simp only [nP, nN, nA, n0, nS]
  with_reducible refine any_end ?_
  refine hK3 _ _ ?_
  refine wp_ret ?_
  exact bodyPost_ret (v := v2) (by kernel_rfl) rfl ⟨v2, rfl, h2, ee, hf_h2⟩
/-- 0 or 1 -/
def T.bit (x : Bool) : Nat := if x = true then 1 else 0
end Go.Proofs.YtjofjpmhokjhnaaDoor
