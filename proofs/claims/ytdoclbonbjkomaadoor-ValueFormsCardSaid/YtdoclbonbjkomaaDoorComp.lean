/- The walk of value.Compare. Conditions: bits are a uint64, the tables lie. -/
import Derived.Test.YtdoclbonbjkomaaDoorForm
import Derived.Test.YtdoclbonbjkomaaDoorCmpOr
namespace Go.Proofs.YtdoclbonbjkomaaDoor
open Go.RowKit
set_option linter.unusedSimpArgs false
set_option linter.unusedVariables false

namespace V
def vcmp (k : Int) (b : Nat) (t : List UInt8) (k' : Int) (b' : Nat) (t' : List UInt8) : Int :=
  if formed k b t = true ∧ formed k' b' t' = true then or3 (cmp k k') (cmp (nkey b) (nkey b')) (cmps t t') else 0
end V
theorem cell33 (w : World) (u0 u1 u2 v0 v1 v2 : Value) (e : TypeId) :
    ((w.alloc (.cells #[u0, u1, u2] e)).alloc (.cells #[v0, v1, v2] e)).cell? ⟨w.heap.size, 0, none⟩ = some u0 ∧ ((w.alloc (.cells #[u0, u1, u2] e)).alloc (.cells #[v0, v1, v2] e)).cell? ⟨w.heap.size, 1, none⟩ = some u1 ∧ ((w.alloc (.cells #[u0, u1, u2] e)).alloc (.cells #[v0, v1, v2] e)).cell? ⟨w.heap.size, 2, none⟩ = some u2 ∧
    ((w.alloc (.cells #[u0, u1, u2] e)).alloc (.cells #[v0, v1, v2] e)).cell? ⟨w.heap.size + 1, 0, none⟩ = some v0 ∧ ((w.alloc (.cells #[u0, u1, u2] e)).alloc (.cells #[v0, v1, v2] e)).cell? ⟨w.heap.size + 1, 1, none⟩ = some v1 ∧ ((w.alloc (.cells #[u0, u1, u2] e)).alloc (.cells #[v0, v1, v2] e)).cell? ⟨w.heap.size + 1, 2, none⟩ = some v2 := by
  refine ⟨by simp, by simp, by simp, by simp, by simp, by simp⟩
set_option maxHeartbeats 3200000 in
theorem compare_any (k : Int) (b : Nat) (t : ByteArray) (k' : Int) (b' : Nat) (t' : ByteArray) (w : World) (hT : Tabs w) (hb : b < 18446744073709551616) (hb' : b' < 18446744073709551616) :
    Calls Tryd.prog 12 #[V.val k b t, V.val k' b' t'] w fun e w' => e = .returned (.int .i64 (V.vcmp k b t.data.toList k' b' t'.data.toList)) ∧ Below w.heap.size w w' := by
  obtain ⟨p, hp⟩ : ∃ p, p = V.vcmp k b t.data.toList k' b' t'.data.toList := ⟨_, rfl⟩
  rw [← hp]
  have HP := Lib.hid hp
  clear hp
  have hT' := Lib.hid hT
  clear hT
  rcases hf : V.formed k b t.data.toList with _ | _
  · have HF := Lib.hid hf
    clear hf
    unfold V.val
    go_enter Tryd.func12, Tryd.ntmps12
    go_wp2_with fail
    have bb := ((Below.refl w.heap.size w).alloc (Nat.le_refl _) (.cells #[.int .i64 k, .int .u64 b, .string t] 27)).alloc (by simp) (.cells #[.int .i64 k', .int .u64 b', .string t'] 27)
    refine (formed_any k b t _ (hT'.out.below bb)).mono ?_
    rw [HF.out]
    rintro e w1 ⟨rfl, b1⟩
    go_wp2_with fail
    go_ret
    refine ⟨ret_int ?_, bb.trans (b1.mono bb.size)⟩
    rw [HP.out]
    unfold V.vcmp
    rw [HF.out]
    rfl
  rcases hf' : V.formed k' b' t'.data.toList with _ | _
  · have HF := Lib.hid hf
    have HF' := Lib.hid hf'
    clear hf hf'
    unfold V.val
    go_enter Tryd.func12, Tryd.ntmps12
    have bb := ((Below.refl w.heap.size w).alloc (Nat.le_refl _) (.cells #[.int .i64 k, .int .u64 b, .string t] 27)).alloc (by simp) (.cells #[.int .i64 k', .int .u64 b', .string t'] 27)
    have c1 := cell33 w (.int .i64 k) (.int .u64 b) (.string t) (.int .i64 k') (.int .u64 b') (.string t') 27
    go_wp2_with fail
    refine (formed_any k b t _ (hT'.out.below bb)).mono ?_
    rw [HF.out]
    rintro e w1 ⟨rfl, b1⟩
    have d0 := cellB b1 c1.2.2.2.1
    have d1 := cellB b1 c1.2.2.2.2.1
    have d2 := cellB b1 c1.2.2.2.2.2
    clear c1
    go_wp2_with fail
    have bb1 := bb.trans (b1.mono bb.size)
    refine (formed_any k' b' t' _ (hT'.out.below bb1)).mono ?_
    rw [HF'.out]
    rintro e w2 ⟨rfl, b2⟩
    go_wp2_with fail
    go_ret
    refine ⟨ret_int ?_, bb1.trans (b2.mono bb1.size)⟩
    rw [HP.out]
    unfold V.vcmp
    rw [HF.out, HF'.out]
    rfl
  · have HF := Lib.hid hf
    have HF' := Lib.hid hf'
    clear hf hf'
    unfold V.val
    go_enter Tryd.func12, Tryd.ntmps12
    have bb := ((Below.refl w.heap.size w).alloc (Nat.le_refl _) (.cells #[.int .i64 k, .int .u64 b, .string t] 27)).alloc (by simp) (.cells #[.int .i64 k', .int .u64 b', .string t'] 27)
    have c1 := cell33 w (.int .i64 k) (.int .u64 b) (.string t) (.int .i64 k') (.int .u64 b') (.string t') 27
    go_wp2_with fail
    refine (formed_any k b t _ (hT'.out.below bb)).mono ?_
    rw [HF.out]
    rintro e w1 ⟨rfl, b1⟩
    have d0 := cellB b1 c1.2.2.2.1
    have d1 := cellB b1 c1.2.2.2.2.1
    have d2 := cellB b1 c1.2.2.2.2.2
    go_wp2_with fail
    clear d0 d1 d2
    have bb1 := bb.trans (b1.mono bb.size)
    refine (formed_any k' b' t' _ (hT'.out.below bb1)).mono ?_
    rw [HF'.out]
    rintro e w2 ⟨rfl, b2⟩
    have b12 := b1.trans (b2.mono b1.size)
    have kk := And.intro (cellB b12 c1.1) (And.intro (cellB b12 c1.2.1) (And.intro (cellB b12 c1.2.2.1) (And.intro (cellB b12 c1.2.2.2.1) (And.intro (cellB b12 c1.2.2.2.2.1) (cellB b12 c1.2.2.2.2.2)))))
    clear c1
    go_wp2_with fail
    have kc := cell3 w2 (.int .i64 (V.cmp k k')) (.int .i64 (V.cmp (V.nkey b) (V.nkey b'))) (.int .i64 (V.cmps t.toList t'.toList)) 3
    have HR : Hid (V.or3 (V.cmp k k') (V.cmp (V.nkey b) (V.nkey b')) (V.cmps t.toList t'.toList) = p) := by
      show _ = _
      rw [HP.out]
      unfold V.vcmp
      rw [HF.out, HF'.out, if_pos ⟨rfl, rfl⟩, Lib.toList_data, Lib.toList_data]
    go_region_held3 (fun w' => w'.cell? ⟨w.heap.size, 0, none⟩ = some (.int .i64 k) ∧ w'.cell? ⟨w.heap.size, 1, none⟩ = some (.int .u64 b) ∧ w'.cell? ⟨w.heap.size, 2, none⟩ = some (.string t) ∧ w'.cell? ⟨w.heap.size + 1, 0, none⟩ = some (.int .i64 k') ∧ w'.cell? ⟨w.heap.size + 1, 1, none⟩ = some (.int .u64 b') ∧ w'.cell? ⟨w.heap.size + 1, 2, none⟩ = some (.string t')) (first | exact kk | exact ⟨cellA _ kk.1, cellA _ kk.2.1, cellA _ kk.2.2.1, cellA _ kk.2.2.2.1, cellA _ kk.2.2.2.2.1, cellA _ kk.2.2.2.2.2⟩) (first | (go_at_call 29; refine (cmpi_any k k' _).mono ?_; rintro e v1 ⟨rfl, rfl⟩) | (go_at_call 30; refine (norder_any b b' hb hb' _).mono ?_; rintro e v1 ⟨rfl, rfl⟩) | (go_at_call 31; refine (cmps_any t t' _).mono ?_; rintro e v1 ⟨rfl, rfl⟩) | (go_at_call 28; refine (or_any w2.heap.size _ _ _ _ (by exact kc.1) (by exact kc.2.1) (by exact kc.2.2)).mono ?_; rw [HR.out]; rintro e v1 ⟨rfl, rfl⟩))
    go_wp2
    go_ret
    exact ⟨rfl, belowDrewN ((bb1.trans (b2.mono bb1.size)).alloc (bb1.trans (b2.mono bb1.size)).size _) _⟩
end Go.Proofs.YtdoclbonbjkomaaDoor
