/- The walk of the reference's Valid: a range over a string. Condition: the text is no longer than any Go text. -/
import Derived.Test.YtjofjpmhokjhnaaDoorBase
import Derived.Lib.ValidLaws
import Derived.Lib.TrimUEq
import Derived.Laws.RangeString
import Derived.Laws.RangeAny
namespace Go.Proofs.YtjofjpmhokjhnaaDoor
set_option maxRecDepth 20000
open Go.RowKit
set_option linter.unusedSimpArgs false
set_option linter.unusedVariables false

namespace V
theorem getx (s : ByteArray) (i : Nat) (h : i < s.size) : s[i]'h = s.get! i := by
  obtain ⟨a⟩ := s
  show a[i]'h = a[i]!
  rw [getElem!_pos a i h]
theorem decN_err (n b0 b1 b2 b3 : Nat) (h0 : b0 < 256) (h1 : b1 < 256) (h2 : b2 < 256) (h3 : b3 < 256) (h : (Lib.decodeN n b0 b1 b2 b3).1 = 65533) :
    ((Lib.decodeN n b0 b1 b2 b3).2 = 1 ∨ (3 ≤ n ∧ b0 = 239 ∧ b1 = 191 ∧ b2 = 189)) := by
  unfold Lib.decodeN at *
  split at h
  · simp only at h; omega
  · rename_i c0
    rw [if_neg c0]
    split at h
    · rename_i c1
      rw [if_pos c1]
      split at h
      · simp only at h; omega
      · rename_i c; rw [if_neg c]; exact Or.inl rfl
    · rename_i c1
      rw [if_neg c1]
      split at h
      · rename_i c2
        rw [if_pos c2]
        split at h
        · simp only at h; right; omega
        · rename_i c; rw [if_neg c]; exact Or.inl rfl
      · rename_i c2
        rw [if_neg c2]
        split at h
        · rename_i c3
          rw [if_pos c3]
          split at h
          · simp only at h; omega
          · rename_i c; rw [if_neg c]; exact Or.inl rfl
        · rename_i c3; rw [if_neg c3]; exact Or.inl rfl
theorem decN_err3 (n b3 : Nat) (hn : 3 ≤ n) : Lib.decodeN n 239 191 189 b3 = (65533, 3) := by
  unfold Lib.decodeN
  rw [if_neg (by omega), if_neg (by omega), if_pos (by omega), if_pos (by omega)]
theorem drop_ne (s : ByteArray) (pos : Nat) (h : pos < s.size) : s.data.toList.drop pos ≠ [] := by
  intro e
  have h1 : (s.data.toList.drop pos).length = 0 := by rw [e]; rfl
  rw [List.length_drop] at h1
  have h2 : s.data.toList.length = s.size := by rw [Array.length_toList]; rfl
  omega
theorem val_next (s : ByteArray) (pos : Nat) (h : pos < s.size) (hn : ¬ ((Utf8.decode s pos).1 = 65533 ∧ (Utf8.decode s pos).2 = 1)) :
    Lib.validD (s.data.toList.drop (pos + (Utf8.decode s pos).2)) = Lib.validD (s.data.toList.drop pos) := by
  rw [Lib.validD_step _ (drop_ne s pos h), Lib.decodeL_drop, if_neg hn, List.drop_drop]
theorem val_bad (s : ByteArray) (pos : Nat) (h : pos < s.size) (hr : (Utf8.decode s pos).1 = 65533)
    (hb : s.size - pos < 3 ∨ (s.get! pos).toNat ≠ 239 ∨ (s.get! (pos + 1)).toNat ≠ 191 ∨ (s.get! (pos + 2)).toNat ≠ 189) : Lib.validD (s.data.toList.drop pos) = false := by
  rw [Lib.validD_step _ (drop_ne s pos h), Lib.decodeL_drop]
  have h2 := decN_err (s.size - pos) (s.get! pos).toNat (s.get! (pos + 1)).toNat (s.get! (pos + 2)).toNat (s.get! (pos + 3)).toNat (UInt8.toNat_lt _) (UInt8.toNat_lt _) (UInt8.toNat_lt _) (UInt8.toNat_lt _)
  rw [← Lib.decode_at] at h2
  rw [if_pos ⟨hr, by rcases h2 hr with h | h <;> omega⟩]
theorem val_good (s : ByteArray) (pos : Nat) (h : 3 ≤ s.size - pos) (h0 : (s.get! pos).toNat = 239) (h1 : (s.get! (pos + 1)).toNat = 191) (h2 : (s.get! (pos + 2)).toNat = 189) :
    Lib.validD (s.data.toList.drop (pos + (Utf8.decode s pos).2)) = Lib.validD (s.data.toList.drop pos) := by
  refine val_next s pos (by omega) ?_
  rw [Lib.decode_at, h0, h1, h2, decN_err3 _ _ h]
  intro h; exact absurd h.2 (by decide)
end V

set_option maxHeartbeats 1600000 in
theorem rvalid_any (s : ByteArray) (w : World) (hs : s.size ≤ 9223372036854775807) :
    Calls Tryd.prog 112 #[.string s] w fun e w' => e = .returned (.bool (Lib.validD s.data.toList)) ∧ ∃ pos, w' = w.iter s pos := by
  obtain ⟨p, hp⟩ : ∃ p, p = Lib.validD s.data.toList := ⟨_, rfl⟩
  rw [← hp]
  have HP := Lib.hid hp
  clear hp
  go_enter Tryd.func112, Tryd.ntmps112
  go_wp2
  go_loopw [3] (fun _ wr => ∃ pos : Nat, wr = w.iter s pos ∧ Hid (Lib.validD (s.data.toList.drop pos) = p)) (fun _ wr => s.size - wr.iterPos w.heap.size)
  case atStart => exact ⟨0, rfl, HP.out.symm⟩
  case round =>
    obtain ⟨pos, rfl, HV⟩ := hrel
    by_cases hlt : pos < s.size
    · have hnx : ∀ ty, (Instr.next (.pointer (some ⟨w.heap.size, 0, none⟩)) true ty).run Tryd.prog (w.iter s pos) = _ := fun ty => run_next_any w s pos ty hlt
      by_cases hr : (Utf8.decode s pos).1 = 65533
      · rw [hr] at hnx
        by_cases h3 : s.size - pos < 3
        · have h3' : (s.size : Int) - (pos : Int) < 3 := by omega
          have hpf : p = false := by rw [← HV.out]; exact V.val_bad s pos hlt hr (Or.inl h3)
          have HF := Lib.hid hpf
          clear hpf
          go_wp2
          go_ret
          exact ⟨ret_bool HF.out.symm, _, rfl⟩
        · have h3' : ¬ (s.size : Int) - (pos : Int) < 3 := by omega
          have g0 := V.getx s pos hlt
          have g1 := V.getx s (pos + 1) (by omega)
          have g2 := V.getx s (pos + 2) (by omega)
          have hbad := V.val_bad s pos hlt hr
          have hgood := V.val_good s pos (by omega)
          rw [← g0, ← g1, ← g2, HV.out] at hbad
          rw [← g0, ← g1, ← g2, HV.out] at hgood
          have HBD := Lib.hid hbad
          have HGD := Lib.hid hgood
          have hwd := Lib.hid (Lib.width_pos s pos)
          clear g0 g1 g2 hbad hgood
          go_wp2
          case roundEnd =>
            rename_i c0 c1 c2 c3 c4
            go_roundw
            case rel => exact ⟨_, rfl, HGD.out (by omega) (by omega) (by have := c4; simp at this; omega)⟩
            case measure =>
              have := hwd.out
              simp
              omega
          all_goals
            go_ret
            refine ⟨ret_bool ?_, _, rfl⟩
            rw [HBD.out (by simp at *; omega)]
      · have hr' : ¬ ((Utf8.decode s pos).1 : Int) = 65533 := by omega
        go_wp2
        go_roundw
        case rel =>
          exact ⟨pos + (Utf8.decode s pos).2, rfl, (V.val_next s pos hlt (fun h => hr h.1)).trans HV.out⟩
        case measure => 
          have hwd := Lib.width_pos s pos
          simp
          omega
    · have hnx : ∀ ty, (Instr.next (.pointer (some ⟨w.heap.size, 0, none⟩)) true ty).run Tryd.prog (w.iter s pos) = _ := fun ty => run_next_end w s pos ty hlt
      go_wp2
      go_ret
      refine ⟨ret_bool ?_, _, rfl⟩
      rw [← HV.out, List.drop_eq_nil_of_le (by rw [Array.length_toList]; exact Nat.le_of_not_lt hlt)]
      rfl
end Go.Proofs.YtjofjpmhokjhnaaDoor
