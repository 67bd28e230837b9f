/- The walks of the reference's Formed and Key. Conditions: bits are a uint64, a text is no longer than any Go text. -/
import Derived.Test.YtjofjpmhokjhnaaDoorMwM6
import Derived.Test.YtjofjpmhokjhnaaDoorMwM1
import Derived.Lib.ValidLaws
import Derived.Lib.TrimUEq
import Derived.Laws.RangeString
import Derived.Laws.RangeAny
import Derived.Test.YtjofjpmhokjhnaaDoorMwM7
namespace Go.Proofs.YtjofjpmhokjhnaaDoor
set_option maxRecDepth 20000
open Go.RowKit
set_option linter.unusedSimpArgs false
set_option linter.unusedVariables false

namespace V
theorem nan_eq (b : Nat) : nan b = decide (9218868437227405312 < b % 9223372036854775808) := by
  unfold nan Ieee.Format.order Ieee.Format.read
  have hs : FloatKind.f64.format.signWeight = 9223372036854775808 := by decide
  have hb : FloatKind.f64.format.binade = 4503599627370496 := by decide
  have hi : FloatKind.f64.format.infRung = 9218868437227405312 := by decide
  simp only [hs, hb, hi]
  generalize b % 9223372036854775808 = m
  split
  · rw [decide_eq_false (by omega)]; simp [Ieee.Datum.order]
  · split
    · rw [decide_eq_false (by omega)]; simp [Ieee.Datum.order]
    · split
      · rw [decide_eq_false (by omega)]; simp [Ieee.Datum.order]
      · rw [decide_eq_true (by omega)]; simp [Ieee.Datum.order]
def ex (b : Nat) : Nat := b / 4503599627370496 % 2048
def fr (b : Nat) : Nat := b % 4503599627370496
def mi (b : Nat) : Bool := decide (9223372036854775808 ≤ b)
def kind (b : Nat) : Int :=
  if ex b = 2047 ∧ ¬ fr b = 0 then 0
  else if ex b = 2047 ∧ mi b = true then 1
  else if ex b = 2047 then 6
  else if ex b = 0 ∧ fr b = 0 ∧ mi b = true then 3
  else if ex b = 0 ∧ fr b = 0 then 4
  else if mi b = true then 2
  else 5
theorem nan_kind (b : Nat) : nan b = decide (kind b = 0) := by
  rw [nan_eq]
  unfold kind ex fr mi
  by_cases h : 9218868437227405312 < b % 9223372036854775808
  · rw [decide_eq_true h, if_pos (by omega)]; rfl
  · rw [decide_eq_false h, if_neg (by omega)]
    symm
    apply decide_eq_false
    repeat' split
    all_goals omega
end V

theorem and11 (b : Nat) (hb : b < 18446744073709551616) : bits .and .u64 ((b : Int) / 4503599627370496) 2047 = ((V.ex b : Nat) : Int) := by
  have h := bits_and_u64_nat (b / 4503599627370496) 2047 (by omega) (by decide)
  rw [show (b / 4503599627370496 &&& 2047 : Nat) = b / 4503599627370496 % 2048 from Nat.and_two_pow_sub_one_eq_mod _ 11] at h
  exact h
theorem and52 (b : Nat) (hb : b < 18446744073709551616) : bits .and .u64 (b : Int) 4503599627370495 = ((V.fr b : Nat) : Int) := by
  have h := bits_and_u64_nat b 4503599627370495 (by omega) (by decide)
  rw [show (b &&& 4503599627370495 : Nat) = b % 4503599627370496 from Nat.and_two_pow_sub_one_eq_mod _ 52] at h
  exact h
set_option maxHeartbeats 800000 in
theorem parts_any (b : Nat) (hb : b < 18446744073709551616) (w : World) :
    Calls Tryd.prog 142 #[.int .u64 b] w fun e w' => e = .returned (.tuple #[.bool (V.mi b), .int .u64 (V.ex b), .int .u64 (V.fr b)]) ∧ w' = w := by
  go_enter Tryd.func142, Tryd.ntmps142
  go_wp2
  go_ret3
  refine ⟨ret_of ?_, rfl⟩
  congr 1
  rw [← and11 b hb, ← and52 b hb, show V.mi b = decide ((9223372036854775808 : Int) ≤ (b : Int)) from by unfold V.mi; congr 1; simp; omega]
  rfl
def V.kindOf (m : Bool) (e f : Nat) : Int :=
  if e = 2047 ∧ ¬ f = 0 then 0
  else if e = 2047 ∧ m = true then 1
  else if e = 2047 then 6
  else if e = 0 ∧ f = 0 ∧ m = true then 3
  else if e = 0 ∧ f = 0 then 4
  else if m = true then 2
  else 5
set_option maxHeartbeats 1600000 in
theorem rkind_any (b : Nat) (hb : b < 18446744073709551616) (w : World) :
    Calls Tryd.prog 132 #[.int .u64 b] w fun e w' => e = .returned (.int .i64 (V.kind b)) ∧ w' = w := by
  rw [show V.kind b = V.kindOf (V.mi b) (V.ex b) (V.fr b) from rfl]
  have hp := Lib.hid (parts_any b hb w)
  generalize V.mi b = m at *
  generalize V.ex b = e at *
  generalize V.fr b = f at *
  obtain ⟨p, hq⟩ : ∃ p, p = V.kindOf m e f := ⟨_, rfl⟩
  rw [← hq]
  have HQ := Lib.hid hq
  clear hq
  go_enter Tryd.func132, Tryd.ntmps132
  go_wp2_with fail
  refine hp.out.mono ?_
  rintro e' w1 ⟨rfl, rfl⟩
  clear hp
  by_cases he : e = 2047
  · subst he
    by_cases hf : f = 0
    · subst hf
      cases m
      all_goals
        go_wp2_with fail
        go_ret
        exact ⟨ret_int (by rw [HQ.out]; rfl), rfl⟩
    · have hf2 : ¬ (f : Int) = 0 := by omega
      cases m
      all_goals
        go_wp2_with fail
        go_ret
        exact ⟨ret_int (by rw [HQ.out]; simp [V.kindOf, hf]), rfl⟩
  · have he2 : ¬ (e : Int) = 2047 := by omega
    by_cases h0 : e = 0
    · subst h0
      by_cases hf : f = 0
      · subst hf
        cases m
        all_goals
          go_wp2_with fail
          go_ret
          exact ⟨ret_int (by rw [HQ.out]; rfl), rfl⟩
      · have hf2 : ¬ (f : Int) = 0 := by omega
        cases m
        all_goals
          go_wp2_with fail
          go_ret
          exact ⟨ret_int (by rw [HQ.out]; simp [V.kindOf, hf]), rfl⟩
    · have h02 : ¬ (e : Int) = 0 := by omega
      cases m
      all_goals
        go_wp2_with fail
        go_ret
        exact ⟨ret_int (by rw [HQ.out]; simp [V.kindOf, he, h0]), rfl⟩

set_option maxHeartbeats 800000 in
theorem rcanon_any (b : Nat) (hb : b < 18446744073709551616) (w : World) :
    Calls Tryd.prog 111 #[.int .u64 b] w fun e w' => e = .returned (.int .u64 (V.ncanon b)) ∧ w' = w := by
  have hk := rkind_any b hb
  have hn := V.nan_kind b
  obtain ⟨p, hp⟩ : ∃ p, p = V.ncanon b := ⟨_, rfl⟩
  rw [← hp]
  unfold V.ncanon at hp
  rw [hn] at hp
  clear hn
  by_cases h : V.kind b = 0
  · rw [decide_eq_true h] at hp
    rw [h] at hk
    have HK := Lib.hid hk
    clear hk h
    replace hp : p = 9221120237041090560 := hp
    subst hp
    go_enter Tryd.func111, Tryd.ntmps111
    go_wp2_with fail
    refine (HK.out w).mono ?_
    rintro e' w1 ⟨rfl, rfl⟩
    go_wp2_with fail
    go_ret
    exact ⟨rfl, rfl⟩
  · rw [decide_eq_false h] at hp
    have HK := Lib.hid hk
    clear hk
    replace hp : p = b := hp
    subst hp
    obtain ⟨q, hq⟩ : ∃ q, q = V.kind p := ⟨_, rfl⟩
    rw [← hq] at HK h
    clear hq
    have h' : (q == 0) = false := by simpa using h
    clear h
    go_enter Tryd.func111, Tryd.ntmps111
    go_wp2_with fail
    refine (HK.out w).mono ?_
    rintro e' w1 ⟨rfl, rfl⟩
    go_wp2_with fail
    go_ret
    exact ⟨rfl, rfl⟩

end Go.Proofs.YtjofjpmhokjhnaaDoor

namespace Go.Proofs.YtjofjpmhokjhnaaDoor
set_option maxRecDepth 20001
open Go.RowKit
set_option linter.unusedSimpArgs false
set_option linter.unusedVariables false

namespace V
theorem getx (s : ByteArray) (i : Nat) (h : i < s.size) : s[i]'h = s.get! i := by
  obtain ⟨a⟩ := s
  show a[i]'h = a[i]!
  rw [getElem!_pos a i h]
theorem decN_err (n b0 b1 b2 b3 : Nat) (h0 : b0 < 256) (h1 : b1 < 256) (h2 : b2 < 256) (h3 : b3 < 256) (h : (Lib.decodeN n b0 b1 b2 b3).1 = 65533) :
    ((Lib.decodeN n b0 b1 b2 b3).2 = 1 ∨ (3 ≤ n ∧ b0 = 239 ∧ b1 = 191 ∧ b2 = 189)) := by
  unfold Lib.decodeN at *
  split at h
  · simp only at h; omega
  · rename_i c0
    rw [if_neg c0]
    split at h
    · rename_i c1
      rw [if_pos c1]
      split at h
      · simp only at h; omega
      · rename_i c; rw [if_neg c]; exact Or.inl rfl
    · rename_i c1
      rw [if_neg c1]
      split at h
      · rename_i c2
        rw [if_pos c2]
        split at h
        · simp only at h; right; omega
        · rename_i c; rw [if_neg c]; exact Or.inl rfl
      · rename_i c2
        rw [if_neg c2]
        split at h
        · rename_i c3
          rw [if_pos c3]
          split at h
          · simp only at h; omega
          · rename_i c; rw [if_neg c]; exact Or.inl rfl
        · rename_i c3; rw [if_neg c3]; exact Or.inl rfl
theorem decN_err3 (n b3 : Nat) (hn : 3 ≤ n) : Lib.decodeN n 239 191 189 b3 = (65533, 3) := by
  unfold Lib.decodeN
  rw [if_neg (by omega), if_neg (by omega), if_pos (by omega), if_pos (by omega)]
theorem drop_ne (s : ByteArray) (pos : Nat) (h : pos < s.size) : s.data.toList.drop pos ≠ [] := by
  intro e
  have h1 : (s.data.toList.drop pos).length = 0 := by rw [e]; rfl
  rw [List.length_drop] at h1
  have h2 : s.data.toList.length = s.size := by rw [Array.length_toList]; rfl
  omega
theorem val_next (s : ByteArray) (pos : Nat) (h : pos < s.size) (hn : ¬ ((Utf8.decode s pos).1 = 65533 ∧ (Utf8.decode s pos).2 = 1)) :
    Lib.validD (s.data.toList.drop (pos + (Utf8.decode s pos).2)) = Lib.validD (s.data.toList.drop pos) := by
  rw [Lib.validD_step _ (drop_ne s pos h), Lib.decodeL_drop, if_neg hn, List.drop_drop]
theorem val_bad (s : ByteArray) (pos : Nat) (h : pos < s.size) (hr : (Utf8.decode s pos).1 = 65533)
    (hb : s.size - pos < 3 ∨ (s.get! pos).toNat ≠ 239 ∨ (s.get! (pos + 1)).toNat ≠ 191 ∨ (s.get! (pos + 2)).toNat ≠ 189) : Lib.validD (s.data.toList.drop pos) = false := by
  rw [Lib.validD_step _ (drop_ne s pos h), Lib.decodeL_drop]
  have h2 := decN_err (s.size - pos) (s.get! pos).toNat (s.get! (pos + 1)).toNat (s.get! (pos + 2)).toNat (s.get! (pos + 3)).toNat (UInt8.toNat_lt _) (UInt8.toNat_lt _) (UInt8.toNat_lt _) (UInt8.toNat_lt _)
  rw [← Lib.decode_at] at h2
  rw [if_pos ⟨hr, by rcases h2 hr with h | h <;> omega⟩]
theorem val_good (s : ByteArray) (pos : Nat) (h : 3 ≤ s.size - pos) (h0 : (s.get! pos).toNat = 239) (h1 : (s.get! (pos + 1)).toNat = 191) (h2 : (s.get! (pos + 2)).toNat = 189) :
    Lib.validD (s.data.toList.drop (pos + (Utf8.decode s pos).2)) = Lib.validD (s.data.toList.drop pos) := by
  refine val_next s pos (by omega) ?_
  rw [Lib.decode_at, h0, h1, h2, decN_err3 _ _ h]
  intro h; exact absurd h.2 (by decide)
end V

set_option maxHeartbeats 1600000 in
theorem rvalid_any (s : ByteArray) (w : World) (hs : s.size ≤ 9223372036854775807) :
    Calls Tryd.prog 112 #[.string s] w fun e w' => e = .returned (.bool (Lib.validD s.data.toList)) ∧ ∃ pos, w' = w.iter s pos := by
  obtain ⟨p, hp⟩ : ∃ p, p = Lib.validD s.data.toList := ⟨_, rfl⟩
  rw [← hp]
  have HP := Lib.hid hp
  clear hp
  go_enter Tryd.func112, Tryd.ntmps112
  go_wp2
  go_loopw [3] (fun _ wr => ∃ pos : Nat, wr = w.iter s pos ∧ Hid (Lib.validD (s.data.toList.drop pos) = p)) (fun _ wr => s.size - wr.iterPos w.heap.size)
  case atStart => exact ⟨0, rfl, HP.out.symm⟩
  case round =>
    obtain ⟨pos, rfl, HV⟩ := hrel
    by_cases hlt : pos < s.size
    · have hnx : ∀ ty, (Instr.next (.pointer (some ⟨w.heap.size, 0, none⟩)) true ty).run Tryd.prog (w.iter s pos) = _ := fun ty => run_next_any w s pos ty hlt
      by_cases hr : (Utf8.decode s pos).1 = 65533
      · rw [hr] at hnx
        by_cases h3 : s.size - pos < 3
        · have h3' : (s.size : Int) - (pos : Int) < 3 := by omega
          have hpf : p = false := by rw [← HV.out]; exact V.val_bad s pos hlt hr (Or.inl h3)
          have HF := Lib.hid hpf
          clear hpf
          go_wp2
          go_ret
          exact ⟨ret_bool HF.out.symm, _, rfl⟩
        · have h3' : ¬ (s.size : Int) - (pos : Int) < 3 := by omega
          have g0 := V.getx s pos hlt
          have g1 := V.getx s (pos + 1) (by omega)
          have g2 := V.getx s (pos + 2) (by omega)
          have hbad := V.val_bad s pos hlt hr
          have hgood := V.val_good s pos (by omega)
          rw [← g0, ← g1, ← g2, HV.out] at hbad
          rw [← g0, ← g1, ← g2, HV.out] at hgood
          have HBD := Lib.hid hbad
          have HGD := Lib.hid hgood
          have hwd := Lib.hid (Lib.width_pos s pos)
          clear g0 g1 g2 hbad hgood
          go_wp2
          case roundEnd =>
            rename_i c0 c1 c2 c3 c4
            go_roundw
            case rel => exact ⟨_, rfl, HGD.out (by omega) (by omega) (by have := c4; simp at this; omega)⟩
            case measure =>
              have := hwd.out
              simp
              omega
          all_goals
            go_ret
            refine ⟨ret_bool ?_, _, rfl⟩
            rw [HBD.out (by simp at *; omega)]
      · have hr' : ¬ ((Utf8.decode s pos).1 : Int) = 65533 := by omega
        go_wp2
        go_roundw
        case rel =>
          exact ⟨pos + (Utf8.decode s pos).2, rfl, (V.val_next s pos hlt (fun h => hr h.1)).trans HV.out⟩
        case measure => 
          have hwd := Lib.width_pos s pos
          simp
          omega
    · have hnx : ∀ ty, (Instr.next (.pointer (some ⟨w.heap.size, 0, none⟩)) true ty).run Tryd.prog (w.iter s pos) = _ := fun ty => run_next_end w s pos ty hlt
      go_wp2
      go_ret
      refine ⟨ret_bool ?_, _, rfl⟩
      rw [← HV.out, List.drop_eq_nil_of_le (by rw [Array.length_toList]; exact Nat.le_of_not_lt hlt)]
      rfl
end Go.Proofs.YtjofjpmhokjhnaaDoor

namespace Go.Proofs.YtjofjpmhokjhnaaDoor
set_option maxRecDepth 20001
open Go.RowKit
set_option linter.unusedSimpArgs false
set_option linter.unusedVariables false

theorem iterBelow (w : World) (s : ByteArray) (pos : Nat) : Below w.heap.size w (w.iter s pos) := (Below.refl _ _).alloc (Nat.le_refl _) _

set_option maxHeartbeats 1600000 in
theorem rformed_0 (b : Nat) (t : ByteArray) (w : World) :
    Calls Tryd.prog 54 #[.agg #[.int .i64 0, .int .u64 b, .string t]] w fun e w' => e = .returned (.bool (decide (b = 0 ∧ t.toList = []))) ∧ Below w.heap.size w w' := by
  by_cases hb : b = 0
  · subst hb
    obtain ⟨p, hp⟩ : ∃ p : Bool, p = decide (0 = 0 ∧ t.toList = []) := ⟨_, rfl⟩
    rw [← hp]
    have HP := Lib.hid hp
    clear hp
    go_enter Tryd.func54, Tryd.ntmps54
    go_wp2
    go_ret
    refine ⟨ret_bool ?_, (Below.refl _ _).alloc (Nat.le_refl _) _⟩
    rw [HP.out]
    cases t.toList <;> simp
  · rw [show decide (b = 0 ∧ t.toList = []) = false by simp [hb]]
    have hb' : ¬ (b : Int) = 0 := by omega
    go_enter Tryd.func54, Tryd.ntmps54
    go_wp2
    go_ret
    exact ⟨rfl, (Below.refl _ _).alloc (Nat.le_refl _) _⟩
set_option maxHeartbeats 1600000 in
theorem rformed_1 (b : Nat) (bb : b < 18446744073709551616) (t : ByteArray) (w : World) (ht : t.toList = []) :
    Calls Tryd.prog 54 #[.agg #[.int .i64 1, .int .u64 b, .string t]] w fun e w' => e = .returned (.bool (decide (V.ncanon b = b))) ∧ Below w.heap.size w w' := by
  obtain ⟨p, hp⟩ : ∃ p : Bool, p = decide (V.ncanon b = b) := ⟨_, rfl⟩
  rw [← hp]
  have HP := Lib.hid hp
  have HT := Lib.hid ht
  clear hp
  have k := (cell3 w (.int .i64 1) (.int .u64 b) (.string t) 35).2
  go_enter Tryd.func54, Tryd.ntmps54
  go_wp2
  go_region_held3 (fun w' => w'.cell? ⟨w.heap.size, 1, none⟩ = some (.int .u64 b) ∧ w'.cell? ⟨w.heap.size, 2, none⟩ = some (.string t)) (exact k) (first | (go_at_call 111; refine (rcanon_any b bb _).mono ?_; rintro e v1 ⟨rfl, rfl⟩))
  go_wp2
  go_ret
  refine ⟨ret_bool ?_, belowDrewN ((Below.refl _ _).alloc (Nat.le_refl _) _) _⟩
  rw [HP.out]
  by_cases h : V.ncanon b = b
  · simp [h]
  · have : ¬ ((V.ncanon b : Int) = (b : Int)) := by omega
    simp [h, this]
set_option maxHeartbeats 1600000 in
theorem rformed_1' (b : Nat) (t : ByteArray) (w : World) (ht : ¬ t.toList = []) :
    Calls Tryd.prog 54 #[.agg #[.int .i64 1, .int .u64 b, .string t]] w fun e w' => e = .returned (.bool false) ∧ Below w.heap.size w w' := by
  have HT := Lib.hid ht
  go_enter Tryd.func54, Tryd.ntmps54
  go_wp2
  go_quiet (fail)
  go_wp2
  go_ret
  exact ⟨rfl, belowDrewN ((Below.refl _ _).alloc (Nat.le_refl _) _) _⟩
set_option maxHeartbeats 1600000 in
theorem rformed_2 (t : ByteArray) (w : World) (hs : t.size ≤ 40) :
    Calls Tryd.prog 54 #[.agg #[.int .i64 2, .int .u64 0, .string t]] w fun e w' => e = .returned (.bool (Lib.validD t.data.toList)) ∧ Below w.heap.size w w' := by
  obtain ⟨p, hp⟩ : ∃ p : Bool, p = Lib.validD t.data.toList := ⟨_, rfl⟩
  rw [← hp]
  have HP := Lib.hid hp
  clear hp
  have hs' : (t.size : Int) ≤ 40 := by omega
  go_enter Tryd.func54, Tryd.ntmps54
  go_wp2_with fail
  refine (rvalid_any t _ (by omega)).mono ?_
  rw [← HP.out]
  rintro e v1 ⟨rfl, pos, rfl⟩
  go_wp2_with fail
  go_ret
  exact ⟨rfl, ((Below.refl _ _).alloc (Nat.le_refl _) _).trans ((iterBelow _ _ _).mono (by simp))⟩
set_option maxHeartbeats 1600000 in
theorem rformed_2l (t : ByteArray) (w : World) (hs : ¬ t.size ≤ 40) :
    Calls Tryd.prog 54 #[.agg #[.int .i64 2, .int .u64 0, .string t]] w fun e w' => e = .returned (.bool false) ∧ Below w.heap.size w w' := by
  have h1 : ¬ (t.size : Int) ≤ 40 := by omega
  go_enter Tryd.func54, Tryd.ntmps54
  go_wp2
  go_ret
  exact ⟨rfl, (Below.refl _ _).alloc (Nat.le_refl _) _⟩
set_option maxHeartbeats 1600000 in
theorem rformed_2b (b : Nat) (t : ByteArray) (w : World) (hb : ¬ b = 0) :
    Calls Tryd.prog 54 #[.agg #[.int .i64 2, .int .u64 b, .string t]] w fun e w' => e = .returned (.bool false) ∧ Below w.heap.size w w' := by
  go_enter Tryd.func54, Tryd.ntmps54
  go_wp2
  go_ret
  exact ⟨rfl, (Below.refl _ _).alloc (Nat.le_refl _) _⟩
set_option maxHeartbeats 1600000 in
theorem rformed_3 (k : Int) (b : Nat) (t : ByteArray) (w : World) (h0 : ¬ k = 0) (h1 : ¬ k = 1) (h2 : ¬ k = 2) :
    Calls Tryd.prog 54 #[.agg #[.int .i64 k, .int .u64 b, .string t]] w fun e w' => e = .returned (.bool false) ∧ Below w.heap.size w w' := by
  go_enter Tryd.func54, Tryd.ntmps54
  go_wp2
  go_ret
  exact ⟨rfl, (Below.refl _ _).alloc (Nat.le_refl _) _⟩
theorem rformed_any (k : Int) (b : Nat) (bb : b < 18446744073709551616) (t : ByteArray) (w : World) :
    Calls Tryd.prog 54 #[V.val k b t] w fun e w' => e = .returned (.bool (V.formed k b t.data.toList)) ∧ Below w.heap.size w w' := by
  have hsz : t.data.toList.length = t.size := by rw [Array.length_toList]; rfl
  unfold V.formed V.val
  by_cases h0 : k = 0
  · subst h0
    rw [if_pos rfl, ← Lib.toList_data t]
    exact rformed_0 b t w
  · rw [if_neg h0]
    by_cases h1 : k = 1
    · subst h1
      rw [if_pos rfl, ← Lib.toList_data t]
      by_cases ht : t.toList = []
      · rw [show decide (t.toList = [] ∧ V.ncanon b = b) = decide (V.ncanon b = b) by simp [ht]]
        exact rformed_1 b bb t w ht
      · rw [show decide (t.toList = [] ∧ V.ncanon b = b) = false by simp [ht]]
        exact rformed_1' b t w ht
    · rw [if_neg h1]
      by_cases h2 : k = 2
      · subst h2
        rw [if_pos rfl, hsz]
        by_cases hb : b = 0
        · subst hb
          by_cases hs : t.size ≤ 40
          · rw [show decide (0 = 0 ∧ t.size ≤ 40) = true by simp [hs], Bool.true_and]
            exact rformed_2 t w hs
          · rw [show decide (0 = 0 ∧ t.size ≤ 40) = false by simp [hs], Bool.false_and]
            exact rformed_2l t w hs
        · rw [show decide (b = 0 ∧ t.size ≤ 40) = false by simp [hb], Bool.false_and]
          exact rformed_2b b t w hb
      · rw [if_neg h2]
        exact rformed_3 k b t w h0 h1 h2

theorem key_all_at (s : ByteArray) (j : Nat) (hj : j < s.size) (hn : V.kb (s[j]'hj) = false) : V.key s.data.toList = false := by
  unfold V.key
  have : s.data.toList.all V.kb = false := by
    rw [← Bool.not_eq_true, List.all_eq_true]
    intro h
    have hm : s[j]'hj ∈ s.data.toList := by
      show s.data[j]'hj ∈ s.data.toList
      simp
    rw [h _ hm] at hn
    exact Bool.noConfusion hn
  rw [this, Bool.and_false]
set_option maxHeartbeats 1600000 in
theorem rkey_any (s : ByteArray) (w : World) (hs : s.size ≤ 9223372036854775807) :
    Calls Tryd.prog 53 #[.string s] w fun e w' => e = .returned (.bool (V.key s.data.toList)) ∧ w' = w := by
  obtain ⟨p, hp⟩ : ∃ p, p = V.key s.data.toList := ⟨_, rfl⟩
  rw [← hp]
  have HP := Lib.hid hp
  clear hp
  have hsz : s.data.toList.length = s.size := by rw [Array.length_toList]; rfl
  have HSZ := Lib.hid hsz
  clear hsz
  go_enter Tryd.func53, Tryd.ntmps53
  go_wp2_with fail
  go_loopw [3] (fun i wr => ∃ k : Nat, k ≤ s.size ∧ i = .int .i64 (k : Int) ∧ Hid (∀ j (hj : j < s.size), j < k → V.kb (s[j]'hj) = true) ∧ wr = w) (fun i _ => s.size - (intOf i).toNat)
  case atStart => exact ⟨0, Nat.zero_le _, rfl, fun j hj h => absurd h (by omega), rfl⟩
  case round =>
    obtain ⟨k, hk, rfl, HA, rfl⟩ := hrel
    by_cases hlt : k < s.size
    · have hb0 : (0 : Int) ≤ (k : Int) := by omega
      have hb1 : (k : Int) < (s.size : Int) := by omega
      have HF := Lib.hid (fun h => key_all_at s k hlt h)
      have HN : Hid (V.kb (s[k]'hlt) = true → ∀ j (hj : j < s.size), j < k + 1 → V.kb (s[j]'hj) = true) := by
        intro h j hj hjk
        by_cases e : j = k
        · subst e; exact h
        · exact HA.out j hj (by omega)
      have HKB : Hid (V.kb (s[k]'hlt) = (decide (97 ≤ (s[k]'hlt).toNat ∧ (s[k]'hlt).toNat ≤ 122) || decide (48 ≤ (s[k]'hlt).toNat ∧ (s[k]'hlt).toNat ≤ 57))) := rfl
      go_wp2
      all_goals
        first
        | (go_ret
           refine ⟨ret_bool ?_, by first | rfl | trivial⟩
           have hf : V.kb (s[k]'hlt) = false := by
             rw [HKB.out, Bool.or_eq_false_iff]
             exact ⟨decide_eq_false (by omega), decide_eq_false (by omega)⟩
           rw [HP.out, HF.out hf])
        | (go_roundw
           case rel => exact ⟨k + 1, by omega, by go_num, HN.out (by rw [HKB.out, Bool.or_eq_true, decide_eq_true_eq, decide_eq_true_eq]; omega), by first | rfl | trivial⟩
           case measure => simp [intOf]; omega)
    · have hb1 : ¬ (k : Int) < (s.size : Int) := by omega
      have hall : s.data.toList.all V.kb = true := by
        rw [List.all_eq_true]
        intro x hx
        obtain ⟨j, hj, e⟩ := List.getElem_of_mem hx
        rw [HSZ.out] at hj
        rw [← e]
        exact HA.out j hj (by omega)
      have hpp : p = (decide (1 ≤ s.size) && decide (s.size ≤ 12)) := by
        rw [HP.out]; unfold V.key; rw [hall, HSZ.out, Bool.and_true]
      clear hall HP HA HSZ
      by_cases c1 : 1 ≤ s.size
      · have c1' : (1 : Int) ≤ (s.size : Int) := by omega
        by_cases c2 : s.size ≤ 12
        · have c2' : (s.size : Int) ≤ 12 := by omega
          have e : p = true := by rw [hpp, decide_eq_true c1, decide_eq_true c2]; rfl
          subst e
          clear hpp
          go_wp2_with fail
          go_ret
          exact ⟨rfl, by first | rfl | trivial⟩
        · have c2' : ¬ (s.size : Int) ≤ 12 := by omega
          have e : p = false := by rw [hpp, decide_eq_false c2, Bool.and_false]
          subst e
          clear hpp
          go_wp2_with fail
          go_ret
          exact ⟨rfl, by first | rfl | trivial⟩
      · have c1' : ¬ (1 : Int) ≤ (s.size : Int) := by omega
        have e : p = false := by rw [hpp, decide_eq_false c1, Bool.false_and]
        subst e
        clear hpp
        go_wp2_with fail
        go_ret
        exact ⟨rfl, by first | rfl | trivial⟩
end Go.Proofs.YtjofjpmhokjhnaaDoor
