import Derived.Test.YtimfoimcaapodaaDoorVtM7
import Derived.Deep.RegionWith
import Derived.Laws.Externs
import Derived.Laws.Bits64
import Derived.Laws.Bits64b
import Derived.Lib.ValidLaws
import Derived.Lib.TrimUEq
import Derived.Laws.RangeString
import Derived.Laws.RangeAny
set_option maxHeartbeats 1600000
set_option maxRecDepth 20001
set_option linter.unusedSimpArgs false
set_option linter.unusedVariables false
namespace Go.Proofs.YtimfoimcaapodaaDoor
set_option maxRecDepth 20000
section
open Go.RowKit
theorem heapB {w w' : World} {g : Nat} {o' : Obj} (h : w.heap[g]? = some o') (hb : Below w.heap.size w w') : w'.heap[g]? = some o' := (hb.block g (Array.getElem?_eq_some_iff.1 h).1).trans h
theorem RdrAt.alloc {w : World} {B g : Nat} {s : C.St} (h : RdrAt w B g s) (o : Obj) : RdrAt (w.alloc o) B g s := by
 obtain ⟨A, c, hb, h1, h2, h3, hr, h4⟩ := h;exact ⟨A, c, (Below.heap_alloc w o g (ltAt hb)).trans hb, h1, h2, h3, hr.alloc (by have := ltAt hb; omega) o, h4⟩
theorem RdrAt.below {w w' : World} {B g : Nat} {s : C.St} (h : RdrAt w B g s) (hb : Below w.heap.size w w') : RdrAt w' B g s := by
 obtain ⟨A, c, hb0, h1, h2, h3, hr, h4⟩ := h;exact ⟨A, c, heapB hb0 hb, h1, h2, h3, hr.below (hb.mono (by have := ltAt hb0; omega)), h4⟩
end
section
open Go.RowKit
namespace V
def nan (b : Nat) : Bool := FloatKind.f64.format.order b b != some Ordering.eq
def ncanon (b : Nat) : Nat := bif nan b then 9221120237041090560 else b
end V
theorem run_frombits (b : Nat) (w : World) : (callFunc 42 #[.int .u64 b]).run Tryd.prog w = .ok (.value (.float .f64 b)) w := by
 rw [run_callFunc_extern Tryd.func42 (by kernel_rfl) (by kernel_rfl) (by kernel_rfl) (e := Go.Extern.MathFloatBits.float64frombits) (by kernel_rfl)];rfl
theorem ncanon_any (b : Nat) (w : World) :
 Calls Tryd.prog 21 #[.int .u64 b] w fun e w' => e = .returned (.int .u64 (V.ncanon b)) ∧ w' = w := by
 have hfb := run_frombits b;obtain ⟨p, hp⟩ : ∃ p, p = V.ncanon b := ⟨_, rfl⟩;rw [← hp];have HP := Lib.hid hp;clear hp
 go_enter Tryd.func21, Tryd.ntmps21
 go_wp2
 all_goals
  rename_i h
  go_ret
  refine ⟨ret_int ?_, rfl⟩;rw [HP.out];unfold V.ncanon V.nan;rw [h];rfl
end
section
open Go.RowKit
namespace V
theorem nan_eq (b : Nat) : nan b = decide (9218868437227405312 < b % 9223372036854775808) := by
 unfold nan Ieee.Format.order Ieee.Format.read;(have hs : FloatKind.f64.format.signWeight = 9223372036854775808 := by decide);(have hb : FloatKind.f64.format.binade = 4503599627370496 := by decide);(have hi : FloatKind.f64.format.infRung = 9218868437227405312 := by decide);simp only [hs, hb, hi];generalize b % 9223372036854775808 = m
 split
 ·rw [decide_eq_false (by omega)]; simp [Ieee.Datum.order]
 ·split
  ·rw [decide_eq_false (by omega)]; simp [Ieee.Datum.order]
  ·split
   ·rw [decide_eq_false (by omega)]; simp [Ieee.Datum.order]
   ·rw [decide_eq_true (by omega)]; simp [Ieee.Datum.order]
def ex (b : Nat) : Nat := b / 4503599627370496 % 2048
def fr (b : Nat) : Nat := b % 4503599627370496
def mi (b : Nat) : Bool := decide (9223372036854775808 ≤ b)
def kind (b : Nat) : Int :=
 if ex b = 2047 ∧ ¬ fr b = 0 then 0
 else if ex b = 2047 ∧ mi b = true then 1
 else if ex b = 2047 then 6
 else if ex b = 0 ∧ fr b = 0 ∧ mi b = true then 3
 else if ex b = 0 ∧ fr b = 0 then 4
 else if mi b = true then 2
 else 5
theorem nan_kind (b : Nat) : nan b = decide (kind b = 0) := by
 rw [nan_eq];unfold kind ex fr mi
 by_cases h : 9218868437227405312 < b % 9223372036854775808
 ·rw [decide_eq_true h, if_pos (by omega)]; rfl
 ·rw [decide_eq_false h, if_neg (by omega)]
  symm
  apply decide_eq_false
  repeat' split
  all_goals omega
end V
theorem and11 (b : Nat) (hb : b < 18446744073709551616) : bits .and .u64 ((b : Int) / 4503599627370496) 2047 = ((V.ex b : Nat) : Int) := by
 have h := bits_and_u64_nat (b / 4503599627370496) 2047 (by omega) (by decide);rw [show (b / 4503599627370496 &&& 2047 : Nat) = b / 4503599627370496 % 2048 from Nat.and_two_pow_sub_one_eq_mod _ 11] at h;exact h
theorem and52 (b : Nat) (hb : b < 18446744073709551616) : bits .and .u64 (b : Int) 4503599627370495 = ((V.fr b : Nat) : Int) := by
 have h := bits_and_u64_nat b 4503599627370495 (by omega) (by decide);rw [show (b &&& 4503599627370495 : Nat) = b % 4503599627370496 from Nat.and_two_pow_sub_one_eq_mod _ 52] at h;exact h
theorem parts_any (b : Nat) (hb : b < 18446744073709551616) (w : World) :
 Calls Tryd.prog 81 #[.int .u64 b] w fun e w' => e = .returned (.tuple #[.bool (V.mi b), .int .u64 (V.ex b), .int .u64 (V.fr b)]) ∧ w' = w := by
 go_enter Tryd.func81, Tryd.ntmps81
 go_wp2
 go_ret3
 refine ⟨ret_of ?_, rfl⟩
 congr 1
 rw [← and11 b hb, ← and52 b hb, show V.mi b = decide ((9223372036854775808 : Int) ≤ (b : Int)) from by unfold V.mi; congr 1; simp; omega];rfl
def V.kindOf (m : Bool) (e f : Nat) : Int :=
 if e = 2047 ∧ ¬ f = 0 then 0
 else if e = 2047 ∧ m = true then 1
 else if e = 2047 then 6
 else if e = 0 ∧ f = 0 ∧ m = true then 3
 else if e = 0 ∧ f = 0 then 4
 else if m = true then 2
 else 5
theorem rkind_any (b : Nat) (hb : b < 18446744073709551616) (w : World) :
 Calls Tryd.prog 66 #[.int .u64 b] w fun e w' => e = .returned (.int .i64 (V.kind b)) ∧ w' = w := by
 rw [show V.kind b = V.kindOf (V.mi b) (V.ex b) (V.fr b) from rfl];have hp := Lib.hid (parts_any b hb w);generalize V.mi b = m at *;generalize V.ex b = e at *;generalize V.fr b = f at *;obtain ⟨p, hq⟩ : ∃ p, p = V.kindOf m e f := ⟨_, rfl⟩;rw [← hq];have HQ := Lib.hid hq;clear hq
 go_enter Tryd.func66, Tryd.ntmps66
 go_wp2_with fail
 refine hp.out.mono ?_;rintro e' w1 ⟨rfl, rfl⟩;clear hp
 by_cases he : e = 2047
 ·subst he
  by_cases hf : f = 0
  ·subst hf;cases m
   all_goals
    go_wp2_with fail
    go_ret
    exact ⟨ret_int (by rw [HQ.out]; rfl), rfl⟩
  ·(have hf2 : ¬ (f : Int) = 0 := by omega);cases m
   all_goals
    go_wp2_with fail
    go_ret
    exact ⟨ret_int (by rw [HQ.out]; simp [V.kindOf, hf]), rfl⟩
 ·have he2 : ¬ (e : Int) = 2047 := by omega
  by_cases h0 : e = 0
  ·subst h0
   by_cases hf : f = 0
   ·subst hf;cases m
    all_goals
     go_wp2_with fail
     go_ret
     exact ⟨ret_int (by rw [HQ.out]; rfl), rfl⟩
   ·(have hf2 : ¬ (f : Int) = 0 := by omega);cases m
    all_goals
     go_wp2_with fail
     go_ret
     exact ⟨ret_int (by rw [HQ.out]; simp [V.kindOf, hf]), rfl⟩
  ·(have h02 : ¬ (e : Int) = 0 := by omega);cases m
   all_goals
    go_wp2_with fail
    go_ret
    exact ⟨ret_int (by rw [HQ.out]; simp [V.kindOf, he, h0]), rfl⟩
theorem rcanon_any (b : Nat) (hb : b < 18446744073709551616) (w : World) :
 Calls Tryd.prog 39 #[.int .u64 b] w fun e w' => e = .returned (.int .u64 (V.ncanon b)) ∧ w' = w := by
 have hk := rkind_any b hb;have hn := V.nan_kind b;obtain ⟨p, hp⟩ : ∃ p, p = V.ncanon b := ⟨_, rfl⟩;rw [← hp];unfold V.ncanon at hp;rw [hn] at hp;clear hn
 by_cases h : V.kind b = 0
 ·rw [decide_eq_true h] at hp;rw [h] at hk;have HK := Lib.hid hk;clear hk h
  replace hp : p = 9221120237041090560 := hp
  subst hp
  go_enter Tryd.func39, Tryd.ntmps39
  go_wp2_with fail
  refine (HK.out w).mono ?_;rintro e' w1 ⟨rfl, rfl⟩
  go_wp2_with fail
  go_ret
  exact ⟨rfl, rfl⟩
 ·rw [decide_eq_false h] at hp;have HK := Lib.hid hk;clear hk
  replace hp : p = b := hp
  subst hp;obtain ⟨q, hq⟩ : ∃ q, q = V.kind p := ⟨_, rfl⟩;rw [← hq] at HK h;clear hq;(have h' : (q == 0) = false := by simpa using h);clear h
  go_enter Tryd.func39, Tryd.ntmps39
  go_wp2_with fail
  refine (HK.out w).mono ?_;rintro e' w1 ⟨rfl, rfl⟩
  go_wp2_with fail
  go_ret
  exact ⟨rfl, rfl⟩
end
section
open Go.RowKit
namespace V
theorem getx (s : ByteArray) (i : Nat) (h : i < s.size) : s[i]'h = s.get! i := by
 obtain ⟨a⟩ := s;show a[i]'h = a[i]!;rw [getElem!_pos a i h]
theorem decN_err (n b0 b1 b2 b3 : Nat) (h0 : b0 < 256) (h1 : b1 < 256) (h2 : b2 < 256) (h3 : b3 < 256) (h : (Lib.decodeN n b0 b1 b2 b3).1 = 65533) :
 ((Lib.decodeN n b0 b1 b2 b3).2 = 1 ∨ (3 ≤ n ∧ b0 = 239 ∧ b1 = 191 ∧ b2 = 189)) := by
 unfold Lib.decodeN at *
 split at h
 ·simp only at h; omega
 ·rename_i c0
  rw [if_neg c0]
  split at h
  ·rename_i c1
   rw [if_pos c1]
   split at h
   ·simp only at h; omega
   ·rename_i c; rw [if_neg c]; exact Or.inl rfl
  ·rename_i c1
   rw [if_neg c1]
   split at h
   ·rename_i c2
    rw [if_pos c2]
    split at h
    ·simp only at h; right; omega
    ·rename_i c; rw [if_neg c]; exact Or.inl rfl
   ·rename_i c2
    rw [if_neg c2]
    split at h
    ·rename_i c3
     rw [if_pos c3]
     split at h
     ·simp only at h; omega
     ·rename_i c; rw [if_neg c]; exact Or.inl rfl
    ·rename_i c3; rw [if_neg c3]; exact Or.inl rfl
theorem decN_err3 (n b3 : Nat) (hn : 3 ≤ n) : Lib.decodeN n 239 191 189 b3 = (65533, 3) := by
 unfold Lib.decodeN;rw [if_neg (by omega), if_neg (by omega), if_pos (by omega), if_pos (by omega)]
theorem drop_ne (s : ByteArray) (pos : Nat) (h : pos < s.size) : s.data.toList.drop pos ≠ [] := by
 intro e;(have h1 : (s.data.toList.drop pos).length = 0 := by rw [e]; rfl);rw [List.length_drop] at h1;(have h2 : s.data.toList.length = s.size := by rw [Array.length_toList]; rfl);omega
theorem val_next (s : ByteArray) (pos : Nat) (h : pos < s.size) (hn : ¬ ((Utf8.decode s pos).1 = 65533 ∧ (Utf8.decode s pos).2 = 1)) :
 Lib.validD (s.data.toList.drop (pos + (Utf8.decode s pos).2)) = Lib.validD (s.data.toList.drop pos) := by
 rw [Lib.validD_step _ (drop_ne s pos h), Lib.decodeL_drop, if_neg hn, List.drop_drop]
theorem val_bad (s : ByteArray) (pos : Nat) (h : pos < s.size) (hr : (Utf8.decode s pos).1 = 65533)
 (hb : s.size - pos < 3 ∨ (s.get! pos).toNat ≠ 239 ∨ (s.get! (pos + 1)).toNat ≠ 191 ∨ (s.get! (pos + 2)).toNat ≠ 189) : Lib.validD (s.data.toList.drop pos) = false := by
 rw [Lib.validD_step _ (drop_ne s pos h), Lib.decodeL_drop];have h2 := decN_err (s.size - pos) (s.get! pos).toNat (s.get! (pos + 1)).toNat (s.get! (pos + 2)).toNat (s.get! (pos + 3)).toNat (UInt8.toNat_lt _) (UInt8.toNat_lt _) (UInt8.toNat_lt _) (UInt8.toNat_lt _);rw [← Lib.decode_at] at h2;rw [if_pos ⟨hr, by rcases h2 hr with h | h <;> omega⟩]
theorem val_good (s : ByteArray) (pos : Nat) (h : 3 ≤ s.size - pos) (h0 : (s.get! pos).toNat = 239) (h1 : (s.get! (pos + 1)).toNat = 191) (h2 : (s.get! (pos + 2)).toNat = 189) :
 Lib.validD (s.data.toList.drop (pos + (Utf8.decode s pos).2)) = Lib.validD (s.data.toList.drop pos) := by
 refine val_next s pos (by omega) ?_;rw [Lib.decode_at, h0, h1, h2, decN_err3 _ _ h];intro h; exact absurd h.2 (by decide)
end V
theorem rvalid_any (s : ByteArray) (w : World) (hs : s.size ≤ 9223372036854775807) :
 Calls Tryd.prog 40 #[.string s] w fun e w' => e = .returned (.bool (Lib.validD s.data.toList)) ∧ ∃ pos, w' = w.iter s pos := by
 obtain ⟨p, hp⟩ : ∃ p, p = Lib.validD s.data.toList := ⟨_, rfl⟩;rw [← hp];have HP := Lib.hid hp;clear hp
 go_enter Tryd.func40, Tryd.ntmps40
 go_wp2
 go_loopw [3] (fun _ wr => ∃ pos : Nat, wr = w.iter s pos ∧ Hid (Lib.validD (s.data.toList.drop pos) = p)) (fun _ wr => s.size - wr.iterPos w.heap.size)
 case atStart => exact ⟨0, rfl, HP.out.symm⟩
 case round =>
  obtain ⟨pos, rfl, HV⟩ := hrel
  by_cases hlt : pos < s.size
  ·have hnx : ∀ ty, (Instr.next (.pointer (some ⟨w.heap.size, 0, none⟩)) true ty).run Tryd.prog (w.iter s pos) = _ := fun ty => run_next_any w s pos ty hlt
   by_cases hr : (Utf8.decode s pos).1 = 65533
   ·rw [hr] at hnx
    by_cases h3 : s.size - pos < 3
    ·(have h3' : (s.size : Int) - (pos : Int) < 3 := by omega);(have hpf : p = false := by rw [← HV.out]; exact V.val_bad s pos hlt hr (Or.inl h3));have HF := Lib.hid hpf;clear hpf
     go_wp2
     go_ret
     exact ⟨ret_bool HF.out.symm, _, rfl⟩
    ·(have h3' : ¬ (s.size : Int) - (pos : Int) < 3 := by omega);have g0 := V.getx s pos hlt;have g1 := V.getx s (pos + 1) (by omega);have g2 := V.getx s (pos + 2) (by omega);have hbad := V.val_bad s pos hlt hr;have hgood := V.val_good s pos (by omega);rw [← g0, ← g1, ← g2, HV.out] at hbad;rw [← g0, ← g1, ← g2, HV.out] at hgood;have HBD := Lib.hid hbad;have HGD := Lib.hid hgood;have hwd := Lib.hid (Lib.width_pos s pos);clear g0 g1 g2 hbad hgood
     go_wp2
     case roundEnd =>
      rename_i c0 c1 c2 c3 c4
      go_roundw
      case rel => exact ⟨_, rfl, HGD.out (by omega) (by omega) (by have := c4; simp at this; omega)⟩
      case measure =>
       have := hwd.out;simp;omega
     all_goals
      go_ret
      refine ⟨ret_bool ?_, _, rfl⟩;rw [HBD.out (by simp at *; omega)]
   ·have hr' : ¬ ((Utf8.decode s pos).1 : Int) = 65533 := by omega
    go_wp2
    go_roundw
    case rel =>
     exact ⟨pos + (Utf8.decode s pos).2, rfl, (V.val_next s pos hlt (fun h => hr h.1)).trans HV.out⟩
    case measure =>
     have hwd := Lib.width_pos s pos;simp;omega
  ·have hnx : ∀ ty, (Instr.next (.pointer (some ⟨w.heap.size, 0, none⟩)) true ty).run Tryd.prog (w.iter s pos) = _ := fun ty => run_next_end w s pos ty hlt
   go_wp2
   go_ret
   refine ⟨ret_bool ?_, _, rfl⟩;rw [← HV.out, List.drop_eq_nil_of_le (by rw [Array.length_toList]; exact Nat.le_of_not_lt hlt)];rfl
end
end Go.Proofs.YtimfoimcaapodaaDoor
