import Derived.Test.YthclniimhpmeoaaGreatDoorMrM2
import Derived.Laws.Externs
import Derived.Laws.Bits64
import Derived.Laws.Bits64b
import Derived.Lib.ValidLaws
import Derived.Lib.TrimUEq
import Derived.Laws.RangeString
import Derived.Laws.RangeAny
import Derived.Deep.MidRow
import Derived.Deep.RegionHeld
set_option maxHeartbeats 1600000
set_option maxRecDepth 20001
set_option linter.unusedSimpArgs false
set_option linter.unusedVariables false
namespace Go.Proofs.YthclniimhpmeoaaGreatDoor
set_option maxRecDepth 20000
section
open Go.RowKit
namespace V
def nan (b : Nat) : Bool := FloatKind.f64.format.order b b != some Ordering.eq
def ncanon (b : Nat) : Nat := bif nan b then 9221120237041090560 else b
end V
theorem run_frombits (b : Nat) (w : World) : (callFunc 144 #[.int .u64 b]).run Tryz.prog w = .ok (.value (.float .f64 b)) w := by
 rw [run_callFunc_extern Tryz.func144 (by kernel_rfl) (by kernel_rfl) (by kernel_rfl) (e := Go.Extern.MathFloatBits.float64frombits) (by kernel_rfl)];rfl
theorem ncanon_any (b : Nat) (w : World) :
 Calls Tryz.prog 131 #[.int .u64 b] w fun e w' => e = .returned (.int .u64 (V.ncanon b)) ∧ w' = w := by
 have hfb := run_frombits b;obtain ⟨p, hp⟩ : ∃ p, p = V.ncanon b := ⟨_, rfl⟩;rw [← hp];have HP := Lib.hid hp;clear hp
 go_enter Tryz.func131, Tryz.ntmps131
 go_wp2
 all_goals
  rename_i h
  go_ret
  refine ⟨ret_int ?_, rfl⟩;rw [HP.out];unfold V.ncanon V.nan;rw [h];rfl
end
section
open Go.RowKit
namespace V
theorem nan_eq (b : Nat) : nan b = decide (9218868437227405312 < b % 9223372036854775808) := by
 unfold nan Ieee.Format.order Ieee.Format.read;(have hs : FloatKind.f64.format.signWeight = 9223372036854775808 := by decide);(have hb : FloatKind.f64.format.binade = 4503599627370496 := by decide);(have hi : FloatKind.f64.format.infRung = 9218868437227405312 := by decide);simp only [hs, hb, hi];generalize b % 9223372036854775808 = m
 split
 ·rw [decide_eq_false (by omega)]; simp [Ieee.Datum.order]
 ·split
  ·rw [decide_eq_false (by omega)]; simp [Ieee.Datum.order]
  ·split
   ·rw [decide_eq_false (by omega)]; simp [Ieee.Datum.order]
   ·rw [decide_eq_true (by omega)]; simp [Ieee.Datum.order]
def ex (b : Nat) : Nat := b / 4503599627370496 % 2048
def fr (b : Nat) : Nat := b % 4503599627370496
def mi (b : Nat) : Bool := decide (9223372036854775808 ≤ b)
def kind (b : Nat) : Int :=
 if ex b = 2047 ∧ ¬ fr b = 0 then 0
 else if ex b = 2047 ∧ mi b = true then 1
 else if ex b = 2047 then 6
 else if ex b = 0 ∧ fr b = 0 ∧ mi b = true then 3
 else if ex b = 0 ∧ fr b = 0 then 4
 else if mi b = true then 2
 else 5
theorem nan_kind (b : Nat) : nan b = decide (kind b = 0) := by
 rw [nan_eq];unfold kind ex fr mi
 by_cases h : 9218868437227405312 < b % 9223372036854775808
 ·rw [decide_eq_true h, if_pos (by omega)]; rfl
 ·rw [decide_eq_false h, if_neg (by omega)]
  symm
  apply decide_eq_false
  repeat' split
  all_goals omega
end V
theorem and11 (b : Nat) (hb : b < 18446744073709551616) : bits .and .u64 ((b : Int) / 4503599627370496) 2047 = ((V.ex b : Nat) : Int) := by
 have h := bits_and_u64_nat (b / 4503599627370496) 2047 (by omega) (by decide);rw [show (b / 4503599627370496 &&& 2047 : Nat) = b / 4503599627370496 % 2048 from Nat.and_two_pow_sub_one_eq_mod _ 11] at h;exact h
theorem and52 (b : Nat) (hb : b < 18446744073709551616) : bits .and .u64 (b : Int) 4503599627370495 = ((V.fr b : Nat) : Int) := by
 have h := bits_and_u64_nat b 4503599627370495 (by omega) (by decide);rw [show (b &&& 4503599627370495 : Nat) = b % 4503599627370496 from Nat.and_two_pow_sub_one_eq_mod _ 52] at h;exact h
theorem parts_any (b : Nat) (hb : b < 18446744073709551616) (w : World) :
 Calls Tryz.prog 162 #[.int .u64 b] w fun e w' => e = .returned (.tuple #[.bool (V.mi b), .int .u64 (V.ex b), .int .u64 (V.fr b)]) ∧ w' = w := by
 go_enter Tryz.func162, Tryz.ntmps162
 go_wp2
 go_ret3
 refine ⟨ret_of ?_, rfl⟩
 congr 1
 rw [← and11 b hb, ← and52 b hb, show V.mi b = decide ((9223372036854775808 : Int) ≤ (b : Int)) from by unfold V.mi; congr 1; simp; omega];rfl
def V.kindOf (m : Bool) (e f : Nat) : Int :=
 if e = 2047 ∧ ¬ f = 0 then 0
 else if e = 2047 ∧ m = true then 1
 else if e = 2047 then 6
 else if e = 0 ∧ f = 0 ∧ m = true then 3
 else if e = 0 ∧ f = 0 then 4
 else if m = true then 2
 else 5
theorem rkind_any (b : Nat) (hb : b < 18446744073709551616) (w : World) :
 Calls Tryz.prog 153 #[.int .u64 b] w fun e w' => e = .returned (.int .i64 (V.kind b)) ∧ w' = w := by
 rw [show V.kind b = V.kindOf (V.mi b) (V.ex b) (V.fr b) from rfl];have hp := Lib.hid (parts_any b hb w);generalize V.mi b = m at *;generalize V.ex b = e at *;generalize V.fr b = f at *;obtain ⟨p, hq⟩ : ∃ p, p = V.kindOf m e f := ⟨_, rfl⟩;rw [← hq];have HQ := Lib.hid hq;clear hq
 go_enter Tryz.func153, Tryz.ntmps153
 go_wp2_with fail
 refine hp.out.mono ?_;rintro e' w1 ⟨rfl, rfl⟩;clear hp
 by_cases he : e = 2047
 ·subst he
  by_cases hf : f = 0
  ·subst hf;cases m
   all_goals
    go_wp2_with fail
    go_ret
    exact ⟨ret_int (by rw [HQ.out]; rfl), rfl⟩
  ·(have hf2 : ¬ (f : Int) = 0 := by omega);cases m
   all_goals
    go_wp2_with fail
    go_ret
    exact ⟨ret_int (by rw [HQ.out]; simp [V.kindOf, hf]), rfl⟩
 ·have he2 : ¬ (e : Int) = 2047 := by omega
  by_cases h0 : e = 0
  ·subst h0
   by_cases hf : f = 0
   ·subst hf;cases m
    all_goals
     go_wp2_with fail
     go_ret
     exact ⟨ret_int (by rw [HQ.out]; rfl), rfl⟩
   ·(have hf2 : ¬ (f : Int) = 0 := by omega);cases m
    all_goals
     go_wp2_with fail
     go_ret
     exact ⟨ret_int (by rw [HQ.out]; simp [V.kindOf, hf]), rfl⟩
  ·(have h02 : ¬ (e : Int) = 0 := by omega);cases m
   all_goals
    go_wp2_with fail
    go_ret
    exact ⟨ret_int (by rw [HQ.out]; simp [V.kindOf, he, h0]), rfl⟩
theorem rcanon_any (b : Nat) (hb : b < 18446744073709551616) (w : World) :
 Calls Tryz.prog 134 #[.int .u64 b] w fun e w' => e = .returned (.int .u64 (V.ncanon b)) ∧ w' = w := by
 have hk := rkind_any b hb;have hn := V.nan_kind b;obtain ⟨p, hp⟩ : ∃ p, p = V.ncanon b := ⟨_, rfl⟩;rw [← hp];unfold V.ncanon at hp;rw [hn] at hp;clear hn
 by_cases h : V.kind b = 0
 ·rw [decide_eq_true h] at hp;rw [h] at hk;have HK := Lib.hid hk;clear hk h
  replace hp : p = 9221120237041090560 := hp
  subst hp
  go_enter Tryz.func134, Tryz.ntmps134
  go_wp2_with fail
  refine (HK.out w).mono ?_;rintro e' w1 ⟨rfl, rfl⟩
  go_wp2_with fail
  go_ret
  exact ⟨rfl, rfl⟩
 ·rw [decide_eq_false h] at hp;have HK := Lib.hid hk;clear hk
  replace hp : p = b := hp
  subst hp;obtain ⟨q, hq⟩ : ∃ q, q = V.kind p := ⟨_, rfl⟩;rw [← hq] at HK h;clear hq;(have h' : (q == 0) = false := by simpa using h);clear h
  go_enter Tryz.func134, Tryz.ntmps134
  go_wp2_with fail
  refine (HK.out w).mono ?_;rintro e' w1 ⟨rfl, rfl⟩
  go_wp2_with fail
  go_ret
  exact ⟨rfl, rfl⟩
end
section
open Go.RowKit
namespace V
theorem getx (s : ByteArray) (i : Nat) (h : i < s.size) : s[i]'h = s.get! i := by
 obtain ⟨a⟩ := s;show a[i]'h = a[i]!;rw [getElem!_pos a i h]
theorem decN_err (n b0 b1 b2 b3 : Nat) (h0 : b0 < 256) (h1 : b1 < 256) (h2 : b2 < 256) (h3 : b3 < 256) (h : (Lib.decodeN n b0 b1 b2 b3).1 = 65533) :
 ((Lib.decodeN n b0 b1 b2 b3).2 = 1 ∨ (3 ≤ n ∧ b0 = 239 ∧ b1 = 191 ∧ b2 = 189)) := by
 unfold Lib.decodeN at *
 split at h
 ·simp only at h; omega
 ·rename_i c0
  rw [if_neg c0]
  split at h
  ·rename_i c1
   rw [if_pos c1]
   split at h
   ·simp only at h; omega
   ·rename_i c; rw [if_neg c]; exact Or.inl rfl
  ·rename_i c1
   rw [if_neg c1]
   split at h
   ·rename_i c2
    rw [if_pos c2]
    split at h
    ·simp only at h; right; omega
    ·rename_i c; rw [if_neg c]; exact Or.inl rfl
   ·rename_i c2
    rw [if_neg c2]
    split at h
    ·rename_i c3
     rw [if_pos c3]
     split at h
     ·simp only at h; omega
     ·rename_i c; rw [if_neg c]; exact Or.inl rfl
    ·rename_i c3; rw [if_neg c3]; exact Or.inl rfl
theorem decN_err3 (n b3 : Nat) (hn : 3 ≤ n) : Lib.decodeN n 239 191 189 b3 = (65533, 3) := by
 unfold Lib.decodeN;rw [if_neg (by omega), if_neg (by omega), if_pos (by omega), if_pos (by omega)]
theorem drop_ne (s : ByteArray) (pos : Nat) (h : pos < s.size) : s.data.toList.drop pos ≠ [] := by
 intro e;(have h1 : (s.data.toList.drop pos).length = 0 := by rw [e]; rfl);rw [List.length_drop] at h1;(have h2 : s.data.toList.length = s.size := by rw [Array.length_toList]; rfl);omega
theorem val_next (s : ByteArray) (pos : Nat) (h : pos < s.size) (hn : ¬ ((Utf8.decode s pos).1 = 65533 ∧ (Utf8.decode s pos).2 = 1)) :
 Lib.validD (s.data.toList.drop (pos + (Utf8.decode s pos).2)) = Lib.validD (s.data.toList.drop pos) := by
 rw [Lib.validD_step _ (drop_ne s pos h), Lib.decodeL_drop, if_neg hn, List.drop_drop]
theorem val_bad (s : ByteArray) (pos : Nat) (h : pos < s.size) (hr : (Utf8.decode s pos).1 = 65533)
 (hb : s.size - pos < 3 ∨ (s.get! pos).toNat ≠ 239 ∨ (s.get! (pos + 1)).toNat ≠ 191 ∨ (s.get! (pos + 2)).toNat ≠ 189) : Lib.validD (s.data.toList.drop pos) = false := by
 rw [Lib.validD_step _ (drop_ne s pos h), Lib.decodeL_drop];have h2 := decN_err (s.size - pos) (s.get! pos).toNat (s.get! (pos + 1)).toNat (s.get! (pos + 2)).toNat (s.get! (pos + 3)).toNat (UInt8.toNat_lt _) (UInt8.toNat_lt _) (UInt8.toNat_lt _) (UInt8.toNat_lt _);rw [← Lib.decode_at] at h2;rw [if_pos ⟨hr, by rcases h2 hr with h | h <;> omega⟩]
theorem val_good (s : ByteArray) (pos : Nat) (h : 3 ≤ s.size - pos) (h0 : (s.get! pos).toNat = 239) (h1 : (s.get! (pos + 1)).toNat = 191) (h2 : (s.get! (pos + 2)).toNat = 189) :
 Lib.validD (s.data.toList.drop (pos + (Utf8.decode s pos).2)) = Lib.validD (s.data.toList.drop pos) := by
 refine val_next s pos (by omega) ?_;rw [Lib.decode_at, h0, h1, h2, decN_err3 _ _ h];intro h; exact absurd h.2 (by decide)
end V
theorem rvalid_any (s : ByteArray) (w : World) (hs : s.size ≤ 9223372036854775807) :
 Calls Tryz.prog 135 #[.string s] w fun e w' => e = .returned (.bool (Lib.validD s.data.toList)) ∧ ∃ pos, w' = w.iter s pos := by
 obtain ⟨p, hp⟩ : ∃ p, p = Lib.validD s.data.toList := ⟨_, rfl⟩;rw [← hp];have HP := Lib.hid hp;clear hp
 go_enter Tryz.func135, Tryz.ntmps135
 go_wp2
 go_loopw [3] (fun _ wr => ∃ pos : Nat, wr = w.iter s pos ∧ Hid (Lib.validD (s.data.toList.drop pos) = p)) (fun _ wr => s.size - wr.iterPos w.heap.size)
 case atStart => exact ⟨0, rfl, HP.out.symm⟩
 case round =>
  obtain ⟨pos, rfl, HV⟩ := hrel
  by_cases hlt : pos < s.size
  ·have hnx : ∀ ty, (Instr.next (.pointer (some ⟨w.heap.size, 0, none⟩)) true ty).run Tryz.prog (w.iter s pos) = _ := fun ty => run_next_any w s pos ty hlt
   by_cases hr : (Utf8.decode s pos).1 = 65533
   ·rw [hr] at hnx
    by_cases h3 : s.size - pos < 3
    ·(have h3' : (s.size : Int) - (pos : Int) < 3 := by omega);(have hpf : p = false := by rw [← HV.out]; exact V.val_bad s pos hlt hr (Or.inl h3));have HF := Lib.hid hpf;clear hpf
     go_wp2
     go_ret
     exact ⟨ret_bool HF.out.symm, _, rfl⟩
    ·(have h3' : ¬ (s.size : Int) - (pos : Int) < 3 := by omega);have g0 := V.getx s pos hlt;have g1 := V.getx s (pos + 1) (by omega);have g2 := V.getx s (pos + 2) (by omega);have hbad := V.val_bad s pos hlt hr;have hgood := V.val_good s pos (by omega);rw [← g0, ← g1, ← g2, HV.out] at hbad;rw [← g0, ← g1, ← g2, HV.out] at hgood;have HBD := Lib.hid hbad;have HGD := Lib.hid hgood;have hwd := Lib.hid (Lib.width_pos s pos);clear g0 g1 g2 hbad hgood
     go_wp2
     case roundEnd =>
      rename_i c0 c1 c2 c3 c4
      go_roundw
      case rel => exact ⟨_, rfl, HGD.out (by omega) (by omega) (by have := c4; simp at this; omega)⟩
      case measure =>
       have := hwd.out;simp;omega
     all_goals
      go_ret
      refine ⟨ret_bool ?_, _, rfl⟩;rw [HBD.out (by simp at *; omega)]
   ·have hr' : ¬ ((Utf8.decode s pos).1 : Int) = 65533 := by omega
    go_wp2
    go_roundw
    case rel =>
     exact ⟨pos + (Utf8.decode s pos).2, rfl, (V.val_next s pos hlt (fun h => hr h.1)).trans HV.out⟩
    case measure =>
     have hwd := Lib.width_pos s pos;simp;omega
  ·have hnx : ∀ ty, (Instr.next (.pointer (some ⟨w.heap.size, 0, none⟩)) true ty).run Tryz.prog (w.iter s pos) = _ := fun ty => run_next_end w s pos ty hlt
   go_wp2
   go_ret
   refine ⟨ret_bool ?_, _, rfl⟩;rw [← HV.out, List.drop_eq_nil_of_le (by rw [Array.length_toList]; exact Nat.le_of_not_lt hlt)];rfl
end
section
open Go.RowKit Go.ChangeShapes Go.WideShapes Go.ChangeAt Go.Deep
def RowsAt (w : World) (B : Nat) (A : Option Addr) (k : Nat) (ls : List (List Value)) : Prop :=
 ∀ i cs, ls[i]? = some cs → ∃ b off, A = some ⟨b, off, none⟩ ∧ b < B ∧ ∀ j v, cs[j]? = some v → w.cell? ⟨b, off + i * k + j, none⟩ = some v
section
variable {w w' : World} {B B' k : Nat} {A : Option Addr} {ls : List (List Value)}
theorem RowsAt.nil : RowsAt w B A k [] := fun i cs h => by simp at h
theorem RowsAt.keep (h : RowsAt w B A k ls) (hk : ∀ p : Addr, p.block < B → w'.cell? p = w.cell? p) : RowsAt w' B A k ls := fun i cs hi => by
 obtain ⟨b, off, hA, hb, hc⟩ := h i cs hi;exact ⟨b, off, hA, hb, fun j v hj => (hk _ hb).trans (hc j v hj)⟩
theorem RowsAt.below (h : RowsAt w B A k ls) (hb : Below B' w w') (hB : B ≤ B') : RowsAt w' B A k ls := h.keep fun p hp => hb.cell (Nat.lt_of_lt_of_le hp hB)
theorem RowsAt.more (h : RowsAt w B A k ls) (hB : B ≤ B') : RowsAt w B' A k ls := fun i cs hi => by
 obtain ⟨b, off, hA, hb, hc⟩ := h i cs hi;exact ⟨b, off, hA, by omega, hc⟩
theorem RowsAt.alloc (h : RowsAt w B A k ls) (hB : B ≤ w.heap.size) (o : Obj) : RowsAt (w.alloc o) B A k ls := h.keep fun p hp => World.cell?_alloc_lt w o p (by omega)
theorem RowsAt.drewN (h : RowsAt w B A k ls) (n : Nat) : RowsAt (w.drewN n) B A k ls := h
theorem RowsAt.grown {g : Nat} (h : RowsAt w B A k ls) (hg : w.grownBy w' (some g)) (hB : B ≤ g) (hs : B ≤ w.heap.size) : RowsAt w' B A k ls := fun i cs hi => by
 obtain ⟨b, off, hA, hb, hc⟩ := h i cs hi;exact ⟨b, off, hA, hb, fun j v hj => hg.cell (hc j v hj) (by simp; omega)⟩
theorem RowsAt.at_ (h : RowsAt w B A k ls) {i : Nat} (hi : i < ls.length) : ∃ b off, A = some ⟨b, off, none⟩ ∧ b < B ∧ ∀ j v, ls[i][j]? = some v → w.cell? ⟨b, off + i * k + j, none⟩ = some v := h i _ (List.getElem?_eq_getElem hi)
end
theorem Cel.isSlice {W : World} {t e : TypeId} {v : Value} (h : Cel W t [v]) (ht : Tryz.prog.underlying t = some (.slice e)) : ∃ (A : Option Addr) (n c : Nat), v = .slice A n c := by
 obtain ⟨H, enc, fuel, x, h⟩ := h;rcases open_slice ht h with ⟨h1, _⟩ | ⟨a, len, cap, m, k, D, Pl, h1, _⟩
 ·simp at h1; exact ⟨_, _, _, h1⟩
 ·simp at h1; exact ⟨_, _, _, h1⟩
theorem Cel.rows {α : Type} [Inhabited α] {W : World} {t e : TypeId} {A : Option Addr} {n c sz : Nat} (enc : α → List Value) (P : α → Prop) (h : Cel W t [.slice A n c]) (ht : Tryz.prog.underlying t = some (.slice e))
 (hsz : Tryz.prog.cellsOf e = sz) (hpos : 0 < sz) (hdec : ∀ cs, Cel W e cs → ∃ x, cs = enc x ∧ P x) :
 ∃ ls : List α, ls.length = n ∧ n ≤ c ∧ c ≤ maxLen ∧ (A = none → n = 0 ∧ c = 0) ∧ RowsAt W W.heap.size A sz (ls.map enc) ∧ ∀ x ∈ ls, P x := by
 obtain ⟨hn, hm, hA, hat⟩ := h.sliceAt ht sz hsz hpos
 by_cases h0 : 0 < n
 ·obtain ⟨b, off, rfl, hb, hi⟩ := hat h0
  have hex : ∀ i, ∃ x : α, i < n → (P x ∧ ∀ j v, (enc x)[j]? = some v → W.cell? ⟨b, off + i * sz + j, none⟩ = some v) := by
   intro i
   by_cases hlt : i < n
   ·obtain ⟨cs', hl, hce, hj⟩ := hi i hlt;obtain ⟨x, rfl, hp⟩ := hdec _ hce;exact ⟨x, fun _ => ⟨hp, fun j v hv => (hj j (by have := (List.getElem?_eq_some_iff.1 hv).1; omega)).trans hv⟩⟩
   ·exact ⟨default, fun h => absurd h hlt⟩
  refine ⟨(List.range n).map fun i => (hex i).choose, by simp, hn, hm, hA, fun i cs hc => ?_, fun x hx => ?_⟩
  ·rw [List.map_map, List.getElem?_map] at hc;obtain ⟨i', hi', rfl⟩ := Option.map_eq_some_iff.1 hc;obtain ⟨hlt, rfl⟩ := List.getElem?_eq_some_iff.1 hi';simp only [List.length_range] at hlt;simp only [List.getElem_range, Function.comp];exact ⟨b, off, rfl, hb, ((hex i).choose_spec hlt).2⟩
  ·obtain ⟨i, hi', rfl⟩ := List.mem_map.1 hx;exact ((hex i).choose_spec (List.mem_range.1 hi')).1
 ·(obtain rfl : n = 0 := by omega);exact ⟨[], rfl, hn, hm, hA, RowsAt.nil, fun x hx => by simp at hx⟩
theorem str_eta (t : ByteArray) : (⟨t.data.toList.toArray⟩ : ByteArray) = t := by
 obtain ⟨⟨l⟩⟩ := t;rfl
theorem str_size (t : ByteArray) : t.data.toList.length = t.size := by rw [Array.length_toList]; rfl
end
section
open Go.RowKit
section
variable {w w' : World} {g : Nat} {cs part : List Value} {t : TypeId} {o' : Obj}
theorem hpB (h : w.heap[g]? = some o') (hb : Below w.heap.size w w') : w'.heap[g]? = some o' := (hb.block g (Array.getElem?_eq_some_iff.1 h).1).trans h
theorem hpA (h : w.heap[g]? = some o') (o : Obj) : (w.alloc o).heap[g]? = some o' := (Below.heap_alloc w o g (Array.getElem?_eq_some_iff.1 h).1).trans h
theorem hpS (h : w.heap[g]? = some o') {p : Addr} (hp : g ≠ p.block) (u : Value) : (w.setCell p u).heap[g]? = some o' := (Below.heap_setCell w p u g hp).trans h
theorem hpR (h : w.heap[g]? = some o') {g' : Nat} (hp : g ≠ g') (vs : Array Value) : (w.setRow g' vs).heap[g]? = some o' := (setRow_other w g' g vs hp).trans h
theorem hpN (w : World) (o : Obj) {n : Nat} (hn : n = w.heap.size) : (w.alloc o).heap[n]? = some o := by subst hn; exact heap_alloc_new w o
theorem rowAt (h : w.heap[g]? = some (.cells cs.toArray t (0, 0))) : w.rangeAt g 0 cs := fun j v hj => by
 rw [Nat.zero_add, cell_of_row w g j cs.toArray t (0, 0) h]; simpa using hj
theorem rowMid (h : w.heap[g]? = some (.cells cs.toArray t (0, 0))) (o : Nat) (hp : ∀ j v, part[j]? = some v → cs[o + j]? = some v) : w.rangeAt g o part := fun j v hj => by
 rw [cell_of_row w g (o + j) cs.toArray t (0, 0) h]; simpa using hp j v hj
theorem rowCell (h : w.heap[g]? = some (.cells cs.toArray t (0, 0))) (i : Nat) {v : Value} (hv : cs[i]? = some v) : w.cell? ⟨g, i, none⟩ = some v := by
 rw [cell_of_row w g i cs.toArray t (0, 0) h]; simpa using hv
theorem rowThere (h : w.heap[g]? = some (.cells cs.toArray t (0, 0))) {o n : Nat} (hn : o + n ≤ cs.length) : w.there g o n := fun j hj => by
 refine ⟨?_, by simp [World.frozen?, h]⟩;rw [cell_of_row w g (o + j) cs.toArray t (0, 0) h, List.getElem?_toArray, List.getElem?_eq_getElem (by omega)]; rfl
theorem belowSet {B : Nat} {a w : World} (h : Below B a w) {g : Nat} {old cs : Array Value} {t : TypeId} (hg : w.heap[g]? = some (.cells old t (0, 0))) (hB : B ≤ g) : Below B a (w.setRow g cs) :=
 ⟨h.os, h.tape, h.output, by rw [setRow_size]; exact h.size, fun i hi => (setRow_other w g i cs (by omega)).trans (h.block i hi)⟩
end
theorem wpList_load_g {P : Program} {ops : Array Oper} {rest : List Oper} {op : Oper} {a : Act} {w : World} {Q : Exit → Act → World → Prop} (hw : Region.wanted op (yielded ops a.tmps) = true) (ty : TypeId) (x : Operand) (ho : op.op = .load ty x)
 (b o : Nat) (hx : a.eval x = .pointer (some ⟨b, o, none⟩)) (cs : List Value) (d : TypeDesc) (hc : w.rangeAt b o cs)
 (hu : P.underlying ty = some d) (hd : d.isRow = true) (hi : (P.info? ty).map (·.size) = some cs.length)
 (h : wpList P ops Q rest (a.put op.dst (.agg cs.toArray)) w) : wpList P ops Q (op :: rest) a w :=
 wpList_step fun _ hK => by rw [if_pos hw]; exact wp_load_mid ty x ho b o hx cs d hc hu hd hi (hK _ _ h)
theorem res_ct {P : Program} {fn : Func} {p u : Tmp} {ty : TypeId} (h : fn.results = #[.cell p ty, .tmp u]) {tmps : Array Value} {w : World} {g : Nat} {t : TypeId} {cs : List Value} {d : TypeDesc} {v : Value}
 (hp : tmps.getD p undef = .pointer (some ⟨g, 0, none⟩)) (hv : tmps.getD u undef = v) (hg : w.heap[g]? = some (.cells cs.toArray t (0, 0)))
 (hu : P.underlying ty = some d) (hd : d.isRow = true) (hi : (P.info? ty).map (·.size) = some cs.length) : (results fn tmps).run P w = .ok (.tuple #[.agg cs.toArray, v]) w := by
 (have hp' : tmps[p]?.getD undef = .pointer (some ⟨g, 0, none⟩) := by simpa using hp);(have hv' : tmps[u]?.getD undef = v := by simpa using hv);simp [results, h, hp', hv', asAddr, run_loadVar_mid w g 0 ty cs d (rowAt hg) hu hd hi]
theorem isLoad {P : Program} {ops : Array Oper} {rest : List Oper} {op : Oper} {a : Act} {w : World} {Q : Exit → Act → World → Prop} {ty : TypeId} {x : Operand} (ho : op.op = .load ty x) (h : wpList P ops Q (op :: rest) a w) : wpList P ops Q (op :: rest) a w := h
theorem isStore {P : Program} {ops : Array Oper} {rest : List Oper} {op : Oper} {a : Act} {w : World} {Q : Exit → Act → World → Prop} {ty : TypeId} {x y : Operand} (ho : op.op = .store ty x y) (h : wpList P ops Q (op :: rest) a w) : wpList P ops Q (op :: rest) a w := h
def putAt (cs : List Value) : Nat → List Value → List Value
 | _, [] => cs
 | o, v :: r => putAt (cs.set o v) (o + 1) r
theorem hpC {g : Nat} {t : TypeId} : ∀ (vs : List Value) (o : Nat) (cs : List Value) (w : World), w.heap[g]? = some (.cells cs.toArray t (0, 0)) → (w.setCells g o vs).heap[g]? = some (.cells (putAt cs o vs).toArray t (0, 0))
 | [], _, _, _, h => h
 | v :: r, o, cs, w, h => by
   refine hpC r (o + 1) (cs.set o v) (w.setCell ⟨g, o, none⟩ v) ?_;simp [World.setCell, Array.getElem?_modify, h]
theorem hpCo {g g' : Nat} {o' : Obj} (hp : g ≠ g') : ∀ (vs : List Value) (o : Nat) (w : World), w.heap[g]? = some o' → (w.setCells g' o vs).heap[g]? = some o'
 | [], _, _, h => h
 | v :: r, o, w, h => hpCo hp r (o + 1) (w.setCell ⟨g', o, none⟩ v) (hpS h (by exact hp) v)
theorem belowC {B g : Nat} {a : World} (hB : B ≤ g) : ∀ (vs : List Value) (o : Nat) (w : World), Below B a w → Below B a (w.setCells g o vs)
 | [], _, _, h => h
 | v :: r, o, w, h => belowC hB r (o + 1) (w.setCell ⟨g, o, none⟩ v) (h.setCell hB v)
theorem belowDrewS {B : Nat} {a w : World} (h : Below B a w) : Below B a w.drew := ⟨h.os, h.tape, h.output, h.size, h.block⟩
theorem rowsGet {w : World} {B sz : Nat} {A : Option Addr} {α : Type} {enc : α → List Value} {ls : List α} (h : RowsAt w B A sz (ls.map enc)) {k : Nat} (hk : k < ls.length) : ∃ b off, A = some ⟨b, off, none⟩ ∧ b < B ∧ w.rangeAt b (off + k * sz) (enc ls[k]) := by
 obtain ⟨b, off, h1, h2, h3⟩ := h k (enc ls[k]) (by rw [List.getElem?_map, List.getElem?_eq_getElem hk]; rfl);exact ⟨b, off, h1, h2, fun j v hv => h3 j v hv⟩
theorem rangeB {w w' : World} {b o B : Nat} {cs : List Value} (h : w.rangeAt b o cs) (hb : Below B w w') (hB : b < B) : w'.rangeAt b o cs := fun j v hv => (hb.cell hB).trans (h j v hv)
theorem rangeCell {w : World} {b o : Nat} {cs : List Value} (h : w.rangeAt b o cs) (j : Nat) {v : Value} (hv : cs[j]? = some v) : w.cell? ⟨b, o + j, none⟩ = some v := h j v hv
theorem ownBelow {w w' : World} {base e size n : Nat} {v : Value} {xs : List Value} (h : w.ownsRow base e size v n xs) (hb : Below w.heap.size w w') : w'.ownsRow base e size v n xs := by
 rcases h.2 with h0 | ⟨g, cap, cur, hv, hb', hg, rest⟩
 ·exact ⟨h.1, Or.inl h0⟩
 ·exact ⟨h.1, Or.inr ⟨g, cap, cur, hv, hb', hpB hg hb, rest⟩⟩
end
section
def nthL {α : Type} : List α → Nat → Option α
 | [], _ => none
 | x :: _, 0 => some x
 | _ :: r, n + 1 => nthL r n
theorem nthL_eq {α : Type} (l : List α) (n : Nat) : nthL l n = l[n]? := by
 induction l generalizing n with
 | nil => simp [nthL]
 | cons x r ih => cases n with
   | zero => simp [nthL]
   | succ n => simp [nthL, ih]
def lookS (base : List Value) : List (Nat × Value) → Nat → Option Value
 | [], j => nthL base j
 | (d, v) :: r, j => bif Nat.beq d j then some v else lookS base r j
def actS (a : Act) (acc : List (Nat × Value)) : Act := acc.foldr (fun p b => b.put (some p.1) p.2) a
theorem actS_size (a : Act) (acc : List (Nat × Value)) : (actS a acc).tmps.size = a.tmps.size := by
 induction acc with
 | nil => rfl
 | cons p r ih => simpa [actS, Act.put] using ih
theorem actS_look (a : Act) (acc : List (Nat × Value)) (hn : ∀ p ∈ acc, p.1 < a.tmps.size) (j : Nat) : (actS a acc).tmps[j]? = lookS a.tmps.toList acc j := by
 induction acc with
 | nil => simp [actS, lookS, nthL_eq]
 | cons p r ih =>
   obtain ⟨d, v⟩ := p;have ih := ih (fun q hq => hn q (by simp [hq]));have hs := actS_size a r;have hd := hn (d, v) (by simp);unfold lookS;show ((actS a r).put (some d) v).tmps[j]? = _;unfold Act.put;simp only [Array.getElem?_setIfInBounds, hs]
   by_cases e : d = j
   ·subst e;have : Nat.beq d d = true := Nat.beq_refl d;simp [hd]
   ·have : Nat.beq d j = false := by
     cases h : Nat.beq d j with
     | false => rfl
     | true => exact absurd (Nat.eq_of_beq_eq_true h) e
    simp [this, e, ih]
def evalS (look : Nat → Option Value) (globals : Operand → Value) : Operand → Value
 | .tmp t => match look t with
   | some v => v
   | none => undef
 | x => globals x
def yieldS (opsL : List Oper) (look : Nat → Option Value) (j : Nat) : Option Bool :=
 match nthL opsL j with
 | some o => match o.dst with
   | some d => match look d with
     | some (.bool b) => some b
     | _ => none
   | none => none
 | none => none
def boolEq : Bool → Bool → Bool
 | true, b => b
 | false, b => !b
def wantS (opsL : List Oper) (look : Nat → Option Value) (o : Oper) : Bool :=
 match o.guard with
 | none => true
 | some (j, want) => match yieldS opsL look j with
   | some b => boolEq b want
   | none => false
def constS : Operand → Value
 | .tmp _ => undef
 | .const v => v
 | .global g => .pointer (some ⟨g, 0, none⟩)
 | .func f => .func (.func f) #[] #[]
def moveS (look : Nat → Option Value) : Op → Option Value
 | .move x => some (evalS look constS x)
 | .assign x => some (evalS look constS x)
 | .pick c x y => match evalS look constS c with
   | .bool b => some (bif b then evalS look constS x else evalS look constS y)
   | _ => none
 | _ => none
def tailS (n : Nat) (base : List Value) (opsL : List Oper) : List Oper → List (Nat × Value) → Option (List (Nat × Value))
 | [], acc => some acc
 | o :: rest, acc =>
   match o.dst with
   | none => none
   | some d => bif Nat.blt d n then
      match wantS opsL (lookS base acc) o with
      | true => match moveS (lookS base acc) o.op with
        | some v => tailS n base opsL rest ((d, v) :: acc)
        | none => none
      | false => tailS n base opsL rest ((d, undef) :: acc)
     else none
theorem evalS_eq (a : Act) (look : Nat → Option Value) (h : ∀ j, a.tmps[j]? = look j) (x : Operand) : a.eval x = evalS look constS x := by
 cases x with
 | tmp t =>
   unfold Act.eval evalS;simp only [Array.getD_eq_getD_getElem?, h]
   cases look t <;> rfl
 | _ => rfl
theorem yieldS_eq (opsL : List Oper) (tmps : Array Value) (look : Nat → Option Value) (h : ∀ j, tmps[j]? = look j) (j : Nat) : yielded opsL.toArray tmps j = yieldS opsL look j := by
 unfold yielded yieldS;rw [List.getElem?_toArray, nthL_eq]
 cases opsL[j]? with
 | none => rfl
 | some o =>
   simp only [Option.bind_some]
   cases o.dst with
   | none => rfl
   | some d =>
     simp only [Option.bind_some, h]
     cases look d with
     | none => rfl
     | some v => cases v <;> rfl
theorem wantS_eq (opsL : List Oper) (tmps : Array Value) (look : Nat → Option Value) (h : ∀ j, tmps[j]? = look j) (o : Oper) : Region.wanted o (yielded opsL.toArray tmps) = wantS opsL look o := by
 unfold Region.wanted wantS
 cases o.guard with
 | none => rfl
 | some g =>
   obtain ⟨j, want⟩ := g;simp only [yieldS_eq opsL tmps look h]
   cases yieldS opsL look j with
   | none => rfl
   | some b => cases b <;> cases want <;> rfl
theorem run_moveS {P : Program} {a : Act} {o : Oper} {v : Value} (look : Nat → Option Value) (h : ∀ j, a.tmps[j]? = look j) (hm : moveS look o.op = some v) (w : World) : (execOp a.eval o).run P w = .ok (.value v) w := by
 unfold execOp
 cases ho : o.op with
 | move x => rw [ho] at hm; cases hm; rw [← evalS_eq a look h x]; rfl
 | assign x => rw [ho] at hm; cases hm; rw [← evalS_eq a look h x]; rfl
 | pick c x y =>
   rw [ho] at hm
   have hm : (match evalS look constS c with | .bool b => some (bif b then evalS look constS x else evalS look constS y) | _ => none) = some v := hm
   rw [← evalS_eq a look h c, ← evalS_eq a look h x, ← evalS_eq a look h y] at hm
   cases hc : a.eval c with
   | bool b => simp only [hc] at hm; cases hm; cases b <;> simp [asBool, hc] <;> rfl
   | _ => simp only [hc] at hm; cases hm
 | _ => rw [ho] at hm; cases hm
theorem wpList_tailS {P : Program} {opsL : List Oper} {Q : Exit → Act → World → Prop} {l : List Oper} {a : Act} {acc acc' : List (Nat × Value)} {w : World} (n : Nat) (hn : a.tmps.size = n)
 (hacc : ∀ p ∈ acc, p.1 < a.tmps.size) (h : tailS n a.tmps.toList opsL l acc = some acc') (hq : (∀ p ∈ acc', p.1 < a.tmps.size) → Q .normal (actS a acc') w) : wpList P opsL.toArray Q l (actS a acc) w := by
 induction l generalizing acc with
 | nil => cases h; exact hq hacc
 | cons o rest ih =>
   have hl := actS_look a acc hacc;unfold tailS at h
   cases hd : o.dst with
   | none => simp only [hd] at h; cases h
   | some d =>
     simp only [hd] at h
     cases hb : Nat.blt d n with
     | false => simp only [hb] at h; cases h
     | true =>
       (have hdn : d < a.tmps.size := by rw [hn]; exact Nat.le_of_ble_eq_true hb);simp only [hb, cond_true] at h
       have hacc' : ∀ v, ∀ p ∈ (d, v) :: acc, p.1 < a.tmps.size := fun v p hp => by
        rcases List.mem_cons.1 hp with e | e
        ·subst e; exact hdn
        ·exact hacc p e
       cases hw : wantS opsL (lookS a.tmps.toList acc) o with
       | false =>
         simp only [hw] at h;refine wpList_skip ((wantS_eq opsL _ _ hl o).trans hw) ?_;rw [hd];exact ih (hacc' undef) h
       | true =>
         simp only [hw] at h;refine wpList_step fun K hK => ?_;rw [if_pos ((wantS_eq opsL _ _ hl o).trans hw)];unfold Oper.wp
         cases hm : moveS (lookS a.tmps.toList acc) o.op with
         | some v => simp only [hm] at h; rw [run_moveS _ hl hm, Oper.upon_value]; refine hK _ _ ?_; rw [hd]; exact ih (hacc' v) h
         | none => simp only [hm] at h; cases h
theorem wpList_tail1 {P : Program} {opsL : List Oper} {Q : Exit → Act → World → Prop} {l : List Oper} {tmps : Array Value} {df : List Deferred} {w : World} (n k : Nat) (v : Value) (hn : tmps.size = n)
 (h : (match tailS n tmps.toList opsL l [] with | some acc' => lookS tmps.toList acc' k | none => none) = some v) (hq : ∀ a' : Act, a'.tmps[k]? = some v → a'.defers = df → Q .normal a' w) : wpList P opsL.toArray Q l ⟨tmps, df⟩ w := by
 cases ht : tailS n tmps.toList opsL l [] with
 | none => rw [ht] at h; cases h
 | some acc' =>
   rw [ht] at h;refine wpList_tailS (a := ⟨tmps, df⟩) (acc := []) n hn (fun p hp => by cases hp) ht fun hacc => hq _ ((actS_look _ acc' hacc k).trans h) ?_
   have : ∀ acc : List (Nat × Value), (actS ⟨tmps, df⟩ acc).defers = df := fun acc => by
    induction acc with
    | nil => rfl
    | cons p r ih => exact ih
   exact this acc'
section
variable {α : Type}
theorem nP (t : Array Value) (df : List Deferred) (d : Tmp) (v : Value) : Act.put ⟨t, df⟩ (some d) v = ⟨t.setIfInBounds d v, df⟩ := rfl
theorem nN (a : Act) (v : Value) : Act.put a none v = a := rfl
theorem nA (l : List α) (i : Nat) (x : α) : l.toArray.setIfInBounds i x = (l.set i x).toArray := List.setIfInBounds_toArray ..
theorem n0 (x y : α) (l : List α) : (x :: l).set 0 y = y :: l := rfl
theorem nS (x y : α) (l : List α) (n : Nat) : (x :: l).set (n + 1) y = x :: l.set n y := rfl
theorem zP : (∀ (t : Array Value) (df : List Deferred) (d : Tmp) (v : Value), Act.put ⟨t, df⟩ (some d) v = ⟨t.setIfInBounds d v, df⟩) ∧ (∀ (a : Act) (v : Value), Act.put a none v = a) ∧ (∀ (l : List Value) (i : Nat) (x : Value), l.toArray.setIfInBounds i x = (l.set i x).toArray) ∧ (∀ (x y : Value) (l : List Value), (x :: l).set 0 y = y :: l) ∧ (∀ (x y : Value) (l : List Value) (n : Nat), (x :: l).set (n + 1) y = x :: l.set n y) := ⟨nP, nN, nA, n0, nS⟩
theorem zT {P : Program} {ops : Array Oper} {Q : Exit → Act → World → Prop} {md : Region.Mode} {S : World → Prop} {oi : Oper} {fuel : Nat} {listed : Array Bool} {a : Act} {w : World} (i : Nat) (v : Value) (hi : ops[i]? = some oi) (hy : YieldsIf P ops S oi v a) (hS : S w) (h : wpAnyH P md ops Q S fuel (listed.setIfInBounds i true) (a.put oi.dst v) w) (hs : Region.noSelect ops = true := by kernel_rfl) (hf : Region.free md ops listed i = true := by kernel_rfl) (hr : (Region.ready md ops listed).contains i = true := by kernel_rfl) (hQ : ∀ c a w, Q (.panic c) (a.put oi.dst v) w → Q (.panic c) a w := by exact fun _ _ _ h => h) : wpAnyH P md ops Q S (fuel + 1) listed a w := wpAnyH_take hi hs hf hr hQ hy hS h
theorem zU {P : Program} {ops : Array Oper} {Q : Exit → Act → World → Prop} {md : Region.Mode} {S : World → Prop} {oi : Oper} {fuel : Nat} {listed : Array Bool} {a : Act} {w : World} (i : Nat) (v : Value) (hi : ops[i]? = some oi) (hS : S w) (h : wpAnyH P md ops Q S fuel (listed.setIfInBounds i true) (a.put oi.dst v) w) (hs : Region.noSelect ops = true := by kernel_rfl) (hf : Region.free md ops listed i = true := by kernel_rfl) (hr : (Region.ready md ops listed).contains i = true := by kernel_rfl) (hQ : ∀ c a w, Q (.panic c) (a.put oi.dst v) w → Q (.panic c) a w := by exact fun _ _ _ h => h) (hy : YieldsIf P ops S oi v a := by exact Or.inl ⟨by rfl, fun w_ hS_ => by (first | (go_simp; done) | (go_simp; rfl))⟩) : wpAnyH P md ops Q S (fuel + 1) listed a w := wpAnyH_take hi hs hf hr hQ hy hS h
theorem nG (l : List α) (i : Nat) (h : i < l.toArray.size) : l.toArray[i] = l[i]'(by simpa using h) := List.getElem_toArray ..
end
end
section
open Go.RowKit
section
variable {w z z' : World} {B g k m i base e sz n : Nat} {o : Obj} {v : Value} {xs vs cs : List Value} {arr old : Array Value} {t : TypeId} {fz : Nat × Nat} {row : Option Nat}
theorem alN (h : z' = z.alloc o) : z'.heap[z.heap.size]? = some o := by subst h; exact heap_alloc_new z o
theorem alB (h : z' = z.alloc o) : Below z.heap.size z z' := by subst h; exact (Below.refl _ z).alloc (Nat.le_refl _) o
theorem drB (h : z' = z.drew) : Below z.heap.size z z' := by subst h; exact belowDrewS (Below.refl _ z)
theorem hD (h : z.heap[k]? = some o) : z.drew.heap[k]? = some o := h
theorem stN (h : z' = z.setCells k i vs) (hz : z.heap[k]? = some (.cells cs.toArray t (0, 0))) : z'.heap[k]? = some (.cells (putAt cs i vs).toArray t (0, 0)) := by subst h; exact hpC vs i cs z hz
theorem setG (k : Nat) : ∀ (vs : List Value) (i : Nat) (z : World), z.grownBy (z.setCells k i vs) (some k)
 | [], _, z => World.grownBy.refl z _
 | v :: r, i, z => by
   have h1 : z.grownBy (z.setCell ⟨k, i, none⟩ v) (some k) := ⟨rfl, rfl, rfl, by simp, fun j _ hj => Below.heap_setCell z ⟨k, i, none⟩ v j (fun e => hj (by rw [show j = k from e]))⟩;exact h1.trans (setG k r (i + 1) _)
theorem stG (h : z' = z.setCells k i vs) : z.grownBy z' (some k) := by subst h; exact setG k vs i z
theorem rwN (h : z' = z.setRow k arr) (hz : z.heap[k]? = some (.cells old t (0, 0))) : z'.heap[k]? = some (.cells arr t (0, 0)) := by subst h; exact setRow_heap z k _ arr _ _ hz
theorem rwG (h : z' = z.setRow k arr) : z.grownBy z' (some k) := by
 subst h;exact ⟨rfl, rfl, rfl, by rw [setRow_size]; exact Nat.le_refl _, fun i _ hi => setRow_other z k i arr (fun e => hi (by rw [e]))⟩
theorem hG (h : z.heap[g]? = some o) (q : z.grownBy z' (some k)) (hn : g ≠ k := by omega) : z'.heap[g]? = some o := (q.block g (Array.getElem?_eq_some_iff.1 h).1 (fun e => hn (by injection e))).trans h
theorem bG (h : Below w.heap.size w z) (q : z.grownBy z' (some k)) (hk : w.heap.size ≤ k := by omega) : Below w.heap.size w z' := h.grown q h.size (fun i hi => by injection hi with hi; omega)
theorem oK (h : z.ownsRow base e sz v n xs) (q : z.grownBy z' (some k)) (hz : z.heap[k]? = some (.cells old t fz)) (hne : t ≠ e := by decide) : z'.ownsRow base e sz v n xs := h.kept q (Or.inr fun hb => by
 obtain ⟨c, f, hk⟩ := Lib.ownsRow_kind h k hb;rw [hz] at hk;injection hk with hk;injection hk with _ h2 _
 exact hne h2)
theorem gN (h : w.grownBy z row) (q : z.grownBy z' (some k)) (hk : w.heap.size ≤ k := by omega) : w.grownBy z' row := ⟨q.os.trans h.os, q.tape.trans h.tape, q.output.trans h.output, Nat.le_trans h.size q.size, fun i hi hn => (q.block i (Nat.lt_of_lt_of_le hi h.size) (fun e => by injection e with e; omega)).trans (h.block i hi hn)⟩
theorem gB (h : w.grownBy z row) (t : Below z.heap.size z z') : w.grownBy z' row := h.trans ⟨t.os, t.tape, t.output, t.size, fun i hi _ => t.block i hi⟩
theorem ltG (hg : g = z.heap.size) (h : z.heap[k]? = some o) : k < g := hg ▸ (Array.getElem?_eq_some_iff.1 h).1
theorem ltS (hg : g = n) (h : k < n) : k < g := hg ▸ h
theorem szG (hg : g = z.heap.size) (h : Below B w z) : w.heap.size ≤ g := hg ▸ h.size
theorem szS (hg : g = n) (h : k ≤ n) : k ≤ g := hg ▸ h
theorem oN (hg : g = z.heap.size) (h : z.ownsRow base e sz v n xs) : v.ownBlock ≠ some g := fun hb => by have := (h.lt g hb).2; omega
theorem retB {P : Program} {fn : Func} {a : Act} {w0 : World} {X : Bool} (b : Bool) (hx : b = X) (h : Below w0.heap.size w0 w) (hr : (results fn a.tmps).run P w = .ok (.bool b) w := by kernel_rfl) (hd : a.defers = [] := by kernel_rfl) : bodyPost P fn (fun e w' => e = .returned (.bool X) ∧ Below w0.heap.size w0 w') .ret a w := ⟨hd, _, hr, by rw [hx], h⟩
end
end
end Go.Proofs.YthclniimhpmeoaaGreatDoor
