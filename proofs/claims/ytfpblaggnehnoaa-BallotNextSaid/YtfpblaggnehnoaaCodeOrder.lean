/- The walks of the laws CodeOrder and CodePuts. -/
import Derived.Test.YtfpblaggnehnoaaCodeReads
import Derived.Deep.RegionWith
namespace Go.Proofs.Ytfpblaggnehnoaa
open Go.RowKit
set_option linter.unusedSimpArgs false
set_option linter.unusedVariables false

theorem belowOfDrew {B : Nat} {w w' : World} (h : Below B w.drew w') : Below B w w' := ⟨h.os, h.tape, h.output, h.size, h.block⟩
theorem put_nil (x : Nat) (n : Int) (w : World) (hx : x < 18446744073709551616) :
    Calls Try.prog 27 #[.slice none 0 0, .int .u64 (x : Int), .int .i64 n] w (MadeB w (C.be x (C.clamp8 n))) := by
  have := put_any none 0 [] x n w w.heap.size (by simp) (fun _ => ⟨rfl, rfl⟩) Rd.nil (Nat.le_refl _) hx
  exact this

set_option maxHeartbeats 400000 in
theorem new_any (A : Option Addr) (c : Nat) (l : List UInt8) (w : World) (B : Nat) (hc : l.length ≤ c) (hm : c ≤ maxLen) (hA : A = none → l = [] ∧ c = 0) (hr : Rd w B A (bc l)) (hB : B ≤ w.heap.size) :
    Calls Try.prog 47 #[.slice A l.length c] w fun e w' => e = .returned (.pointer (some ⟨w.heap.size, 0, none⟩)) ∧ RdrAt w' B w.heap.size (l, false) ∧ Below w.heap.size w w' := by
  obtain ⟨n, hn⟩ : ∃ n, n = l.length := ⟨_, rfl⟩
  have HN := Lib.hid hn
  rw [← hn]
  clear hn
  go_enter Try.func47, Try.ntmps47
  go_wp2
  go_ret
  refine ⟨rfl, ⟨A, c, ?_, hc, hm, hA, hr.alloc hB _, hB⟩, (Below.refl _ _).alloc (Nat.le_refl _) _⟩
  rw [← HN.out]
  exact heap_alloc_new w _

set_option maxHeartbeats 400000 in
theorem c_awake (w : World) : Calls Try.prog 28 #[] w fun e w' => e = .returned (.bool true) ∧ Below w.heap.size w w' := by
  go_enter Try.func28, Try.ntmps28
  go_wp2_with fail
  refine (put_nil 258 2 w (by omega)).mono ?_
  rintro e w1 ⟨v, rfl, hown, hb1⟩
  obtain ⟨A, c, rfl, _, _, _⟩ := ownShape hown
  have hl : (C.be 258 (C.clamp8 2)).length = 2 := by decide
  rw [hl]
  clear hown
  go_wp2_with fail
  refine (new_any none 0 [] w1 w1.heap.size (by simp) (by simp [maxLen]) (fun _ => ⟨rfl, rfl⟩) Rd.nil (Nat.le_refl _)).mono ?_
  rintro e w2 ⟨rfl, hR, hb2⟩
  go_wp2_with fail
  refine (end_any _ _ _ w2 hR).mono ?_
  rintro e w' ⟨rfl, rfl⟩
  go_wp2
  go_ret
  exact ⟨rfl, hb1.trans (hb2.mono hb1.size)⟩

theorem str_less (x y q : Nat) (hx : x < 256 ^ q) (hy : y < 256 ^ q) (s1 s2 : ByteArray) (h1 : s1 = ⟨(C.be x q).toArray⟩) (h2 : s2 = ⟨(C.be y q).toArray⟩) : Op.bytesLess s1.toList s2.toList = decide (x < y) := by
  rw [Lib.toList_data, Lib.toList_data, h1, h2]
  have := C.less_be x y q
  rw [Nat.mod_eq_of_lt hx, Nat.mod_eq_of_lt hy] at this
  exact this
theorem str_eq (x y q : Nat) (hx : x < 256 ^ q) (hy : y < 256 ^ q) (s1 s2 : ByteArray) (h1 : s1 = ⟨(C.be x q).toArray⟩) (h2 : s2 = ⟨(C.be y q).toArray⟩) : ((s1.toList == s2.toList) == ((x : Int) == (y : Int))) = true := by
  rw [Lib.toList_data, Lib.toList_data, h1, h2]
  have := C.eq_be x y q
  rw [Nat.mod_eq_of_lt hx, Nat.mod_eq_of_lt hy] at this
  rw [show (({ data := (C.be x q).toArray } : ByteArray).data.toList == ({ data := (C.be y q).toArray } : ByteArray).data.toList) = (C.be x q == C.be y q) from rfl, this]
  by_cases h : x = y
  · simp [h]
  · have : ¬ (x : Int) = y := by omega
    simp [h, this]

set_option maxHeartbeats 1600000 in
theorem order_mid (a b k : Nat) (w : World) (ha : a < 18446744073709551616) (hb : b < 18446744073709551616) (hk : k < 256) :
    Calls Try.prog 6 #[.int .u64 (a : Int), .int .u64 (b : Int), .int .u8 (k : Int)] w fun e w' => e = .returned (.bool true) ∧ Below w.heap.size w w' := by
  obtain ⟨q, hq⟩ : ∃ q : Nat, q = 1 + k % 8 := ⟨_, rfl⟩
  have e1 : (1 + (k : Int) % 8) = (q : Int) := by omega
  have E1 := Lib.hid e1
  have hq1 : 1 ≤ q := by omega
  have hq8 : q ≤ 8 := by omega
  clear e1 hq
  have HQ : Hid (C.clamp8 (q : Int) = q) := by show _ = _; unfold C.clamp8; omega
  by_cases hlt : q < 8
  · have hp : (2 ^ (8 * q) : Nat) < 18446744073709551616 := by
      have : (2 ^ (8 * q) : Nat) < 2 ^ 64 := Nat.pow_lt_pow_right (by omega) (by omega)
      omega
    have hp0 : 0 < (2 ^ (8 * q) : Nat) := Nat.pow_pos (by omega)
    obtain ⟨D, hD⟩ : ∃ D : Nat, D = 2 ^ (8 * q) := ⟨_, rfl⟩
    have ed : IntKind.u64.wrap (2 ^ (8 * q)) = (D : Int) := by
      rw [hD, show ((2 : Int) ^ (8 * q)) = ((2 ^ (8 * q) : Nat) : Int) from by simp, IntKind.wrap_u64]; omega
    have HD : Hid (D = 256 ^ q) := by show _ = _; rw [hD, Nat.pow_mul]
    rw [← hD] at hp hp0
    clear hD
    go_enter Try.func6, Try.ntmps6
    go_upto_region 2 with fail
    rw [E1.out]
    go_upto_region 5 with fail
    rw [show ((a : Int) % (D : Int)) = ((a % D : Nat) : Int) from by simp, show ((b : Int) % (D : Int)) = ((b % D : Nat) : Int) from by simp]
    have hx : a % D < D := Nat.mod_lt _ hp0
    have hy : b % D < D := Nat.mod_lt _ hp0
    have HX : Hid (a % D < 256 ^ q) := by show _ < _; rw [← HD.out]; exact hx
    have HY : Hid (b % D < 256 ^ q) := by show _ < _; rw [← HD.out]; exact hy
    have hx2 : a % D < 18446744073709551616 := by omega
    have hy2 : b % D < 18446744073709551616 := by omega
    generalize a % D = x at *
    generalize b % D = y at *
    clear ed hx hy
    go_cut [8, 9] (fun u v wx => u = .string ⟨(C.be x q).toArray⟩ ∧ v = .string ⟨(C.be y q).toArray⟩ ∧ Below w.heap.size w wx)
    case first =>
      go_region_with (first | (go_at_call_of 27 (Value.int .u64 (x : Int)); refine (put_nil x (q : Int) _ hx2).mono ?_; rintro e w1 ⟨v1, rfl, hown1, hb1⟩; obtain ⟨A1, c1, rfl, _, _, _⟩ := ownShape hown1; rw [HQ.out] at hown1 ⊢; have hcv1 := run_string_rd (P := Try.prog) w1 45 5 9 Try.underlying45 Try.underlying5 Try.underlying9 _ A1 c1 _ (Rd.ofOwn hown1)) | (go_at_call_of 27 (Value.int .u64 (y : Int)); refine (put_nil y (q : Int) _ hy2).mono ?_; rintro e w2 ⟨v2, rfl, hown2, hb2⟩; obtain ⟨A2, c2, rfl, _, _, _⟩ := ownShape hown2; rw [HQ.out] at hown2 ⊢; have hcv2 := run_string_rd (P := Try.prog) w2 45 5 9 Try.underlying45 Try.underlying5 Try.underlying9 _ A2 c2 _ (Rd.ofOwn hown2); have hcv3 := run_string_rd (P := Try.prog) w2 45 5 9 Try.underlying45 Try.underlying5 Try.underlying9 _ A1 c1 _ ((Rd.ofOwn hown1).below hb2)))
      all_goals
        go_wp2_with fail
        go_meet
        exact ⟨rfl, rfl, (belowOfDrew hb1).trans (hb2.mono hb1.size)⟩
    case rest =>
      obtain ⟨rfl, rfl, hb⟩ := hcut
      obtain ⟨s1, hs1⟩ : ∃ s : ByteArray, s = ⟨(C.be x q).toArray⟩ := ⟨_, rfl⟩
      obtain ⟨s2, hs2⟩ : ∃ s : ByteArray, s = ⟨(C.be y q).toArray⟩ := ⟨_, rfl⟩
      rw [← hs1, ← hs2]
      have n1 : s1.size = q := by rw [hs1]; exact C.be_len x q
      have n2 : s2.size = q := by rw [hs2]; exact C.be_len y q
      have hless := str_less x y q HX.out HY.out s1 s2 hs1 hs2
      have HE := Lib.hid (str_eq x y q HX.out HY.out s1 s2 hs1 hs2)
      clear hs1 hs2
      go_wp2_with fail
      refine (c_awake _).mono ?_
      rintro e w2 ⟨rfl, hb2⟩
      go_wp2_with fail
      go_ret
      exact ⟨ret_bool HE.out, hb.trans (hb2.mono hb.size)⟩
  · have HX : Hid (a < 256 ^ q) := by show _ < _; rw [show q = 8 from by omega]; omega
    have HY : Hid (b < 256 ^ q) := by show _ < _; rw [show q = 8 from by omega]; omega
    have hx2 := ha
    have hy2 := hb
    obtain ⟨x, hx⟩ : ∃ x : Nat, x = a := ⟨_, rfl⟩
    obtain ⟨y, hy⟩ : ∃ y : Nat, y = b := ⟨_, rfl⟩
    rw [← hx] at HX hx2 ⊢
    rw [← hy] at HY hy2 ⊢
    clear hx hy
    go_enter Try.func6, Try.ntmps6
    go_upto_region 2 with fail
    rw [E1.out]
    go_upto_region 5 with fail
    go_cut [8, 9] (fun u v wx => u = .string ⟨(C.be x q).toArray⟩ ∧ v = .string ⟨(C.be y q).toArray⟩ ∧ Below w.heap.size w wx)
    case first =>
      go_region_with (first | (go_at_call_of 27 (Value.int .u64 (x : Int)); refine (put_nil x (q : Int) _ hx2).mono ?_; rintro e w1 ⟨v1, rfl, hown1, hb1⟩; obtain ⟨A1, c1, rfl, _, _, _⟩ := ownShape hown1; rw [HQ.out] at hown1 ⊢; have hcv1 := run_string_rd (P := Try.prog) w1 45 5 9 Try.underlying45 Try.underlying5 Try.underlying9 _ A1 c1 _ (Rd.ofOwn hown1)) | (go_at_call_of 27 (Value.int .u64 (y : Int)); refine (put_nil y (q : Int) _ hy2).mono ?_; rintro e w2 ⟨v2, rfl, hown2, hb2⟩; obtain ⟨A2, c2, rfl, _, _, _⟩ := ownShape hown2; rw [HQ.out] at hown2 ⊢; have hcv2 := run_string_rd (P := Try.prog) w2 45 5 9 Try.underlying45 Try.underlying5 Try.underlying9 _ A2 c2 _ (Rd.ofOwn hown2); have hcv3 := run_string_rd (P := Try.prog) w2 45 5 9 Try.underlying45 Try.underlying5 Try.underlying9 _ A1 c1 _ ((Rd.ofOwn hown1).below hb2)))
      all_goals
        go_wp2_with fail
        go_meet
        exact ⟨rfl, rfl, (belowOfDrew hb1).trans (hb2.mono hb1.size)⟩
    case rest =>
      obtain ⟨rfl, rfl, hb⟩ := hcut
      obtain ⟨s1, hs1⟩ : ∃ s : ByteArray, s = ⟨(C.be x q).toArray⟩ := ⟨_, rfl⟩
      obtain ⟨s2, hs2⟩ : ∃ s : ByteArray, s = ⟨(C.be y q).toArray⟩ := ⟨_, rfl⟩
      rw [← hs1, ← hs2]
      have n1 : s1.size = q := by rw [hs1]; exact C.be_len x q
      have n2 : s2.size = q := by rw [hs2]; exact C.be_len y q
      have hless := str_less x y q HX.out HY.out s1 s2 hs1 hs2
      have HE := Lib.hid (str_eq x y q HX.out HY.out s1 s2 hs1 hs2)
      clear hs1 hs2
      go_wp2_with fail
      refine (c_awake _).mono ?_
      rintro e w2 ⟨rfl, hb2⟩
      go_wp2_with fail
      go_ret
      exact ⟨ret_bool HE.out, hb.trans (hb2.mono hb.size)⟩

theorem codeOrder_walk (W : World) (v0 v1 v2 : Value) (h0 : Arg W 43 v0) (h1 : Arg W 43 v1) (h2 : Arg W 5 v2) :
    Calls Try.prog 6 #[v0, v1, v2] W fun e W' => e = .returned (.bool true) ∧ Below W.heap.size W W' := by
  obtain ⟨a, rfl, ha⟩ := h0.u64 Try.underlying43
  obtain ⟨b, rfl, hb⟩ := h1.u64 Try.underlying43
  obtain ⟨k, rfl, hk⟩ := h2.u8 Try.underlying5
  exact order_mid a b k W ha hb hk
end Go.Proofs.Ytfpblaggnehnoaa
