/- The walks of layer 3's frames, and of the reference's. Conditions: a slice that comes in is no longer than 2^31 bytes. -/
import Derived.Test.YtmlchhfahpcohaaFrameSumW
import Derived.Test.YtmlchhfahpcohaaCodeNew
import Derived.Test.YtmlchhfahpcohaaRefReads
import Derived.Lib.OwnKind
namespace Go.Proofs.Ytmlchhfahpcohaa
open Go.RowKit
set_option linter.unusedSimpArgs false
set_option linter.unusedVariables false

/-- a row of bytes of the call's own, and an error -/
def MadeE (w : World) (p : List UInt8 × Nat) (e : Ending) (w' : World) : Prop :=
  ∃ v, e = .returned (.tuple #[v, .int .i64 (p.2 : Int)]) ∧ w'.ownsRow w.heap.size 5 1 v p.1.length (bc p.1) ∧ Below w.heap.size w w'

theorem wrap_four (x : Nat) (l : List UInt8) : C.put l x 4 = l ++ C.be x 4 := rfl
theorem wrap_eq (l : List UInt8) (h : ¬ 60000 < l.length) : F.wrap l = (C.put (C.be l.length 4) (F.sum l) 4 ++ l, 0) := by
  unfold F.wrap; rw [if_neg h, wrap_four]

set_option maxHeartbeats 800000 in
theorem wrap_any (A : Option Addr) (c : Nat) (l : List UInt8) (w : World) (B : Nat) (hl : l.length ≤ 2147483648) (hc : l.length ≤ c) (hA : A = none → l = [] ∧ c = 0) (hr : Rd w B A (bc l)) (hB : B ≤ w.heap.size) :
    Calls Try.prog 32 #[.slice A l.length c] w (MadeE w (F.wrap l)) := by
  obtain ⟨i0, hi, hz0, hz1, hz2⟩ := info_parts info_u8
  have hA' : A = none → c = 0 := fun h => (hA h).2
  by_cases h6 : 60000 < l.length
  · have e : F.wrap l = ([], 3) := by unfold F.wrap; rw [if_pos h6]
    rw [e]
    clear e
    generalize l.length = n at *
    go_enter Try.func32, Try.ntmps32
    go_wp2_with fail
    go_ret2
    exact ⟨_, rfl, World.ownsRow_nil _ _ _ _, Below.refl _ _⟩
  · have E := Lib.hid (wrap_eq l h6)
    rw [E.out]
    have hs := F.sum_lt l
    obtain ⟨n, hn⟩ : ∃ n, n = l.length := ⟨_, rfl⟩
    have HN := Lib.hid hn
    rw [← hn] at hl hc h6 ⊢
    clear E hn
    go_enter Try.func32, Try.ntmps32
    go_wp2_with fail
    refine (put_nil n 4 w (by omega)).mono ?_
    rintro e w1 ⟨v1, rfl, own1, b1⟩
    obtain ⟨A1, c1, rfl, hc1, hA1, hm1⟩ := ownShape own1
    go_wp2_with fail
    rw [HN.out]
    refine (sum_any A c l _ B (by rw [← HN.out]; omega) (by rw [← HN.out]; exact hc) (hr.belowM b1 hB)).mono ?_
    rintro e w' ⟨rfl, rfl⟩
    rw [← HN.out]
    go_wp2_with fail
    refine (put_any A1 c1 (C.be n (C.clamp8 4)) (F.sum l) 4 _ _ (by rw [C.be_len]; decide) (fun h => ⟨List.eq_nil_of_length_eq_zero (hA1 h).1, (hA1 h).2⟩) (Rd.ofOwn own1) (Nat.le_refl _) (by omega)).mono ?_
    rintro e w2 ⟨v2, rfl, own2, b2⟩
    have b2' := b1.trans (b2.mono b1.size)
    have len2 : (C.put (C.be n (C.clamp8 4)) (F.sum l) 4).length = 8 := by unfold C.put; rw [List.length_append, C.be_len, C.be_len]; decide
    have own2 := ownMore own2 b1.size
    have L2 := Lib.hid len2
    clear len2
    go_wp2_with (at_builtin; refine wpList_append_rd _ rfl _ _ 22 rfl w.heap.size 5 i0 (.int .u8 0) 1 Try.underlying22 hi hz0 hz1 hz2 rfl _ _ _ rfl own2 B A n c (bc l) rfl ?c1 hA' (hr.belowM b2' hB) (bc_one l) ?c3 ?c4 ?c5 ?_)
    case c1 => rw [bc_len, HN.out]
    case c3 => rw [L2.out]; unfold maxLen; omega
    case c4 => rw [L2.out]; omega
    case c5 => exact b2'.size
    intro v' w3 own3 g3
    have R := appM own2 b2' own3 (by rw [HN.out]) g3
    clear own3 g3 own2 b2' b2
    go_wp2
    go_ret2
    exact ⟨v', rfl, R.1, R.2⟩

theorem rput_nil (x : Nat) (n : Int) (w : World) (hx : x < 18446744073709551616) (h1 : -1000 ≤ n) (h2 : n ≤ 1000) :
    Calls Try.prog 18 #[.slice none 0 0, .int .u64 (x : Int), .int .i64 n] w (MadeB w (C.be x (C.clamp8 n))) := by
  have := rput_any none 0 [] x n w w.heap.size (by simp) (fun _ => ⟨rfl, rfl⟩) Rd.nil (Nat.le_refl _) hx h1 h2
  exact this

set_option maxHeartbeats 800000 in
theorem rwrap_any (A : Option Addr) (c : Nat) (l : List UInt8) (w : World) (B : Nat) (hl : l.length ≤ 2147483648) (hc : l.length ≤ c) (hA : A = none → l = [] ∧ c = 0) (hr : Rd w B A (bc l)) (hB : B ≤ w.heap.size) :
    Calls Try.prog 33 #[.slice A l.length c] w (MadeE w (F.wrap l)) := by
  obtain ⟨i0, hi, hz0, hz1, hz2⟩ := info_parts info_u8
  have hA' : A = none → c = 0 := fun h => (hA h).2
  by_cases h6 : 60000 < l.length
  · have e : F.wrap l = ([], 3) := by unfold F.wrap; rw [if_pos h6]
    rw [e]
    clear e
    generalize l.length = n at *
    go_enter Try.func33, Try.ntmps33
    go_wp2_with fail
    go_ret2
    exact ⟨_, rfl, World.ownsRow_nil _ _ _ _, Below.refl _ _⟩
  · have E := Lib.hid (wrap_eq l h6)
    rw [E.out]
    have hs := F.sum_lt l
    obtain ⟨n, hn⟩ : ∃ n, n = l.length := ⟨_, rfl⟩
    have HN := Lib.hid hn
    rw [← hn] at hl hc h6 ⊢
    clear E hn
    go_enter Try.func33, Try.ntmps33
    go_wp2_with fail
    refine (rput_nil n 4 w (by omega) (by omega) (by omega)).mono ?_
    rintro e w1 ⟨v1, rfl, own1, b1⟩
    obtain ⟨A1, c1, rfl, hc1, hA1, hm1⟩ := ownShape own1
    go_wp2_with fail
    rw [HN.out]
    refine (rsum_any A c l _ B (by rw [← HN.out]; omega) (by rw [← HN.out]; exact hc) (hr.belowM b1 hB)).mono ?_
    rintro e w' ⟨rfl, rfl⟩
    rw [← HN.out]
    go_wp2_with fail
    refine (rput_any A1 c1 (C.be n (C.clamp8 4)) (F.sum l) 4 _ _ (by rw [C.be_len]; decide) (fun h => ⟨List.eq_nil_of_length_eq_zero (hA1 h).1, (hA1 h).2⟩) (Rd.ofOwn own1) (Nat.le_refl _) (by omega) (by omega) (by omega)).mono ?_
    rintro e w2 ⟨v2, rfl, own2, b2⟩
    have b2' := b1.trans (b2.mono b1.size)
    have len2 : (C.put (C.be n (C.clamp8 4)) (F.sum l) 4).length = 8 := by unfold C.put; rw [List.length_append, C.be_len, C.be_len]; decide
    have own2 := ownMore own2 b1.size
    have L2 := Lib.hid len2
    clear len2
    go_wp2_with (at_builtin; refine wpList_append_rd _ rfl _ _ 22 rfl w.heap.size 5 i0 (.int .u8 0) 1 Try.underlying22 hi hz0 hz1 hz2 rfl _ _ _ rfl own2 B A n c (bc l) rfl ?c1 hA' (hr.belowM b2' hB) (bc_one l) ?c3 ?c4 ?c5 ?_)
    case c1 => rw [bc_len, HN.out]
    case c3 => rw [L2.out]; unfold maxLen; omega
    case c4 => rw [L2.out]; omega
    case c5 => exact b2'.size
    intro v' w3 own3 g3
    have R := appM own2 b2' own3 (by rw [HN.out]) g3
    clear own3 g3 own2 b2' b2
    go_wp2
    go_ret2
    exact ⟨v', rfl, R.1, R.2⟩

end Go.Proofs.Ytmlchhfahpcohaa
