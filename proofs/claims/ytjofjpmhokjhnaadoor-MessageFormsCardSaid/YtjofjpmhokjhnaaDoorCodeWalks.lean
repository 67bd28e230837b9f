/- The walks of layer 2's writers, and of the reference's. Conditions: a slice that comes in is no longer than 2^40 bytes, a number is a uint64. -/
import Derived.Test.YtjofjpmhokjhnaaDoorBytes
import Derived.Test.YtjofjpmhokjhnaaDoorCodePlain
namespace Go.Proofs.YtjofjpmhokjhnaaDoor
set_option maxRecDepth 20000
open Go.RowKit
set_option linter.unusedSimpArgs false
set_option linter.unusedVariables false

set_option maxHeartbeats 400000 in
theorem clone_any (A : Option Addr) (c : Nat) (l : List UInt8) (w : World) (B : Nat) (hl : l.length ≤ 1099511627776) (hA : A = none → l = [] ∧ c = 0) (hr : Rd w B A (bc l)) (hB : B ≤ w.heap.size) :
    Calls Tryd.prog 82 #[.slice A l.length c] w (MadeB w l) := by
  obtain ⟨i0, hi, hz0, hz1, hz2⟩ := info_parts info_u8
  have q : ∀ (w : World) (a : Option Addr) (n c n' c' : Nat), (binOp .eql 37 (.slice a n c) (.slice none n' c')).run Tryd.prog w = .ok (.bool a.isNone) w := fun w a n c n' c' => Lib.run_eql_slice_nil w _ _ a n c n' c' Tryd.underlying37
  cases A with
  | none =>
    obtain ⟨rfl, rfl⟩ := hA rfl
    go_enter Tryd.func82, Tryd.ntmps82
    go_wp2
    go_ret
    exact ⟨_, rfl, World.ownsRow_nil _ _ _ _, Below.refl _ _⟩
  | some ad =>
    obtain ⟨n, hn⟩ : ∃ n, n = l.length := ⟨_, rfl⟩
    have HN := Lib.hid hn
    rw [← hn] at hl ⊢
    clear hn
    go_enter Tryd.func82, Tryd.ntmps82
    go_wp2_with (first
      | (at_builtin; refine wpList_append_rd _ rfl _ _ 37 rfl w.heap.size 5 i0 (.int .u8 0) 1 Tryd.underlying37 hi hz0 hz1 hz2 rfl _ _ _ rfl (World.ownsRow_made w #[] 0 (Nat.le_refl _) (Nat.zero_le _) rfl) B (some ad) n c (bc l) rfl ?c1 ?c2 ?c3 ?c4 ?c5 ?c6 ?c7 ?_))
    case c1 => rw [bc_len, HN.out]
    case c2 => intro h; cases h
    case c3 => exact hr.alloc hB _
    case c4 => exact bc_one l
    case c5 => unfold maxLen; omega
    case c6 => omega
    case c7 => simp
    intro v' w1 hown hgrow
    have R : w1.ownsRow w.heap.size 5 1 v' l.length (bc l) ∧ Below w.heap.size w w1 := by
      refine ⟨by rw [← HN.out]; simpa using hown, ((Below.refl _ w).alloc (Nat.le_refl _) _).grown hgrow (by simp) (by intro k hk; simp [Value.ownBlock] at hk; omega)⟩
    clear hown hgrow
    go_wp2
    go_ret
    exact ⟨_, rfl, R.1, R.2⟩

theorem byte_at (x j : Nat) : ((x : Int) / 2 ^ (8 * j) % 256) = ((UInt8.ofNat (x / 256 ^ j)).toNat : Int) := by
  rw [UInt8.toNat_ofNat', show (256 : Nat) = 2 ^ 8 from rfl, ← Nat.pow_mul]
  simp

set_option maxHeartbeats 800000 in
theorem put_any (A : Option Addr) (c : Nat) (l : List UInt8) (x : Nat) (n : Int) (w : World) (B : Nat) (hl : l.length ≤ 549755813888) (hA : A = none → l = [] ∧ c = 0) (hr : Rd w B A (bc l)) (hB : B ≤ w.heap.size) (hx : x < 18446744073709551616) :
    Calls Tryd.prog 61 #[.slice A l.length c, .int .u64 (x : Int), .int .i64 n] w (MadeB w (C.put l x n)) := by
  obtain ⟨i0, hi, hz0, hz1, hz2⟩ := info_parts info_u8
  have hk8 := C.clamp8_le n
  obtain ⟨k, hk⟩ : ∃ k, k = C.clamp8 n := ⟨_, rfl⟩
  have e1 : ((if 8 < (if n < 0 then 0 else n) then (8 : Int) else (if n < 0 then 0 else n)) : Int) = (k : Int) := by rw [hk]; unfold C.clamp8; split <;> split <;> omega
  have HP : Hid (C.put l x n = l ++ C.be x k) := by show _ = _; rw [hk]; rfl
  rw [← hk] at hk8
  clear hk
  rw [HP.out]
  go_enter Tryd.func61, Tryd.ntmps61
  go_wp2_with fail
  refine (clone_any A c l w B (by omega) hA hr hB).mono ?_
  rintro e w1 ⟨v, rfl, hown, hbel⟩
  go_wp2_with fail
  all_goals
    clear e1
    go_loopw [0, 7] (fun v i wr => ∃ (j : Nat) (cur : List UInt8), j ≤ k ∧ i = .int .i64 ((j : Int) - 1) ∧ wr.ownsRow w.heap.size 5 1 v cur.length (bc cur) ∧ Hid (cur ++ C.be x j = l ++ C.be x k) ∧ cur.length ≤ l.length + 8 ∧ Below w.heap.size w wr) (fun _ i _ => (intOf i + 1).toNat)
    case atStart => exact ⟨k, l, Nat.le_refl _, rfl, hown, rfl, by omega, hbel⟩
    case round =>
      obtain ⟨j, cur, hj, rfl, hown, HC, hcl, hbel⟩ := hrel
      cases j with
      | zero =>
        have hfin : cur = l ++ C.be x k := by have := HC.out; simpa [C.be] using this
        subst hfin
        go_wp2_with fail
        go_ret
        exact ⟨_, rfl, hown, hbel⟩
      | succ j =>
        have hj0 : (0 : Int) ≤ (j : Int) := by omega
        have ej : ((j + 1 : Nat) : Int) - 1 = (j : Int) := by omega
        rw [ej]
        clear ej
        go_wp2_with (at_builtin; refine wpList_append_own _ rfl _ _ 37 rfl w.heap.size 5 i0 (.int .u8 0) 1 1 Tryd.underlying37 hi hz0 hz1 hz2 rfl (by decide) _ _ _ rfl (hown.alloc _) ⟨wr.heap.size, 0, none⟩ 1 1 [.int .u8 ((x : Int) / 2 ^ (8 * j) % 256)] rfl rfl ?c1 ?c2 ?c3 ?c4 ?c5 ?_)
        case c1 => exact oneAt _ _ _
        case c2 => intro u hu; simp at hu; subst hu; rfl
        case c3 => unfold maxLen; omega
        case c4 => omega
        case c5 => have := hbel.size; simp; omega
        intro v' w2 hown' hgrow _
        rw [byte_at] at hown' hgrow
        have R := appB hown hbel hown' hgrow
        have HC2 : Hid ((cur ++ [UInt8.ofNat (x / 256 ^ j)]) ++ C.be x j = l ++ C.be x k) := by
          show _ = _
          have := HC.out
          rw [C.be] at this
          rw [← this]; simp
        have hcl2 : (cur ++ [UInt8.ofNat (x / 256 ^ j)]).length ≤ l.length + 8 := by
          have := congrArg List.length HC2.out
          simp only [List.length_append, C.be_len, List.length_cons, List.length_nil] at this ⊢
          omega
        clear hown' hgrow hown hbel
        go_wp2
        go_roundw
        case rel => exact ⟨j, _, by omega, by go_num, R.1, HC2, hcl2, R.2⟩
        case measure => simp [intOf]

set_option maxHeartbeats 800000 in
theorem rput_any (A : Option Addr) (c : Nat) (l : List UInt8) (x : Nat) (n : Int) (w : World) (B : Nat) (hl : l.length ≤ 549755813888) (hA : A = none → l = [] ∧ c = 0) (hr : Rd w B A (bc l)) (hB : B ≤ w.heap.size) (hx : x < 18446744073709551616) (hn1 : -1000 ≤ n) (hn2 : n ≤ 1000) :
    Calls Tryd.prog 70 #[.slice A l.length c, .int .u64 (x : Int), .int .i64 n] w (MadeB w (C.put l x n)) := by
  obtain ⟨i0, hi, hz0, hz1, hz2⟩ := info_parts info_u8
  obtain ⟨m, hm⟩ : ∃ m, m = l.length := ⟨_, rfl⟩
  have HM := Lib.hid hm
  rw [← hm] at hl ⊢
  clear hm
  have hk8 := C.clamp8_le n
  have hkn : ∀ i : Nat, i < 8 → ((8 - n ≤ (i : Int)) ↔ 8 - i ≤ C.clamp8 n) := by intro i hi; unfold C.clamp8; omega
  obtain ⟨k, hk⟩ : ∃ k, k = C.clamp8 n := ⟨_, rfl⟩
  have HP : Hid (C.put l x n = l ++ C.be x k) := by show _ = _; rw [hk]; rfl
  rw [← hk] at hk8 hkn
  clear hk
  rw [HP.out]
  go_enter Tryd.func70, Tryd.ntmps70
  go_wp2_with (at_builtin; refine wpList_append_rd _ rfl _ _ 37 rfl w.heap.size 5 i0 (.int .u8 0) 1 Tryd.underlying37 hi hz0 hz1 hz2 rfl _ _ _ rfl (World.ownsRow_nil _ _ _ _) B A m c (bc l) rfl ?a1 ?a2 hr (bc_one l) ?a3 ?a4 ?a5 ?_)
  case a1 => rw [bc_len, HM.out]
  case a2 => exact fun h => (hA h).2
  case a3 => unfold maxLen; omega
  case a4 => omega
  case a5 => exact Nat.le_refl _
  intro v w1 hown hgrow
  have hown0 : w1.ownsRow w.heap.size 5 1 v l.length (bc l) := by rw [← HM.out]; simpa using hown
  have hbel0 : Below w.heap.size w w1 := (Below.refl _ w).grown hgrow (Nat.le_refl _) (by intro k hk; simp [Value.ownBlock] at hk)
  clear hown hgrow
  have hlm : l.length ≤ 549755813888 := by rw [← HM.out]; exact hl
  go_wp2_with fail
  go_loopw [7, 8] (fun v i wr => ∃ (j : Nat) (cur : List UInt8), j ≤ 8 ∧ i = .int .i64 (j : Int) ∧ wr.ownsRow w.heap.size 5 1 v cur.length (bc cur) ∧ Hid (cur ++ C.be x (min k (8 - j)) = l ++ C.be x k) ∧ cur.length ≤ l.length + 8 ∧ Below w.heap.size w wr) (fun _ i _ => 8 - (intOf i).toNat)
  case atStart => exact ⟨0, l, by omega, rfl, hown0, by show _ = _; rw [show min k (8 - 0) = k from by omega], by omega, hbel0⟩
  case round =>
    obtain ⟨j, cur, hj, rfl, hown, HC, hcl, hbel⟩ := hrel
    by_cases hj8 : j < 8
    · have hjk := hkn j hj8
      by_cases hput : 8 - n ≤ (j : Int)
      · have hle : 8 - j ≤ k := hjk.1 hput
        obtain ⟨q, hq⟩ : ∃ q, q = 7 - j := ⟨_, rfl⟩
        have ej : (7 : Int) - (j : Int) = (q : Int) := by omega
        have hq7 : q ≤ 7 := by omega
        have e1 : min k (8 - j) = q + 1 := by omega
        have e2 : min k (8 - (j + 1)) = q := by omega
        have E2 := Lib.hid e2
        have HC' : Hid (cur ++ C.be x (q + 1) = l ++ C.be x k) := by show _ = _; rw [← e1]; exact HC.out
        clear HC e1 e2 hjk hle hkn hq
        go_wp2_with (at_builtin; refine wpList_append_own _ rfl _ _ 37 rfl w.heap.size 5 i0 (.int .u8 0) 1 1 Tryd.underlying37 hi hz0 hz1 hz2 rfl (by decide) _ _ _ rfl (hown.alloc _) ⟨wr.heap.size, 0, none⟩ 1 1 [.int .u8 ((x : Int) / 2 ^ (8 * q) % 256)] rfl rfl ?c1 ?c2 ?c3 ?c4 ?c5 ?_)
        case c1 => exact oneAt _ _ _
        case c2 => intro u hu; simp at hu; subst hu; rfl
        case c3 => unfold maxLen; omega
        case c4 => omega
        case c5 => have := hbel.size; simp; omega
        intro v' w2 hown' hgrow _
        rw [byte_at] at hown' hgrow
        have R := appB hown hbel hown' hgrow
        have HC2 : Hid ((cur ++ [UInt8.ofNat (x / 256 ^ q)]) ++ C.be x (min k (8 - (j + 1))) = l ++ C.be x k) := by
          show _ = _
          have := HC'.out
          rw [C.be] at this
          rw [E2.out, ← this]; simp
        have hcl2 : (cur ++ [UInt8.ofNat (x / 256 ^ q)]).length ≤ l.length + 8 := by
          have := congrArg List.length HC2.out
          simp only [List.length_append, C.be_len, List.length_cons, List.length_nil] at this ⊢
          omega
        clear hown' hgrow hown hbel
        go_wp2
        go_roundw
        case rel => exact ⟨j + 1, _, by omega, by go_num, R.1, HC2, hcl2, R.2⟩
        case measure => simp [intOf]; omega
      · have hle : ¬ 8 - j ≤ k := fun h => hput (hjk.2 h)
        have HC2 : Hid (cur ++ C.be x (min k (8 - (j + 1))) = l ++ C.be x k) := by
          show _ = _
          have := HC.out
          rw [show min k (8 - (j + 1)) = min k (8 - j) from by omega]; exact this
        clear HC hjk hle hkn
        go_wp2
        go_roundw
        case rel => exact ⟨j + 1, _, by omega, by go_num, hown, HC2, hcl, hbel⟩
        case measure => simp [intOf]; omega
    · have hfin : cur = l ++ C.be x k := by
        have := HC.out
        rw [show min k (8 - j) = 0 from by omega] at this
        simpa [C.be] using this
      subst hfin
      go_wp2_with fail
      go_ret
      exact ⟨_, rfl, hown, hbel⟩

set_option maxHeartbeats 800000 in
theorem same_any (A B : Option Addr) (c d : Nat) (l : List UInt8) (w : World) (b1 b2 : Nat) (hl : l.length ≤ 1099511627776) (hA : Rd w b1 A (bc l)) (hB : Rd w b2 B (bc l)) (hc : l.length ≤ c) (hd : l.length ≤ d) :
    Calls Tryd.prog 22 #[.slice A l.length c, .slice B l.length d] w fun e w' => e = .returned (.bool true) ∧ ∃ n, w' = w.drewN n := by
  obtain ⟨n, hn⟩ : ∃ n, n = l.length := ⟨_, rfl⟩
  have HN := Lib.hid hn
  rw [← hn] at hl hc hd ⊢
  clear hn
  go_enter Tryd.func22, Tryd.ntmps22
  go_wp2_with fail
  go_loopw [5] (fun i wr => ∃ k m : Nat, k ≤ n ∧ i = .int .i64 k ∧ wr = w.drewN m) (fun i _ => n - (intOf i).toNat)
  case atStart => exact ⟨0, 0, Nat.zero_le _, rfl, rfl⟩
  case round =>
    obtain ⟨k, m, hk, rfl, rfl⟩ := hrel
    by_cases hlt : k < n
    · have hk2 : k < (bc l).length := by rw [bc_len, ← HN.out]; exact hlt
      obtain ⟨ab, ao, rfl, _, hca⟩ := hA.at_ hk2
      obtain ⟨bb, bo, rfl, _, hcb⟩ := hB.at_ hk2
      rw [bc_get] at hca hcb
      generalize ((l[k]'(by rw [← HN.out]; exact hlt)).toNat : Int) = x at hca hcb
      clear hk2
      have hb0 : (0 : Int) ≤ (k : Int) := by omega
      have hb1 : (k : Int) < (n : Int) := by omega
      go_wp2_with fail
      go_quiet (fail)
      go_wp2_with fail
      go_roundw
      case rel => exact ⟨k + 1, _, by omega, by go_num, rfl⟩
      case measure => simp [intOf]; omega
    · go_wp2_with fail
      go_ret
      exact ⟨rfl, _, rfl⟩

theorem put_two (l : List UInt8) (x : Nat) : C.put l x 2 = l ++ C.be x 2 := rfl
theorem put_len (l : List UInt8) (x : Nat) : (C.put l x 2).length = l.length + 2 := by rw [put_two]; simp [C.be_len]
theorem extract_list (s : ByteArray) (k : Nat) : (s.extract 0 k).data.toList = s.data.toList.take k := by
  rw [ByteArray.data_extract, Array.toList_extract]; simp
theorem list_size (s : ByteArray) : s.data.toList.length = s.size := by rw [Array.length_toList]; rfl
theorem putText_long (l : List UInt8) (s : ByteArray) (h : 65535 < s.size) : C.put l 65535 2 ++ (s.extract 0 65535).data.toList = C.putText l s.data.toList := by
  have : min s.data.toList.length 65535 = 65535 := by
    have : s.data.toList.length = s.size := by rw [Array.length_toList]; rfl
    omega
  rw [C.putText, this, put_two, extract_list]
theorem putText_short (l : List UInt8) (s : ByteArray) (h : ¬ 65535 < s.size) : C.put l s.size 2 ++ s.data.toList = C.putText l s.data.toList := by
  have h1 : s.data.toList.length = s.size := by rw [Array.length_toList]; rfl
  have : min s.data.toList.length 65535 = s.size := by omega
  rw [C.putText, this, put_two, List.take_of_length_le (by omega)]

set_option maxHeartbeats 800000 in
theorem puttext_any (A : Option Addr) (c : Nat) (l : List UInt8) (s : ByteArray) (w : World) (B : Nat) (hl : l.length ≤ 274877906944) (hA : A = none → l = [] ∧ c = 0) (hr : Rd w B A (bc l)) (hB : B ≤ w.heap.size) (hs : s.size ≤ 9223372036854775807) :
    Calls Tryd.prog 67 #[.slice A l.length c, .string s] w (MadeB w (C.putText l s.data.toList)) := by
  obtain ⟨i0, hi, hz0, hz1, hz2⟩ := info_parts info_u8
  by_cases hlong : 65535 < s.size
  · have em : min 65535 s.size = 65535 := by omega
    have EM := Lib.hid em
    have hsz : (s.extract 0 65535).size = 65535 := by rw [ByteArray.size_extract]; omega
    have HSZ := Lib.hid hsz
    clear em hsz
    go_enter Tryd.func67, Tryd.ntmps67
    go_wp2_with fail
    rw [EM.out]
    refine (put_any A c l 65535 2 w B (by omega) hA hr hB (by omega)).mono ?_
    rintro e w1 ⟨v, rfl, hown, hbel⟩
    go_wp2_with (at_builtin; refine Lib.wpList_append_own_string _ rfl _ _ 37 9 rfl w.heap.size 5 i0 Tryd.underlying37 Tryd.underlying9 hi hz0 hz1 hz2 _ _ _ rfl hown (s.extract 0 65535) rfl ?c1 ?c2 ?c3 ?_)
    case c1 => rw [HSZ.out, put_len]; unfold maxLen; omega
    case c2 => rw [HSZ.out, put_len]; omega
    case c3 => exact hbel.size
    intro v' w2 hown' hgrow _
    rw [bc_str] at hown'
    have R := appM hown hbel hown' (by rw [extract_list, List.length_take, list_size]) hgrow
    rw [putText_long l s hlong] at R
    clear hown' hgrow hown hbel
    go_wp2
    go_ret
    exact ⟨_, rfl, R.1, R.2⟩
  · go_enter Tryd.func67, Tryd.ntmps67
    go_wp2_with fail
    refine (put_any A c l s.size 2 w B (by omega) hA hr hB (by omega)).mono ?_
    rintro e w1 ⟨v, rfl, hown, hbel⟩
    go_wp2_with (at_builtin; refine Lib.wpList_append_own_string _ rfl _ _ 37 9 rfl w.heap.size 5 i0 Tryd.underlying37 Tryd.underlying9 hi hz0 hz1 hz2 _ _ _ rfl hown s rfl ?c1 ?c2 ?c3 ?_)
    case c1 => rw [put_len]; unfold maxLen; omega
    case c2 => rw [put_len]; omega
    case c3 => exact hbel.size
    intro v' w2 hown' hgrow _
    rw [bc_str] at hown'
    have R := appM hown hbel hown' (by rw [Array.length_toList]; rfl) hgrow
    rw [putText_short l s hlong] at R
    clear hown' hgrow hown hbel
    go_wp2
    go_ret
    exact ⟨_, rfl, R.1, R.2⟩

set_option maxHeartbeats 800000 in
theorem rputtext_any (A : Option Addr) (c : Nat) (l : List UInt8) (s : ByteArray) (w : World) (B : Nat) (hl : l.length ≤ 274877906944) (hA : A = none → l = [] ∧ c = 0) (hr : Rd w B A (bc l)) (hB : B ≤ w.heap.size) (hs : s.size ≤ 9223372036854775807) :
    Calls Tryd.prog 75 #[.slice A l.length c, .string s] w (MadeB w (C.putText l s.data.toList)) := by
  obtain ⟨i0, hi, hz0, hz1, hz2⟩ := info_parts info_u8
  by_cases hlong : 65535 < s.size
  · have hsz : (s.extract 0 65535).size = 65535 := by rw [ByteArray.size_extract]; omega
    have HSZ := Lib.hid hsz
    clear hsz
    go_enter Tryd.func75, Tryd.ntmps75
    go_wp2_with fail
    refine (rput_any A c l 65535 2 w B (by omega) hA hr hB (by omega) (by omega) (by omega)).mono ?_
    rintro e w1 ⟨v, rfl, hown, hbel⟩
    go_wp2_with (at_builtin; refine Lib.wpList_append_own_string _ rfl _ _ 37 9 rfl w.heap.size 5 i0 Tryd.underlying37 Tryd.underlying9 hi hz0 hz1 hz2 _ _ _ rfl hown (s.extract 0 65535) rfl ?c1 ?c2 ?c3 ?_)
    case c1 => rw [HSZ.out, put_len]; unfold maxLen; omega
    case c2 => rw [HSZ.out, put_len]; omega
    case c3 => exact hbel.size
    intro v' w2 hown' hgrow _
    rw [bc_str] at hown'
    have R := appM hown hbel hown' (by rw [extract_list, List.length_take, list_size]) hgrow
    rw [putText_long l s hlong] at R
    clear hown' hgrow hown hbel
    go_wp2
    go_ret
    exact ⟨_, rfl, R.1, R.2⟩
  · go_enter Tryd.func75, Tryd.ntmps75
    go_wp2_with fail
    refine (rput_any A c l s.size 2 w B (by omega) hA hr hB (by omega) (by omega) (by omega)).mono ?_
    rintro e w1 ⟨v, rfl, hown, hbel⟩
    go_wp2_with (at_builtin; refine Lib.wpList_append_own_string _ rfl _ _ 37 9 rfl w.heap.size 5 i0 Tryd.underlying37 Tryd.underlying9 hi hz0 hz1 hz2 _ _ _ rfl hown s rfl ?c1 ?c2 ?c3 ?_)
    case c1 => rw [put_len]; unfold maxLen; omega
    case c2 => rw [put_len]; omega
    case c3 => exact hbel.size
    intro v' w2 hown' hgrow _
    rw [bc_str] at hown'
    have R := appM hown hbel hown' (by rw [Array.length_toList]; rfl) hgrow
    rw [putText_short l s hlong] at R
    clear hown' hgrow hown hbel
    go_wp2
    go_ret
    exact ⟨_, rfl, R.1, R.2⟩
end Go.Proofs.YtjofjpmhokjhnaaDoor
