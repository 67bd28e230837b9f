import Derived.Test.YtimfoimcaapodaaDoorVbM5
import Derived.Test.YtimfoimcaapodaaDoorVbM7
set_option maxHeartbeats 800000
set_option linter.unusedSimpArgs false
set_option linter.unusedVariables false
namespace Go.Proofs.YtimfoimcaapodaaDoor
set_option maxRecDepth 20000
open Go.RowKit
theorem clone_any (A : Option Addr) (c : Nat) (l : List UInt8) (w : World) (B : Nat) (hl : l.length ≤ 1099511627776) (hA : A = none → l = [] ∧ c = 0) (hr : Rd w B A (bc l)) (hB : B ≤ w.heap.size) :
 Calls Tryd.prog 23 #[.slice A l.length c] w (MadeB w l) := by
 obtain ⟨i0, hi, hz0, hz1, hz2⟩ := info_parts info_u8;have q : ∀ (w : World) (a : Option Addr) (n c n' c' : Nat), (binOp .eql 32 (.slice a n c) (.slice none n' c')).run Tryd.prog w = .ok (.bool a.isNone) w := fun w a n c n' c' => Lib.run_eql_slice_nil w _ _ a n c n' c' Tryd.underlying32
 cases A with
 | none =>
   obtain ⟨rfl, rfl⟩ := hA rfl
   go_enter Tryd.func23, Tryd.ntmps23
   go_wp2
   go_ret
   exact ⟨_, rfl, World.ownsRow_nil _ _ _ _, Below.refl _ _⟩
 | some ad =>
   obtain ⟨n, hn⟩ : ∃ n, n = l.length := ⟨_, rfl⟩;have HN := Lib.hid hn;rw [← hn] at hl ⊢;clear hn
   go_enter Tryd.func23, Tryd.ntmps23
   go_wp2_with (first
    | (at_builtin; refine wpList_append_rd _ rfl _ _ 32 rfl w.heap.size 5 i0 (.int .u8 0) 1 Tryd.underlying32 hi hz0 hz1 hz2 rfl _ _ _ rfl (World.ownsRow_made w #[] 0 (Nat.le_refl _) (Nat.zero_le _) rfl) B (some ad) n c (bc l) rfl ?c1 ?c2 ?c3 ?c4 ?c5 ?c6 ?c7 ?_))
   case c1 => rw [bc_len, HN.out]
   case c2 => intro h; cases h
   case c3 => exact hr.alloc hB _
   case c4 => exact bc_one l
   case c5 => unfold maxLen; omega
   case c6 => omega
   case c7 => simp
   intro v' w1 hown hgrow
   have R : w1.ownsRow w.heap.size 5 1 v' l.length (bc l) ∧ Below w.heap.size w w1 := by
    refine ⟨by rw [← HN.out]; simpa using hown, ((Below.refl _ w).alloc (Nat.le_refl _) _).grown hgrow (by simp) (by intro k hk; simp [Value.ownBlock] at hk; omega)⟩
   clear hown hgrow
   go_wp2
   go_ret
   exact ⟨_, rfl, R.1, R.2⟩
theorem byte_at (x j : Nat) : ((x : Int) / 2 ^ (8 * j) % 256) = ((UInt8.ofNat (x / 256 ^ j)).toNat : Int) := by
 rw [UInt8.toNat_ofNat', show (256 : Nat) = 2 ^ 8 from rfl, ← Nat.pow_mul];simp
theorem put_any (A : Option Addr) (c : Nat) (l : List UInt8) (x : Nat) (n : Int) (w : World) (B : Nat) (hl : l.length ≤ 549755813888) (hA : A = none → l = [] ∧ c = 0) (hr : Rd w B A (bc l)) (hB : B ≤ w.heap.size) (hx : x < 18446744073709551616) :
 Calls Tryd.prog 24 #[.slice A l.length c, .int .u64 (x : Int), .int .i64 n] w (MadeB w (C.put l x n)) := by
 obtain ⟨i0, hi, hz0, hz1, hz2⟩ := info_parts info_u8;have hk8 := C.clamp8_le n;obtain ⟨k, hk⟩ : ∃ k, k = C.clamp8 n := ⟨_, rfl⟩;(have e1 : ((if 8 < (if n < 0 then 0 else n) then (8 : Int) else (if n < 0 then 0 else n)) : Int) = (k : Int) := by rw [hk]; unfold C.clamp8; split <;> split <;> omega);(have HP : Hid (C.put l x n = l ++ C.be x k) := by show _ = _; rw [hk]; rfl);rw [← hk] at hk8;clear hk;rw [HP.out]
 go_enter Tryd.func24, Tryd.ntmps24
 go_wp2_with fail
 refine (clone_any A c l w B (by omega) hA hr hB).mono ?_;rintro e w1 ⟨v, rfl, hown, hbel⟩
 go_wp2_with fail
 all_goals
  clear e1
  go_loopw [0, 7] (fun v i wr => ∃ (j : Nat) (cur : List UInt8), j ≤ k ∧ i = .int .i64 ((j : Int) - 1) ∧ wr.ownsRow w.heap.size 5 1 v cur.length (bc cur) ∧ Hid (cur ++ C.be x j = l ++ C.be x k) ∧ cur.length ≤ l.length + 8 ∧ Below w.heap.size w wr) (fun _ i _ => (intOf i + 1).toNat)
  case atStart => exact ⟨k, l, Nat.le_refl _, rfl, hown, rfl, by omega, hbel⟩
  case round =>
   obtain ⟨j, cur, hj, rfl, hown, HC, hcl, hbel⟩ := hrel
   cases j with
   | zero =>
     (have hfin : cur = l ++ C.be x k := by have := HC.out; simpa [C.be] using this);subst hfin
     go_wp2_with fail
     go_ret
     exact ⟨_, rfl, hown, hbel⟩
   | succ j =>
     (have hj0 : (0 : Int) ≤ (j : Int) := by omega);(have ej : ((j + 1 : Nat) : Int) - 1 = (j : Int) := by omega);rw [ej];clear ej
     go_wp2_with (at_builtin; refine wpList_append_own _ rfl _ _ 32 rfl w.heap.size 5 i0 (.int .u8 0) 1 1 Tryd.underlying32 hi hz0 hz1 hz2 rfl (by decide) _ _ _ rfl (hown.alloc _) ⟨wr.heap.size, 0, none⟩ 1 1 [.int .u8 ((x : Int) / 2 ^ (8 * j) % 256)] rfl rfl ?c1 ?c2 ?c3 ?c4 ?c5 ?_)
     case c1 => exact oneAt _ _ _
     case c2 => intro u hu; simp at hu; subst hu; rfl
     case c3 => unfold maxLen; omega
     case c4 => omega
     case c5 => have := hbel.size; simp; omega
     intro v' w2 hown' hgrow _;rw [byte_at] at hown' hgrow;have R := appB hown hbel hown' hgrow
     have HC2 : Hid ((cur ++ [UInt8.ofNat (x / 256 ^ j)]) ++ C.be x j = l ++ C.be x k) := by
      show _ = _;have := HC.out;rw [C.be] at this;rw [← this]; simp
     have hcl2 : (cur ++ [UInt8.ofNat (x / 256 ^ j)]).length ≤ l.length + 8 := by
      have := congrArg List.length HC2.out;simp only [List.length_append, C.be_len, List.length_cons, List.length_nil] at this ⊢;omega
     clear hown' hgrow hown hbel
     go_wp2
     go_roundw
     case rel => exact ⟨j, _, by omega, by go_num, R.1, HC2, hcl2, R.2⟩
     case measure => simp [intOf]
theorem put_two (l : List UInt8) (x : Nat) : C.put l x 2 = l ++ C.be x 2 := rfl
theorem put_len (l : List UInt8) (x : Nat) : (C.put l x 2).length = l.length + 2 := by rw [put_two]; simp [C.be_len]
theorem extract_list (s : ByteArray) (k : Nat) : (s.extract 0 k).data.toList = s.data.toList.take k := by
 rw [ByteArray.data_extract, Array.toList_extract]; simp
theorem list_size (s : ByteArray) : s.data.toList.length = s.size := by rw [Array.length_toList]; rfl
theorem putText_long (l : List UInt8) (s : ByteArray) (h : 65535 < s.size) : C.put l 65535 2 ++ (s.extract 0 65535).data.toList = C.putText l s.data.toList := by
 have : min s.data.toList.length 65535 = 65535 := by
  (have : s.data.toList.length = s.size := by rw [Array.length_toList]; rfl);omega
 rw [C.putText, this, put_two, extract_list]
theorem putText_short (l : List UInt8) (s : ByteArray) (h : ¬ 65535 < s.size) : C.put l s.size 2 ++ s.data.toList = C.putText l s.data.toList := by
 (have h1 : s.data.toList.length = s.size := by rw [Array.length_toList]; rfl);(have : min s.data.toList.length 65535 = s.size := by omega);rw [C.putText, this, put_two, List.take_of_length_le (by omega)]
theorem puttext_any (A : Option Addr) (c : Nat) (l : List UInt8) (s : ByteArray) (w : World) (B : Nat) (hl : l.length ≤ 274877906944) (hA : A = none → l = [] ∧ c = 0) (hr : Rd w B A (bc l)) (hB : B ≤ w.heap.size) (hs : s.size ≤ 9223372036854775807) :
 Calls Tryd.prog 25 #[.slice A l.length c, .string s] w (MadeB w (C.putText l s.data.toList)) := by
 obtain ⟨i0, hi, hz0, hz1, hz2⟩ := info_parts info_u8
 by_cases hlong : 65535 < s.size
 ·(have em : min 65535 s.size = 65535 := by omega);have EM := Lib.hid em;(have hsz : (s.extract 0 65535).size = 65535 := by rw [ByteArray.size_extract]; omega);have HSZ := Lib.hid hsz;clear em hsz
  go_enter Tryd.func25, Tryd.ntmps25
  go_wp2_with fail
  rw [EM.out];refine (put_any A c l 65535 2 w B (by omega) hA hr hB (by omega)).mono ?_;rintro e w1 ⟨v, rfl, hown, hbel⟩
  go_wp2_with (at_builtin; refine Lib.wpList_append_own_string _ rfl _ _ 32 9 rfl w.heap.size 5 i0 Tryd.underlying32 Tryd.underlying9 hi hz0 hz1 hz2 _ _ _ rfl hown (s.extract 0 65535) rfl ?c1 ?c2 ?c3 ?_)
  case c1 => rw [HSZ.out, put_len]; unfold maxLen; omega
  case c2 => rw [HSZ.out, put_len]; omega
  case c3 => exact hbel.size
  intro v' w2 hown' hgrow _;rw [bc_str] at hown';have R := appM hown hbel hown' (by rw [extract_list, List.length_take, list_size]) hgrow;rw [putText_long l s hlong] at R;clear hown' hgrow hown hbel
  go_wp2
  go_ret
  exact ⟨_, rfl, R.1, R.2⟩
 ·go_enter Tryd.func25, Tryd.ntmps25
  go_wp2_with fail
  refine (put_any A c l s.size 2 w B (by omega) hA hr hB (by omega)).mono ?_;rintro e w1 ⟨v, rfl, hown, hbel⟩
  go_wp2_with (at_builtin; refine Lib.wpList_append_own_string _ rfl _ _ 32 9 rfl w.heap.size 5 i0 Tryd.underlying32 Tryd.underlying9 hi hz0 hz1 hz2 _ _ _ rfl hown s rfl ?c1 ?c2 ?c3 ?_)
  case c1 => rw [put_len]; unfold maxLen; omega
  case c2 => rw [put_len]; omega
  case c3 => exact hbel.size
  intro v' w2 hown' hgrow _;rw [bc_str] at hown';have R := appM hown hbel hown' (by rw [Array.length_toList]; rfl) hgrow;rw [putText_short l s hlong] at R;clear hown' hgrow hown hbel
  go_wp2
  go_ret
  exact ⟨_, rfl, R.1, R.2⟩
end Go.Proofs.YtimfoimcaapodaaDoor
