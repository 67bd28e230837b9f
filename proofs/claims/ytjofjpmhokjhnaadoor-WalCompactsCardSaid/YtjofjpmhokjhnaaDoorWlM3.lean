/- The walks of layer 2's reader, and of the reference's. Conditions: the bytes lie below the reader's block. -/
import Derived.Test.YtjofjpmhokjhnaaDoorWlM2
namespace Go.Proofs.YtjofjpmhokjhnaaDoor
set_option maxRecDepth 20000
open Go.RowKit
set_option linter.unusedSimpArgs false
set_option linter.unusedVariables false

set_option maxHeartbeats 400000 in
theorem clone_any (A : Option Addr) (c : Nat) (l : List UInt8) (w : World) (B : Nat) (hl : l.length ≤ 1099511627776) (hA : A = none → l = [] ∧ c = 0) (hr : Rd w B A (bc l)) (hB : B ≤ w.heap.size) :
    Calls Tryd.prog 82 #[.slice A l.length c] w (MadeB w l) := by
  obtain ⟨i0, hi, hz0, hz1, hz2⟩ := info_parts info_u8
  have q : ∀ (w : World) (a : Option Addr) (n c n' c' : Nat), (binOp .eql 37 (.slice a n c) (.slice none n' c')).run Tryd.prog w = .ok (.bool a.isNone) w := fun w a n c n' c' => Lib.run_eql_slice_nil w _ _ a n c n' c' Tryd.underlying37
  cases A with
  | none =>
    obtain ⟨rfl, rfl⟩ := hA rfl
    go_enter Tryd.func82, Tryd.ntmps82
    go_wp2
    go_ret
    exact ⟨_, rfl, World.ownsRow_nil _ _ _ _, Below.refl _ _⟩
  | some ad =>
    obtain ⟨n, hn⟩ : ∃ n, n = l.length := ⟨_, rfl⟩
    have HN := Lib.hid hn
    rw [← hn] at hl ⊢
    clear hn
    go_enter Tryd.func82, Tryd.ntmps82
    go_wp2_with (first
      | (at_builtin; refine wpList_append_rd _ rfl _ _ 37 rfl w.heap.size 5 i0 (.int .u8 0) 1 Tryd.underlying37 hi hz0 hz1 hz2 rfl _ _ _ rfl (World.ownsRow_made w #[] 0 (Nat.le_refl _) (Nat.zero_le _) rfl) B (some ad) n c (bc l) rfl ?c1 ?c2 ?c3 ?c4 ?c5 ?c6 ?c7 ?_))
    case c1 => rw [bc_len, HN.out]
    case c2 => intro h; cases h
    case c3 => exact hr.alloc hB _
    case c4 => exact bc_one l
    case c5 => unfold maxLen; omega
    case c6 => omega
    case c7 => simp
    intro v' w1 hown hgrow
    have R : w1.ownsRow w.heap.size 5 1 v' l.length (bc l) ∧ Below w.heap.size w w1 := by
      refine ⟨by rw [← HN.out]; simpa using hown, ((Below.refl _ w).alloc (Nat.le_refl _) _).grown hgrow (by simp) (by intro k hk; simp [Value.ownBlock] at hk; omega)⟩
    clear hown hgrow
    go_wp2
    go_ret
    exact ⟨_, rfl, R.1, R.2⟩

theorem byte_at (x j : Nat) : ((x : Int) / 2 ^ (8 * j) % 256) = ((UInt8.ofNat (x / 256 ^ j)).toNat : Int) := by
  rw [UInt8.toNat_ofNat', show (256 : Nat) = 2 ^ 8 from rfl, ← Nat.pow_mul]
  simp

set_option maxHeartbeats 800000 in
theorem put_any (A : Option Addr) (c : Nat) (l : List UInt8) (x : Nat) (n : Int) (w : World) (B : Nat) (hl : l.length ≤ 549755813888) (hA : A = none → l = [] ∧ c = 0) (hr : Rd w B A (bc l)) (hB : B ≤ w.heap.size) (hx : x < 18446744073709551616) :
    Calls Tryd.prog 61 #[.slice A l.length c, .int .u64 (x : Int), .int .i64 n] w (MadeB w (C.put l x n)) := by
  obtain ⟨i0, hi, hz0, hz1, hz2⟩ := info_parts info_u8
  have hk8 := C.clamp8_le n
  obtain ⟨k, hk⟩ : ∃ k, k = C.clamp8 n := ⟨_, rfl⟩
  have e1 : ((if 8 < (if n < 0 then 0 else n) then (8 : Int) else (if n < 0 then 0 else n)) : Int) = (k : Int) := by rw [hk]; unfold C.clamp8; split <;> split <;> omega
  have HP : Hid (C.put l x n = l ++ C.be x k) := by show _ = _; rw [hk]; rfl
  rw [← hk] at hk8
  clear hk
  rw [HP.out]
  go_enter Tryd.func61, Tryd.ntmps61
  go_wp2_with fail
  refine (clone_any A c l w B (by omega) hA hr hB).mono ?_
  rintro e w1 ⟨v, rfl, hown, hbel⟩
  go_wp2_with fail
  all_goals
    clear e1
    go_loopw [0, 7] (fun v i wr => ∃ (j : Nat) (cur : List UInt8), j ≤ k ∧ i = .int .i64 ((j : Int) - 1) ∧ wr.ownsRow w.heap.size 5 1 v cur.length (bc cur) ∧ Hid (cur ++ C.be x j = l ++ C.be x k) ∧ cur.length ≤ l.length + 8 ∧ Below w.heap.size w wr) (fun _ i _ => (intOf i + 1).toNat)
    case atStart => exact ⟨k, l, Nat.le_refl _, rfl, hown, rfl, by omega, hbel⟩
    case round =>
      obtain ⟨j, cur, hj, rfl, hown, HC, hcl, hbel⟩ := hrel
      cases j with
      | zero =>
        have hfin : cur = l ++ C.be x k := by have := HC.out; simpa [C.be] using this
        subst hfin
        go_wp2_with fail
        go_ret
        exact ⟨_, rfl, hown, hbel⟩
      | succ j =>
        have hj0 : (0 : Int) ≤ (j : Int) := by omega
        have ej : ((j + 1 : Nat) : Int) - 1 = (j : Int) := by omega
        rw [ej]
        clear ej
        go_wp2_with (at_builtin; refine wpList_append_own _ rfl _ _ 37 rfl w.heap.size 5 i0 (.int .u8 0) 1 1 Tryd.underlying37 hi hz0 hz1 hz2 rfl (by decide) _ _ _ rfl (hown.alloc _) ⟨wr.heap.size, 0, none⟩ 1 1 [.int .u8 ((x : Int) / 2 ^ (8 * j) % 256)] rfl rfl ?c1 ?c2 ?c3 ?c4 ?c5 ?_)
        case c1 => exact oneAt _ _ _
        case c2 => intro u hu; simp at hu; subst hu; rfl
        case c3 => unfold maxLen; omega
        case c4 => omega
        case c5 => have := hbel.size; simp; omega
        intro v' w2 hown' hgrow _
        rw [byte_at] at hown' hgrow
        have R := appB hown hbel hown' hgrow
        have HC2 : Hid ((cur ++ [UInt8.ofNat (x / 256 ^ j)]) ++ C.be x j = l ++ C.be x k) := by
          show _ = _
          have := HC.out
          rw [C.be] at this
          rw [← this]; simp
        have hcl2 : (cur ++ [UInt8.ofNat (x / 256 ^ j)]).length ≤ l.length + 8 := by
          have := congrArg List.length HC2.out
          simp only [List.length_append, C.be_len, List.length_cons, List.length_nil] at this ⊢
          omega
        clear hown' hgrow hown hbel
        go_wp2
        go_roundw
        case rel => exact ⟨j, _, by omega, by go_num, R.1, HC2, hcl2, R.2⟩
        case measure => simp [intOf]

theorem put_two (l : List UInt8) (x : Nat) : C.put l x 2 = l ++ C.be x 2 := rfl
theorem put_len (l : List UInt8) (x : Nat) : (C.put l x 2).length = l.length + 2 := by rw [put_two]; simp [C.be_len]
theorem extract_list (s : ByteArray) (k : Nat) : (s.extract 0 k).data.toList = s.data.toList.take k := by
  rw [ByteArray.data_extract, Array.toList_extract]; simp
theorem list_size (s : ByteArray) : s.data.toList.length = s.size := by rw [Array.length_toList]; rfl
theorem putText_long (l : List UInt8) (s : ByteArray) (h : 65535 < s.size) : C.put l 65535 2 ++ (s.extract 0 65535).data.toList = C.putText l s.data.toList := by
  have : min s.data.toList.length 65535 = 65535 := by
    have : s.data.toList.length = s.size := by rw [Array.length_toList]; rfl
    omega
  rw [C.putText, this, put_two, extract_list]
theorem putText_short (l : List UInt8) (s : ByteArray) (h : ¬ 65535 < s.size) : C.put l s.size 2 ++ s.data.toList = C.putText l s.data.toList := by
  have h1 : s.data.toList.length = s.size := by rw [Array.length_toList]; rfl
  have : min s.data.toList.length 65535 = s.size := by omega
  rw [C.putText, this, put_two, List.take_of_length_le (by omega)]

set_option maxHeartbeats 800000 in
theorem puttext_any (A : Option Addr) (c : Nat) (l : List UInt8) (s : ByteArray) (w : World) (B : Nat) (hl : l.length ≤ 274877906944) (hA : A = none → l = [] ∧ c = 0) (hr : Rd w B A (bc l)) (hB : B ≤ w.heap.size) (hs : s.size ≤ 9223372036854775807) :
    Calls Tryd.prog 67 #[.slice A l.length c, .string s] w (MadeB w (C.putText l s.data.toList)) := by
  obtain ⟨i0, hi, hz0, hz1, hz2⟩ := info_parts info_u8
  by_cases hlong : 65535 < s.size
  · have em : min 65535 s.size = 65535 := by omega
    have EM := Lib.hid em
    have hsz : (s.extract 0 65535).size = 65535 := by rw [ByteArray.size_extract]; omega
    have HSZ := Lib.hid hsz
    clear em hsz
    go_enter Tryd.func67, Tryd.ntmps67
    go_wp2_with fail
    rw [EM.out]
    refine (put_any A c l 65535 2 w B (by omega) hA hr hB (by omega)).mono ?_
    rintro e w1 ⟨v, rfl, hown, hbel⟩
    go_wp2_with (at_builtin; refine Lib.wpList_append_own_string _ rfl _ _ 37 9 rfl w.heap.size 5 i0 Tryd.underlying37 Tryd.underlying9 hi hz0 hz1 hz2 _ _ _ rfl hown (s.extract 0 65535) rfl ?c1 ?c2 ?c3 ?_)
    case c1 => rw [HSZ.out, put_len]; unfold maxLen; omega
    case c2 => rw [HSZ.out, put_len]; omega
    case c3 => exact hbel.size
    intro v' w2 hown' hgrow _
    rw [bc_str] at hown'
    have R := appM hown hbel hown' (by rw [extract_list, List.length_take, list_size]) hgrow
    rw [putText_long l s hlong] at R
    clear hown' hgrow hown hbel
    go_wp2
    go_ret
    exact ⟨_, rfl, R.1, R.2⟩
  · go_enter Tryd.func67, Tryd.ntmps67
    go_wp2_with fail
    refine (put_any A c l s.size 2 w B (by omega) hA hr hB (by omega)).mono ?_
    rintro e w1 ⟨v, rfl, hown, hbel⟩
    go_wp2_with (at_builtin; refine Lib.wpList_append_own_string _ rfl _ _ 37 9 rfl w.heap.size 5 i0 Tryd.underlying37 Tryd.underlying9 hi hz0 hz1 hz2 _ _ _ rfl hown s rfl ?c1 ?c2 ?c3 ?_)
    case c1 => rw [put_len]; unfold maxLen; omega
    case c2 => rw [put_len]; omega
    case c3 => exact hbel.size
    intro v' w2 hown' hgrow _
    rw [bc_str] at hown'
    have R := appM hown hbel hown' (by rw [Array.length_toList]; rfl) hgrow
    rw [putText_short l s hlong] at R
    clear hown' hgrow hown hbel
    go_wp2
    go_ret
    exact ⟨_, rfl, R.1, R.2⟩

end Go.Proofs.YtjofjpmhokjhnaaDoor

namespace Go.Proofs.YtjofjpmhokjhnaaDoor
set_option maxRecDepth 20001
open Go.RowKit
set_option linter.unusedSimpArgs false
set_option linter.unusedVariables false

/-! ### what a reader does: the bytes that are left, and whether it has failed -/
namespace C
abbrev St := List UInt8 × Bool
def some_ (n : Nat) (s : St) : List UInt8 × St := if s.2 = true ∨ s.1.length < n then ([], (s.1, true)) else (s.1.take n, (s.1.drop n, false))
def take (n : Int) (s : St) : Nat × St := if n < 0 ∨ 8 < n then (0, (s.1, true)) else (val 0 (some_ n.toNat s).1, (some_ n.toNat s).2)
def text (most : Int) (s : St) : List UInt8 × St :=
  some_ (take 2 s).1 ((take 2 s).2.1, (take 2 s).2.2 || decide (most < ((take 2 s).1 : Int)))
end C

/-- the reader in block g holds the bytes l that are left, and the mark f -/
def RdrAt (w : World) (B g : Nat) (s : C.St) : Prop :=
  ∃ A c, w.heap[g]? = some (.cells #[.slice A s.1.length c, .bool s.2] 154 (0, 0)) ∧ s.1.length ≤ c ∧ c ≤ maxLen ∧ (A = none → s.1 = [] ∧ c = 0) ∧ Rd w B A (bc s.1) ∧ B ≤ g

theorem cellAt {w : World} {g : Nat} {cs : Array Value} {t : TypeId} (h : w.heap[g]? = some (.cells cs t (0, 0))) (i : Nat) : w.cell? ⟨g, i, none⟩ = cs[i]? := cell_of_row w g i cs t (0, 0) h
theorem freeAt {w : World} {g : Nat} {cs : Array Value} {t : TypeId} (h : w.heap[g]? = some (.cells cs t (0, 0))) (i : Nat) : w.frozen? ⟨g, i, none⟩ = false := by
  simp [World.frozen?, h]
theorem setAt {w : World} {g : Nat} {cs : Array Value} {t : TypeId} (h : w.heap[g]? = some (.cells cs t (0, 0))) (i : Nat) (u : Value) : (w.setCell ⟨g, i, none⟩ u).heap[g]? = some (.cells (cs.setIfInBounds i u) t (0, 0)) := by
  simp [World.setCell, Array.getElem?_modify, h]
theorem ltAt {w : World} {g : Nat} {o : Obj} (h : w.heap[g]? = some o) : g < w.heap.size := (Array.getElem?_eq_some_iff.1 h).1
theorem grownSet (w : World) (g i : Nat) (u : Value) : w.grownBy (w.setCell ⟨g, i, none⟩ u) (some g) :=
  ⟨rfl, rfl, rfl, by simp [World.setCell], fun k _ hk => Below.heap_setCell _ _ _ _ (fun e => hk (by simp [e]))⟩
theorem Rd.grownOther {w w' : World} {B g : Nat} {A : Option Addr} {xs : List Value} (h : Rd w B A xs) (hg : w.grownBy w' (some g)) (hB : B ≤ g) : Rd w' B A xs := fun j u hu => by
  obtain ⟨b, off, hA, hb, hc⟩ := h j u hu
  exact ⟨b, off, hA, hb, (World.cell?_of_block (hg.block b (World.block_lt_of_cell? w _ hc) (fun e => by injection e; omega))).trans hc⟩

/-- what a read leaves: the bytes out, the reader behind it; nothing but its block has turned -/
def Took (w : World) (B g : Nat) (o : List UInt8) (s : C.St) (e : Ending) (w' : World) : Prop :=
  ∃ A c, e = .returned (.slice A o.length c) ∧ o.length ≤ c ∧ (A = none → o = [] ∧ c = 0) ∧ Rd w' B A (bc o) ∧ RdrAt w' B g s ∧ w.grownBy w' (some g)

theorem tookFail {w : World} {B g : Nat} {l : List UInt8} {f : Bool} (h : RdrAt w B g (l, f)) : Took w B g [] (l, true) (.returned (.slice none 0 0)) (w.setCell ⟨g, 1, none⟩ (.bool true)) := by
  obtain ⟨A, c, hb, hc, hm, hA, hr, hB⟩ := h
  refine ⟨none, 0, rfl, Nat.zero_le _, fun _ => ⟨rfl, rfl⟩, Rd.nil, ⟨A, c, setAt hb 1 _, hc, hm, hA, hr.grownOther (grownSet w g 1 _) hB, hB⟩, grownSet w g 1 _⟩
theorem tookFine {w : World} {B g n c : Nat} {A A' : Option Addr} {l : List UInt8} (hb : w.heap[g]? = some (.cells #[.slice A l.length c, .bool false] 154 (0, 0))) (hc : l.length ≤ c) (hm : c ≤ maxLen) (hA : A = none → l = [] ∧ c = 0) (hr : Rd w B A (bc l)) (hB : B ≤ g)
    (hn : n ≤ l.length) (hA' : A' = if c = n then A else A.map (·.add n)) {v : Value} (hv : v = .slice A' (l.length - n) (c - n)) :
    Took w B g (l.take n) (l.drop n, false) (.returned (.slice A n c)) (w.setCell ⟨g, 0, none⟩ v) := by
  subst hv
  have hg := grownSet w g 0 (.slice A' (l.length - n) (c - n))
  have hr' := hr.grownOther hg hB
  have hl : (l.take n).length = n := by simp; omega
  have hnone : A' = none → l.drop n = [] ∧ c - n = 0 := by
    intro h
    rw [hA'] at h
    split at h
    · obtain ⟨rfl, rfl⟩ := hA h; simp
    · simp at h
      obtain ⟨rfl, rfl⟩ := hA h; simp
  refine ⟨A, c, by rw [hl], by rw [hl]; omega, fun h => ?_, by rw [← bc_take]; exact hr'.take n, ⟨A', c - n, ?_, by simp; omega, by unfold maxLen at *; omega, hnone, ?_, hB⟩, hg⟩
  · obtain ⟨rfl, rfl⟩ := hA h; simp
  · have := setAt hb 0 (.slice A' (l.length - n) (c - n))
    simpa using this
  · have := hr'.cut (k := n) (cap := c) (by rw [bc_len]; exact hc)
    rw [bc_drop, ← hA'] at this
    exact this

set_option maxHeartbeats 800000 in
theorem some_any (B g n : Nat) (s : C.St) (w : World) (h : RdrAt w B g s) :
    Calls Tryd.prog 118 #[.pointer (some ⟨g, 0, none⟩), .int .i64 (n : Int)] w (Took w B g (C.some_ n s).1 (C.some_ n s).2) := by
  have hh := h
  obtain ⟨A, c, hb, hc, hm, hA, hr, hB⟩ := h
  have h0 := cellAt hb 0
  have h1 := cellAt hb 1
  have f0 := freeAt hb 0
  have f1 := freeAt hb 1
  simp only [List.getElem?_toArray, List.getElem?_cons_zero, List.getElem?_cons_succ] at h0 h1
  obtain ⟨l, f⟩ := s
  simp only at h0 h1 hc hA hr
  have HB := Lib.hid hb
  have HH := Lib.hid hh
  clear hb hh
  cases f with
  | true =>
    have hs : C.some_ n (l, true) = ([], (l, true)) := by unfold C.some_; simp
    rw [hs]
    clear hs
    go_enter Tryd.func118, Tryd.ntmps118
    go_wp2
    go_ret
    exact tookFail HH.out
  | false =>
    obtain ⟨m, hm'⟩ : ∃ m, m = l.length := ⟨_, rfl⟩
    rw [← hm'] at h0 hc
    have HM := Lib.hid hm'
    clear hm'
    by_cases hlt : m < n
    · have hs : C.some_ n (l, false) = ([], (l, true)) := by unfold C.some_; rw [if_pos (by right; rw [← HM.out]; exact hlt)]
      rw [hs]
      clear hs
      go_enter Tryd.func118, Tryd.ntmps118
      go_wp2
      go_ret
      exact tookFail HH.out
    · have hs : C.some_ n (l, false) = (l.take n, (l.drop n, false)) := by
        unfold C.some_; rw [if_neg (by rw [← HM.out]; simp; omega)]
      rw [hs]
      clear hs
      have hc' : l.length ≤ c := by rw [← HM.out]; exact hc
      have hn' : n ≤ l.length := by rw [← HM.out]; omega
      by_cases hcn : c = n
      · subst hcn
        have hmc : m = c := by omega
        have HMC := Lib.hid hmc
        clear hmc
        go_enter Tryd.func118, Tryd.ntmps118
        go_wp2
        go_ret
        exact tookFine HB.out hc' hm hA hr hB hn' (A' := A) (by simp) (by rw [← HM.out, HMC.out]; simp)
      · go_enter Tryd.func118, Tryd.ntmps118
        go_wp2
        go_ret
        exact tookFine HB.out hc' hm hA hr hB hn' (A' := Option.map (fun x => x.add n) A) (by rw [if_neg hcn]) (by rw [← HM.out])

/-- what a read of a number leaves -/
def TookN (w : World) (B g x : Nat) (s : C.St) (e : Ending) (w' : World) : Prop :=
  e = .returned (.int .u64 (x : Int)) ∧ RdrAt w' B g s ∧ w.grownBy w' (some g)

theorem RdrAt.drewN {w : World} {B g : Nat} {s : C.St} (h : RdrAt w B g s) (n : Nat) : RdrAt (w.drewN n) B g s := h
theorem RdrAt.fails {w : World} {B g : Nat} {l : List UInt8} {f : Bool} (h : RdrAt w B g (l, f)) : RdrAt (w.setCell ⟨g, 1, none⟩ (.bool true)) B g (l, true) := by
  obtain ⟨_, _, _, _, _, _, h1, _⟩ := tookFail h
  exact h1

theorem shl_or (y : Nat) (b : UInt8) (hy : y < 72057594037927936) : bits BinOp.or IntKind.u64 ((y : Int) * 256) (b.toNat : Int) = ((y * 256 + b.toNat : Nat) : Int) := by
  have hb := b.toNat_lt
  have e1 : (y : Int) * 256 = ((y * 256 : Nat) : Int) := by omega
  rw [e1, u64_or_nat _ _ (by omega) (by omega)]
  congr 1
  rw [show y * 256 = 2 ^ 8 * y from by omega, ← Nat.two_pow_add_eq_or_of_lt (by omega)]

set_option maxHeartbeats 800000 in
theorem take_any (B g : Nat) (n : Int) (s : C.St) (w : World) (h : RdrAt w B g s) :
    Calls Tryd.prog 88 #[.pointer (some ⟨g, 0, none⟩), .int .i64 n] w (TookN w B g (C.take n s).1 (C.take n s).2) := by
  by_cases hn : n < 0 ∨ 8 < n
  · have hs : C.take n s = (0, (s.1, true)) := by unfold C.take; rw [if_pos hn]
    rw [hs]
    obtain ⟨A, c, hb, _⟩ := id h
    have h1 := cellAt hb 1
    have f1 := freeAt hb 1
    simp only [List.getElem?_toArray, List.getElem?_cons_zero, List.getElem?_cons_succ] at h1
    have HH := Lib.hid h
    clear hb hs h
    rcases hn with hn | hn
    all_goals
      go_enter Tryd.func88, Tryd.ntmps88
      go_wp2
      go_ret
      exact ⟨rfl, HH.out.fails, grownSet w g 1 _⟩
  · have hs : C.take n s = (C.val 0 (C.some_ n.toNat s).1, (C.some_ n.toNat s).2) := by unfold C.take; rw [if_neg hn]
    rw [hs]
    have h0 : 0 ≤ n := by omega
    have h8 : n ≤ 8 := by omega
    obtain ⟨k, rfl⟩ := Int.eq_ofNat_of_zero_le h0
    have hol : (C.some_ k s).1.length ≤ 8 := by unfold C.some_; split <;> simp; omega
    clear hn hs
    rw [Int.toNat_natCast]
    go_enter Tryd.func88, Tryd.ntmps88
    go_wp2_with fail
    refine (some_any B g k s w h).mono ?_
    rintro e w1 ⟨A, c, rfl, hoc, hA, hr, hR, hg⟩
    generalize C.some_ k s = so at *
    obtain ⟨o, s'⟩ := so
    simp only at *
    obtain ⟨m, hm⟩ : ∃ m, m = o.length := ⟨_, rfl⟩
    have HM := Lib.hid hm
    rw [← hm] at hol hoc ⊢
    clear hm
    go_wp2_with fail
    go_loopw [5, 23] (fun x i wr => ∃ j : Nat, j ≤ m ∧ i = .int .i64 (j : Int) ∧ x = .int .u64 ((C.val 0 (o.take j) : Nat) : Int) ∧ wr = w1) (fun _ i _ => m - (intOf i).toNat)
    case atStart => exact ⟨0, Nat.zero_le _, rfl, by simp [C.val], rfl⟩
    case round =>
      obtain ⟨j, hj, rfl, rfl, rfl⟩ := hrel
      by_cases hlt : j < m
      · have hk2 : j < (bc o).length := by rw [bc_len, ← HM.out]; exact hlt
        obtain ⟨ab, ao, rfl, _, hca⟩ := hr.at_ hk2
        rw [bc_get] at hca
        have hjo : j < o.length := by rw [← HM.out]; exact hlt
        have hval : C.val 0 (o.take (j + 1)) = C.val 0 (o.take j) * 256 + (o[j]'hjo).toNat := by
          rw [List.take_succ_eq_append_getElem hjo, C.val_app]; rfl
        have hlt7 : C.val 0 (o.take j) < 72057594037927936 := by
          have h1 := C.val_lt (o.take j)
          have h2 : (o.take j).length ≤ 7 := by simp; omega
          have h3 : 256 ^ (o.take j).length ≤ 256 ^ 7 := Nat.pow_le_pow_right (by omega) h2
          omega
        have HS := Lib.hid (shl_or (C.val 0 (o.take j)) (o[j]'hjo) hlt7)
        have hby := (o[j]'hjo).toNat_lt
        have HV := Lib.hid hval
        generalize o[j]'hjo = b at hca HS HV hby
        generalize C.val 0 (o.take j) = y at HS HV hlt7 ⊢
        have hb0 : (0 : Int) ≤ (j : Int) := by omega
        have hb1 : (j : Int) < (m : Int) := by omega
        clear hk2 hval
        go_wp2_with fail
        go_roundw
        case rel => exact ⟨j + 1, by omega, by go_num, by rw [HV.out, HS.out], by first | rfl | trivial⟩
        case measure => simp [intOf]; omega
      · obtain rfl : j = m := by omega
        go_wp2_with fail
        go_ret
        exact ⟨by rw [HM.out, List.take_length]; rfl, hR, hg⟩

set_option maxHeartbeats 800000 in
theorem ok_any (B g : Nat) (s : C.St) (w : World) (h : RdrAt w B g s) :
    Calls Tryd.prog 119 #[.pointer (some ⟨g, 0, none⟩)] w fun e w' => e = .returned (.bool (!s.2)) ∧ w = w' := by
  obtain ⟨A, c, hb, _⟩ := id h
  have h1 := cellAt hb 1
  simp only [List.getElem?_toArray, List.getElem?_cons_zero, List.getElem?_cons_succ] at h1
  clear hb h
  go_enter Tryd.func119, Tryd.ntmps119
  go_wp2
  go_ret
  exact ⟨rfl, rfl⟩

def C.left (s : C.St) : Nat := if s.2 = true then 0 else s.1.length
set_option maxHeartbeats 800000 in
theorem left_any (B g : Nat) (s : C.St) (w : World) (h : RdrAt w B g s) :
    Calls Tryd.prog 95 #[.pointer (some ⟨g, 0, none⟩)] w fun e w' => e = .returned (.int .i64 (C.left s : Nat)) ∧ w = w' := by
  obtain ⟨A, c, hb, _⟩ := id h
  have h0 := cellAt hb 0
  simp only [List.getElem?_toArray, List.getElem?_cons_zero, List.getElem?_cons_succ] at h0
  obtain ⟨l, f⟩ := s
  cases f
  all_goals
    clear hb
    go_enter Tryd.func95, Tryd.ntmps95
    go_wp2_with fail
    refine (ok_any B g _ w h).mono ?_
    rintro e w' ⟨rfl, rfl⟩
    go_wp2
    go_ret
    exact ⟨rfl, rfl⟩

/-- what a read of a text leaves -/
def TookT (w : World) (B g : Nat) (o : List UInt8) (s : C.St) (e : Ending) (w' : World) : Prop :=
  e = .returned (.string ⟨o.toArray⟩) ∧ RdrAt w' B g s ∧ w.grownBy w' (some g)

theorem take_two_lt (s : C.St) : (C.take 2 s).1 < 65536 := by
  unfold C.take
  rw [if_neg (by omega)]
  have h1 := C.val_lt (C.some_ (2 : Int).toNat s).1
  have h2 : (C.some_ (2 : Int).toNat s).1.length ≤ 2 := by
    unfold C.some_; split
    · simp
    · simp only [List.length_take]; exact Nat.min_le_left _ _
  have h3 : 256 ^ (C.some_ (2 : Int).toNat s).1.length ≤ 256 ^ 2 := Nat.pow_le_pow_right (by omega) h2
  omega

set_option maxHeartbeats 800000 in
theorem text_any (B g : Nat) (most : Int) (s : C.St) (w : World) (h : RdrAt w B g s) :
    Calls Tryd.prog 93 #[.pointer (some ⟨g, 0, none⟩), .int .i64 most] w (TookT w B g (C.text most s).1 (C.text most s).2) := by
  have hx := take_two_lt s
  have T := Lib.hid (take_any B g 2 s w h)
  unfold C.text
  generalize C.take 2 s = xs at *
  obtain ⟨x, l, f⟩ := xs
  simp only at *
  by_cases hm : most < (x : Int)
  · rw [show (f || decide (most < (x : Int))) = true from by simp [hm]]
    go_enter Tryd.func93, Tryd.ntmps93
    go_wp2_with fail
    refine (T.out).mono ?_
    rintro e w1 ⟨rfl, hR, hg⟩
    obtain ⟨A, c, hb, _⟩ := id hR
    have h1 := cellAt hb 1
    have f1 := freeAt hb 1
    simp only [List.getElem?_toArray, List.getElem?_cons_zero, List.getElem?_cons_succ] at h1
    have hR2 := hR.fails
    clear hb h
    go_wp2_with fail
    refine (some_any B g x (l, true) _ hR2).mono ?_
    rintro e w2 ⟨A', c', rfl, hoc, hA', hr', hR', hg'⟩
    have hcv := run_string_rd (P := Tryd.prog) w2 37 5 9 Tryd.underlying37 Tryd.underlying5 Tryd.underlying9 B A' c' _ hr'
    clear hm
    go_wp2
    go_ret
    exact ⟨rfl, hR', (hg.trans (grownSet _ _ _ _)).trans hg'⟩
  · rw [show (f || decide (most < (x : Int))) = f from by simp [hm]]
    go_enter Tryd.func93, Tryd.ntmps93
    go_wp2_with fail
    refine (T.out).mono ?_
    rintro e w1 ⟨rfl, hR, hg⟩
    go_wp2_with fail
    refine (some_any B g x (l, f) _ hR).mono ?_
    rintro e w2 ⟨A', c', rfl, hoc, hA', hr', hR', hg'⟩
    have hcv := run_string_rd (P := Tryd.prog) w2 37 5 9 Tryd.underlying37 Tryd.underlying5 Tryd.underlying9 B A' c' _ hr'
    go_wp2
    go_ret
    exact ⟨rfl, hR', hg.trans hg'⟩
end Go.Proofs.YtjofjpmhokjhnaaDoor
