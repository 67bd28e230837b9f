/- The walks of layer 3's reader of one frame, and of the reference's. Conditions: a slice that comes in is no longer than 2^31 bytes. -/
import Derived.Test.YtmlchhfahpcohaaFrameW
import Derived.Test.YtmlchhfahpcohaaSlices
namespace Go.Proofs.Ytmlchhfahpcohaa
open Go.RowKit
set_option linter.unusedSimpArgs false
set_option linter.unusedVariables false

/-- a row of bytes of the call's own, a number, an error -/
def MadeNE (w : World) (p : List UInt8 × Nat × Nat) (e : Ending) (w' : World) : Prop :=
  ∃ v, e = .returned (.tuple #[v, .int .i64 (p.2.1 : Int), .int .i64 (p.2.2 : Int)]) ∧ w'.ownsRow w.heap.size 5 1 v p.1.length (bc p.1) ∧ Below w.heap.size w w'
/-- a slice that reads as bytes, a number, an error -/
def GotNE (w : World) (B : Nat) (p : List UInt8 × Nat × Nat) (e : Ending) (w' : World) : Prop :=
  ∃ v, e = .returned (.tuple #[v, .int .i64 (p.2.1 : Int), .int .i64 (p.2.2 : Int)]) ∧ SlB w' B v p.1 ∧ Below w.heap.size w w'

/-- two numbers of four bytes -/
theorem take4 (l : List UInt8) (h : 4 ≤ l.length) : C.take 4 (l, false) = (C.val 0 (l.take 4), (l.drop 4, false)) := by
  unfold C.take C.some_
  rw [if_neg (by omega), if_neg (by simp; omega)]
  rfl
theorem take4_short (l : List UInt8) (h : l.length < 4) : C.take 4 (l, false) = (0, (l, true)) := by
  unfold C.take C.some_
  rw [if_neg (by omega), if_pos (by right; exact h)]
  rfl
theorem take4_fail (l : List UInt8) : C.take 4 (l, true) = (0, (l, true)) := by
  unfold C.take C.some_
  rw [if_neg (by omega), if_pos (by left; rfl)]
  rfl
theorem val4 (l : List UInt8) (h : l.length ≤ 4) : C.val 0 l < 4294967296 := by
  have h1 := C.val_lt l
  have h2 := Nat.pow_le_pow_right (n := 256) (by omega) h
  omega

set_option maxHeartbeats 800000 in
theorem unwrap_any (A : Option Addr) (c : Nat) (l : List UInt8) (w : World) (B : Nat) (hl : l.length ≤ 2147483648) (hc : l.length ≤ c) (hm : c ≤ maxLen) (hA : A = none → l = [] ∧ c = 0) (hr : Rd w B A (bc l)) (hB : B ≤ w.heap.size) :
    Calls Try.prog 43 #[.slice A l.length c] w (MadeNE w (F.unwrap l)) := by
  by_cases h8 : l.length < 8
  · have e : F.unwrap l = ([], 0, 4) := by unfold F.unwrap; rw [if_pos h8]
    rw [e]
    obtain ⟨x, s1, hs1, m, hs2⟩ : ∃ x s1, C.take 4 (l, false) = (x, s1) ∧ ∃ m, C.take 4 s1 = (0, (m, true)) := by
      by_cases h4 : l.length < 4
      · exact ⟨_, _, take4_short l h4, _, take4_fail l⟩
      · exact ⟨_, _, take4 l (by omega), _, take4_short _ (by simp; omega)⟩
    have hx : x < 4294967296 := by
      have := congrArg Prod.fst hs1
      simp only at this
      rw [← this]
      unfold C.take
      rw [if_neg (by omega)]
      exact val4 _ (by unfold C.some_; split <;> simp <;> omega)
    have HN := Lib.hid (new_any A c l w B hc hm hA hr hB)
    have HS1 := Lib.hid hs1
    have HS2 := Lib.hid hs2
    clear hs1 hs2 e
    generalize l.length = n at *
    go_enter Try.func43, Try.ntmps43
    go_wp2_with fail
    refine HN.out.mono ?_
    rintro e w1 ⟨rfl, R1, b1⟩
    go_wp2_with fail
    refine (take_any B w.heap.size 4 (l, false) _ R1).mono ?_
    rw [HS1.out]
    rintro e w2 ⟨rfl, R2, g2⟩
    have b2 := b1.grown g2 b1.size (fun q hq => by injection hq with hq; omega)
    go_wp2_with fail
    refine (take_any B w.heap.size 4 s1 _ R2).mono ?_
    rw [HS2.out]
    rintro e w3 ⟨rfl, R3, g3⟩
    have b3 := b2.grown g3 b2.size (fun q hq => by injection hq with hq; omega)
    go_wp2_with fail
    refine (ok_any B w.heap.size _ _ R3).mono ?_
    rintro e w' ⟨rfl, rfl⟩
    go_wp2_with fail
    go_ret3
    exact ⟨_, rfl, World.ownsRow_nil _ _ _ _, b3⟩
  · obtain ⟨n, hn⟩ : ∃ n, n = C.val 0 (l.take 4) := ⟨_, rfl⟩
    obtain ⟨q, hq⟩ : ∃ q, q = C.val 0 ((l.drop 4).take 4) := ⟨_, rfl⟩
    have hn4 : n < 4294967296 := by rw [hn]; exact val4 _ (by simp; omega)
    have hq4 : q < 4294967296 := by rw [hq]; exact val4 _ (by simp; omega)
    have e1 : C.take 4 (l, false) = (n, (l.drop 4, false)) := by rw [hn]; exact take4 l (by omega)
    have e2 : C.take 4 (l.drop 4, false) = (q, (l.drop 8, false)) := by rw [hq]; have := take4 (l.drop 4) (by simp; omega); simpa using this
    have e3 : C.left (l.drop 8, false) = l.length - 8 := by unfold C.left; simp
    have hu : F.unwrap l = if 60000 < n then ([], 0, 3) else if l.length - 8 < n then ([], 0, 4) else if F.sum ((l.drop 8).take n) = q then ((l.drop 8).take n, 8 + n, 0) else ([], 0, 5) := by
      unfold F.unwrap; rw [if_neg h8, ← hn, ← hq]
    have HN := Lib.hid (new_any A c l w B hc hm hA hr hB)
    have HS1 := Lib.hid e1
    have HS2 := Lib.hid e2
    have HL := Lib.hid e3
    rw [hu]
    have h8' : 8 ≤ l.length := by omega
    clear hn hq e1 e2 e3 hu h8
    by_cases h6 : 60000 < n
    · rw [if_pos h6]
      generalize l.length = m at *
      go_enter Try.func43, Try.ntmps43
      go_wp2_with fail
      refine HN.out.mono ?_
      rintro e w1 ⟨rfl, R1, b1⟩
      go_wp2_with fail
      refine (take_any B w.heap.size 4 (l, false) _ R1).mono ?_
      rw [HS1.out]
      rintro e w2 ⟨rfl, R2, g2⟩
      have b2 := b1.grown g2 b1.size (fun q hq => by injection hq with hq; omega)
      go_wp2_with fail
      refine (take_any B w.heap.size 4 (l.drop 4, false) _ R2).mono ?_
      rw [HS2.out]
      rintro e w3 ⟨rfl, R3, g3⟩
      have b3 := b2.grown g3 b2.size (fun q hq => by injection hq with hq; omega)
      go_wp2_with fail
      refine (ok_any B w.heap.size _ _ R3).mono ?_
      rintro e w' ⟨rfl, rfl⟩
      go_wp2_with fail
      go_ret3
      exact ⟨_, rfl, World.ownsRow_nil _ _ _ _, b3⟩
    · rw [if_neg h6]
      by_cases hs : l.length - 8 < n
      · rw [if_pos hs]
        generalize l.length = m at *
        have hs2 : (m : Int) - 8 < (n : Int) := by omega
        go_enter Try.func43, Try.ntmps43
        go_wp2_with fail
        refine HN.out.mono ?_
        rintro e w1 ⟨rfl, R1, b1⟩
        go_wp2_with fail
        refine (take_any B w.heap.size 4 (l, false) _ R1).mono ?_
        rw [HS1.out]
        rintro e w2 ⟨rfl, R2, g2⟩
        have b2 := b1.grown g2 b1.size (fun q hq => by injection hq with hq; omega)
        go_wp2_with fail
        refine (take_any B w.heap.size 4 (l.drop 4, false) _ R2).mono ?_
        rw [HS2.out]
        rintro e w3 ⟨rfl, R3, g3⟩
        have b3 := b2.grown g3 b2.size (fun q hq => by injection hq with hq; omega)
        go_wp2_with fail
        refine (ok_any B w.heap.size _ _ R3).mono ?_
        rintro e w' ⟨rfl, rfl⟩
        go_wp2_with fail
        refine (left_any B w.heap.size _ _ R3).mono ?_
        rw [HL.out]
        rintro e w' ⟨rfl, rfl⟩
        go_wp2_with fail
        go_ret3
        exact ⟨_, rfl, World.ownsRow_nil _ _ _ _, b3⟩
      · rw [if_neg hs]
        obtain ⟨bd, hbd⟩ : ∃ bd, bd = (l.drop 8).take n := ⟨_, rfl⟩
        have hbl : bd.length = n := by rw [hbd]; simp; omega
        have hrb : Rd w B (if c = 8 then A else A.map (·.add 8)) (bc bd) := by
          have := (hr.cut (k := 8) (cap := c) (by rw [bc_len]; exact hc)).take n
          rwa [bc_drop, bc_take, ← hbd] at this
        rw [← hbd]
        have hfit : 8 + n ≤ l.length := by omega
        obtain ⟨b, off, rfl, hx⟩ := hr 0 _ (List.getElem?_eq_getElem (show 0 < (bc l).length by rw [bc_len]; omega))
        clear hx
        have HBL := Lib.hid hbl
        obtain ⟨p, hp⟩ : ∃ p, p = (if F.sum bd = q then (bd, 8 + n, 0) else (([] : List UInt8), 0, 5)) := ⟨_, rfl⟩
        rw [← hp]
        have HP := Lib.hid hp
        have hs2 : ¬ (l.length : Int) - 8 < (n : Int) := by omega
        clear hbd hbl hs hp hA
        generalize l.length = m at *
        by_cases hcn : c = 8
        · subst hcn
          obtain rfl : m = 8 := by omega
          obtain rfl : n = 0 := by omega
          rw [if_pos rfl] at hrb
          go_enter Try.func43, Try.ntmps43
          go_wp2_with fail
          refine HN.out.mono ?_
          rintro e w1 ⟨rfl, R1, b1⟩
          go_wp2_with fail
          refine (take_any B w.heap.size 4 (l, false) _ R1).mono ?_
          rw [HS1.out]
          rintro e w2 ⟨rfl, R2, g2⟩
          have b2 := b1.grown g2 b1.size (fun q hq => by injection hq with hq; omega)
          go_wp2_with fail
          refine (take_any B w.heap.size 4 (l.drop 4, false) _ R2).mono ?_
          rw [HS2.out]
          rintro e w3 ⟨rfl, R3, g3⟩
          have b3 := b2.grown g3 b2.size (fun q hq => by injection hq with hq; omega)
          go_wp2_with fail
          refine (ok_any B w.heap.size _ _ R3).mono ?_
          rintro e w' ⟨rfl, rfl⟩
          go_wp2_with fail
          refine (left_any B w.heap.size _ _ R3).mono ?_
          rw [HL.out]
          rintro e w' ⟨rfl, rfl⟩
          go_wp2_with fail
          rw [show (0 : Nat) = bd.length from HBL.out.symm]
          refine (clone_any (some ⟨b, off, none⟩) _ bd w3 B (by rw [HBL.out]; omega) (fun h => by cases h) (hrb.belowM b3 hB) (Nat.le_trans hB b3.size)).mono ?_
          rintro e w4 ⟨v4, rfl, own4, b4⟩
          have b4' := b3.trans (b4.mono b3.size)
          obtain ⟨A4, c4, rfl, hc4, _, _⟩ := ownShape own4
          go_wp2_with fail
          refine (sum_any A4 c4 bd w4 _ (by rw [HBL.out]; omega) hc4 (Rd.ofOwn own4)).mono ?_
          rintro e w' ⟨rfl, rfl⟩
          rw [HBL.out]
          by_cases hsum : F.sum bd = q
          · have hp2 : p = (bd, 8 + bd.length, 0) := by rw [HP.out, if_pos hsum, HBL.out]
            have HP2 := Lib.hid hp2
            rw [hsum]
            clear hsum HP hp2
            go_wp2_with fail
            go_ret3
            rw [HP2.out]
            exact ⟨.slice A4 bd.length c4, by simp [HBL.out], ownMore own4 b3.size, b4'⟩
          · have hne : ((F.sum bd : Int) != (q : Int)) = true := by simp; omega
            have hp2 : p = ([], 0, 5) := by rw [HP.out, if_neg hsum]
            have HP2 := Lib.hid hp2
            clear hsum HP hp2
            go_wp2_with fail
            go_ret3
            rw [HP2.out]
            exact ⟨_, rfl, World.ownsRow_nil _ _ _ _, b4'⟩
        · rw [if_neg hcn] at hrb
          have hrb : Rd w B (some ⟨b, off + 8, none⟩) (bc bd) := hrb
          go_enter Try.func43, Try.ntmps43
          go_wp2_with fail
          refine HN.out.mono ?_
          rintro e w1 ⟨rfl, R1, b1⟩
          go_wp2_with fail
          refine (take_any B w.heap.size 4 (l, false) _ R1).mono ?_
          rw [HS1.out]
          rintro e w2 ⟨rfl, R2, g2⟩
          have b2 := b1.grown g2 b1.size (fun q hq => by injection hq with hq; omega)
          go_wp2_with fail
          refine (take_any B w.heap.size 4 (l.drop 4, false) _ R2).mono ?_
          rw [HS2.out]
          rintro e w3 ⟨rfl, R3, g3⟩
          have b3 := b2.grown g3 b2.size (fun q hq => by injection hq with hq; omega)
          go_wp2_with fail
          refine (ok_any B w.heap.size _ _ R3).mono ?_
          rintro e w' ⟨rfl, rfl⟩
          go_wp2_with fail
          refine (left_any B w.heap.size _ _ R3).mono ?_
          rw [HL.out]
          rintro e w' ⟨rfl, rfl⟩
          go_wp2_with fail
          rw [← HBL.out]
          refine (clone_any (some ⟨b, off + 8, none⟩) (c - 8) bd w3 B (by rw [HBL.out]; omega) (fun h => by cases h) (hrb.belowM b3 hB) (Nat.le_trans hB b3.size)).mono ?_
          rintro e w4 ⟨v4, rfl, own4, b4⟩
          have b4' := b3.trans (b4.mono b3.size)
          obtain ⟨A4, c4, rfl, hc4, _, _⟩ := ownShape own4
          go_wp2_with fail
          refine (sum_any A4 c4 bd w4 _ (by rw [HBL.out]; omega) hc4 (Rd.ofOwn own4)).mono ?_
          rintro e w' ⟨rfl, rfl⟩
          rw [HBL.out]
          by_cases hsum : F.sum bd = q
          · have hp2 : p = (bd, 8 + bd.length, 0) := by rw [HP.out, if_pos hsum, HBL.out]
            have HP2 := Lib.hid hp2
            rw [hsum]
            clear hsum HP hp2
            go_wp2_with fail
            go_ret3
            rw [HP2.out]
            exact ⟨.slice A4 bd.length c4, by simp [HBL.out], ownMore own4 b3.size, b4'⟩
          · have hne : ((F.sum bd : Int) != (q : Int)) = true := by simp; omega
            have hp2 : p = ([], 0, 5) := by rw [HP.out, if_neg hsum]
            have HP2 := Lib.hid hp2
            clear hsum HP hp2
            go_wp2_with fail
            go_ret3
            rw [HP2.out]
            exact ⟨_, rfl, World.ownsRow_nil _ _ _ _, b4'⟩

set_option maxHeartbeats 800000 in
theorem runwrap_any (A : Option Addr) (c : Nat) (l : List UInt8) (w : World) (B : Nat) (hl : l.length ≤ 2147483648) (hc : l.length ≤ c) (hm : c ≤ maxLen) (hA : A = none → l = [] ∧ c = 0) (hr : Rd w B A (bc l)) (hB : B ≤ w.heap.size) :
    Calls Try.prog 44 #[.slice A l.length c] w (GotNE w B (F.unwrap l)) := by
  unfold maxLen at hm
  by_cases h8 : l.length < 8
  · have e : F.unwrap l = ([], 0, 4) := by unfold F.unwrap; rw [if_pos h8]
    rw [e]
    clear e
    generalize l.length = n at *
    go_enter Try.func44, Try.ntmps44
    go_wp2_with fail
    go_ret3
    exact ⟨_, rfl, SlB.nil, Below.refl _ _⟩
  · obtain ⟨n, hn⟩ : ∃ n, n = C.val 0 (l.take 4) := ⟨_, rfl⟩
    obtain ⟨q, hq⟩ : ∃ q, q = C.val 0 ((l.drop 4).take 4) := ⟨_, rfl⟩
    have hn4 : n < 4294967296 := by rw [hn]; exact val4 _ (by simp; omega)
    have hq4 : q < 4294967296 := by rw [hq]; exact val4 _ (by simp; omega)
    have e1 : C.take 4 (l, false) = (n, (l.drop 4, false)) := by rw [hn]; exact take4 l (by omega)
    have e2 : C.take 4 (l.drop 4, false) = (q, (l.drop 8, false)) := by rw [hq]; have := take4 (l.drop 4) (by simp; omega); simpa using this
    have hu : F.unwrap l = if 60000 < n then ([], 0, 3) else if l.length - 8 < n then ([], 0, 4) else if F.sum ((l.drop 8).take n) = q then ((l.drop 8).take n, 8 + n, 0) else ([], 0, 5) := by
      unfold F.unwrap; rw [if_neg h8, ← hn, ← hq]
    have hf : RefAt (w.alloc (.cells #[.slice A l.length c, .int .i64 0, .bool false] 35)) B w.heap.size (l, false) :=
      ⟨A, c, l, 0, heap_alloc_new w _, Nat.zero_le _, by omega, hc, hr.alloc hB _, hB, by simp⟩
    have HS1 := Lib.hid e1
    have HS2 := Lib.hid e2
    rw [hu]
    have h8' : 8 ≤ l.length := by omega
    clear hn hq e1 e2 hu h8
    obtain ⟨b, off, rfl, hx⟩ := hr 0 _ (List.getElem?_eq_getElem (show 0 < (bc l).length by rw [bc_len]; omega))
    clear hx hA
    have b0 : Below w.heap.size w (w.alloc (.cells #[.slice (some ⟨b, off, none⟩) l.length c, .int .i64 0, .bool false] 35)) := (Below.refl _ _).alloc (Nat.le_refl _) _
    obtain ⟨w0, hw0⟩ : ∃ w0, w0 = w.alloc (.cells #[.slice (some ⟨b, off, none⟩) l.length c, .int .i64 0, .bool false] 35) := ⟨_, rfl⟩
    rw [← hw0] at hf b0
    have HW := Lib.hid hw0
    clear hw0
    by_cases h6 : 60000 < n
    · rw [if_pos h6]
      generalize l.length = m at *
      go_enter Try.func44, Try.ntmps44
      go_wp2_with fail
      rw [← HW.out]
      refine (rtake_any B w.heap.size 4 (l, false) _ hf).mono ?_
      rw [HS1.out]
      rintro e w2 ⟨rfl, R2, g2⟩
      have b2 := b0.grown g2 b0.size (fun q hq => by injection hq with hq; omega)
      go_wp2_with fail
      refine (rtake_any B w.heap.size 4 (l.drop 4, false) _ R2).mono ?_
      rw [HS2.out]
      rintro e w3 ⟨rfl, R3, g3⟩
      have b3 := b2.grown g3 b2.size (fun q hq => by injection hq with hq; omega)
      go_wp2_with fail
      go_ret3
      exact ⟨_, rfl, SlB.nil, b3⟩
    · rw [if_neg h6]
      by_cases hs : l.length - 8 < n
      · rw [if_pos hs]
        generalize l.length = m at *
        have hs2 : (m : Int) - 8 < (n : Int) := by omega
        go_enter Try.func44, Try.ntmps44
        go_wp2_with fail
        rw [← HW.out]
        refine (rtake_any B w.heap.size 4 (l, false) _ hf).mono ?_
        rw [HS1.out]
        rintro e w2 ⟨rfl, R2, g2⟩
        have b2 := b0.grown g2 b0.size (fun q hq => by injection hq with hq; omega)
        go_wp2_with fail
        refine (rtake_any B w.heap.size 4 (l.drop 4, false) _ R2).mono ?_
        rw [HS2.out]
        rintro e w3 ⟨rfl, R3, g3⟩
        have b3 := b2.grown g3 b2.size (fun q hq => by injection hq with hq; omega)
        go_wp2_with fail
        go_ret3
        exact ⟨_, rfl, SlB.nil, b3⟩
      · rw [if_neg hs]
        obtain ⟨bd, hbd⟩ : ∃ bd, bd = (l.drop 8).take n := ⟨_, rfl⟩
        have hbl : bd.length = n := by rw [hbd]; simp; omega
        have hrb : Rd w B (if c = 8 then some ⟨b, off, none⟩ else (some ⟨b, off, none⟩ : Option Addr).map (·.add 8)) (bc bd) := by
          have := (hr.cut (k := 8) (cap := c) (by rw [bc_len]; exact hc)).take n
          rwa [bc_drop, bc_take, ← hbd] at this
        rw [← hbd]
        have hfit : 8 + n ≤ l.length := by omega
        have HBL := Lib.hid hbl
        obtain ⟨p, hp⟩ : ∃ p, p = (if F.sum bd = q then (bd, 8 + n, 0) else (([] : List UInt8), 0, 5)) := ⟨_, rfl⟩
        rw [← hp]
        have HP := Lib.hid hp
        have hs2 : ¬ (l.length : Int) - 8 < (n : Int) := by omega
        clear hbd hbl hs hp
        generalize l.length = m at *
        by_cases hcn : c = 8
        · subst hcn
          obtain rfl : m = 8 := by omega
          obtain rfl : n = 0 := by omega
          rw [if_pos rfl] at hrb
          go_enter Try.func44, Try.ntmps44
          go_wp2_with fail
          rw [← HW.out]
          refine (rtake_any B w.heap.size 4 (l, false) _ hf).mono ?_
          rw [HS1.out]
          rintro e w2 ⟨rfl, R2, g2⟩
          have b2 := b0.grown g2 b0.size (fun q hq => by injection hq with hq; omega)
          go_wp2_with fail
          refine (rtake_any B w.heap.size 4 (l.drop 4, false) _ R2).mono ?_
          rw [HS2.out]
          rintro e w3 ⟨rfl, R3, g3⟩
          have b3 := b2.grown g3 b2.size (fun q hq => by injection hq with hq; omega)
          go_wp2_with fail
          rw [show (0 : Nat) = bd.length from HBL.out.symm]
          refine (rsum_any (some ⟨b, off, none⟩) _ bd w3 B (by rw [HBL.out]; omega) (Nat.le_refl _) (hrb.belowM b3 hB)).mono ?_
          rintro e w' ⟨rfl, rfl⟩
          rw [HBL.out]
          by_cases hsum : F.sum bd = q
          · have hp2 : p = (bd, 8 + bd.length, 0) := by rw [HP.out, if_pos hsum, HBL.out]
            have HP2 := Lib.hid hp2
            rw [hsum]
            clear hsum HP hp2
            go_wp2_with fail
            go_ret3
            rw [HP2.out]
            exact ⟨.slice (some ⟨b, off, none⟩) bd.length (0), by simp [HBL.out], ⟨_, _, rfl, by rw [HBL.out]; omega, by unfold maxLen; omega, (fun h => by cases h), hrb.belowM b3 hB⟩, b3⟩
          · have hne : ((F.sum bd : Int) != (q : Int)) = true := by simp; omega
            have hp2 : p = ([], 0, 5) := by rw [HP.out, if_neg hsum]
            have HP2 := Lib.hid hp2
            clear hsum HP hp2
            go_wp2_with fail
            go_ret3
            rw [HP2.out]
            exact ⟨_, rfl, SlB.nil, b3⟩
        · rw [if_neg hcn] at hrb
          have hrb : Rd w B (some ⟨b, off + 8, none⟩) (bc bd) := hrb
          go_enter Try.func44, Try.ntmps44
          go_wp2_with fail
          rw [← HW.out]
          refine (rtake_any B w.heap.size 4 (l, false) _ hf).mono ?_
          rw [HS1.out]
          rintro e w2 ⟨rfl, R2, g2⟩
          have b2 := b0.grown g2 b0.size (fun q hq => by injection hq with hq; omega)
          go_wp2_with fail
          refine (rtake_any B w.heap.size 4 (l.drop 4, false) _ R2).mono ?_
          rw [HS2.out]
          rintro e w3 ⟨rfl, R3, g3⟩
          have b3 := b2.grown g3 b2.size (fun q hq => by injection hq with hq; omega)
          go_wp2_with fail
          rw [← HBL.out]
          refine (rsum_any (some ⟨b, off + 8, none⟩) (c - 8) bd w3 B (by rw [HBL.out]; omega) (by rw [HBL.out]; omega) (hrb.belowM b3 hB)).mono ?_
          rintro e w' ⟨rfl, rfl⟩
          rw [HBL.out]
          by_cases hsum : F.sum bd = q
          · have hp2 : p = (bd, 8 + bd.length, 0) := by rw [HP.out, if_pos hsum, HBL.out]
            have HP2 := Lib.hid hp2
            rw [hsum]
            clear hsum HP hp2
            go_wp2_with fail
            go_ret3
            rw [HP2.out]
            exact ⟨.slice (some ⟨b, off + 8, none⟩) bd.length (c - 8), by simp [HBL.out], ⟨_, _, rfl, by rw [HBL.out]; omega, by unfold maxLen; omega, (fun h => by cases h), hrb.belowM b3 hB⟩, b3⟩
          · have hne : ((F.sum bd : Int) != (q : Int)) = true := by simp; omega
            have hp2 : p = ([], 0, 5) := by rw [HP.out, if_neg hsum]
            have HP2 := Lib.hid hp2
            clear hsum HP hp2
            go_wp2_with fail
            go_ret3
            rw [HP2.out]
            exact ⟨_, rfl, SlB.nil, b3⟩
end Go.Proofs.Ytmlchhfahpcohaa
