/- An element of a slice by its index: operation by operation. No condition. -/
import Derived.Test.YtjofjpmhokjhnaaDoorWlM9
import Derived.Test.YtjofjpmhokjhnaaDoorWlM6
import Derived.Test.YtjofjpmhokjhnaaDoorWlM5
namespace Go.Proofs.YtjofjpmhokjhnaaDoor
set_option maxRecDepth 20000
open Go.RowKit
set_option linter.unusedSimpArgs false
set_option linter.unusedVariables false

/-- a row of bytes of the call's own, a number, an error -/
def MadeNE (w : World) (p : List UInt8 × Nat × Nat) (e : Ending) (w' : World) : Prop :=
  ∃ v, e = .returned (.tuple #[v, .int .i64 (p.2.1 : Int), .int .i64 (p.2.2 : Int)]) ∧ w'.ownsRow w.heap.size 5 1 v p.1.length (bc p.1) ∧ Below w.heap.size w w'
/-- two numbers of four bytes -/
theorem ftake4 (l : List UInt8) (h : 4 ≤ l.length) : C.take 4 (l, false) = (C.val 0 (l.take 4), (l.drop 4, false)) := by
  unfold C.take C.some_
  rw [if_neg (by omega), if_neg (by simp; omega)]
  rfl
theorem take4_short (l : List UInt8) (h : l.length < 4) : C.take 4 (l, false) = (0, (l, true)) := by
  unfold C.take C.some_
  rw [if_neg (by omega), if_pos (by right; exact h)]
  rfl
theorem take4_fail (l : List UInt8) : C.take 4 (l, true) = (0, (l, true)) := by
  unfold C.take C.some_
  rw [if_neg (by omega), if_pos (by left; rfl)]
  rfl
theorem val4 (l : List UInt8) (h : l.length ≤ 4) : C.val 0 l < 4294967296 := by
  have h1 := C.val_lt l
  have h2 := Nat.pow_le_pow_right (n := 256) (by omega) h
  omega

set_option maxHeartbeats 800000 in
theorem unwrap_any (A : Option Addr) (c : Nat) (l : List UInt8) (w : World) (B : Nat) (hl : l.length ≤ 2147483648) (hc : l.length ≤ c) (hm : c ≤ maxLen) (hA : A = none → l = [] ∧ c = 0) (hr : Rd w B A (bc l)) (hB : B ≤ w.heap.size) :
    Calls Tryd.prog 117 #[.slice A l.length c] w (MadeNE w (F.unwrap l)) := by
  by_cases h8 : l.length < 8
  · have e : F.unwrap l = ([], 0, 4) := by unfold F.unwrap; rw [if_pos h8]
    rw [e]
    obtain ⟨x, s1, hs1, m, hs2⟩ : ∃ x s1, C.take 4 (l, false) = (x, s1) ∧ ∃ m, C.take 4 s1 = (0, (m, true)) := by
      by_cases h4 : l.length < 4
      · exact ⟨_, _, take4_short l h4, _, take4_fail l⟩
      · exact ⟨_, _, ftake4 l (by omega), _, take4_short _ (by simp; omega)⟩
    have hx : x < 4294967296 := by
      have := congrArg Prod.fst hs1
      simp only at this
      rw [← this]
      unfold C.take
      rw [if_neg (by omega)]
      exact val4 _ (by unfold C.some_; split <;> simp <;> omega)
    have HN := Lib.hid (new_any A c l w B hc hm hA hr hB)
    have HS1 := Lib.hid hs1
    have HS2 := Lib.hid hs2
    clear hs1 hs2 e
    generalize l.length = n at *
    go_enter Tryd.func117, Tryd.ntmps117
    go_wp2_with fail
    refine HN.out.mono ?_
    rintro e w1 ⟨rfl, R1, b1⟩
    go_wp2_with fail
    refine (take_any B w.heap.size 4 (l, false) _ R1).mono ?_
    rw [HS1.out]
    rintro e w2 ⟨rfl, R2, g2⟩
    have b2 := b1.grown g2 b1.size (fun q hq => by injection hq with hq; omega)
    go_wp2_with fail
    refine (take_any B w.heap.size 4 s1 _ R2).mono ?_
    rw [HS2.out]
    rintro e w3 ⟨rfl, R3, g3⟩
    have b3 := b2.grown g3 b2.size (fun q hq => by injection hq with hq; omega)
    go_wp2_with fail
    refine (ok_any B w.heap.size _ _ R3).mono ?_
    rintro e w' ⟨rfl, rfl⟩
    go_wp2_with fail
    go_ret3
    exact ⟨_, rfl, World.ownsRow_nil _ _ _ _, b3⟩
  · obtain ⟨n, hn⟩ : ∃ n, n = C.val 0 (l.take 4) := ⟨_, rfl⟩
    obtain ⟨q, hq⟩ : ∃ q, q = C.val 0 ((l.drop 4).take 4) := ⟨_, rfl⟩
    have hn4 : n < 4294967296 := by rw [hn]; exact val4 _ (by simp; omega)
    have hq4 : q < 4294967296 := by rw [hq]; exact val4 _ (by simp; omega)
    have e1 : C.take 4 (l, false) = (n, (l.drop 4, false)) := by rw [hn]; exact ftake4 l (by omega)
    have e2 : C.take 4 (l.drop 4, false) = (q, (l.drop 8, false)) := by rw [hq]; have := ftake4 (l.drop 4) (by simp; omega); simpa using this
    have e3 : C.left (l.drop 8, false) = l.length - 8 := by unfold C.left; simp
    have hu : F.unwrap l = if 60000 < n then ([], 0, 3) else if l.length - 8 < n then ([], 0, 4) else if F.sum ((l.drop 8).take n) = q then ((l.drop 8).take n, 8 + n, 0) else ([], 0, 5) := by
      unfold F.unwrap; rw [if_neg h8, ← hn, ← hq]
    have HN := Lib.hid (new_any A c l w B hc hm hA hr hB)
    have HS1 := Lib.hid e1
    have HS2 := Lib.hid e2
    have HL := Lib.hid e3
    rw [hu]
    have h8' : 8 ≤ l.length := by omega
    clear hn hq e1 e2 e3 hu h8
    by_cases h6 : 60000 < n
    · rw [if_pos h6]
      generalize l.length = m at *
      go_enter Tryd.func117, Tryd.ntmps117
      go_wp2_with fail
      refine HN.out.mono ?_
      rintro e w1 ⟨rfl, R1, b1⟩
      go_wp2_with fail
      refine (take_any B w.heap.size 4 (l, false) _ R1).mono ?_
      rw [HS1.out]
      rintro e w2 ⟨rfl, R2, g2⟩
      have b2 := b1.grown g2 b1.size (fun q hq => by injection hq with hq; omega)
      go_wp2_with fail
      refine (take_any B w.heap.size 4 (l.drop 4, false) _ R2).mono ?_
      rw [HS2.out]
      rintro e w3 ⟨rfl, R3, g3⟩
      have b3 := b2.grown g3 b2.size (fun q hq => by injection hq with hq; omega)
      go_wp2_with fail
      refine (ok_any B w.heap.size _ _ R3).mono ?_
      rintro e w' ⟨rfl, rfl⟩
      go_wp2_with fail
      go_ret3
      exact ⟨_, rfl, World.ownsRow_nil _ _ _ _, b3⟩
    · rw [if_neg h6]
      by_cases hs : l.length - 8 < n
      · rw [if_pos hs]
        generalize l.length = m at *
        have hs2 : (m : Int) - 8 < (n : Int) := by omega
        go_enter Tryd.func117, Tryd.ntmps117
        go_wp2_with fail
        refine HN.out.mono ?_
        rintro e w1 ⟨rfl, R1, b1⟩
        go_wp2_with fail
        refine (take_any B w.heap.size 4 (l, false) _ R1).mono ?_
        rw [HS1.out]
        rintro e w2 ⟨rfl, R2, g2⟩
        have b2 := b1.grown g2 b1.size (fun q hq => by injection hq with hq; omega)
        go_wp2_with fail
        refine (take_any B w.heap.size 4 (l.drop 4, false) _ R2).mono ?_
        rw [HS2.out]
        rintro e w3 ⟨rfl, R3, g3⟩
        have b3 := b2.grown g3 b2.size (fun q hq => by injection hq with hq; omega)
        go_wp2_with fail
        refine (ok_any B w.heap.size _ _ R3).mono ?_
        rintro e w' ⟨rfl, rfl⟩
        go_wp2_with fail
        refine (left_any B w.heap.size _ _ R3).mono ?_
        rw [HL.out]
        rintro e w' ⟨rfl, rfl⟩
        go_wp2_with fail
        go_ret3
        exact ⟨_, rfl, World.ownsRow_nil _ _ _ _, b3⟩
      · rw [if_neg hs]
        obtain ⟨bd, hbd⟩ : ∃ bd, bd = (l.drop 8).take n := ⟨_, rfl⟩
        have hbl : bd.length = n := by rw [hbd]; simp; omega
        have hrb : Rd w B (if c = 8 then A else A.map (·.add 8)) (bc bd) := by
          have := (hr.cut (k := 8) (cap := c) (by rw [bc_len]; exact hc)).take n
          rwa [bc_drop, bc_take, ← hbd] at this
        rw [← hbd]
        have hfit : 8 + n ≤ l.length := by omega
        obtain ⟨b, off, rfl, hx⟩ := hr 0 _ (List.getElem?_eq_getElem (show 0 < (bc l).length by rw [bc_len]; omega))
        clear hx
        have HBL := Lib.hid hbl
        obtain ⟨p, hp⟩ : ∃ p, p = (if F.sum bd = q then (bd, 8 + n, 0) else (([] : List UInt8), 0, 5)) := ⟨_, rfl⟩
        rw [← hp]
        have HP := Lib.hid hp
        have hs2 : ¬ (l.length : Int) - 8 < (n : Int) := by omega
        clear hbd hbl hs hp hA
        generalize l.length = m at *
        by_cases hcn : c = 8
        · subst hcn
          obtain rfl : m = 8 := by omega
          obtain rfl : n = 0 := by omega
          rw [if_pos rfl] at hrb
          go_enter Tryd.func117, Tryd.ntmps117
          go_wp2_with fail
          refine HN.out.mono ?_
          rintro e w1 ⟨rfl, R1, b1⟩
          go_wp2_with fail
          refine (take_any B w.heap.size 4 (l, false) _ R1).mono ?_
          rw [HS1.out]
          rintro e w2 ⟨rfl, R2, g2⟩
          have b2 := b1.grown g2 b1.size (fun q hq => by injection hq with hq; omega)
          go_wp2_with fail
          refine (take_any B w.heap.size 4 (l.drop 4, false) _ R2).mono ?_
          rw [HS2.out]
          rintro e w3 ⟨rfl, R3, g3⟩
          have b3 := b2.grown g3 b2.size (fun q hq => by injection hq with hq; omega)
          go_wp2_with fail
          refine (ok_any B w.heap.size _ _ R3).mono ?_
          rintro e w' ⟨rfl, rfl⟩
          go_wp2_with fail
          refine (left_any B w.heap.size _ _ R3).mono ?_
          rw [HL.out]
          rintro e w' ⟨rfl, rfl⟩
          go_wp2_with fail
          rw [show (0 : Nat) = bd.length from HBL.out.symm]
          refine (clone_any (some ⟨b, off, none⟩) _ bd w3 B (by rw [HBL.out]; omega) (fun h => by cases h) (hrb.belowM b3 hB) (Nat.le_trans hB b3.size)).mono ?_
          rintro e w4 ⟨v4, rfl, own4, b4⟩
          have b4' := b3.trans (b4.mono b3.size)
          obtain ⟨A4, c4, rfl, hc4, _, _⟩ := ownShape own4
          go_wp2_with fail
          refine (sum_any A4 c4 bd w4 _ (by rw [HBL.out]; omega) hc4 (Rd.ofOwn own4)).mono ?_
          rintro e w' ⟨rfl, rfl⟩
          rw [HBL.out]
          by_cases hsum : F.sum bd = q
          · have hp2 : p = (bd, 8 + bd.length, 0) := by rw [HP.out, if_pos hsum, HBL.out]
            have HP2 := Lib.hid hp2
            rw [hsum]
            clear hsum HP hp2
            go_wp2_with fail
            go_ret3
            rw [HP2.out]
            exact ⟨.slice A4 bd.length c4, by simp [HBL.out], ownMore own4 b3.size, b4'⟩
          · have hne : ((F.sum bd : Int) != (q : Int)) = true := by simp; omega
            have hp2 : p = ([], 0, 5) := by rw [HP.out, if_neg hsum]
            have HP2 := Lib.hid hp2
            clear hsum HP hp2
            go_wp2_with fail
            go_ret3
            rw [HP2.out]
            exact ⟨_, rfl, World.ownsRow_nil _ _ _ _, b4'⟩
        · rw [if_neg hcn] at hrb
          have hrb : Rd w B (some ⟨b, off + 8, none⟩) (bc bd) := hrb
          go_enter Tryd.func117, Tryd.ntmps117
          go_wp2_with fail
          refine HN.out.mono ?_
          rintro e w1 ⟨rfl, R1, b1⟩
          go_wp2_with fail
          refine (take_any B w.heap.size 4 (l, false) _ R1).mono ?_
          rw [HS1.out]
          rintro e w2 ⟨rfl, R2, g2⟩
          have b2 := b1.grown g2 b1.size (fun q hq => by injection hq with hq; omega)
          go_wp2_with fail
          refine (take_any B w.heap.size 4 (l.drop 4, false) _ R2).mono ?_
          rw [HS2.out]
          rintro e w3 ⟨rfl, R3, g3⟩
          have b3 := b2.grown g3 b2.size (fun q hq => by injection hq with hq; omega)
          go_wp2_with fail
          refine (ok_any B w.heap.size _ _ R3).mono ?_
          rintro e w' ⟨rfl, rfl⟩
          go_wp2_with fail
          refine (left_any B w.heap.size _ _ R3).mono ?_
          rw [HL.out]
          rintro e w' ⟨rfl, rfl⟩
          go_wp2_with fail
          rw [← HBL.out]
          refine (clone_any (some ⟨b, off + 8, none⟩) (c - 8) bd w3 B (by rw [HBL.out]; omega) (fun h => by cases h) (hrb.belowM b3 hB) (Nat.le_trans hB b3.size)).mono ?_
          rintro e w4 ⟨v4, rfl, own4, b4⟩
          have b4' := b3.trans (b4.mono b3.size)
          obtain ⟨A4, c4, rfl, hc4, _, _⟩ := ownShape own4
          go_wp2_with fail
          refine (sum_any A4 c4 bd w4 _ (by rw [HBL.out]; omega) hc4 (Rd.ofOwn own4)).mono ?_
          rintro e w' ⟨rfl, rfl⟩
          rw [HBL.out]
          by_cases hsum : F.sum bd = q
          · have hp2 : p = (bd, 8 + bd.length, 0) := by rw [HP.out, if_pos hsum, HBL.out]
            have HP2 := Lib.hid hp2
            rw [hsum]
            clear hsum HP hp2
            go_wp2_with fail
            go_ret3
            rw [HP2.out]
            exact ⟨.slice A4 bd.length c4, by simp [HBL.out], ownMore own4 b3.size, b4'⟩
          · have hne : ((F.sum bd : Int) != (q : Int)) = true := by simp; omega
            have hp2 : p = ([], 0, 5) := by rw [HP.out, if_neg hsum]
            have HP2 := Lib.hid hp2
            clear hsum HP hp2
            go_wp2_with fail
            go_ret3
            rw [HP2.out]
            exact ⟨_, rfl, World.ownsRow_nil _ _ _ _, b4'⟩

end Go.Proofs.YtjofjpmhokjhnaaDoor

namespace Go.Proofs.YtjofjpmhokjhnaaDoor
set_option maxRecDepth 20001
open Go.RowKit
set_option linter.unusedSimpArgs false
set_option linter.unusedVariables false

theorem info_sl : (Tryd.prog.info? 37).map (fun i => (i.zero, i.size, i.bytes)) = some (some (.slice none 0 0), 1, 24) := by kernel_rfl

/-- rows of the call's own, one by one -/
def Owns (w : World) (base : Nat) (vs : List Value) (ls : List (List UInt8)) : Prop :=
  vs.length = ls.length ∧ ∀ (i : Nat) (v : Value) (l : List UInt8), vs[i]? = some v → ls[i]? = some l → w.ownsRow base 5 1 v l.length (bc l)
section
variable {w w' : World} {base B : Nat} {vs : List Value} {ls : List (List UInt8)}
theorem Owns.nil : Owns w base [] [] := ⟨rfl, fun i v l h => by simp at h⟩
theorem belowGrown (hb : Below w.heap.size w w') : w.grownBy w' none := ⟨hb.os, hb.tape, hb.output, hb.size, fun k hk _ => hb.block k hk⟩
theorem ownKept {e n : Nat} {v : Value} {xs : List Value} (h : w.ownsRow base e 1 v n xs) (hb : Below w.heap.size w w') : w'.ownsRow base e 1 v n xs :=
  h.kept (belowGrown hb) (by cases hv : v.ownBlock with
    | none => exact .inl rfl
    | some g => exact .inr (by simp))
theorem Owns.kept (h : Owns w base vs ls) (hb : Below w.heap.size w w') : Owns w' base vs ls := ⟨h.1, fun i v l h1 h2 => ownKept (h.2 i v l h1 h2) hb⟩
theorem Owns.grown {u : Value} {n e base' : Nat} {xs : List Value} (h : Owns w base vs ls) (hu : w.ownsRow base' e 1 u n xs) (hne : 5 ≠ e) (hg : w.grownBy w' u.ownBlock) : Owns w' base vs ls :=
  ⟨h.1, fun i v l h1 h2 => (h.2 i v l h1 h2).kept hg (own_ne hu (h.2 i v l h1 h2) hne)⟩
theorem Owns.snoc {v : Value} {l : List UInt8} (h : Owns w base vs ls) (hv : w.ownsRow base 5 1 v l.length (bc l)) : Owns w base (vs ++ [v]) (ls ++ [l]) := by
  refine ⟨by simp [h.1], fun i u m h1 h2 => ?_⟩
  rw [List.getElem?_append] at h1 h2
  rw [h.1] at h1
  split at h1
  · rename_i hi
    rw [if_pos hi] at h2
    exact h.2 i u m h1 h2
  · rename_i hi
    rw [if_neg hi] at h2
    have : i - ls.length = 0 := by
      have := (List.getElem?_eq_some_iff.1 h1).1
      simpa using this
    rw [this] at h1 h2
    simp at h1 h2
    subst h1; subst h2
    exact hv
theorem Owns.alloc (h : Owns w base vs ls) (o : Obj) : Owns (w.alloc o) base vs ls := h.kept ((Below.refl _ _).alloc (Nat.le_refl _) _)
theorem Owns.reads (h : Owns w base vs ls) : SlBs w w.heap.size vs ls := ⟨h.1, fun i v l h1 h2 => SlF.ofOwn (h.2 i v l h1 h2)⟩
end

/-- a row of the call's own, whose elements are rows of bytes of its own; a number -/
def MadeLs (w : World) (p : List (List UInt8) × Nat) (e : Ending) (w' : World) : Prop :=
  ∃ v vs, e = .returned (.tuple #[v, .int .i64 (p.2 : Int)]) ∧ w'.ownsRow w.heap.size 37 1 v p.1.length vs ∧ Owns w' w.heap.size vs p.1 ∧ Below w.heap.size w w'
/-- where the bytes go on -/
theorem Rd.from {w : World} {B : Nat} {A : Option Addr} {c : Nat} {l : List UInt8} (hr : Rd w B A (bc l)) (hc : l.length ≤ c) (k : Nat) : (c = k → Rd w B A (bc (l.drop k))) ∧ (¬ c = k → Rd w B (A.map (·.add k)) (bc (l.drop k))) := by
  have := hr.cut (k := k) (cap := c) (by rw [bc_len]; exact hc)
  rw [bc_drop] at this
  exact ⟨fun h => by rwa [if_pos h] at this, fun h => by rwa [if_neg h] at this⟩

theorem F.all_step {l : List UInt8} {a : Nat} {ls : List (List UInt8)} (ha : a ≤ l.length) (h : F.all l = (ls ++ (F.all (l.drop a)).1, a + (F.all (l.drop a)).2)) (h0 : (F.unwrap (l.drop a)).2.2 = 0) :
    F.all l = ((ls ++ [(F.unwrap (l.drop a)).1]) ++ (F.all (l.drop (a + (F.unwrap (l.drop a)).2.1))).1, (a + (F.unwrap (l.drop a)).2.1) + (F.all (l.drop (a + (F.unwrap (l.drop a)).2.1))).2) := by
  rw [h, F.all_ok h0, List.drop_drop]
  simp [Nat.add_assoc]
theorem F.all_end {l : List UInt8} {a : Nat} {ls : List (List UInt8)} (h : F.all l = (ls ++ (F.all (l.drop a)).1, a + (F.all (l.drop a)).2)) (h0 : (F.unwrap (l.drop a)).2.2 ≠ 0) : F.all l = (ls, a) := by
  rw [h, F.all_err h0]; simp
theorem F.err_le (b : List UInt8) : (F.unwrap b).2.2 ≤ 5 := by
  unfold F.unwrap
  split
  · simp
  split
  · simp
  split
  · simp
  split <;> simp

set_option maxHeartbeats 1600000 in
theorem all_any (A : Option Addr) (c : Nat) (l : List UInt8) (w : World) (B : Nat) (hl : l.length ≤ 2147483648) (hc : l.length ≤ c) (hm : c ≤ maxLen) (hA : A = none → l = [] ∧ c = 0) (hr : Rd w B A (bc l)) (hB : B ≤ w.heap.size) :
    Calls Tryd.prog 84 #[.slice A l.length c] w (MadeLs w (F.all l)) := by
  obtain ⟨i0, hi, hz0, hz1, hz2⟩ := info_parts info_sl
  obtain ⟨n, hn⟩ : ∃ n, n = l.length := ⟨_, rfl⟩
  have HN := Lib.hid hn
  have HF := Lib.hid (fun w' b => hr.belowM (w' := w') b hB)
  obtain ⟨p, hp⟩ : ∃ p, p = F.all l := ⟨_, rfl⟩
  have HP := Lib.hid hp
  have HA := Lib.hid hA
  rw [← hp]
  rw [← hn] at hl hc ⊢
  clear hn hp hA
  have hm' := hm
  unfold maxLen at hm
  go_enter Tryd.func84, Tryd.ntmps84
  go_wp2_with fail
  go_loopw [4, 5] (fun v i wr => ∃ (at_ : Nat) (ls : List (List UInt8)) (vs : List Value), at_ ≤ n ∧ i = .int .i64 (at_ : Int) ∧ wr.ownsRow w.heap.size 37 1 v ls.length vs ∧ Owns wr w.heap.size vs ls ∧ 8 * ls.length ≤ at_ ∧ Hid (p = (ls ++ (F.all (l.drop at_)).1, at_ + (F.all (l.drop at_)).2)) ∧ Below w.heap.size w wr) (fun _ i _ => n - (intOf i).toNat)
  case atStart => exact ⟨0, [], [], Nat.zero_le _, rfl, World.ownsRow_nil _ _ _ _, Owns.nil, by simp, by show _ = _; rw [HP.out]; simp, Below.refl _ _⟩
  case round =>
    obtain ⟨at_, ls, vs, hat, rfl, own, hO, hcnt, HS, bel⟩ := hrel
    have hdl : (l.drop at_).length = n - at_ := by rw [List.length_drop, ← HN.out]
    have HDL := Lib.hid hdl
    have HRf := Lib.hid (Rd.from (w := wr) (HF.out wr bel) (by rw [← HN.out]; exact hc) at_)
    have HX : Hid (∀ A' c', l.length - at_ ≤ c' → c' ≤ maxLen → (A' = none → l.drop at_ = [] ∧ c' = 0) → Rd wr B A' (bc (l.drop at_)) → Calls Tryd.prog 117 #[.slice A' (n - at_) c'] wr (MadeNE wr (F.unwrap (l.drop at_)))) := by
      intro A' c' h1 h2 h3 h4
      have := unwrap_any A' c' (l.drop at_) wr B (by rw [hdl]; omega) (by rw [hdl, HN.out]; exact h1) h2 h3 h4 (Nat.le_trans hB bel.size)
      rwa [hdl] at this
    clear hdl
    by_cases hca : c = at_
    · have hat' : n - at_ ≤ 0 := by omega
      have hnil : l.drop at_ = [] := List.eq_nil_of_length_eq_zero (by rw [HDL.out]; omega)
      have hfin : p = (ls, at_) := by rw [HP.out]; rw [HP.out] at HS; exact F.all_end HS.out (by rw [hnil]; decide)
      have HFIN := Lib.hid hfin
      have HU : Hid (F.unwrap (l.drop at_) = ([], 0, 4)) := by show _ = _; rw [hnil]; rfl
      clear hfin hnil HS
      go_wp2_with fail
      refine (HX.out _ _ (by rw [← HN.out]; exact hat') (Nat.zero_le _) (fun h => ⟨List.eq_nil_of_length_eq_zero (by rw [HDL.out]; omega), rfl⟩) (HRf.out.1 hca)).mono ?_
      rw [HU.out]
      rintro e w1 ⟨bv, rfl, bown, bb⟩
      go_wp2_with fail
      go_ret2
      rw [HFIN.out]
      exact ⟨_, vs, rfl, ownKept own bb, hO.kept bb, bel.trans (bb.mono bel.size)⟩
    · obtain ⟨q, hq⟩ : ∃ q, q = F.unwrap (l.drop at_) := ⟨_, rfl⟩
      have hq3 : q.2.2 ≤ 5 := by rw [hq]; exact F.err_le _
      have hq2 : q.2.2 = 0 → 8 ≤ q.2.1 ∧ at_ + q.2.1 ≤ n := fun h => by
        rw [hq] at h ⊢
        obtain ⟨m, h1, _, h2, _⟩ := F.unwrap_ok h
        have h3 := HDL.out
        rw [h2]
        simp only
        omega
      have HQ := Lib.hid hq
      rw [← hq] at HX
      clear hq
      obtain ⟨q1, q2, q3⟩ := q
      simp only at hq3 hq2
      by_cases h0 : q3 = 0
      · subst h0
        obtain ⟨hq8, hqn⟩ := hq2 rfl
        have HS2 : Hid (p = ((ls ++ [q1]) ++ (F.all (l.drop (at_ + q2))).1, (at_ + q2) + (F.all (l.drop (at_ + q2))).2)) := by
          show _ = _
          have h1 := HP.out ▸ HS.out
          have := F.all_step (by rw [← HN.out]; exact hat) h1 (by rw [← HQ.out])
          rw [← HQ.out] at this
          rw [HP.out]; exact this
        clear HS hq2
        go_wp2_with fail
        refine (HX.out _ _ (by rw [← HN.out]; omega) (by unfold maxLen; omega) (fun h => by
          have h0 : A = none := by simpa using h
          obtain ⟨rfl, rfl⟩ := HA.out h0
          exact ⟨by simp, by omega⟩) (HRf.out.2 hca)).mono ?_
        rintro e w1 ⟨bv, rfl, bown, bb⟩
        have own1 := ownKept own bb
        have hO1 := (hO.kept bb).snoc (ownMore bown bel.size)
        have bel1 := bel.trans (bb.mono bel.size)
        obtain ⟨bA, bc', rfl, _, _, _⟩ := ownShape bown
        clear own hO bel bown
        go_wp2_with (at_builtin; refine wpList_append_own _ rfl _ _ 118 rfl w.heap.size 37 i0 (.slice none 0 0) 1 24 Tryd.underlying118 hi hz0 hz1 hz2 rfl (by decide) _ _ _ rfl (own1.alloc _) ⟨w1.heap.size, 0, none⟩ 1 1 [.slice bA q1.length bc'] rfl rfl ?c1 ?c2 ?c3 ?c4 ?c5 ?_)
        case c1 => exact oneAt _ _ _
        case c2 => intro u hu; simp at hu; subst hu; rfl
        case c3 => unfold maxLen; omega
        case c4 => omega
        case c5 => have := bel1.size; simp; omega
        intro v' w2 own2 g2 _
        have hO2 : Owns w2 w.heap.size (vs ++ [.slice bA q1.length bc']) (ls ++ [q1]) := (hO1.alloc _).grown (own1.alloc _) (by decide) g2
        have bel2 : Below w.heap.size w w2 := (bel1.alloc bel1.size _).grown g2 (by have := bel1.size; simp; omega) (fun g hg => (own1.lt g hg).1)
        clear own1 hO1 bel1 g2
        go_wp2_with fail
        go_roundw
        case rel => exact ⟨at_ + q2, ls ++ [q1], _, hqn, by go_num, by rw [List.length_append]; exact own2, hO2, by simp; omega, HS2, bel2⟩
        case measure => simp [intOf]; omega
      · have hfin : p = (ls, at_) := by
          rw [HP.out]; rw [HP.out] at HS; exact F.all_end HS.out (by rw [← HQ.out]; exact h0)
        have HFIN := Lib.hid hfin
        have hb1 : ((q3 : Int) != 0) = true := by simp; omega
        clear hfin HS hq2
        go_wp2_with fail
        refine (HX.out _ _ (by rw [← HN.out]; omega) (by unfold maxLen; omega) (fun h => by
          have h0 : A = none := by simpa using h
          obtain ⟨rfl, rfl⟩ := HA.out h0
          exact ⟨by simp, by omega⟩) (HRf.out.2 hca)).mono ?_
        rintro e w1 ⟨bv, rfl, bown, bb⟩
        go_wp2_with fail
        go_ret2
        rw [HFIN.out]
        exact ⟨_, vs, rfl, ownKept own bb, hO.kept bb, bel.trans (bb.mono bel.size)⟩

end Go.Proofs.YtjofjpmhokjhnaaDoor

namespace Go.Proofs.YtjofjpmhokjhnaaDoor
set_option maxRecDepth 20001
set_option linter.unusedSimpArgs false
set_option linter.unusedVariables false
theorem run_ix {P : Program} {w : World} (t e : TypeId) (b off len cap sz : Nat) (k : IntKind) (i : Nat) (ht : P.underlying t = some (.slice e)) (hs : (sizeOf e).run P w = .ok sz w) (hi : i < len) :
    (Instr.indexAt t (.slice (some ⟨b, off, none⟩) len cap) (.int k (i : Int))).run P w = .ok (.pointer (some ⟨b, off + i * sz, none⟩)) w := by
  have h1 : (0 : Int) ≤ (i : Int) ∧ (i : Int) < (len : Int) := by omega
  simp only [Instr.indexAt, asIntOf, Sem.run_bind, Sem.run_pure, Result.andThen_ok, run_underlying ht, h1, and_self, if_true, hs, Int.toNat_natCast, Addr.add_lit]
theorem exec_ix {P : Program} {a : Act} {o : Oper} {w : World} (x ix : Operand) {t e : TypeId} {b off len cap : Nat} (sz : Nat) {k : IntKind} {i : Nat} (ho : o.op = .indexAddr t x ix) (hx : a.eval x = .slice (some ⟨b, off, none⟩) len cap) (hi : a.eval ix = .int k (i : Int))
    (ht : P.underlying t = some (.slice e)) (hlt : i < len) (hs : (sizeOf e).run P w = .ok sz w := by kernel_rfl) : (execOp a.eval o).run P w = .ok (.value (.pointer (some ⟨b, off + i * sz, none⟩))) w := by
  unfold execOp
  simp only [ho, hx, hi, Sem.run_bind, Sem.run_pure, Result.andThen_ok, run_ix t e b off len cap sz k i ht hs hlt]
/-- the same, where the row begins at the block's begin and each element is one cell -/
theorem exec_ix1 {P : Program} {a : Act} {o : Oper} {w : World} (x ix : Operand) {t e : TypeId} {b len cap : Nat} {k : IntKind} {i : Nat} (ho : o.op = .indexAddr t x ix) (hx : a.eval x = .slice (some ⟨b, 0, none⟩) len cap) (hi : a.eval ix = .int k (i : Int))
    (ht : P.underlying t = some (.slice e)) (hlt : i < len) (hs : (sizeOf e).run P w = .ok 1 w := by kernel_rfl) : (execOp a.eval o).run P w = .ok (.value (.pointer (some ⟨b, i, none⟩))) w := by
  have := exec_ix (P := P) (a := a) (o := o) (w := w) x ix (t := t) (e := e) (b := b) (off := 0) (len := len) (cap := cap) 1 (k := k) (i := i) ho hx hi ht hlt hs
  rwa [Nat.mul_one, Nat.zero_add] at this
/-- the same in a region that draws -/
theorem runAt_of {P : Program} {ops : Array Oper} {a : Act} {w : World} {i : Nat} {o : Oper} {r : Result Next} (ho : ops[i]? = some o) (h : (execOp a.eval o).run P w = r) : runAt P ops a w i = some r := by unfold runAt; rw [ho]; exact congrArg some h
end Go.Proofs.YtjofjpmhokjhnaaDoor
