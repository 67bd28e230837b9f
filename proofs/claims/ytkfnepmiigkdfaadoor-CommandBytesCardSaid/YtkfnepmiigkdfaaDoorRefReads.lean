/- The walks of the reference's reader of layer 2. Conditions: the bytes lie below the reader's block, and are no more than 2^40. -/
import Derived.Test.YtkfnepmiigkdfaaDoorCodeReads
namespace Go.Proofs.YtkfnepmiigkdfaaDoor
set_option maxRecDepth 20000
open Go.RowKit
set_option linter.unusedSimpArgs false
set_option linter.unusedVariables false

/-- the reference's reader in block g: the bytes that are left, and the mark -/
def RefAt (w : World) (B g : Nat) (s : C.St) : Prop :=
  ∃ (A : Option Addr) (c : Nat) (full : List UInt8) (at_ : Nat), w.heap[g]? = some (.cells #[.slice A full.length c, .int .i64 (at_ : Int), .bool s.2] 85 (0, 0)) ∧ at_ ≤ full.length ∧ full.length ≤ 1099511627776 ∧ full.length ≤ c ∧ Rd w B A (bc full) ∧ B ≤ g ∧ s.1 = full.drop at_

theorem RefAt.fails {w : World} {B g : Nat} {l : List UInt8} {f : Bool} (h : RefAt w B g (l, f)) : RefAt (w.setCell ⟨g, 2, none⟩ (.bool true)) B g (l, true) := by
  obtain ⟨A, c, full, at_, hb, h1, h2, h3, hr, hB, hl⟩ := h
  exact ⟨A, c, full, at_, setAt hb 2 _, h1, h2, h3, hr.grownOther (grownSet w g 2 _) hB, hB, hl⟩
theorem RefAt.drewN {w : World} {B g : Nat} {s : C.St} (h : RefAt w B g s) (n : Nat) : RefAt (w.drewN n) B g s := h
theorem grownDrewN {a w : World} {row : Option Nat} (h : a.grownBy w row) (n : Nat) : a.grownBy (w.drewN n) row := ⟨h.os, h.tape, h.output, h.size, h.block⟩
theorem grownFromDrewN {a w : World} {row : Option Nat} {n : Nat} (h : (a.drewN n).grownBy w row) : a.grownBy w row := ⟨h.os, h.tape, h.output, h.size, h.block⟩

theorem refSet {w : World} {g : Nat} {a b c : Value} {t : TypeId} (h : w.heap[g]? = some (.cells #[a, b, c] t (0, 0))) (n : Nat) (u : Value) : ((w.drewN n).setCell ⟨g, 1, none⟩ u).heap[g]? = some (.cells #[a, u, c] t (0, 0)) := by
  have := setAt (w := w.drewN n) (show (w.drewN n).heap[g]? = _ from h) 1 u
  simpa using this
def RTookN (w : World) (B g x : Nat) (s : C.St) (e : Ending) (w' : World) : Prop :=
  e = .returned (.int .u64 (x : Int)) ∧ RefAt w' B g s ∧ w.grownBy w' (some g)

set_option maxHeartbeats 1600000 in
theorem rtake_any (B g : Nat) (n : Int) (s : C.St) (w : World) (h : RefAt w B g s) :
    Calls Tryd.prog 64 #[.pointer (some ⟨g, 0, none⟩), .int .i64 n] w (RTookN w B g (C.take n s).1 (C.take n s).2) := by
  have HH := Lib.hid h
  obtain ⟨A, c, full, at_, hb, hat, hbig, hfc, hr, hB, hl⟩ := h
  have h0 := cellAt hb 0
  have h1 := cellAt hb 1
  have h2 := cellAt hb 2
  have f1 := freeAt hb 1
  have f2 := freeAt hb 2
  simp only [List.getElem?_toArray, List.getElem?_cons_zero, List.getElem?_cons_succ] at h0 h1 h2
  obtain ⟨l, f⟩ := s
  simp only at h2 hl
  have HB := Lib.hid hb
  have HL := Lib.hid hl
  clear hb hl
  obtain ⟨m, hm⟩ : ∃ m, m = full.length := ⟨_, rfl⟩
  rw [← hm] at h0 hat hbig hfc
  have HM := Lib.hid hm
  clear hm
  cases f with
  | true =>
    have hs : C.take n (l, true) = (0, (l, true)) := by
      unfold C.take C.some_
      split
      · rfl
      · simp [C.val]
    rw [hs]
    clear hs
    go_enter Tryd.func64, Tryd.ntmps64
    go_wp2_with fail
    go_quiet (fail)
    go_wp2_with fail
    go_ret
    exact ⟨rfl, RefAt.fails (HH.out.drewN _), grownFromDrewN (grownSet _ g 2 _)⟩
  | false =>
    by_cases hn : n < 0 ∨ 8 < n
    · have hs : C.take n (l, false) = (0, (l, true)) := by unfold C.take; rw [if_pos hn]
      rw [hs]
      clear hs
      rcases hn with hn | hn
      · have hd : decide (n < 0) = true := by simpa using hn
        go_enter Tryd.func64, Tryd.ntmps64
        go_wp2_with fail
        go_quiet (fail)
        go_wp2_with fail
        go_ret
        exact ⟨rfl, RefAt.fails (HH.out.drewN _), grownFromDrewN (grownSet _ g 2 _)⟩
      · have hd : decide (n < 0) = false := by simp; omega
        have hd2 : decide (8 < n) = true := by simpa using hn
        go_enter Tryd.func64, Tryd.ntmps64
        go_wp2_with fail
        go_quiet (fail)
        go_wp2_with fail
        go_ret
        exact ⟨rfl, RefAt.fails (HH.out.drewN _), grownFromDrewN (grownSet _ g 2 _)⟩
    · have hn0 : 0 ≤ n := by omega
      obtain ⟨k, rfl⟩ := Int.eq_ofNat_of_zero_le hn0
      have hd : decide ((k : Int) < 0) = false := by simp
      have hd2 : decide (8 < (k : Int)) = false := by simp; omega
      have hk8 : k ≤ 8 := by omega
      have hll : l.length = m - at_ := by rw [HL.out, List.length_drop, HM.out]
      have hw : IntKind.i64.wrap ((m : Int) - (at_ : Int)) = (m : Int) - (at_ : Int) := by rw [IntKind.wrap_i64]; omega
      by_cases hrem : (m : Int) - (at_ : Int) < (k : Int)
      · have hs : C.take (k : Int) (l, false) = (0, (l, true)) := by
          unfold C.take C.some_
          rw [if_neg (by omega), if_pos (by right; rw [Int.toNat_natCast]; simp only; omega)]
          simp [C.val]
        rw [hs]
        have hd3 : decide ((m : Int) - (at_ : Int) < (k : Int)) = true := by simpa using hrem
        clear hs hll hn
        go_enter Tryd.func64, Tryd.ntmps64
        go_wp2_with fail
        go_quiet (fail)
        go_wp2_with fail
        go_ret
        exact ⟨rfl, RefAt.fails (HH.out.drewN _), grownFromDrewN (grownSet _ g 2 _)⟩
      · have hs : C.take (k : Int) (l, false) = (C.val 0 (l.take k), (l.drop k, false)) := by
          unfold C.take C.some_
          rw [if_neg (by omega), Int.toNat_natCast, if_neg (by simp only [Bool.false_eq_true, false_or]; omega)]
        rw [hs]
        have hd3 : decide ((m : Int) - (at_ : Int) < (k : Int)) = false := by simp; omega
        have hatk : at_ + k ≤ m := by omega
        have HLL := Lib.hid hll
        clear hs hll hn
        go_enter Tryd.func64, Tryd.ntmps64
        go_wp2_with fail
        go_quiet (fail)
        go_wp2_with fail
        clear hw
        go_loopw [5, 6] (fun x i wr => ∃ j q : Nat, j ≤ k ∧ i = .int .i64 (j : Int) ∧ x = .int .u64 ((C.val 0 (l.take j) : Nat) : Int) ∧ wr = w.drewN q) (fun _ i _ => k - (intOf i).toNat)
        case atStart => exact ⟨0, _, Nat.zero_le _, rfl, by simp [C.val], rfl⟩
        case round =>
          obtain ⟨j, q, hj, rfl, rfl, rfl⟩ := hrel
          by_cases hlt : j < k
          · have hk2 : at_ + j < (bc full).length := by rw [bc_len, ← HM.out]; omega
            obtain ⟨ab, ao, rfl, _, hca⟩ := hr.at_ hk2
            rw [bc_get] at hca
            have hjo : j < l.length := by rw [HLL.out]; omega
            have hbyte : full[at_ + j]'(by rw [← HM.out]; omega) = l[j]'hjo := by
              have : l[j]'hjo = (full.drop at_)[j]'(by rw [← HL.out]; exact hjo) := by simp only [HL.out]
              rw [this, List.getElem_drop]
            rw [hbyte] at hca
            have hval : C.val 0 (l.take (j + 1)) = C.val 0 (l.take j) * 256 + (l[j]'hjo).toNat := by
              rw [List.take_succ_eq_append_getElem hjo, C.val_app]; rfl
            have hlt7 : C.val 0 (l.take j) < 72057594037927936 := by
              have h1 := C.val_lt (l.take j)
              have h2 : (l.take j).length ≤ 7 := by simp; omega
              have h3 : 256 ^ (l.take j).length ≤ 256 ^ 7 := Nat.pow_le_pow_right (by omega) h2
              omega
            have hby := (l[j]'hjo).toNat_lt
            have HV := Lib.hid hval
            clear hbyte hval hk2
            generalize l[j]'hjo = b at hca HV hby
            generalize C.val 0 (l.take j) = y at HV hlt7 ⊢
            have hb0 : (0 : Int) ≤ (at_ : Int) + (j : Int) := by omega
            have hb1 : (at_ : Int) + (j : Int) < (m : Int) := by omega
            have hw1 : IntKind.i64.wrap ((at_ : Int) + (j : Int)) = (at_ : Int) + (j : Int) := by rw [IntKind.wrap_i64]; omega
            have hw2 : IntKind.u64.wrap ((y : Int) * 256) = (y : Int) * 256 := by rw [IntKind.wrap_u64]; omega
            have hw3 : IntKind.u64.wrap ((y : Int) * 256 + (b.toNat : Int)) = (y : Int) * 256 + (b.toNat : Int) := by rw [IntKind.wrap_u64]; omega
            have hti : ((at_ : Int) + (j : Int)).toNat = at_ + j := by omega
            go_wp2_with fail
            go_quiet (fail)
            clear hw1 hw2 hw3
            go_wp2_with fail
            go_roundw
            case rel => exact ⟨j + 1, _, by omega, by go_num, int_of (by rw [HV.out]; omega), rfl⟩
            case measure => simp [intOf]; omega
          · obtain rfl : j = k := by omega
            go_wp2_with fail
            go_ret
            refine ⟨rfl, ⟨A, c, full, at_ + j, ?_, by rw [← HM.out]; omega, by rw [← HM.out]; exact hbig, by rw [← HM.out]; exact hfc, Rd.grownOther (w := w.drewN _) (hr.drewN _) (grownSet _ g 1 _) hB, hB, ?_⟩, grownFromDrewN (grownSet _ g 1 _)⟩
            · rw [show ((at_ + j : Nat) : Int) = (at_ : Int) + (j : Int) from by omega]
              exact refSet HB.out _ _
            · show l.drop j = full.drop (at_ + j)
              rw [HL.out, List.drop_drop]

set_option maxHeartbeats 800000 in
theorem rleft_any (B g : Nat) (s : C.St) (w : World) (h : RefAt w B g s) :
    Calls Tryd.prog 42 #[.pointer (some ⟨g, 0, none⟩)] w fun e w' => e = .returned (.int .i64 (C.left s : Nat)) ∧ ∃ n, w' = w.drewN n := by
  obtain ⟨A, c, full, at_, hb, hat, hbig, hfc, hr, hB, hl⟩ := h
  have h0 := cellAt hb 0
  have h1 := cellAt hb 1
  have h2 := cellAt hb 2
  simp only [List.getElem?_toArray, List.getElem?_cons_zero, List.getElem?_cons_succ] at h0 h1 h2
  obtain ⟨l, f⟩ := s
  simp only at h2 hl
  obtain ⟨m, hm⟩ : ∃ m, m = full.length := ⟨_, rfl⟩
  rw [← hm] at h0 hat hbig hfc
  have hll : l.length = m - at_ := by rw [hl, List.length_drop, hm]
  have HLL := Lib.hid hll
  have hw : IntKind.i64.wrap ((m : Int) - (at_ : Int)) = (m : Int) - (at_ : Int) := by rw [IntKind.wrap_i64]; omega
  clear hb hl hm hll
  cases f with
  | true =>
    go_enter Tryd.func42, Tryd.ntmps42
    go_wp2_with fail
    go_ret
    exact ⟨rfl, 0, rfl⟩
  | false =>
    go_enter Tryd.func42, Tryd.ntmps42
    go_wp2_with fail
    go_quiet (fail)
    go_wp2_with fail
    go_ret
    refine ⟨ret_int ?_, _, rfl⟩
    show (m : Int) - (at_ : Int) = ((C.left (l, false) : Nat) : Int)
    unfold C.left
    have := HLL.out
    simp only [Bool.false_eq_true, if_false]
    omega

def RTookT (w : World) (B g : Nat) (o : List UInt8) (s : C.St) (e : Ending) (w' : World) : Prop :=
  e = .returned (.string ⟨o.toArray⟩) ∧ RefAt w' B g s ∧ w.grownBy w' (some g)

set_option maxHeartbeats 1600000 in
theorem rtext_any (B g : Nat) (most : Int) (s : C.St) (w : World) (h : RefAt w B g s) :
    Calls Tryd.prog 86 #[.pointer (some ⟨g, 0, none⟩), .int .i64 most] w (RTookT w B g (C.text most s).1 (C.text most s).2) := by
  have hx := take_two_lt s
  have T := Lib.hid (rtake_any B g 2 s w h)
  unfold C.text
  generalize C.take 2 s = xs at *
  obtain ⟨x, l, f⟩ := xs
  simp only at *
  go_enter Tryd.func86, Tryd.ntmps86
  go_wp2_with fail
  refine (T.out).mono ?_
  rintro e w1 ⟨rfl, hR, hg⟩
  have HH := Lib.hid hR
  obtain ⟨A, c, full, at_, hb, hat, hbig, hfc, hr, hB, hl⟩ := hR
  have h0 := cellAt hb 0
  have h1 := cellAt hb 1
  have h2 := cellAt hb 2
  have f1 := freeAt hb 1
  have f2 := freeAt hb 2
  simp only [List.getElem?_toArray, List.getElem?_cons_zero, List.getElem?_cons_succ] at h0 h1 h2
  have HB := Lib.hid hb
  have HL : Hid (l = full.drop at_) := hl
  obtain ⟨m, hm⟩ : ∃ m, m = full.length := ⟨_, rfl⟩
  rw [← hm] at h0 hat hbig hfc
  have HM := Lib.hid hm
  have hll : l.length = m - at_ := by rw [HL.out, List.length_drop, HM.out]
  have HLL := Lib.hid hll
  have hw : IntKind.i64.wrap ((m : Int) - (at_ : Int)) = (m : Int) - (at_ : Int) := by rw [IntKind.wrap_i64]; omega
  clear hb hl hm hll h T
  have hfail : C.some_ x (l, true) = ([], (l, true)) := by unfold C.some_; simp
  have HF := Lib.hid hfail
  clear hfail
  cases f with
  | true =>
    go_wp2_with fail
    go_quiet (fail)
    go_wp2_with fail
    go_ret
    rw [show (true || decide (most < (x : Int))) = true from rfl, HF.out]
    exact ⟨rfl, RefAt.fails (HH.out.drewN _), hg.trans (grownFromDrewN (grownSet _ g 2 _))⟩
  | false =>
    by_cases hm1 : most < (x : Int)
    · have hd : decide (most < (x : Int)) = true := by simpa using hm1
      go_wp2_with fail
      go_quiet (fail)
      go_wp2_with fail
      go_ret
      rw [hd, show (false || true) = true from rfl, HF.out]
      exact ⟨rfl, RefAt.fails (HH.out.drewN _), hg.trans (grownFromDrewN (grownSet _ g 2 _))⟩
    · have hd : decide (most < (x : Int)) = false := by simpa using hm1
      by_cases hrem : (m : Int) - (at_ : Int) < (x : Int)
      · have hd3 : decide ((m : Int) - (at_ : Int) < (x : Int)) = true := by simpa using hrem
        have hs : C.some_ x (l, false) = ([], (l, true)) := by unfold C.some_; rw [if_pos (by right; have := HLL.out; simp only; omega)]
        have HS := Lib.hid hs
        clear hs
        go_wp2_with fail
        go_quiet (fail)
        go_wp2_with fail
        go_ret
        rw [hd, show (false || false) = false from rfl, HS.out]
        exact ⟨rfl, RefAt.fails (HH.out.drewN _), hg.trans (grownFromDrewN (grownSet _ g 2 _))⟩
      · have hd3 : decide ((m : Int) - (at_ : Int) < (x : Int)) = false := by simp; omega
        have hs : C.some_ x (l, false) = (l.take x, (l.drop x, false)) := by unfold C.some_; rw [if_neg (by have := HLL.out; simp only [Bool.false_eq_true, false_or]; omega)]
        have HS := Lib.hid hs
        have hw4 : IntKind.i64.wrap ((at_ : Int) + (x : Int)) = (at_ : Int) + (x : Int) := by rw [IntKind.wrap_i64]; omega
        clear hs
        by_cases hca : c = at_
        · subst hca
          obtain rfl : x = 0 := by omega
          have hdz : decide (most < 0) = false := hd
          have HD := Lib.hid hd
          have hd3z : decide ((m : Int) - (c : Int) < 0) = false := hd3
          have hm0 : 0 ≤ most := by omega
          have hmc : (0 : Int) ≤ (m : Int) - (c : Int) := by omega
          clear hd hd3 hw4 hrem hm1 hx
          have hcv : ∀ k, (convert 69 9 (.slice A 0 0)).run Tryd.prog (w1.drewN k) = .ok (.string ⟨#[]⟩) (w1.drewN k) := fun k =>
            run_string_rd (P := Tryd.prog) (w1.drewN k) 69 5 9 Tryd.underlying69 Tryd.underlying5 Tryd.underlying9 B A 0 [] Rd.nil
          have hb1 : (c : Int) ≤ (c : Int) := by omega
          go_wp2_with fail
          go_quiet (fail)
          go_wp2_with fail
          go_quiet (fail)
          go_wp2_with fail
          go_ret
          rw [HD.out, show (false || false) = false from rfl, HS.out]
          refine ⟨rfl, ⟨A, c, full, c, ?_, by rw [← HM.out]; omega, by rw [← HM.out]; exact hbig, by rw [← HM.out]; exact hfc, Rd.grownOther (w := w1.drewN _) (hr.drewN _) (grownSet _ g 1 _) hB, hB, ?_⟩, hg.trans (grownFromDrewN (grownSet _ g 1 _))⟩
          · exact refSet HB.out _ _
          · show l.drop 0 = full.drop c
            rw [HL.out, List.drop_zero]
        · have hcut := (hr.cut (k := at_) (cap := c) (by rw [bc_len, ← HM.out]; exact hfc)).take x
          rw [if_neg hca, bc_drop, bc_take, ← HL.out] at hcut
          have hlx : (l.take x).length = x := by have := HLL.out; simp; omega
          have hcv : ∀ k, (convert 69 9 (.slice (A.map (·.add at_)) x (c - at_))).run Tryd.prog (w1.drewN k) = .ok (.string ⟨(l.take x).toArray⟩) (w1.drewN k) := fun k => by
            have := run_string_rd (P := Tryd.prog) (w1.drewN k) 69 5 9 Tryd.underlying69 Tryd.underlying5 Tryd.underlying9 B _ (c - at_) _ (hcut.drewN k)
            rw [hlx] at this
            exact this
          have hb0 : (0 : Int) ≤ (at_ : Int) + (x : Int) := by omega
          have hb1 : (at_ : Int) + (x : Int) ≤ (c : Int) := by omega
          have hb2 : (at_ : Int) ≤ (at_ : Int) + (x : Int) := by omega
          have hti : ((at_ : Int) + (x : Int)).toNat = at_ + x := by omega
          clear hlx
          go_wp2_with fail
          go_quiet (fail)
          go_wp2_with fail
          go_quiet (fail)
          go_wp2_with fail
          go_ret
          rw [hd, show (false || false) = false from rfl, HS.out]
          refine ⟨rfl, ⟨A, c, full, at_ + x, ?_, by rw [← HM.out]; omega, by rw [← HM.out]; exact hbig, by rw [← HM.out]; exact hfc, Rd.grownOther (w := w1.drewN _) (hr.drewN _) (grownSet _ g 1 _) hB, hB, ?_⟩, hg.trans (grownFromDrewN (grownSet _ g 1 _))⟩
          · rw [show ((at_ + x : Nat) : Int) = (at_ : Int) + (x : Int) from by omega]
            exact refSet HB.out _ _
          · show l.drop x = full.drop (at_ + x)
            rw [HL.out, List.drop_drop]
end Go.Proofs.YtkfnepmiigkdfaaDoor
