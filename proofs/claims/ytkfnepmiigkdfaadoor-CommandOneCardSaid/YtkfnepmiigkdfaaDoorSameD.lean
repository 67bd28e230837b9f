/- The walk of parishref02.Same at whatever two lists of bytes. Conditions: they lie; sizes. -/
import Derived.Test.YtkfnepmiigkdfaaDoorSb
namespace Go.Proofs.YtkfnepmiigkdfaaDoor
set_option maxRecDepth 20000
open Go.RowKit
set_option linter.unusedSimpArgs false
set_option linter.unusedVariables false
set_option maxHeartbeats 1600000 in
theorem samed_any (A B : Option Addr) (c d : Nat) (l m : List UInt8) (w : World) (b1 b2 : Nat) (hl : l.length ≤ 1099511627776) (hm : m.length ≤ 1099511627776) (hA : Rd w b1 A (bc l)) (hB : Rd w b2 B (bc m)) (hc : l.length ≤ c) (hd : m.length ≤ d) :
    Calls Tryd.prog 30 #[.slice A l.length c, .slice B m.length d] w fun e w' => e = .returned (.bool (decide (l = m))) ∧ Below w.heap.size w w' := by
  obtain ⟨p, hp⟩ : ∃ p : Bool, p = decide (l = m) := ⟨_, rfl⟩
  have HP : Hid (decide (l = m) = p) := hp.symm
  rw [← hp]
  clear hp
  by_cases hlen : l.length = m.length
  · obtain ⟨n, hn⟩ : ∃ n, n = l.length := ⟨_, rfl⟩
    have HN := Lib.hid hn
    have HM : Hid (n = m.length) := by show _ = _; omega
    rw [← hlen, ← hn]
    rw [← hn] at hl hc
    rw [← HM.out] at hd hm
    clear hn hlen
    go_enter Tryd.func30, Tryd.ntmps30
    go_wp2_with fail
    go_loopw [5] (fun i wr => ∃ k q : Nat, k ≤ n ∧ i = .int .i64 k ∧ wr = w.drewN q ∧ Hid (l.take k = m.take k)) (fun i _ => n - (intOf i).toNat)
    case atStart => exact ⟨0, 0, Nat.zero_le _, rfl, rfl, rfl⟩
    case round =>
      obtain ⟨k, q, hk, rfl, rfl, HT⟩ := hrel
      by_cases hlt : k < n
      · have hkl : k < l.length := by rw [← HN.out]; exact hlt
        have hkm : k < m.length := by rw [← HM.out]; exact hlt
        obtain ⟨ab, ao, rfl, _, hca⟩ := hA.at_ (show k < (bc l).length by rw [bc_len]; exact hkl)
        obtain ⟨bb, bo, rfl, _, hcb⟩ := hB.at_ (show k < (bc m).length by rw [bc_len]; exact hkm)
        rw [bc_get] at hca hcb
        have HL : Hid (l.take (k + 1) = l.take k ++ [l[k]'hkl]) := List.take_succ_eq_append_getElem hkl
        have HR : Hid (m.take (k + 1) = m.take k ++ [m[k]'hkm]) := List.take_succ_eq_append_getElem hkm
        generalize l[k] = x at hca HL
        generalize m[k] = y at hcb HR
        have hb0 : (0 : Int) ≤ (k : Int) := by omega
        have hb1 : (k : Int) < (n : Int) := by omega
        by_cases hxy : x = y
        · subst hxy
          have HT2 : Hid (l.take (k + 1) = m.take (k + 1)) := by show _ = _; rw [HL.out, HR.out, HT.out]
          clear HL HR hkl hkm
          generalize (x.toNat : Int) = xi at hca hcb
          go_wp2_with fail
          go_quiet (fail)
          go_wp2_with fail
          go_roundw
          case rel => exact ⟨k + 1, _, by omega, by go_num, rfl, HT2⟩
          case measure => simp [intOf]; omega
        · have HF : Hid (false = p) := by
            show _ = _
            rw [← HP.out]
            refine (decide_eq_false fun e => hxy ?_).symm
            have h1 := HL.out
            rw [e, HR.out, ← HT.out] at h1
            have h2 := List.append_cancel_left h1
            injection h2 with h2
            exact h2.symm
          have hne : ((x.toNat : Int) == (y.toNat : Int)) = false := by
            rw [beq_eq_false_iff_ne]
            intro h
            exact hxy (UInt8.toNat_inj.1 (by omega))
          clear HL HR hkl hkm hxy
          generalize (x.toNat : Int) = xi at hca hne
          generalize (y.toNat : Int) = yi at hcb hne
          go_wp2_with fail
          go_quiet (fail)
          go_wp2_with fail
          go_ret
          exact ⟨ret_bool HF.out, belowDrewN (belowDrewN (Below.refl _ _) _) _⟩
      · have HF : Hid (true = p) := by
          show _ = _
          rw [← HP.out]
          have e : k = n := by omega
          have h1 := HT.out
          rw [e, List.take_of_length_le (by rw [← HN.out]; exact Nat.le_refl _), List.take_of_length_le (by rw [← HM.out]; exact Nat.le_refl _)] at h1
          exact (decide_eq_true h1).symm
        go_wp2_with fail
        go_ret
        exact ⟨ret_bool HF.out, belowDrewN (Below.refl _ _) _⟩
  · have HF : Hid (false = p) := by
      show _ = _
      rw [← HP.out]
      exact (decide_eq_false fun e => hlen (by rw [e])).symm
    have hne : ((l.length : Int) == (m.length : Int)) = false := by rw [beq_eq_false_iff_ne]; omega
    clear hlen
    generalize l.length = n1 at *
    generalize m.length = n2 at *
    go_enter Tryd.func30, Tryd.ntmps30
    go_wp2_with fail
    go_ret
    exact ⟨ret_bool HF.out, Below.refl _ _⟩
theorem samed_s {w : World} {B1 B2 : Nat} {v u : Value} {l m : List UInt8} (h : SlB w B1 v l) (g : SlB w B2 u m) (hl : l.length ≤ 1099511627776) (hm : m.length ≤ 1099511627776) :
    Calls Tryd.prog 30 #[v, u] w fun e w' => e = .returned (.bool (decide (l = m))) ∧ Below w.heap.size w w' := by
  obtain ⟨A, c, rfl, hc, hmx, hA, hr⟩ := h
  obtain ⟨A', c', rfl, hc', hmx', hA', hr'⟩ := g
  exact samed_any A A' c c' l m w _ _ hl hm hr hr' hc hc'
end Go.Proofs.YtkfnepmiigkdfaaDoor
