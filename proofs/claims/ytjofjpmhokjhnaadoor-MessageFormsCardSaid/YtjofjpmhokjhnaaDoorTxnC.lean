/- The walks of slices.Equal at reads and at writes, of txn.Same, and the reference's Same. Conditions: what lies, lies below. -/
import Derived.Test.YtjofjpmhokjhnaaDoorTxnB
import Derived.Test.YtjofjpmhokjhnaaDoorTxnEq
namespace Go.Proofs.YtjofjpmhokjhnaaDoor
set_option maxRecDepth 20000
open Go.RowKit T
set_option linter.unusedSimpArgs false
set_option linter.unusedVariables false

theorem T.eq_false {α : Type} {xs ys : List α} (hl : xs.length = ys.length) (k : Nat) (h : k < xs.length) (hne : xs[k] ≠ ys[k]) : ¬ xs = ys := fun e => by subst e; exact hne rfl
theorem T.eq_true {α : Type} {xs ys : List α} (hl : xs.length = ys.length) (h : ∀ k, ∀ hk : k < xs.length, xs[k] = ys[k]) : xs = ys := List.ext_getElem hl fun k h1 h2 => h k h1
set_option maxHeartbeats 3200000 in
theorem eqr_any (xs ys : List Rd1) (A A' : Option Addr) (c c' : Nat) (w : World) (B : Nat) (hB : B ≤ w.heap.size) (hx : RowsAt w B A 2 (xs.map encR)) (hy : RowsAt w B A' 2 (ys.map encR)) (hc : xs.length ≤ c) (hm : c ≤ maxLen) (hc' : ys.length ≤ c') (hm' : c' ≤ maxLen) :
    Calls Tryd.prog 113 #[.slice A xs.length c, .slice A' ys.length c'] w fun e w' => e = .returned (.bool (decide (xs = ys))) ∧ Below w.heap.size w w' := by
  obtain ⟨p, hp⟩ : ∃ p : Bool, p = decide (xs = ys) := ⟨_, rfl⟩
  have HP := Lib.hid hp
  rw [← hp]
  obtain ⟨n, hn⟩ : ∃ n, n = xs.length := ⟨_, rfl⟩
  obtain ⟨m, hmm⟩ : ∃ m, m = ys.length := ⟨_, rfl⟩
  have HN := Lib.hid hn
  have HM := Lib.hid hmm
  rw [← hn] at hc ⊢
  rw [← hmm] at hc' ⊢
  clear hn hmm hp
  unfold maxLen at hm hm'
  by_cases hnm : n = m
  · subst hnm
    go_enter Tryd.func113, Tryd.ntmps113
    go_wp2_with fail
    go_loopw [5, 13] (fun _ i wr => ∃ k : Nat, k ≤ n ∧ i = .int .i64 (k : Int) ∧ Hid (∀ j, ∀ hj : j < xs.length, j < k → xs[j] = ys[j]?.getD ([], 0)) ∧ ∃ q, wr = w.drewN q) (fun _ i _ => n - (intOf i).toNat)
    case atStart => exact ⟨0, Nat.zero_le _, rfl, fun j _ hj => absurd hj (Nat.not_lt_zero _), 0, rfl⟩
    case round =>
      obtain ⟨k, hk, rfl, HG, q, rfl⟩ := hrel
      by_cases hlt : k < n
      · have hkx : k < xs.length := by rw [← HN.out]; exact hlt
        have hky : k < ys.length := by rw [← HM.out]; exact hlt
        obtain ⟨b, off, rfl, hb, x0, x1⟩ := hx.rd k hkx
        obtain ⟨b', off', rfl, hb', y0, y1⟩ := hy.rd k hky
        have HE : Hid ((⟨xs[k].1.toArray⟩ : ByteArray).toList = (⟨ys[k].1.toArray⟩ : ByteArray).toList ∧ xs[k].2 = ys[k].2 ↔ xs[k] = ys[k]) := by
          show _ ↔ _
          rw [Lib.toList_data, Lib.toList_data]
          exact ⟨fun h => Prod.ext h.1 h.2, fun h => by rw [h]; exact ⟨rfl, rfl⟩⟩
        have hne := fun z => run_neRd ⟨xs[k].1.toArray⟩ xs[k].2 ⟨ys[k].1.toArray⟩ ys[k].2 z
        cases hd : decide ((⟨xs[k].1.toArray⟩ : ByteArray).toList = (⟨ys[k].1.toArray⟩ : ByteArray).toList ∧ xs[k].2 = ys[k].2) with
        | false =>
          rw [hd] at hne
          have HR : Hid (false = p) := by
            show _ = _
            rw [HP.out, decide_eq_false]
            intro e
            exact of_decide_eq_false hd (HE.out.2 (by subst e; rfl))
          clear HE HG hd
          generalize (⟨xs[k].1.toArray⟩ : ByteArray) = xa at x0 hne
          generalize xs[k].2 = xb at x1 hne
          generalize (⟨ys[k].1.toArray⟩ : ByteArray) = ya at y0 hne
          generalize ys[k].2 = yb at y1 hne
          simp only [Bool.not_false] at hne
          go_wp2_with fail
          go_quiet (fail)
          go_wp2_with fail
          go_ret
          exact ⟨ret_bool HR.out, belowDrewN (belowDrewN (Below.refl _ _) _) _⟩
        | true =>
          rw [hd] at hne
          have HG' : Hid (∀ j, ∀ hj : j < xs.length, j < k + 1 → xs[j] = ys[j]?.getD ([], 0)) := fun j hj hjk => by
            by_cases e : j = k
            · subst e
              rw [List.getElem?_eq_getElem hky]
              exact HE.out.1 (of_decide_eq_true hd)
            · exact HG.out j hj (by omega)
          clear HE HG hd
          generalize (⟨xs[k].1.toArray⟩ : ByteArray) = xa at x0 hne
          generalize xs[k].2 = xb at x1 hne
          generalize (⟨ys[k].1.toArray⟩ : ByteArray) = ya at y0 hne
          generalize ys[k].2 = yb at y1 hne
          simp only [Bool.not_true] at hne
          go_wp2_with fail
          go_quiet (fail)
          go_wp2_with fail
          go_roundw
          case rel => exact ⟨k + 1, by omega, by go_num, HG', _, rfl⟩
          case measure => first | (simp [intOf]; done) | (simp [intOf]; omega)
      · obtain rfl : k = n := by omega
        have HR : Hid (true = p) := by
          show _ = _
          rw [HP.out, decide_eq_true (eq_true (by rw [← HN.out, ← HM.out]) fun j hj => ?_)]
          have := HG.out j hj (by rw [HN.out]; exact hj)
          rw [List.getElem?_eq_getElem (by rw [← HM.out, HN.out]; exact hj)] at this
          exact this
        clear HG
        go_wp2_with fail
        go_ret
        exact ⟨ret_bool HR.out, belowDrewN (Below.refl _ _) _⟩
  · have HR : Hid (false = p) := by
      show _ = _
      rw [HP.out, decide_eq_false]
      intro e
      exact hnm (by rw [HN.out, HM.out, e])
    have hnm' : ¬ (n : Int) = (m : Int) := by omega
    go_enter Tryd.func113, Tryd.ntmps113
    go_wp2_with fail
    go_ret
    exact ⟨ret_bool HR.out, Below.refl _ _⟩
set_option maxHeartbeats 3200000 in
theorem eqw_any (xs ys : List Wr1) (A A' : Option Addr) (c c' : Nat) (w : World) (B : Nat) (hB : B ≤ w.heap.size) (hx : RowsAt w B A 4 (xs.map encW)) (hy : RowsAt w B A' 4 (ys.map encW)) (hc : xs.length ≤ c) (hm : c ≤ maxLen) (hc' : ys.length ≤ c') (hm' : c' ≤ maxLen) :
    Calls Tryd.prog 114 #[.slice A xs.length c, .slice A' ys.length c'] w fun e w' => e = .returned (.bool (decide (xs = ys))) ∧ Below w.heap.size w w' := by
  obtain ⟨p, hp⟩ : ∃ p : Bool, p = decide (xs = ys) := ⟨_, rfl⟩
  have HP := Lib.hid hp
  rw [← hp]
  obtain ⟨n, hn⟩ : ∃ n, n = xs.length := ⟨_, rfl⟩
  obtain ⟨m, hmm⟩ : ∃ m, m = ys.length := ⟨_, rfl⟩
  have HN := Lib.hid hn
  have HM := Lib.hid hmm
  rw [← hn] at hc ⊢
  rw [← hmm] at hc' ⊢
  clear hn hmm hp
  unfold maxLen at hm hm'
  by_cases hnm : n = m
  · subst hnm
    go_enter Tryd.func114, Tryd.ntmps114
    go_wp2_with fail
    go_loopw [5, 13] (fun _ i wr => ∃ k : Nat, k ≤ n ∧ i = .int .i64 (k : Int) ∧ Hid (∀ j, ∀ hj : j < xs.length, j < k → xs[j] = ys[j]?.getD ([], 0, 0, [])) ∧ ∃ q, wr = w.drewN q) (fun _ i _ => n - (intOf i).toNat)
    case atStart => exact ⟨0, Nat.zero_le _, rfl, fun j _ hj => absurd hj (Nat.not_lt_zero _), 0, rfl⟩
    case round =>
      obtain ⟨k, hk, rfl, HG, q, rfl⟩ := hrel
      by_cases hlt : k < n
      · have hkx : k < xs.length := by rw [← HN.out]; exact hlt
        have hky : k < ys.length := by rw [← HM.out]; exact hlt
        obtain ⟨b, off, rfl, hb, x0, x1, x2, x3⟩ := hx.wr k hkx
        obtain ⟨b', off', rfl, hb', y0, y1, y2, y3⟩ := hy.wr k hky
        have HE : Hid ((⟨xs[k].1.toArray⟩ : ByteArray).toList = (⟨ys[k].1.toArray⟩ : ByteArray).toList ∧ xs[k].2.1 = ys[k].2.1 ∧ xs[k].2.2.1 = ys[k].2.2.1 ∧ (⟨xs[k].2.2.2.toArray⟩ : ByteArray).toList = (⟨ys[k].2.2.2.toArray⟩ : ByteArray).toList ↔ xs[k] = ys[k]) := by
          show _ ↔ _
          rw [Lib.toList_data, Lib.toList_data, Lib.toList_data, Lib.toList_data]
          exact ⟨fun h => Prod.ext h.1 (Prod.ext h.2.1 (Prod.ext h.2.2.1 h.2.2.2)), fun h => by rw [h]; exact ⟨rfl, rfl, rfl, rfl⟩⟩
        have hne := fun z => run_neWr ⟨xs[k].1.toArray⟩ xs[k].2.1 xs[k].2.2.1 ⟨xs[k].2.2.2.toArray⟩ ⟨ys[k].1.toArray⟩ ys[k].2.1 ys[k].2.2.1 ⟨ys[k].2.2.2.toArray⟩ z
        cases hd : decide ((⟨xs[k].1.toArray⟩ : ByteArray).toList = (⟨ys[k].1.toArray⟩ : ByteArray).toList ∧ xs[k].2.1 = ys[k].2.1 ∧ xs[k].2.2.1 = ys[k].2.2.1 ∧ (⟨xs[k].2.2.2.toArray⟩ : ByteArray).toList = (⟨ys[k].2.2.2.toArray⟩ : ByteArray).toList) with
        | false =>
          rw [hd] at hne
          have HR : Hid (false = p) := by
            show _ = _
            rw [HP.out, decide_eq_false]
            intro e
            exact of_decide_eq_false hd (HE.out.2 (by subst e; rfl))
          clear HE HG hd
          generalize (⟨xs[k].1.toArray⟩ : ByteArray) = xa at x0 hne
          generalize (⟨xs[k].2.2.2.toArray⟩ : ByteArray) = xd at x3 hne
          generalize xs[k].2.2.1 = xc at x2 hne
          generalize xs[k].2.1 = xb at x1 hne
          generalize (⟨ys[k].1.toArray⟩ : ByteArray) = ya at y0 hne
          generalize (⟨ys[k].2.2.2.toArray⟩ : ByteArray) = yd at y3 hne
          generalize ys[k].2.2.1 = yc at y2 hne
          generalize ys[k].2.1 = yb at y1 hne
          simp only [Bool.not_false] at hne
          go_wp2_with fail
          go_quiet (fail)
          go_wp2_with fail
          go_ret
          exact ⟨ret_bool HR.out, belowDrewN (belowDrewN (Below.refl _ _) _) _⟩
        | true =>
          rw [hd] at hne
          have HG' : Hid (∀ j, ∀ hj : j < xs.length, j < k + 1 → xs[j] = ys[j]?.getD ([], 0, 0, [])) := fun j hj hjk => by
            by_cases e : j = k
            · subst e
              rw [List.getElem?_eq_getElem hky]
              exact HE.out.1 (of_decide_eq_true hd)
            · exact HG.out j hj (by omega)
          clear HE HG hd
          generalize (⟨xs[k].1.toArray⟩ : ByteArray) = xa at x0 hne
          generalize (⟨xs[k].2.2.2.toArray⟩ : ByteArray) = xd at x3 hne
          generalize xs[k].2.2.1 = xc at x2 hne
          generalize xs[k].2.1 = xb at x1 hne
          generalize (⟨ys[k].1.toArray⟩ : ByteArray) = ya at y0 hne
          generalize (⟨ys[k].2.2.2.toArray⟩ : ByteArray) = yd at y3 hne
          generalize ys[k].2.2.1 = yc at y2 hne
          generalize ys[k].2.1 = yb at y1 hne
          simp only [Bool.not_true] at hne
          go_wp2_with fail
          go_quiet (fail)
          go_wp2_with fail
          go_roundw
          case rel => exact ⟨k + 1, by omega, by go_num, HG', _, rfl⟩
          case measure => first | (simp [intOf]; done) | (simp [intOf]; omega)
      · obtain rfl : k = n := by omega
        have HR : Hid (true = p) := by
          show _ = _
          rw [HP.out, decide_eq_true (eq_true (by rw [← HN.out, ← HM.out]) fun j hj => ?_)]
          have := HG.out j hj (by rw [HN.out]; exact hj)
          rw [List.getElem?_eq_getElem (by rw [← HM.out, HN.out]; exact hj)] at this
          exact this
        clear HG
        go_wp2_with fail
        go_ret
        exact ⟨ret_bool HR.out, belowDrewN (Below.refl _ _) _⟩
  · have HR : Hid (false = p) := by
      show _ = _
      rw [HP.out, decide_eq_false]
      intro e
      exact hnm (by rw [HN.out, HM.out, e])
    have hnm' : ¬ (n : Int) = (m : Int) := by omega
    go_enter Tryd.func114, Tryd.ntmps114
    go_wp2_with fail
    go_ret
    exact ⟨ret_bool HR.out, Below.refl _ _⟩
end Go.Proofs.YtjofjpmhokjhnaaDoor
