/- The walks of slices.Equal at reads and at writes, of txn.Same, and the reference's Same. Conditions: what lies, lies below. -/
import Derived.Test.YtjofjpmhokjhnaaDoorWlM12
import Derived.Test.YtjofjpmhokjhnaaDoorWlM15
namespace Go.Proofs.YtjofjpmhokjhnaaDoor
set_option maxRecDepth 20000
open Go.RowKit
set_option linter.unusedSimpArgs false
set_option linter.unusedVariables false
namespace T
theorem fId : (Tryd.prog.fieldsOf 26).toList = [{ name := "Session", type := 3, offset := 0, embedded := false, tag := "", pkgPath := "", byteOffset := 0 },
    { name := "Seq", type := 3, offset := 1, embedded := false, tag := "", pkgPath := "", byteOffset := 8 }] := by kernel_rfl
theorem fRd : (Tryd.prog.fieldsOf 147).toList = [{ name := "Key", type := 9, offset := 0, embedded := false, tag := "", pkgPath := "", byteOffset := 0 },
    { name := "Version", type := 31, offset := 1, embedded := false, tag := "", pkgPath := "", byteOffset := 16 }] := by kernel_rfl
theorem fWr : (Tryd.prog.fieldsOf 140).toList = [{ name := "Key", type := 9, offset := 0, embedded := false, tag := "", pkgPath := "", byteOffset := 0 },
    { name := "Value", type := 35, offset := 1, embedded := false, tag := "", pkgPath := "", byteOffset := 16 }] := by kernel_rfl
theorem fVal : (Tryd.prog.fieldsOf 35).toList = [{ name := "Kind", type := 3, offset := 0, embedded := false, tag := "", pkgPath := "", byteOffset := 0 },
    { name := "Bits", type := 31, offset := 1, embedded := false, tag := "", pkgPath := "", byteOffset := 8 },
    { name := "Text", type := 9, offset := 2, embedded := false, tag := "", pkgPath := "", byteOffset := 16 }] := by kernel_rfl
theorem eqId (d : Nat) (s q s' q' : Int) (w : World) :
    (Op.equalIn (d + 2) 26 (.agg #[.int .i64 s, .int .i64 q]) (.agg #[.int .i64 s', .int .i64 q'])).run Tryd.prog w = .ok (decide (s = s' ∧ q = q')) w := by
  have hu : Tryd.prog.underlying 26 = some (.struct (Tryd.prog.fieldsOf 26)) := by kernel_rfl
  rw [run_equalIn_struct (P := Tryd.prog) w (d + 1) 26 _ _ hu (by kernel_rfl), fId]
  have e0 : ∀ w, (Op.equalIn (d + 1) 3 (.int .i64 s) (.int .i64 s')).run Tryd.prog w = .ok (s == s') w := fun w => run_equalIn_int w d 3 .i64 .i64 s s' Tryd.underlying3
  have e1 : ∀ w, (Op.equalIn (d + 1) 3 (.int .i64 q) (.int .i64 q')).run Tryd.prog w = .ok (q == q') w := fun w => run_equalIn_int w d 3 .i64 .i64 q q' Tryd.underlying3
  have p0 : ∀ (x y : Value) w, (part 3 #[x, y] 0).run Tryd.prog w = .ok x w := fun x y w => by rfl
  have p1 : ∀ (x y : Value) w, (part 3 #[x, y] 1).run Tryd.prog w = .ok y w := fun x y w => by rfl
  generalize hd : d + 1 = d1 at *
  clear hd
  by_cases hs : s = s'
  · subst hs
    by_cases hq : q = q'
    · subst hq; simp [Op.eqFields, e0, e1, p0, p1]
    · simp [Op.eqFields, e0, e1, p0, p1, hq]
  · simp [Op.eqFields, e0, e1, p0, p1, hs]
theorem run_eqId (s q s' q' : Int) (w : World) :
    (binOp .eql 26 (.agg #[.int .i64 s, .int .i64 q]) (.agg #[.int .i64 s', .int .i64 q'])).run Tryd.prog w = .ok (.bool (decide (s = s' ∧ q = q'))) w := by
  rw [run_eql_struct, show (10000 : Nat) = 9998 + 2 from rfl, eqId]; rfl
theorem run_neId (s q s' q' : Int) (w : World) :
    (binOp .neq 26 (.agg #[.int .i64 s, .int .i64 q]) (.agg #[.int .i64 s', .int .i64 q'])).run Tryd.prog w = .ok (.bool (!decide (s = s' ∧ q = q'))) w := by
  rw [run_neq_struct, show (10000 : Nat) = 9998 + 2 from rfl, eqId]; rfl
theorem eqRd (d : Nat) (k : ByteArray) (b : Nat) (k' : ByteArray) (b' : Nat) (w : World) :
    (Op.equalIn (d + 2) 147 (.agg #[.string k, .int .u64 b]) (.agg #[.string k', .int .u64 b'])).run Tryd.prog w = .ok (decide (k.toList = k'.toList ∧ b = b')) w := by
  have hu : Tryd.prog.underlying 147 = some (.struct (Tryd.prog.fieldsOf 147)) := by kernel_rfl
  rw [run_equalIn_struct (P := Tryd.prog) w (d + 1) 147 _ _ hu (by kernel_rfl), fRd]
  have e0 : ∀ w, (Op.equalIn (d + 1) 9 (.string k) (.string k')).run Tryd.prog w = .ok (k.toList == k'.toList) w := fun w => run_equalIn_string w d 9 k k' Tryd.underlying9
  have e1 : ∀ w, (Op.equalIn (d + 1) 31 (.int .u64 b) (.int .u64 b')).run Tryd.prog w = .ok ((b : Int) == (b' : Int)) w := fun w => run_equalIn_int w d 31 .u64 .u64 _ _ Tryd.underlying31
  have p0 : ∀ (x y : Value) w, (part 9 #[x, y] 0).run Tryd.prog w = .ok x w := fun x y w => by rfl
  have p1 : ∀ (x y : Value) w, (part 31 #[x, y] 1).run Tryd.prog w = .ok y w := fun x y w => by rfl
  generalize hd : d + 1 = d1 at *
  clear hd
  by_cases hk : k.toList = k'.toList
  · by_cases hb : b = b'
    · subst hb; simp [Op.eqFields, e0, e1, p0, p1, hk]
    · have : ¬ (b : Int) = (b' : Int) := by omega
      simp [Op.eqFields, e0, e1, p0, p1, hk, hb, this]
  · simp [Op.eqFields, e0, e1, p0, p1, hk]
theorem run_neRd (k : ByteArray) (b : Nat) (k' : ByteArray) (b' : Nat) (w : World) :
    (binOp .neq 147 (.agg #[.string k, .int .u64 b]) (.agg #[.string k', .int .u64 b'])).run Tryd.prog w = .ok (.bool (!decide (k.toList = k'.toList ∧ b = b'))) w := by
  rw [run_neq_struct, show (10000 : Nat) = 9998 + 2 from rfl, eqRd]; rfl
theorem eqVal (d : Nat) (k : Int) (b : Nat) (t : ByteArray) (k' : Int) (b' : Nat) (t' : ByteArray) (w : World) :
    (Op.equalIn (d + 2) 35 (.agg #[.int .i64 k, .int .u64 b, .string t]) (.agg #[.int .i64 k', .int .u64 b', .string t'])).run Tryd.prog w = .ok (decide (k = k' ∧ b = b' ∧ t.toList = t'.toList)) w := by
  have hu : Tryd.prog.underlying 35 = some (.struct (Tryd.prog.fieldsOf 35)) := by kernel_rfl
  rw [run_equalIn_struct (P := Tryd.prog) w (d + 1) 35 _ _ hu (by kernel_rfl), fVal]
  have e0 : ∀ w, (Op.equalIn (d + 1) 3 (.int .i64 k) (.int .i64 k')).run Tryd.prog w = .ok (k == k') w := fun w => run_equalIn_int w d 3 .i64 .i64 k k' Tryd.underlying3
  have e1 : ∀ w, (Op.equalIn (d + 1) 31 (.int .u64 b) (.int .u64 b')).run Tryd.prog w = .ok ((b : Int) == (b' : Int)) w := fun w => run_equalIn_int w d 31 .u64 .u64 _ _ Tryd.underlying31
  have e2 : ∀ w, (Op.equalIn (d + 1) 9 (.string t) (.string t')).run Tryd.prog w = .ok (t.toList == t'.toList) w := fun w => run_equalIn_string w d 9 t t' Tryd.underlying9
  have p0 : ∀ (x y z : Value) w, (part 3 #[x, y, z] 0).run Tryd.prog w = .ok x w := fun x y z w => by rfl
  have p1 : ∀ (x y z : Value) w, (part 31 #[x, y, z] 1).run Tryd.prog w = .ok y w := fun x y z w => by rfl
  have p2 : ∀ (x y z : Value) w, (part 9 #[x, y, z] 2).run Tryd.prog w = .ok z w := fun x y z w => by rfl
  generalize hd : d + 1 = d1 at *
  clear hd
  by_cases hk : k = k'
  · subst hk
    by_cases hb : b = b'
    · subst hb
      by_cases ht : t.toList = t'.toList
      · simp [Op.eqFields, e0, e1, e2, p0, p1, p2, ht]
      · simp [Op.eqFields, e0, e1, e2, p0, p1, p2, ht]
    · simp [Op.eqFields, e0, e1, e2, p0, p1, p2, hb]
      exact fun h => absurd (by omega) hb
  · simp [Op.eqFields, e0, e1, e2, p0, p1, p2, hk]
theorem eqWr (d : Nat) (y : ByteArray) (k : Int) (b : Nat) (t : ByteArray) (y' : ByteArray) (k' : Int) (b' : Nat) (t' : ByteArray) (w : World) :
    (Op.equalIn (d + 3) 140 (.agg #[.string y, .int .i64 k, .int .u64 b, .string t]) (.agg #[.string y', .int .i64 k', .int .u64 b', .string t'])).run Tryd.prog w = .ok (decide (y.toList = y'.toList ∧ k = k' ∧ b = b' ∧ t.toList = t'.toList)) w := by
  have hu : Tryd.prog.underlying 140 = some (.struct (Tryd.prog.fieldsOf 140)) := by kernel_rfl
  rw [run_equalIn_struct (P := Tryd.prog) w (d + 2) 140 _ _ hu (by kernel_rfl), fWr]
  have e0 : ∀ w, (Op.equalIn (d + 2) 9 (.string y) (.string y')).run Tryd.prog w = .ok (y.toList == y'.toList) w := fun w => run_equalIn_string w (d + 1) 9 y y' Tryd.underlying9
  have e1 := fun w => eqVal d k b t k' b' t' w
  have p0 : ∀ (x y z u : Value) w, (part 9 #[x, y, z, u] 0).run Tryd.prog w = .ok x w := fun x y z u w => by rfl
  have p1 : ∀ (x y z u : Value) w, (part 35 #[x, y, z, u] 1).run Tryd.prog w = .ok (.agg #[y, z, u]) w := fun x y z u w => by rfl
  generalize hd : d + 2 = d1 at *
  clear hd
  rw [show decide (y.toList = y'.toList ∧ k = k' ∧ b = b' ∧ t.toList = t'.toList) = (decide (y.toList = y'.toList) && decide (k = k' ∧ b = b' ∧ t.toList = t'.toList)) from Bool.decide_and _ _]
  generalize decide (k = k' ∧ b = b' ∧ t.toList = t'.toList) = p at *
  by_cases hk : y.toList = y'.toList
  · cases p <;> simp [Op.eqFields, e0, e1, p0, p1, hk]
  · simp [Op.eqFields, e0, e1, p0, p1, hk]
theorem run_neWr (y : ByteArray) (k : Int) (b : Nat) (t : ByteArray) (y' : ByteArray) (k' : Int) (b' : Nat) (t' : ByteArray) (w : World) :
    (binOp .neq 140 (.agg #[.string y, .int .i64 k, .int .u64 b, .string t]) (.agg #[.string y', .int .i64 k', .int .u64 b', .string t'])).run Tryd.prog w = .ok (.bool (!decide (y.toList = y'.toList ∧ k = k' ∧ b = b' ∧ t.toList = t'.toList))) w := by
  rw [run_neq_struct, show (10000 : Nat) = 9997 + 3 from rfl, eqWr]; rfl
end T
end Go.Proofs.YtjofjpmhokjhnaaDoor

namespace Go.Proofs.YtjofjpmhokjhnaaDoor
set_option maxRecDepth 20001
open Go.RowKit T
set_option linter.unusedSimpArgs false
set_option linter.unusedVariables false

theorem T.eq_true {α : Type} {xs ys : List α} (hl : xs.length = ys.length) (h : ∀ k, ∀ hk : k < xs.length, xs[k] = ys[k]) : xs = ys := List.ext_getElem hl fun k h1 h2 => h k h1
set_option maxHeartbeats 3200000 in
theorem eqr_any (xs ys : List Rd1) (A A' : Option Addr) (c c' : Nat) (w : World) (B : Nat) (hB : B ≤ w.heap.size) (hx : RowsAt w B A 2 (xs.map encR)) (hy : RowsAt w B A' 2 (ys.map encR)) (hc : xs.length ≤ c) (hm : c ≤ maxLen) (hc' : ys.length ≤ c') (hm' : c' ≤ maxLen) :
    Calls Tryd.prog 113 #[.slice A xs.length c, .slice A' ys.length c'] w fun e w' => e = .returned (.bool (decide (xs = ys))) ∧ Below w.heap.size w w' := by
  obtain ⟨p, hp⟩ : ∃ p : Bool, p = decide (xs = ys) := ⟨_, rfl⟩
  have HP := Lib.hid hp
  rw [← hp]
  obtain ⟨n, hn⟩ : ∃ n, n = xs.length := ⟨_, rfl⟩
  obtain ⟨m, hmm⟩ : ∃ m, m = ys.length := ⟨_, rfl⟩
  have HN := Lib.hid hn
  have HM := Lib.hid hmm
  rw [← hn] at hc ⊢
  rw [← hmm] at hc' ⊢
  clear hn hmm hp
  unfold maxLen at hm hm'
  by_cases hnm : n = m
  · subst hnm
    go_enter Tryd.func113, Tryd.ntmps113
    go_wp2_with fail
    go_loopw [5, 13] (fun _ i wr => ∃ k : Nat, k ≤ n ∧ i = .int .i64 (k : Int) ∧ Hid (∀ j, ∀ hj : j < xs.length, j < k → xs[j] = ys[j]?.getD ([], 0)) ∧ ∃ q, wr = w.drewN q) (fun _ i _ => n - (intOf i).toNat)
    case atStart => exact ⟨0, Nat.zero_le _, rfl, fun j _ hj => absurd hj (Nat.not_lt_zero _), 0, rfl⟩
    case round =>
      obtain ⟨k, hk, rfl, HG, q, rfl⟩ := hrel
      by_cases hlt : k < n
      · have hkx : k < xs.length := by rw [← HN.out]; exact hlt
        have hky : k < ys.length := by rw [← HM.out]; exact hlt
        obtain ⟨b, off, rfl, hb, x0, x1⟩ := hx.rd k hkx
        obtain ⟨b', off', rfl, hb', y0, y1⟩ := hy.rd k hky
        have HE : Hid ((⟨xs[k].1.toArray⟩ : ByteArray).toList = (⟨ys[k].1.toArray⟩ : ByteArray).toList ∧ xs[k].2 = ys[k].2 ↔ xs[k] = ys[k]) := by
          show _ ↔ _
          rw [Lib.toList_data, Lib.toList_data]
          exact ⟨fun h => Prod.ext h.1 h.2, fun h => by rw [h]; exact ⟨rfl, rfl⟩⟩
        have hne := fun z => run_neRd ⟨xs[k].1.toArray⟩ xs[k].2 ⟨ys[k].1.toArray⟩ ys[k].2 z
        cases hd : decide ((⟨xs[k].1.toArray⟩ : ByteArray).toList = (⟨ys[k].1.toArray⟩ : ByteArray).toList ∧ xs[k].2 = ys[k].2) with
        | false =>
          rw [hd] at hne
          have HR : Hid (false = p) := by
            show _ = _
            rw [HP.out, decide_eq_false]
            intro e
            exact of_decide_eq_false hd (HE.out.2 (by subst e; rfl))
          clear HE HG hd
          generalize (⟨xs[k].1.toArray⟩ : ByteArray) = xa at x0 hne
          generalize xs[k].2 = xb at x1 hne
          generalize (⟨ys[k].1.toArray⟩ : ByteArray) = ya at y0 hne
          generalize ys[k].2 = yb at y1 hne
          simp only [Bool.not_false] at hne
          go_wp2_with fail
          go_quiet (fail)
          go_wp2_with fail
          go_ret
          exact ⟨ret_bool HR.out, belowDrewN (belowDrewN (Below.refl _ _) _) _⟩
        | true =>
          rw [hd] at hne
          have HG' : Hid (∀ j, ∀ hj : j < xs.length, j < k + 1 → xs[j] = ys[j]?.getD ([], 0)) := fun j hj hjk => by
            by_cases e : j = k
            · subst e
              rw [List.getElem?_eq_getElem hky]
              exact HE.out.1 (of_decide_eq_true hd)
            · exact HG.out j hj (by omega)
          clear HE HG hd
          generalize (⟨xs[k].1.toArray⟩ : ByteArray) = xa at x0 hne
          generalize xs[k].2 = xb at x1 hne
          generalize (⟨ys[k].1.toArray⟩ : ByteArray) = ya at y0 hne
          generalize ys[k].2 = yb at y1 hne
          simp only [Bool.not_true] at hne
          go_wp2_with fail
          go_quiet (fail)
          go_wp2_with fail
          go_roundw
          case rel => exact ⟨k + 1, by omega, by go_num, HG', _, rfl⟩
          case measure => first | (simp [intOf]; done) | (simp [intOf]; omega)
      · obtain rfl : k = n := by omega
        have HR : Hid (true = p) := by
          show _ = _
          rw [HP.out, decide_eq_true (eq_true (by rw [← HN.out, ← HM.out]) fun j hj => ?_)]
          have := HG.out j hj (by rw [HN.out]; exact hj)
          rw [List.getElem?_eq_getElem (by rw [← HM.out, HN.out]; exact hj)] at this
          exact this
        clear HG
        go_wp2_with fail
        go_ret
        exact ⟨ret_bool HR.out, belowDrewN (Below.refl _ _) _⟩
  · have HR : Hid (false = p) := by
      show _ = _
      rw [HP.out, decide_eq_false]
      intro e
      exact hnm (by rw [HN.out, HM.out, e])
    have hnm' : ¬ (n : Int) = (m : Int) := by omega
    go_enter Tryd.func113, Tryd.ntmps113
    go_wp2_with fail
    go_ret
    exact ⟨ret_bool HR.out, Below.refl _ _⟩
set_option maxHeartbeats 3200000 in
theorem eqw_any (xs ys : List Wr1) (A A' : Option Addr) (c c' : Nat) (w : World) (B : Nat) (hB : B ≤ w.heap.size) (hx : RowsAt w B A 4 (xs.map encW)) (hy : RowsAt w B A' 4 (ys.map encW)) (hc : xs.length ≤ c) (hm : c ≤ maxLen) (hc' : ys.length ≤ c') (hm' : c' ≤ maxLen) :
    Calls Tryd.prog 114 #[.slice A xs.length c, .slice A' ys.length c'] w fun e w' => e = .returned (.bool (decide (xs = ys))) ∧ Below w.heap.size w w' := by
  obtain ⟨p, hp⟩ : ∃ p : Bool, p = decide (xs = ys) := ⟨_, rfl⟩
  have HP := Lib.hid hp
  rw [← hp]
  obtain ⟨n, hn⟩ : ∃ n, n = xs.length := ⟨_, rfl⟩
  obtain ⟨m, hmm⟩ : ∃ m, m = ys.length := ⟨_, rfl⟩
  have HN := Lib.hid hn
  have HM := Lib.hid hmm
  rw [← hn] at hc ⊢
  rw [← hmm] at hc' ⊢
  clear hn hmm hp
  unfold maxLen at hm hm'
  by_cases hnm : n = m
  · subst hnm
    go_enter Tryd.func114, Tryd.ntmps114
    go_wp2_with fail
    go_loopw [5, 13] (fun _ i wr => ∃ k : Nat, k ≤ n ∧ i = .int .i64 (k : Int) ∧ Hid (∀ j, ∀ hj : j < xs.length, j < k → xs[j] = ys[j]?.getD ([], 0, 0, [])) ∧ ∃ q, wr = w.drewN q) (fun _ i _ => n - (intOf i).toNat)
    case atStart => exact ⟨0, Nat.zero_le _, rfl, fun j _ hj => absurd hj (Nat.not_lt_zero _), 0, rfl⟩
    case round =>
      obtain ⟨k, hk, rfl, HG, q, rfl⟩ := hrel
      by_cases hlt : k < n
      · have hkx : k < xs.length := by rw [← HN.out]; exact hlt
        have hky : k < ys.length := by rw [← HM.out]; exact hlt
        obtain ⟨b, off, rfl, hb, x0, x1, x2, x3⟩ := hx.wr k hkx
        obtain ⟨b', off', rfl, hb', y0, y1, y2, y3⟩ := hy.wr k hky
        have HE : Hid ((⟨xs[k].1.toArray⟩ : ByteArray).toList = (⟨ys[k].1.toArray⟩ : ByteArray).toList ∧ xs[k].2.1 = ys[k].2.1 ∧ xs[k].2.2.1 = ys[k].2.2.1 ∧ (⟨xs[k].2.2.2.toArray⟩ : ByteArray).toList = (⟨ys[k].2.2.2.toArray⟩ : ByteArray).toList ↔ xs[k] = ys[k]) := by
          show _ ↔ _
          rw [Lib.toList_data, Lib.toList_data, Lib.toList_data, Lib.toList_data]
          exact ⟨fun h => Prod.ext h.1 (Prod.ext h.2.1 (Prod.ext h.2.2.1 h.2.2.2)), fun h => by rw [h]; exact ⟨rfl, rfl, rfl, rfl⟩⟩
        have hne := fun z => run_neWr ⟨xs[k].1.toArray⟩ xs[k].2.1 xs[k].2.2.1 ⟨xs[k].2.2.2.toArray⟩ ⟨ys[k].1.toArray⟩ ys[k].2.1 ys[k].2.2.1 ⟨ys[k].2.2.2.toArray⟩ z
        cases hd : decide ((⟨xs[k].1.toArray⟩ : ByteArray).toList = (⟨ys[k].1.toArray⟩ : ByteArray).toList ∧ xs[k].2.1 = ys[k].2.1 ∧ xs[k].2.2.1 = ys[k].2.2.1 ∧ (⟨xs[k].2.2.2.toArray⟩ : ByteArray).toList = (⟨ys[k].2.2.2.toArray⟩ : ByteArray).toList) with
        | false =>
          rw [hd] at hne
          have HR : Hid (false = p) := by
            show _ = _
            rw [HP.out, decide_eq_false]
            intro e
            exact of_decide_eq_false hd (HE.out.2 (by subst e; rfl))
          clear HE HG hd
          generalize (⟨xs[k].1.toArray⟩ : ByteArray) = xa at x0 hne
          generalize (⟨xs[k].2.2.2.toArray⟩ : ByteArray) = xd at x3 hne
          generalize xs[k].2.2.1 = xc at x2 hne
          generalize xs[k].2.1 = xb at x1 hne
          generalize (⟨ys[k].1.toArray⟩ : ByteArray) = ya at y0 hne
          generalize (⟨ys[k].2.2.2.toArray⟩ : ByteArray) = yd at y3 hne
          generalize ys[k].2.2.1 = yc at y2 hne
          generalize ys[k].2.1 = yb at y1 hne
          simp only [Bool.not_false] at hne
          go_wp2_with fail
          go_quiet (fail)
          go_wp2_with fail
          go_ret
          exact ⟨ret_bool HR.out, belowDrewN (belowDrewN (Below.refl _ _) _) _⟩
        | true =>
          rw [hd] at hne
          have HG' : Hid (∀ j, ∀ hj : j < xs.length, j < k + 1 → xs[j] = ys[j]?.getD ([], 0, 0, [])) := fun j hj hjk => by
            by_cases e : j = k
            · subst e
              rw [List.getElem?_eq_getElem hky]
              exact HE.out.1 (of_decide_eq_true hd)
            · exact HG.out j hj (by omega)
          clear HE HG hd
          generalize (⟨xs[k].1.toArray⟩ : ByteArray) = xa at x0 hne
          generalize (⟨xs[k].2.2.2.toArray⟩ : ByteArray) = xd at x3 hne
          generalize xs[k].2.2.1 = xc at x2 hne
          generalize xs[k].2.1 = xb at x1 hne
          generalize (⟨ys[k].1.toArray⟩ : ByteArray) = ya at y0 hne
          generalize (⟨ys[k].2.2.2.toArray⟩ : ByteArray) = yd at y3 hne
          generalize ys[k].2.2.1 = yc at y2 hne
          generalize ys[k].2.1 = yb at y1 hne
          simp only [Bool.not_true] at hne
          go_wp2_with fail
          go_quiet (fail)
          go_wp2_with fail
          go_roundw
          case rel => exact ⟨k + 1, by omega, by go_num, HG', _, rfl⟩
          case measure => first | (simp [intOf]; done) | (simp [intOf]; omega)
      · obtain rfl : k = n := by omega
        have HR : Hid (true = p) := by
          show _ = _
          rw [HP.out, decide_eq_true (eq_true (by rw [← HN.out, ← HM.out]) fun j hj => ?_)]
          have := HG.out j hj (by rw [HN.out]; exact hj)
          rw [List.getElem?_eq_getElem (by rw [← HM.out, HN.out]; exact hj)] at this
          exact this
        clear HG
        go_wp2_with fail
        go_ret
        exact ⟨ret_bool HR.out, belowDrewN (Below.refl _ _) _⟩
  · have HR : Hid (false = p) := by
      show _ = _
      rw [HP.out, decide_eq_false]
      intro e
      exact hnm (by rw [HN.out, HM.out, e])
    have hnm' : ¬ (n : Int) = (m : Int) := by omega
    go_enter Tryd.func114, Tryd.ntmps114
    go_wp2_with fail
    go_ret
    exact ⟨ret_bool HR.out, Below.refl _ _⟩
end Go.Proofs.YtjofjpmhokjhnaaDoor
