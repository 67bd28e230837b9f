import Derived.Test.YthclniimhpmeoaaGreatDoorMrM13
set_option maxHeartbeats 6400000
set_option maxRecDepth 20001
set_option linter.unusedSimpArgs false
set_option linter.unusedVariables false
namespace Go.Proofs.YthclniimhpmeoaaGreatDoor
set_option maxRecDepth 20000
section
open Go.RowKit
namespace T
theorem fId : (Tryz.prog.fieldsOf 26).toList = [{ name := "Session", type := 3, offset := 0, embedded := false, tag := "", pkgPath := "", byteOffset := 0 },
 { name := "Seq", type := 3, offset := 1, embedded := false, tag := "", pkgPath := "", byteOffset := 8 }] := by kernel_rfl
theorem fRd : (Tryz.prog.fieldsOf 161).toList = [{ name := "Key", type := 9, offset := 0, embedded := false, tag := "", pkgPath := "", byteOffset := 0 },
 { name := "Version", type := 31, offset := 1, embedded := false, tag := "", pkgPath := "", byteOffset := 16 }] := by kernel_rfl
theorem fWr : (Tryz.prog.fieldsOf 163).toList = [{ name := "Key", type := 9, offset := 0, embedded := false, tag := "", pkgPath := "", byteOffset := 0 },
 { name := "Value", type := 77, offset := 1, embedded := false, tag := "", pkgPath := "", byteOffset := 16 }] := by kernel_rfl
theorem fVal : (Tryz.prog.fieldsOf 77).toList = [{ name := "Kind", type := 3, offset := 0, embedded := false, tag := "", pkgPath := "", byteOffset := 0 },
 { name := "Bits", type := 31, offset := 1, embedded := false, tag := "", pkgPath := "", byteOffset := 8 },
 { name := "Text", type := 9, offset := 2, embedded := false, tag := "", pkgPath := "", byteOffset := 16 }] := by kernel_rfl
theorem eqId (d : Nat) (s q s' q' : Int) (w : World) :
 (Op.equalIn (d + 2) 26 (.agg #[.int .i64 s, .int .i64 q]) (.agg #[.int .i64 s', .int .i64 q'])).run Tryz.prog w = .ok (decide (s = s' ∧ q = q')) w := by
 (have hu : Tryz.prog.underlying 26 = some (.struct (Tryz.prog.fieldsOf 26)) := by kernel_rfl);rw [run_equalIn_struct (P := Tryz.prog) w (d + 1) 26 _ _ hu (by kernel_rfl), fId];have e0 : ∀ w, (Op.equalIn (d + 1) 3 (.int .i64 s) (.int .i64 s')).run Tryz.prog w = .ok (s == s') w := fun w => run_equalIn_int w d 3 .i64 .i64 s s' Tryz.underlying3;have e1 : ∀ w, (Op.equalIn (d + 1) 3 (.int .i64 q) (.int .i64 q')).run Tryz.prog w = .ok (q == q') w := fun w => run_equalIn_int w d 3 .i64 .i64 q q' Tryz.underlying3;(have p0 : ∀ (x y : Value) w, (part 3 #[x, y] 0).run Tryz.prog w = .ok x w := fun x y w => by rfl);(have p1 : ∀ (x y : Value) w, (part 3 #[x, y] 1).run Tryz.prog w = .ok y w := fun x y w => by rfl);generalize hd : d + 1 = d1 at *;clear hd
 by_cases hs : s = s'
 ·subst hs
  by_cases hq : q = q'
  ·subst hq; simp [Op.eqFields, e0, e1, p0, p1]
  ·simp [Op.eqFields, e0, e1, p0, p1, hq]
 ·simp [Op.eqFields, e0, e1, p0, p1, hs]
theorem run_eqId (s q s' q' : Int) (w : World) :
 (binOp .eql 26 (.agg #[.int .i64 s, .int .i64 q]) (.agg #[.int .i64 s', .int .i64 q'])).run Tryz.prog w = .ok (.bool (decide (s = s' ∧ q = q'))) w := by
 rw [run_eql_struct, show (10000 : Nat) = 9998 + 2 from rfl, eqId]; rfl
theorem run_neId (s q s' q' : Int) (w : World) :
 (binOp .neq 26 (.agg #[.int .i64 s, .int .i64 q]) (.agg #[.int .i64 s', .int .i64 q'])).run Tryz.prog w = .ok (.bool (!decide (s = s' ∧ q = q'))) w := by
 rw [run_neq_struct, show (10000 : Nat) = 9998 + 2 from rfl, eqId]; rfl
theorem eqRd (d : Nat) (k : ByteArray) (b : Nat) (k' : ByteArray) (b' : Nat) (w : World) :
 (Op.equalIn (d + 2) 161 (.agg #[.string k, .int .u64 b]) (.agg #[.string k', .int .u64 b'])).run Tryz.prog w = .ok (decide (k.toList = k'.toList ∧ b = b')) w := by
 (have hu : Tryz.prog.underlying 161 = some (.struct (Tryz.prog.fieldsOf 161)) := by kernel_rfl);rw [run_equalIn_struct (P := Tryz.prog) w (d + 1) 161 _ _ hu (by kernel_rfl), fRd];have e0 : ∀ w, (Op.equalIn (d + 1) 9 (.string k) (.string k')).run Tryz.prog w = .ok (k.toList == k'.toList) w := fun w => run_equalIn_string w d 9 k k' Tryz.underlying9;have e1 : ∀ w, (Op.equalIn (d + 1) 31 (.int .u64 b) (.int .u64 b')).run Tryz.prog w = .ok ((b : Int) == (b' : Int)) w := fun w => run_equalIn_int w d 31 .u64 .u64 _ _ Tryz.underlying31;(have p0 : ∀ (x y : Value) w, (part 9 #[x, y] 0).run Tryz.prog w = .ok x w := fun x y w => by rfl);(have p1 : ∀ (x y : Value) w, (part 31 #[x, y] 1).run Tryz.prog w = .ok y w := fun x y w => by rfl);generalize hd : d + 1 = d1 at *;clear hd
 by_cases hk : k.toList = k'.toList
 ·by_cases hb : b = b'
  ·subst hb; simp [Op.eqFields, e0, e1, p0, p1, hk]
  ·(have : ¬ (b : Int) = (b' : Int) := by omega);simp [Op.eqFields, e0, e1, p0, p1, hk, hb, this]
 ·simp [Op.eqFields, e0, e1, p0, p1, hk]
theorem run_neRd (k : ByteArray) (b : Nat) (k' : ByteArray) (b' : Nat) (w : World) :
 (binOp .neq 161 (.agg #[.string k, .int .u64 b]) (.agg #[.string k', .int .u64 b'])).run Tryz.prog w = .ok (.bool (!decide (k.toList = k'.toList ∧ b = b'))) w := by
 rw [run_neq_struct, show (10000 : Nat) = 9998 + 2 from rfl, eqRd]; rfl
theorem eqVal (d : Nat) (k : Int) (b : Nat) (t : ByteArray) (k' : Int) (b' : Nat) (t' : ByteArray) (w : World) :
 (Op.equalIn (d + 2) 77 (.agg #[.int .i64 k, .int .u64 b, .string t]) (.agg #[.int .i64 k', .int .u64 b', .string t'])).run Tryz.prog w = .ok (decide (k = k' ∧ b = b' ∧ t.toList = t'.toList)) w := by
 (have hu : Tryz.prog.underlying 77 = some (.struct (Tryz.prog.fieldsOf 77)) := by kernel_rfl);rw [run_equalIn_struct (P := Tryz.prog) w (d + 1) 77 _ _ hu (by kernel_rfl), fVal];have e0 : ∀ w, (Op.equalIn (d + 1) 3 (.int .i64 k) (.int .i64 k')).run Tryz.prog w = .ok (k == k') w := fun w => run_equalIn_int w d 3 .i64 .i64 k k' Tryz.underlying3;have e1 : ∀ w, (Op.equalIn (d + 1) 31 (.int .u64 b) (.int .u64 b')).run Tryz.prog w = .ok ((b : Int) == (b' : Int)) w := fun w => run_equalIn_int w d 31 .u64 .u64 _ _ Tryz.underlying31;have e2 : ∀ w, (Op.equalIn (d + 1) 9 (.string t) (.string t')).run Tryz.prog w = .ok (t.toList == t'.toList) w := fun w => run_equalIn_string w d 9 t t' Tryz.underlying9;(have p0 : ∀ (x y z : Value) w, (part 3 #[x, y, z] 0).run Tryz.prog w = .ok x w := fun x y z w => by rfl);(have p1 : ∀ (x y z : Value) w, (part 31 #[x, y, z] 1).run Tryz.prog w = .ok y w := fun x y z w => by rfl);(have p2 : ∀ (x y z : Value) w, (part 9 #[x, y, z] 2).run Tryz.prog w = .ok z w := fun x y z w => by rfl);generalize hd : d + 1 = d1 at *;clear hd
 by_cases hk : k = k'
 ·subst hk
  by_cases hb : b = b'
  ·subst hb
   by_cases ht : t.toList = t'.toList
   ·simp [Op.eqFields, e0, e1, e2, p0, p1, p2, ht]
   ·simp [Op.eqFields, e0, e1, e2, p0, p1, p2, ht]
  ·simp [Op.eqFields, e0, e1, e2, p0, p1, p2, hb];exact fun h => absurd (by omega) hb
 ·simp [Op.eqFields, e0, e1, e2, p0, p1, p2, hk]
theorem eqWr (d : Nat) (y : ByteArray) (k : Int) (b : Nat) (t : ByteArray) (y' : ByteArray) (k' : Int) (b' : Nat) (t' : ByteArray) (w : World) :
 (Op.equalIn (d + 3) 163 (.agg #[.string y, .int .i64 k, .int .u64 b, .string t]) (.agg #[.string y', .int .i64 k', .int .u64 b', .string t'])).run Tryz.prog w = .ok (decide (y.toList = y'.toList ∧ k = k' ∧ b = b' ∧ t.toList = t'.toList)) w := by
 (have hu : Tryz.prog.underlying 163 = some (.struct (Tryz.prog.fieldsOf 163)) := by kernel_rfl);rw [run_equalIn_struct (P := Tryz.prog) w (d + 2) 163 _ _ hu (by kernel_rfl), fWr];have e0 : ∀ w, (Op.equalIn (d + 2) 9 (.string y) (.string y')).run Tryz.prog w = .ok (y.toList == y'.toList) w := fun w => run_equalIn_string w (d + 1) 9 y y' Tryz.underlying9;have e1 := fun w => eqVal d k b t k' b' t' w;(have p0 : ∀ (x y z u : Value) w, (part 9 #[x, y, z, u] 0).run Tryz.prog w = .ok x w := fun x y z u w => by rfl);(have p1 : ∀ (x y z u : Value) w, (part 77 #[x, y, z, u] 1).run Tryz.prog w = .ok (.agg #[y, z, u]) w := fun x y z u w => by rfl);generalize hd : d + 2 = d1 at *;clear hd;rw [show decide (y.toList = y'.toList ∧ k = k' ∧ b = b' ∧ t.toList = t'.toList) = (decide (y.toList = y'.toList) && decide (k = k' ∧ b = b' ∧ t.toList = t'.toList)) from Bool.decide_and _ _];generalize decide (k = k' ∧ b = b' ∧ t.toList = t'.toList) = p at *
 by_cases hk : y.toList = y'.toList
 ·cases p <;> simp [Op.eqFields, e0, e1, p0, p1, hk]
 ·simp [Op.eqFields, e0, e1, p0, p1, hk]
theorem run_neWr (y : ByteArray) (k : Int) (b : Nat) (t : ByteArray) (y' : ByteArray) (k' : Int) (b' : Nat) (t' : ByteArray) (w : World) :
 (binOp .neq 163 (.agg #[.string y, .int .i64 k, .int .u64 b, .string t]) (.agg #[.string y', .int .i64 k', .int .u64 b', .string t'])).run Tryz.prog w = .ok (.bool (!decide (y.toList = y'.toList ∧ k = k' ∧ b = b' ∧ t.toList = t'.toList))) w := by
 rw [run_neq_struct, show (10000 : Nat) = 9997 + 3 from rfl, eqWr]; rfl
end T
end
section
open Go.RowKit T
theorem T.eq_true {α : Type} {xs ys : List α} (hl : xs.length = ys.length) (h : ∀ k, ∀ hk : k < xs.length, xs[k] = ys[k]) : xs = ys := List.ext_getElem hl fun k h1 h2 => h k h1
theorem eqr_any (xs ys : List Rd1) (A A' : Option Addr) (c c' : Nat) (w : World) (B : Nat) (hB : B ≤ w.heap.size) (hx : RowsAt w B A 2 (xs.map encR)) (hy : RowsAt w B A' 2 (ys.map encR)) (hc : xs.length ≤ c) (hm : c ≤ maxLen) (hc' : ys.length ≤ c') (hm' : c' ≤ maxLen) :
 Calls Tryz.prog 126 #[.slice A xs.length c, .slice A' ys.length c'] w fun e w' => e = .returned (.bool (decide (xs = ys))) ∧ Below w.heap.size w w' := by
 obtain ⟨p, hp⟩ : ∃ p : Bool, p = decide (xs = ys) := ⟨_, rfl⟩;have HP := Lib.hid hp;rw [← hp];obtain ⟨n, hn⟩ : ∃ n, n = xs.length := ⟨_, rfl⟩;obtain ⟨m, hmm⟩ : ∃ m, m = ys.length := ⟨_, rfl⟩;have HN := Lib.hid hn;have HM := Lib.hid hmm;rw [← hn] at hc ⊢;rw [← hmm] at hc' ⊢;clear hn hmm hp;unfold maxLen at hm hm'
 by_cases hnm : n = m
 ·subst hnm
  go_enter Tryz.func126, Tryz.ntmps126
  go_wp2_with fail
  go_loopw [5, 13] (fun _ i wr => ∃ k : Nat, k ≤ n ∧ i = .int .i64 (k : Int) ∧ Hid (∀ j, ∀ hj : j < xs.length, j < k → xs[j] = ys[j]?.getD ([], 0)) ∧ ∃ q, wr = w.drewN q) (fun _ i _ => n - (intOf i).toNat)
  case atStart => exact ⟨0, Nat.zero_le _, rfl, fun j _ hj => absurd hj (Nat.not_lt_zero _), 0, rfl⟩
  case round =>
   obtain ⟨k, hk, rfl, HG, q, rfl⟩ := hrel
   by_cases hlt : k < n
   ·(have hkx : k < xs.length := by rw [← HN.out]; exact hlt);(have hky : k < ys.length := by rw [← HM.out]; exact hlt);obtain ⟨b, off, rfl, hb, x0, x1⟩ := hx.rd k hkx;obtain ⟨b', off', rfl, hb', y0, y1⟩ := hy.rd k hky
    have HE : Hid ((⟨xs[k].1.toArray⟩ : ByteArray).toList = (⟨ys[k].1.toArray⟩ : ByteArray).toList ∧ xs[k].2 = ys[k].2 ↔ xs[k] = ys[k]) := by
     show _ ↔ _;rw [Lib.toList_data, Lib.toList_data];exact ⟨fun h => Prod.ext h.1 h.2, fun h => by rw [h]; exact ⟨rfl, rfl⟩⟩
    have hne := fun z => run_neRd ⟨xs[k].1.toArray⟩ xs[k].2 ⟨ys[k].1.toArray⟩ ys[k].2 z
    cases hd : decide ((⟨xs[k].1.toArray⟩ : ByteArray).toList = (⟨ys[k].1.toArray⟩ : ByteArray).toList ∧ xs[k].2 = ys[k].2) with
    | false =>
      rw [hd] at hne
      have HR : Hid (false = p) := by
       show _ = _;rw [HP.out, decide_eq_false];intro e;exact of_decide_eq_false hd (HE.out.2 (by subst e; rfl))
      clear HE HG hd;generalize (⟨xs[k].1.toArray⟩ : ByteArray) = xa at x0 hne;generalize xs[k].2 = xb at x1 hne;generalize (⟨ys[k].1.toArray⟩ : ByteArray) = ya at y0 hne;generalize ys[k].2 = yb at y1 hne;simp only [Bool.not_false] at hne
      go_wp2_with fail
      go_quiet (fail)
      go_wp2_with fail
      go_ret
      exact ⟨ret_bool HR.out, belowDrewN (belowDrewN (Below.refl _ _) _) _⟩
    | true =>
      rw [hd] at hne
      have HG' : Hid (∀ j, ∀ hj : j < xs.length, j < k + 1 → xs[j] = ys[j]?.getD ([], 0)) := fun j hj hjk => by
       by_cases e : j = k
       ·subst e;rw [List.getElem?_eq_getElem hky];exact HE.out.1 (of_decide_eq_true hd)
       ·exact HG.out j hj (by omega)
      clear HE HG hd;generalize (⟨xs[k].1.toArray⟩ : ByteArray) = xa at x0 hne;generalize xs[k].2 = xb at x1 hne;generalize (⟨ys[k].1.toArray⟩ : ByteArray) = ya at y0 hne;generalize ys[k].2 = yb at y1 hne;simp only [Bool.not_true] at hne
      go_wp2_with fail
      go_quiet (fail)
      go_wp2_with fail
      go_roundw
      case rel => exact ⟨k + 1, by omega, by go_num, HG', _, rfl⟩
      case measure => first | (simp [intOf]; done) | (simp [intOf]; omega)
   ·obtain rfl : k = n := by omega
    have HR : Hid (true = p) := by
     show _ = _;rw [HP.out, decide_eq_true (eq_true (by rw [← HN.out, ← HM.out]) fun j hj => ?_)];have := HG.out j hj (by rw [HN.out]; exact hj);rw [List.getElem?_eq_getElem (by rw [← HM.out, HN.out]; exact hj)] at this;exact this
    clear HG
    go_wp2_with fail
    go_ret
    exact ⟨ret_bool HR.out, belowDrewN (Below.refl _ _) _⟩
 ·have HR : Hid (false = p) := by
   show _ = _;rw [HP.out, decide_eq_false];intro e;exact hnm (by rw [HN.out, HM.out, e])
  have hnm' : ¬ (n : Int) = (m : Int) := by omega
  go_enter Tryz.func126, Tryz.ntmps126
  go_wp2_with fail
  go_ret
  exact ⟨ret_bool HR.out, Below.refl _ _⟩
theorem eqw_any (xs ys : List Wr1) (A A' : Option Addr) (c c' : Nat) (w : World) (B : Nat) (hB : B ≤ w.heap.size) (hx : RowsAt w B A 4 (xs.map encW)) (hy : RowsAt w B A' 4 (ys.map encW)) (hc : xs.length ≤ c) (hm : c ≤ maxLen) (hc' : ys.length ≤ c') (hm' : c' ≤ maxLen) :
 Calls Tryz.prog 127 #[.slice A xs.length c, .slice A' ys.length c'] w fun e w' => e = .returned (.bool (decide (xs = ys))) ∧ Below w.heap.size w w' := by
 obtain ⟨p, hp⟩ : ∃ p : Bool, p = decide (xs = ys) := ⟨_, rfl⟩;have HP := Lib.hid hp;rw [← hp];obtain ⟨n, hn⟩ : ∃ n, n = xs.length := ⟨_, rfl⟩;obtain ⟨m, hmm⟩ : ∃ m, m = ys.length := ⟨_, rfl⟩;have HN := Lib.hid hn;have HM := Lib.hid hmm;rw [← hn] at hc ⊢;rw [← hmm] at hc' ⊢;clear hn hmm hp;unfold maxLen at hm hm'
 by_cases hnm : n = m
 ·subst hnm
  go_enter Tryz.func127, Tryz.ntmps127
  go_wp2_with fail
  go_loopw [5, 13] (fun _ i wr => ∃ k : Nat, k ≤ n ∧ i = .int .i64 (k : Int) ∧ Hid (∀ j, ∀ hj : j < xs.length, j < k → xs[j] = ys[j]?.getD ([], 0, 0, [])) ∧ ∃ q, wr = w.drewN q) (fun _ i _ => n - (intOf i).toNat)
  case atStart => exact ⟨0, Nat.zero_le _, rfl, fun j _ hj => absurd hj (Nat.not_lt_zero _), 0, rfl⟩
  case round =>
   obtain ⟨k, hk, rfl, HG, q, rfl⟩ := hrel
   by_cases hlt : k < n
   ·(have hkx : k < xs.length := by rw [← HN.out]; exact hlt);(have hky : k < ys.length := by rw [← HM.out]; exact hlt);obtain ⟨b, off, rfl, hb, x0, x1, x2, x3⟩ := hx.wr k hkx;obtain ⟨b', off', rfl, hb', y0, y1, y2, y3⟩ := hy.wr k hky
    have HE : Hid ((⟨xs[k].1.toArray⟩ : ByteArray).toList = (⟨ys[k].1.toArray⟩ : ByteArray).toList ∧ xs[k].2.1 = ys[k].2.1 ∧ xs[k].2.2.1 = ys[k].2.2.1 ∧ (⟨xs[k].2.2.2.toArray⟩ : ByteArray).toList = (⟨ys[k].2.2.2.toArray⟩ : ByteArray).toList ↔ xs[k] = ys[k]) := by
     show _ ↔ _;rw [Lib.toList_data, Lib.toList_data, Lib.toList_data, Lib.toList_data];exact ⟨fun h => Prod.ext h.1 (Prod.ext h.2.1 (Prod.ext h.2.2.1 h.2.2.2)), fun h => by rw [h]; exact ⟨rfl, rfl, rfl, rfl⟩⟩
    have hne := fun z => run_neWr ⟨xs[k].1.toArray⟩ xs[k].2.1 xs[k].2.2.1 ⟨xs[k].2.2.2.toArray⟩ ⟨ys[k].1.toArray⟩ ys[k].2.1 ys[k].2.2.1 ⟨ys[k].2.2.2.toArray⟩ z
    cases hd : decide ((⟨xs[k].1.toArray⟩ : ByteArray).toList = (⟨ys[k].1.toArray⟩ : ByteArray).toList ∧ xs[k].2.1 = ys[k].2.1 ∧ xs[k].2.2.1 = ys[k].2.2.1 ∧ (⟨xs[k].2.2.2.toArray⟩ : ByteArray).toList = (⟨ys[k].2.2.2.toArray⟩ : ByteArray).toList) with
    | false =>
      rw [hd] at hne
      have HR : Hid (false = p) := by
       show _ = _;rw [HP.out, decide_eq_false];intro e;exact of_decide_eq_false hd (HE.out.2 (by subst e; rfl))
      clear HE HG hd;generalize (⟨xs[k].1.toArray⟩ : ByteArray) = xa at x0 hne;generalize (⟨xs[k].2.2.2.toArray⟩ : ByteArray) = xd at x3 hne;generalize xs[k].2.2.1 = xc at x2 hne;generalize xs[k].2.1 = xb at x1 hne;generalize (⟨ys[k].1.toArray⟩ : ByteArray) = ya at y0 hne;generalize (⟨ys[k].2.2.2.toArray⟩ : ByteArray) = yd at y3 hne;generalize ys[k].2.2.1 = yc at y2 hne;generalize ys[k].2.1 = yb at y1 hne;simp only [Bool.not_false] at hne
      go_wp2_with fail
      go_quiet (fail)
      go_wp2_with fail
      go_ret
      exact ⟨ret_bool HR.out, belowDrewN (belowDrewN (Below.refl _ _) _) _⟩
    | true =>
      rw [hd] at hne
      have HG' : Hid (∀ j, ∀ hj : j < xs.length, j < k + 1 → xs[j] = ys[j]?.getD ([], 0, 0, [])) := fun j hj hjk => by
       by_cases e : j = k
       ·subst e;rw [List.getElem?_eq_getElem hky];exact HE.out.1 (of_decide_eq_true hd)
       ·exact HG.out j hj (by omega)
      clear HE HG hd;generalize (⟨xs[k].1.toArray⟩ : ByteArray) = xa at x0 hne;generalize (⟨xs[k].2.2.2.toArray⟩ : ByteArray) = xd at x3 hne;generalize xs[k].2.2.1 = xc at x2 hne;generalize xs[k].2.1 = xb at x1 hne;generalize (⟨ys[k].1.toArray⟩ : ByteArray) = ya at y0 hne;generalize (⟨ys[k].2.2.2.toArray⟩ : ByteArray) = yd at y3 hne;generalize ys[k].2.2.1 = yc at y2 hne;generalize ys[k].2.1 = yb at y1 hne;simp only [Bool.not_true] at hne
      go_wp2_with fail
      go_quiet (fail)
      go_wp2_with fail
      go_roundw
      case rel => exact ⟨k + 1, by omega, by go_num, HG', _, rfl⟩
      case measure => first | (simp [intOf]; done) | (simp [intOf]; omega)
   ·obtain rfl : k = n := by omega
    have HR : Hid (true = p) := by
     show _ = _;rw [HP.out, decide_eq_true (eq_true (by rw [← HN.out, ← HM.out]) fun j hj => ?_)];have := HG.out j hj (by rw [HN.out]; exact hj);rw [List.getElem?_eq_getElem (by rw [← HM.out, HN.out]; exact hj)] at this;exact this
    clear HG
    go_wp2_with fail
    go_ret
    exact ⟨ret_bool HR.out, belowDrewN (Below.refl _ _) _⟩
 ·have HR : Hid (false = p) := by
   show _ = _;rw [HP.out, decide_eq_false];intro e;exact hnm (by rw [HN.out, HM.out, e])
  have hnm' : ¬ (n : Int) = (m : Int) := by omega
  go_enter Tryz.func127, Tryz.ntmps127
  go_wp2_with fail
  go_ret
  exact ⟨ret_bool HR.out, Below.refl _ _⟩
end
section
open Go.RowKit T
theorem cell44 (w : World) (u0 u1 u2 u3 v0 v1 v2 v3 : Value) (e : TypeId) :
 ((w.alloc (.cells #[u0, u1, u2, u3] e)).alloc (.cells #[v0, v1, v2, v3] e)).cell? ⟨w.heap.size, 2, none⟩ = some u2 ∧ ((w.alloc (.cells #[u0, u1, u2, u3] e)).alloc (.cells #[v0, v1, v2, v3] e)).cell? ⟨w.heap.size, 3, none⟩ = some u3 ∧
 ((w.alloc (.cells #[u0, u1, u2, u3] e)).alloc (.cells #[v0, v1, v2, v3] e)).cell? ⟨w.heap.size + 1, 2, none⟩ = some v2 ∧ ((w.alloc (.cells #[u0, u1, u2, u3] e)).alloc (.cells #[v0, v1, v2, v3] e)).cell? ⟨w.heap.size + 1, 3, none⟩ = some v3 := by
 refine ⟨cellA _ (by simp), cellA _ (by simp), by simp, by simp⟩
theorem tsame_any (s q : Int) (rs : List Rd1) (ws : List Wr1) (A1 : Option Addr) (c1 : Nat) (A2 : Option Addr) (c2 : Nat) (s' q' : Int) (rs' : List Rd1) (ws' : List Wr1) (A1' : Option Addr) (c1' : Nat) (A2' : Option Addr) (c2' : Nat) (w : World) (B : Nat) (hB : B ≤ w.heap.size)
 (ok : TxOk w B rs ws A1 c1 A2 c2) (ok' : TxOk w B rs' ws' A1' c1' A2' c2') :
 Calls Tryz.prog 98 #[.agg #[.int .i64 s, .int .i64 q, .slice A1 rs.length c1, .slice A2 ws.length c2], .agg #[.int .i64 s', .int .i64 q', .slice A1' rs'.length c1', .slice A2' ws'.length c2']] w fun e w' =>
  e = .returned (.bool (decide (s = s' ∧ q = q' ∧ rs = rs' ∧ ws = ws'))) ∧ Below w.heap.size w w' := by
 obtain ⟨p, hp⟩ : ∃ p : Bool, p = decide (s = s' ∧ q = q' ∧ rs = rs' ∧ ws = ws') := ⟨_, rfl⟩;have HP := Lib.hid hp;rw [← hp];clear hp;obtain ⟨w0, hw0⟩ : ∃ w0, w0 = (w.alloc (.cells #[.int .i64 s, .int .i64 q, .slice A1 rs.length c1, .slice A2 ws.length c2] 30)).alloc (.cells #[.int .i64 s', .int .i64 q', .slice A1' rs'.length c1', .slice A2' ws'.length c2'] 30) := ⟨_, rfl⟩;(have g0 : Below w.heap.size w w0 := by rw [hw0]; exact ((Below.refl _ _).alloc (Nat.le_refl _) _).alloc (by simp) _)
 have y0 : w0.cell? ⟨w.heap.size, 0, none⟩ = some (.int .i64 s) ∧ w0.cell? ⟨w.heap.size, 1, none⟩ = some (.int .i64 q) ∧ w0.cell? ⟨w.heap.size + 1, 0, none⟩ = some (.int .i64 s') ∧ w0.cell? ⟨w.heap.size + 1, 1, none⟩ = some (.int .i64 q') := by
  rw [hw0]; exact ⟨cellA _ (by simp), cellA _ (by simp), by simp, by simp⟩
 have c := cell44 w (.int .i64 s) (.int .i64 q) (.slice A1 rs.length c1) (.slice A2 ws.length c2) (.int .i64 s') (.int .i64 q') (.slice A1' rs'.length c1') (.slice A2' ws'.length c2') 30;rw [← hw0] at c;obtain ⟨y1, y2, y3, y4⟩ := y0;obtain ⟨z1, z2, z3, z4⟩ := c;have gB := g0.size;have H1 := Lib.hid (eqr_any rs rs' A1 A1' c1 c1' w0 B (by omega) (ok.r.below g0 hB) (ok'.r.below g0 hB) ok.rc ok.rm ok'.rc ok'.rm);have H2 := Lib.hid (fun z (hz : Below w0.heap.size w0 z) => eqw_any ws ws' A2 A2' c2 c2' z B (by have := hz.size; omega) ((ok.w.below g0 hB).below hz (by omega)) ((ok'.w.below g0 hB).below hz (by omega)) ok.wc ok.wm ok'.wc ok'.wm);clear ok ok';generalize rs.length = n1 at *;generalize rs'.length = n1' at *;generalize ws.length = n2 at *;generalize ws'.length = n2' at *
 go_enter Tryz.func98, Tryz.ntmps98
 go_upto_region 1 with fail
 rw [← hw0];clear hw0;have hI := fun z => run_eqId s q s' q' z
 cases hd : decide (s = s' ∧ q = q') with
 | false =>
   rw [hd] at hI;(have HR : Hid (false = p) := by show _ = _; rw [HP.out, decide_eq_false]; exact fun e => of_decide_eq_false hd ⟨e.1, e.2.1⟩);clear hd
   go_wp2_with fail
   go_ret
   exact ⟨ret_bool HR.out, g0⟩
 | true =>
   rw [hd] at hI;have HD := of_decide_eq_true hd;(have HP2 : Hid (p = decide (rs = rs' ∧ ws = ws')) := by show _ = _; rw [HP.out]; simp [HD.1, HD.2]);clear hd HD HP
   go_wp2_with fail
   refine H1.out.mono ?_;rintro e w1 ⟨rfl, b1⟩;have z2 := cellB b1 z2;have z4 := cellB b1 z4;have s1 := b1.size;have e1 := g0.trans (b1.mono gB)
   cases hr : decide (rs = rs') with
   | false =>
     (have HR : Hid (false = p) := by show _ = _; rw [HP2.out, decide_eq_false]; exact fun e => of_decide_eq_false hr e.1);clear hr
     go_wp2_with fail
     go_ret
     exact ⟨ret_bool HR.out, e1⟩
   | true =>
     (have HR : Hid (decide (ws = ws') = p) := by show _ = _; rw [HP2.out]; simp [of_decide_eq_true hr]);clear hr HP2
     go_wp2_with fail
     refine (H2.out w1 b1).mono ?_;rintro e w2 ⟨rfl, b2⟩;generalize decide (ws = ws') = r at *
     go_wp2_with fail
     go_ret
     exact ⟨ret_bool (by rw [← HR.out]), e1.trans (b2.mono (by omega))⟩
theorem csame_any (k s q : Int) (rs : List Rd1) (ws : List Wr1) (A1 : Option Addr) (c1 : Nat) (A2 : Option Addr) (c2 : Nat) (i j g : Int) (st : Nat) (y : Bool) (k' s' q' : Int) (rs' : List Rd1) (ws' : List Wr1) (A1' : Option Addr) (c1' : Nat) (A2' : Option Addr) (c2' : Nat) (i' j' g' : Int) (st' : Nat) (y' : Bool) (w : World) (B : Nat) (hB : B ≤ w.heap.size)
 (ok : TxOk w B rs ws A1 c1 A2 c2) (ok' : TxOk w B rs' ws' A1' c1' A2' c2') :
 Calls Tryz.prog 52 #[.agg #[.int .i64 k, .int .i64 s, .int .i64 q, .slice A1 rs.length c1, .slice A2 ws.length c2, .int .i64 i, .int .i64 j, .int .i64 g, .int .u64 (st : Int), .bool y], .agg #[.int .i64 k', .int .i64 s', .int .i64 q', .slice A1' rs'.length c1', .slice A2' ws'.length c2', .int .i64 i', .int .i64 j', .int .i64 g', .int .u64 (st' : Int), .bool y']] w fun e w' =>
  e = .returned (.bool (decide (k = k' ∧ (i = i' ∧ j = j') ∧ g = g' ∧ st = st' ∧ y = y' ∧ s = s' ∧ q = q' ∧ rs = rs' ∧ ws = ws'))) ∧ Below w.heap.size w w' := by
 obtain ⟨p, hp⟩ : ∃ p : Bool, p = decide (k = k' ∧ (i = i' ∧ j = j') ∧ g = g' ∧ st = st' ∧ y = y' ∧ s = s' ∧ q = q' ∧ rs = rs' ∧ ws = ws') := ⟨_, rfl⟩;have HP := Lib.hid hp;rw [← hp];clear hp;obtain ⟨w0, hw0⟩ : ∃ w0, w0 = (w.alloc (.cells #[.int .i64 k, .int .i64 s, .int .i64 q, .slice A1 rs.length c1, .slice A2 ws.length c2, .int .i64 i, .int .i64 j, .int .i64 g, .int .u64 (st : Int), .bool y] 33)).alloc (.cells #[.int .i64 k', .int .i64 s', .int .i64 q', .slice A1' rs'.length c1', .slice A2' ws'.length c2', .int .i64 i', .int .i64 j', .int .i64 g', .int .u64 (st' : Int), .bool y'] 33) := ⟨_, rfl⟩;(have g0 : Below w.heap.size w w0 := by rw [hw0]; exact ((Below.refl _ _).alloc (Nat.le_refl _) _).alloc (by simp) _)
 obtain ⟨a0, a1, a2, a3, a4, a5, a6, a7, a8, a9, b0, b1, b2, b3, b4, b5, b6, b7, b8, b9⟩ : w0.cell? ⟨w.heap.size, 0, none⟩ = some (.int .i64 k) ∧ w0.cell? ⟨w.heap.size, 1, none⟩ = some (.int .i64 s) ∧ w0.cell? ⟨w.heap.size, 2, none⟩ = some (.int .i64 q) ∧ w0.cell? ⟨w.heap.size, 3, none⟩ = some (.slice A1 rs.length c1) ∧ w0.cell? ⟨w.heap.size, 4, none⟩ = some (.slice A2 ws.length c2) ∧ w0.cell? ⟨w.heap.size, 5, none⟩ = some (.int .i64 i) ∧ w0.cell? ⟨w.heap.size, 6, none⟩ = some (.int .i64 j) ∧ w0.cell? ⟨w.heap.size, 7, none⟩ = some (.int .i64 g) ∧ w0.cell? ⟨w.heap.size, 8, none⟩ = some (.int .u64 (st : Int)) ∧ w0.cell? ⟨w.heap.size, 9, none⟩ = some (.bool y) ∧ w0.cell? ⟨w.heap.size + 1, 0, none⟩ = some (.int .i64 k') ∧ w0.cell? ⟨w.heap.size + 1, 1, none⟩ = some (.int .i64 s') ∧ w0.cell? ⟨w.heap.size + 1, 2, none⟩ = some (.int .i64 q') ∧ w0.cell? ⟨w.heap.size + 1, 3, none⟩ = some (.slice A1' rs'.length c1') ∧ w0.cell? ⟨w.heap.size + 1, 4, none⟩ = some (.slice A2' ws'.length c2') ∧ w0.cell? ⟨w.heap.size + 1, 5, none⟩ = some (.int .i64 i') ∧ w0.cell? ⟨w.heap.size + 1, 6, none⟩ = some (.int .i64 j') ∧ w0.cell? ⟨w.heap.size + 1, 7, none⟩ = some (.int .i64 g') ∧ w0.cell? ⟨w.heap.size + 1, 8, none⟩ = some (.int .u64 (st' : Int)) ∧ w0.cell? ⟨w.heap.size + 1, 9, none⟩ = some (.bool y') := by
  rw [hw0]; exact ⟨cellA _ (by simp), cellA _ (by simp), cellA _ (by simp), cellA _ (by simp), cellA _ (by simp), cellA _ (by simp), cellA _ (by simp), cellA _ (by simp), cellA _ (by simp), cellA _ (by simp), by simp, by simp, by simp, by simp, by simp, by simp, by simp, by simp, by simp, by simp⟩
 have gB := g0.size;have H1 := Lib.hid (tsame_any s q rs ws A1 c1 A2 c2 s' q' rs' ws' A1' c1' A2' c2' w0 B (by omega) (ok.below g0 hB) (ok'.below g0 hB));clear ok ok';generalize rs.length = n1 at *;generalize rs'.length = n1' at *;generalize ws.length = n2 at *;generalize ws'.length = n2' at *
 go_enter Tryz.func52, Tryz.ntmps52
 go_upto_region 1 with fail
 rw [← hw0];clear hw0;have hI := fun z => run_eqId i j i' j' z;(have HR1 : Hid (¬ k = k' → false = p) := by show _ → _; intro h; rw [HP.out, decide_eq_false]; exact fun e => h e.1);(have HR2 : Hid (decide (i = i' ∧ j = j') = false → false = p) := by show _ → _; intro h; rw [HP.out, decide_eq_false]; exact fun e => of_decide_eq_false h e.2.1);(have HR3 : Hid (¬ g = g' → false = p) := by show _ → _; intro h; rw [HP.out, decide_eq_false]; exact fun e => h e.2.2.1);(have HR4 : Hid (¬ st = st' → false = p) := by show _ → _; intro h; rw [HP.out, decide_eq_false]; exact fun e => h e.2.2.2.1);(have HR5 : Hid (¬ y = y' → false = p) := by show _ → _; intro h; rw [HP.out, decide_eq_false]; exact fun e => h e.2.2.2.2.1)
 have HR6 : Hid (k = k' → decide (i = i' ∧ j = j') = true → g = g' → st = st' → y = y' → decide (s = s' ∧ q = q' ∧ rs = rs' ∧ ws = ws') = p) := by
  show _ → _;intro h1 h2 h3 h4 h5;rw [HP.out];have := of_decide_eq_true h2;simp [h1, this.1, this.2, h3, h4, h5]
 clear HP
 by_cases hk : k = k'
 ·have dk : (k == k') = true := by simp [hk]
  cases hd : decide (i = i' ∧ j = j') with
  | false =>
    rw [hd] at hI HR2;have HR := Lib.hid (HR2.out rfl);clear hd hk HR1 HR2 HR3 HR4 HR5 HR6
    go_wp2_with fail
    go_ret
    exact ⟨ret_bool HR.out, g0⟩
  | true =>
    rw [hd] at hI HR6
    by_cases hg : g = g'
    ·have dg : (g == g') = true := by simp [hg]
     by_cases hst : st = st'
     ·have dst : ((st : Int) == (st' : Int)) = true := by simp [hst]
      by_cases hy : y = y'
      ·(have dy : (y == y') = true := by simp [hy]);have HR := Lib.hid (HR6.out hk rfl hg hst hy);clear hd hk hg hst hy HR1 HR2 HR3 HR4 HR5 HR6
       go_wp2_with fail
       refine H1.out.mono ?_;rintro e w1 ⟨rfl, b1⟩;clear H1;generalize decide (s = s' ∧ q = q' ∧ rs = rs' ∧ ws = ws') = r at *
       go_wp2_with fail
       go_ret
       exact ⟨ret_bool (by rw [← HR.out]), g0.trans (b1.mono gB)⟩
      ·(have dy : (y == y') = false := by simp [hy]);have HR := Lib.hid (HR5.out hy);clear hd hk hg hst hy HR1 HR2 HR3 HR4 HR5 HR6
       go_wp2_with fail
       go_ret
       exact ⟨ret_bool HR.out, g0⟩
     ·(have dst : ((st : Int) == (st' : Int)) = false := by simp; omega);have HR := Lib.hid (HR4.out hst);clear hd hk hg hst HR1 HR2 HR3 HR4 HR5 HR6
      go_wp2_with fail
      go_ret
      exact ⟨ret_bool HR.out, g0⟩
    ·(have dg : (g == g') = false := by simp [hg]);have HR := Lib.hid (HR3.out hg);clear hd hk hg HR1 HR2 HR3 HR4 HR5 HR6
     go_wp2_with fail
     go_ret
     exact ⟨ret_bool HR.out, g0⟩
 ·(have dk : (k == k') = false := by simp [hk]);have HR := Lib.hid (HR1.out hk);clear hk HR1 HR2 HR3 HR4 HR5 HR6
  go_wp2_with fail
  go_ret
  exact ⟨ret_bool HR.out, g0⟩
end
end Go.Proofs.YthclniimhpmeoaaGreatDoor
