/- The walks of the reference's Same of transactions and of commands. Condition: what lies, lies below. (Printed by gen_rtsame.py.) -/
import Derived.Test.YtjofjpmhokjhnaaDoorWlM17
namespace Go.Proofs.YtjofjpmhokjhnaaDoor
set_option maxRecDepth 20000
open Go.RowKit T
set_option linter.unusedSimpArgs false
set_option linter.unusedVariables false

set_option maxHeartbeats 6400000 in
theorem rtsame_any (s q : Int) (rs : List Rd1) (ws : List Wr1) (A1 : Option Addr) (c1 : Nat) (A2 : Option Addr) (c2 : Nat) (s' q' : Int) (rs' : List Rd1) (ws' : List Wr1) (A1' : Option Addr) (c1' : Nat) (A2' : Option Addr) (c2' : Nat) (w : World) (B : Nat) (hB : B ≤ w.heap.size)
    (ok : TxOk w B rs ws A1 c1 A2 c2) (ok' : TxOk w B rs' ws' A1' c1' A2' c2') :
    Calls Tryd.prog 60 #[.agg #[.int .i64 s, .int .i64 q, .slice A1 rs.length c1, .slice A2 ws.length c2], .agg #[.int .i64 s', .int .i64 q', .slice A1' rs'.length c1', .slice A2' ws'.length c2']] w fun e w' =>
      e = .returned (.bool (decide (s = s' ∧ q = q' ∧ rs = rs' ∧ ws = ws'))) ∧ Below w.heap.size w w' := by
  obtain ⟨p, hp⟩ : ∃ p : Bool, p = decide (s = s' ∧ q = q' ∧ rs = rs' ∧ ws = ws') := ⟨_, rfl⟩
  have HP := Lib.hid hp
  rw [← hp]
  clear hp
  obtain ⟨w0, hw0⟩ : ∃ w0, w0 = (w.alloc (.cells #[.int .i64 s, .int .i64 q, .slice A1 rs.length c1, .slice A2 ws.length c2] 30)).alloc (.cells #[.int .i64 s', .int .i64 q', .slice A1' rs'.length c1', .slice A2' ws'.length c2'] 30) := ⟨_, rfl⟩
  have g0 : Below w.heap.size w w0 := by rw [hw0]; exact ((Below.refl _ _).alloc (Nat.le_refl _) _).alloc (by simp) _
  obtain ⟨a0, a1, a2, a3, b0, b1, b2, b3⟩ : w0.cell? ⟨w.heap.size, 0, none⟩ = some (.int .i64 s) ∧ w0.cell? ⟨w.heap.size, 1, none⟩ = some (.int .i64 q) ∧ w0.cell? ⟨w.heap.size, 2, none⟩ = some (.slice A1 rs.length c1) ∧ w0.cell? ⟨w.heap.size, 3, none⟩ = some (.slice A2 ws.length c2) ∧ w0.cell? ⟨w.heap.size + 1, 0, none⟩ = some (.int .i64 s') ∧ w0.cell? ⟨w.heap.size + 1, 1, none⟩ = some (.int .i64 q') ∧ w0.cell? ⟨w.heap.size + 1, 2, none⟩ = some (.slice A1' rs'.length c1') ∧ w0.cell? ⟨w.heap.size + 1, 3, none⟩ = some (.slice A2' ws'.length c2') := by
    rw [hw0]; exact ⟨cellA _ (by simp), cellA _ (by simp), cellA _ (by simp), cellA _ (by simp), by simp, by simp, by simp, by simp⟩
  have ok := ok.below g0 hB
  have ok' := ok'.below g0 hB
  obtain ⟨hr, hw, rc, wc, rm, wm, _, _⟩ := ok
  obtain ⟨hr', hw', rc', wc', rm', wm', _, _⟩ := ok'
  unfold maxLen at rm wm rm' wm'
  obtain ⟨n1, hn1⟩ : ∃ n, n = rs.length := ⟨_, rfl⟩
  obtain ⟨n1', hn1'⟩ : ∃ n, n = rs'.length := ⟨_, rfl⟩
  obtain ⟨n2, hn2⟩ : ∃ n, n = ws.length := ⟨_, rfl⟩
  obtain ⟨n2', hn2'⟩ : ∃ n, n = ws'.length := ⟨_, rfl⟩
  have HN1 := Lib.hid hn1
  have HN1' := Lib.hid hn1'
  have HN2 := Lib.hid hn2
  have HN2' := Lib.hid hn2'
  rw [← hn1] at hw0 a2 rc ⊢
  rw [← hn1'] at hw0 b2 rc' ⊢
  rw [← hn2] at hw0 a3 wc ⊢
  rw [← hn2'] at hw0 b3 wc' ⊢
  clear hn1 hn1' hn2 hn2'
  have HF1 : Hid (decide (s = s' ∧ q = q') = false → false = p) := by show _ → _; intro h; rw [HP.out, decide_eq_false]; exact fun e => of_decide_eq_false h ⟨e.1, e.2.1⟩
  have HF2 : Hid (¬ rs = rs' → false = p) := by show _ → _; intro h; rw [HP.out, decide_eq_false]; exact fun e => h e.2.2.1
  have HF3 : Hid (¬ ws = ws' → false = p) := by show _ → _; intro h; rw [HP.out, decide_eq_false]; exact fun e => h e.2.2.2
  have HF4 : Hid (decide (s = s' ∧ q = q') = true → rs = rs' → ws = ws' → true = p) := by show _ → _; intro h h2 h3; rw [HP.out, decide_eq_true]; exact ⟨(of_decide_eq_true h).1, (of_decide_eq_true h).2, h2, h3⟩
  clear HP
  go_enter Tryd.func60, Tryd.ntmps60
  go_upto_region 1 with fail
  rw [← hw0]
  clear hw0
  have hI := fun z => run_neId s q s' q' z
  cases hd : decide (s = s' ∧ q = q') with
  | false =>
    rw [hd] at hI HF1
    simp only [Bool.not_false] at hI
    have HR := Lib.hid (HF1.out rfl)
    clear hd HF1 HF2 HF3 HF4 hr hr' hw hw'
    go_wp2_with fail
    go_ret
    exact ⟨ret_bool HR.out, g0⟩
  | true =>
    rw [hd] at hI HF4
    simp only [Bool.not_true] at hI
    have HF5 := Lib.hid (HF4.out rfl)
    clear hd HF1 HF4
    by_cases l1 : n1 = n1'
    · by_cases l2 : n2 = n2'
      · subst l1
        subst l2
        go_upto_region 4 with fail
        clear a0 a1 b0 b1 hI
        go_loopw [5] (fun i wr => ∃ k : Nat, k ≤ n1 ∧ i = .int .i64 (k : Int) ∧ Hid (∀ j, ∀ hj : j < rs.length, j < k → rs[j] = rs'[j]?.getD ([], 0)) ∧ ∃ q, wr = w0.drewN q) (fun i _ => n1 - (intOf i).toNat)
        case atStart => exact ⟨0, Nat.zero_le _, rfl, fun j _ hj => absurd hj (Nat.not_lt_zero _), 0, rfl⟩
        case round =>
          obtain ⟨k, hk, rfl, HG, q, rfl⟩ := hrel
          by_cases hlt : k < n1
          · have hkx : k < rs.length := by rw [← HN1.out]; exact hlt
            have hky : k < rs'.length := by rw [← HN1'.out]; exact hlt
            obtain ⟨b, off, rfl, hb, x0, x1⟩ := hr.rd k hkx
            obtain ⟨b', off', rfl, hb', y0, y1⟩ := hr'.rd k hky
            have HE : Hid ((⟨rs[k].1.toArray⟩ : ByteArray).toList = (⟨rs'[k].1.toArray⟩ : ByteArray).toList ∧ rs[k].2 = rs'[k].2 ↔ rs[k] = rs'[k]) := by
              show _ ↔ _
              rw [Lib.toList_data, Lib.toList_data]
              exact ⟨fun h => Prod.ext h.1 h.2, fun h => by rw [h]; exact ⟨rfl, rfl⟩⟩
            have hne := fun z => run_neRd ⟨rs[k].1.toArray⟩ rs[k].2 ⟨rs'[k].1.toArray⟩ rs'[k].2 z
            cases hd : decide ((⟨rs[k].1.toArray⟩ : ByteArray).toList = (⟨rs'[k].1.toArray⟩ : ByteArray).toList ∧ rs[k].2 = rs'[k].2) with
            | false =>
              rw [hd] at hne
              have HR : Hid (false = p) := by
                show _ = _
                exact HF2.out fun e => of_decide_eq_false hd (HE.out.2 (by subst e; rfl))
              clear HE HG hd
              generalize (⟨rs[k].1.toArray⟩ : ByteArray) = xa at x0 hne
              generalize rs[k].2 = xb at x1 hne
              generalize (⟨rs'[k].1.toArray⟩ : ByteArray) = ya at y0 hne
              generalize rs'[k].2 = yb at y1 hne
              simp only [Bool.not_false] at hne
              go_wp2_with fail
              go_quiet (fail)
              go_wp2_with fail
              go_ret
              exact ⟨ret_bool HR.out, belowDrewN (belowDrewN g0 _) _⟩
            | true =>
              rw [hd] at hne
              have HG' : Hid (∀ j, ∀ hj : j < rs.length, j < k + 1 → rs[j] = rs'[j]?.getD ([], 0)) := fun j hj hjk => by
                by_cases e : j = k
                · subst e
                  rw [List.getElem?_eq_getElem hky]
                  exact HE.out.1 (of_decide_eq_true hd)
                · exact HG.out j hj (by omega)
              clear HE HG hd
              generalize (⟨rs[k].1.toArray⟩ : ByteArray) = xa at x0 hne
              generalize rs[k].2 = xb at x1 hne
              generalize (⟨rs'[k].1.toArray⟩ : ByteArray) = ya at y0 hne
              generalize rs'[k].2 = yb at y1 hne
              simp only [Bool.not_true] at hne
              go_wp2_with fail
              go_quiet (fail)
              go_wp2_with fail
              go_roundw
              case rel => exact ⟨k + 1, by omega, by go_num, HG', _, rfl⟩
              case measure => first | (simp [intOf]; done) | (simp [intOf]; omega)
          · obtain rfl : k = n1 := by omega
            have HE1 : Hid (rs = rs') := eq_true (by rw [← HN1.out, ← HN1'.out]) fun j hj => by
              have := HG.out j hj (by rw [HN1.out]; exact hj)
              rw [List.getElem?_eq_getElem (by rw [← HN1'.out, HN1.out]; exact hj)] at this
              exact this
            clear HG
            go_upto_region 9 with fail
            go_loopw [6] (fun i wr => ∃ k : Nat, k ≤ n2 ∧ i = .int .i64 (k : Int) ∧ Hid (∀ j, ∀ hj : j < ws.length, j < k → ws[j] = ws'[j]?.getD ([], 0, 0, [])) ∧ ∃ q, wr = w0.drewN q) (fun i _ => n2 - (intOf i).toNat)
            case atStart => exact ⟨0, Nat.zero_le _, rfl, fun j _ hj => absurd hj (Nat.not_lt_zero _), _, rfl⟩
            case round =>
              obtain ⟨k, hk, rfl, HG, q, rfl⟩ := hrel
              by_cases hlt : k < n2
              · have hkx : k < ws.length := by rw [← HN2.out]; exact hlt
                have hky : k < ws'.length := by rw [← HN2'.out]; exact hlt
                obtain ⟨b, off, rfl, hb, x0, x1, x2, x3⟩ := hw.wr k hkx
                obtain ⟨b', off', rfl, hb', y0, y1, y2, y3⟩ := hw'.wr k hky
                have HE : Hid ((⟨ws[k].1.toArray⟩ : ByteArray).toList = (⟨ws'[k].1.toArray⟩ : ByteArray).toList ∧ ws[k].2.1 = ws'[k].2.1 ∧ ws[k].2.2.1 = ws'[k].2.2.1 ∧ (⟨ws[k].2.2.2.toArray⟩ : ByteArray).toList = (⟨ws'[k].2.2.2.toArray⟩ : ByteArray).toList ↔ ws[k] = ws'[k]) := by
                  show _ ↔ _
                  rw [Lib.toList_data, Lib.toList_data, Lib.toList_data, Lib.toList_data]
                  exact ⟨fun h => Prod.ext h.1 (Prod.ext h.2.1 (Prod.ext h.2.2.1 h.2.2.2)), fun h => by rw [h]; exact ⟨rfl, rfl, rfl, rfl⟩⟩
                have hne := fun z => run_neWr ⟨ws[k].1.toArray⟩ ws[k].2.1 ws[k].2.2.1 ⟨ws[k].2.2.2.toArray⟩ ⟨ws'[k].1.toArray⟩ ws'[k].2.1 ws'[k].2.2.1 ⟨ws'[k].2.2.2.toArray⟩ z
                cases hd : decide ((⟨ws[k].1.toArray⟩ : ByteArray).toList = (⟨ws'[k].1.toArray⟩ : ByteArray).toList ∧ ws[k].2.1 = ws'[k].2.1 ∧ ws[k].2.2.1 = ws'[k].2.2.1 ∧ (⟨ws[k].2.2.2.toArray⟩ : ByteArray).toList = (⟨ws'[k].2.2.2.toArray⟩ : ByteArray).toList) with
                | false =>
                  rw [hd] at hne
                  have HR : Hid (false = p) := by
                    show _ = _
                    exact HF3.out fun e => of_decide_eq_false hd (HE.out.2 (by subst e; rfl))
                  clear HE HG hd
                  generalize (⟨ws[k].1.toArray⟩ : ByteArray) = xa at x0 hne
                  generalize (⟨ws[k].2.2.2.toArray⟩ : ByteArray) = xd at x3 hne
                  generalize ws[k].2.2.1 = xc at x2 hne
                  generalize ws[k].2.1 = xb at x1 hne
                  generalize (⟨ws'[k].1.toArray⟩ : ByteArray) = ya at y0 hne
                  generalize (⟨ws'[k].2.2.2.toArray⟩ : ByteArray) = yd at y3 hne
                  generalize ws'[k].2.2.1 = yc at y2 hne
                  generalize ws'[k].2.1 = yb at y1 hne
                  simp only [Bool.not_false] at hne
                  go_wp2_with fail
                  go_quiet (fail)
                  go_wp2_with fail
                  go_ret
                  exact ⟨ret_bool HR.out, belowDrewN (belowDrewN g0 _) _⟩
                | true =>
                  rw [hd] at hne
                  have HG' : Hid (∀ j, ∀ hj : j < ws.length, j < k + 1 → ws[j] = ws'[j]?.getD ([], 0, 0, [])) := fun j hj hjk => by
                    by_cases e : j = k
                    · subst e
                      rw [List.getElem?_eq_getElem hky]
                      exact HE.out.1 (of_decide_eq_true hd)
                    · exact HG.out j hj (by omega)
                  clear HE HG hd
                  generalize (⟨ws[k].1.toArray⟩ : ByteArray) = xa at x0 hne
                  generalize (⟨ws[k].2.2.2.toArray⟩ : ByteArray) = xd at x3 hne
                  generalize ws[k].2.2.1 = xc at x2 hne
                  generalize ws[k].2.1 = xb at x1 hne
                  generalize (⟨ws'[k].1.toArray⟩ : ByteArray) = ya at y0 hne
                  generalize (⟨ws'[k].2.2.2.toArray⟩ : ByteArray) = yd at y3 hne
                  generalize ws'[k].2.2.1 = yc at y2 hne
                  generalize ws'[k].2.1 = yb at y1 hne
                  simp only [Bool.not_true] at hne
                  go_wp2_with fail
                  go_quiet (fail)
                  go_wp2_with fail
                  go_roundw
                  case rel => exact ⟨k + 1, by omega, by go_num, HG', _, rfl⟩
                  case measure => first | (simp [intOf]; done) | (simp [intOf]; omega)
              · obtain rfl : k = n2 := by omega
                have HE2 : Hid (ws = ws') := eq_true (by rw [← HN2.out, ← HN2'.out]) fun j hj => by
                  have := HG.out j hj (by rw [HN2.out]; exact hj)
                  rw [List.getElem?_eq_getElem (by rw [← HN2'.out, HN2.out]; exact hj)] at this
                  exact this
                have HR := Lib.hid (HF5.out HE1.out HE2.out)
                clear HG
                go_wp2_with fail
                go_ret
                exact ⟨ret_bool HR.out, belowDrewN g0 _⟩
      · have HR := Lib.hid (HF3.out fun e => l2 (by rw [HN2.out, HN2'.out, e]))
        have d1 : (!((n1 : Int) == (n1' : Int))) = false := by simp [l1]
        have d2 : (!((n2 : Int) == (n2' : Int))) = true := by simp; omega
        subst l1
        clear HF2 HF3 HF5 hr hr' hw hw'
        go_wp2_with fail
        go_ret
        exact ⟨ret_bool HR.out, g0⟩
    · have HR := Lib.hid (HF2.out fun e => l1 (by rw [HN1.out, HN1'.out, e]))
      have d1 : (!((n1 : Int) == (n1' : Int))) = true := by simp; omega
      clear HF2 HF3 HF5 hr hr' hw hw'
      go_wp2_with fail
      go_ret
      exact ⟨ret_bool HR.out, g0⟩
set_option maxHeartbeats 6400000 in
theorem rcsame_any (k s q : Int) (rs : List Rd1) (ws : List Wr1) (A1 : Option Addr) (c1 : Nat) (A2 : Option Addr) (c2 : Nat) (i j g : Int) (st : Nat) (y : Bool) (k' s' q' : Int) (rs' : List Rd1) (ws' : List Wr1) (A1' : Option Addr) (c1' : Nat) (A2' : Option Addr) (c2' : Nat) (i' j' g' : Int) (st' : Nat) (y' : Bool) (w : World) (B : Nat) (hB : B ≤ w.heap.size)
    (ok : TxOk w B rs ws A1 c1 A2 c2) (ok' : TxOk w B rs' ws' A1' c1' A2' c2') :
    Calls Tryd.prog 59 #[.agg #[.int .i64 k, .int .i64 s, .int .i64 q, .slice A1 rs.length c1, .slice A2 ws.length c2, .int .i64 i, .int .i64 j, .int .i64 g, .int .u64 (st : Int), .bool y], .agg #[.int .i64 k', .int .i64 s', .int .i64 q', .slice A1' rs'.length c1', .slice A2' ws'.length c2', .int .i64 i', .int .i64 j', .int .i64 g', .int .u64 (st' : Int), .bool y']] w fun e w' =>
      e = .returned (.bool (decide (k = k' ∧ (i = i' ∧ j = j') ∧ g = g' ∧ st = st' ∧ y = y' ∧ s = s' ∧ q = q' ∧ rs = rs' ∧ ws = ws'))) ∧ Below w.heap.size w w' := by
  obtain ⟨p, hp⟩ : ∃ p : Bool, p = decide (k = k' ∧ (i = i' ∧ j = j') ∧ g = g' ∧ st = st' ∧ y = y' ∧ s = s' ∧ q = q' ∧ rs = rs' ∧ ws = ws') := ⟨_, rfl⟩
  have HP := Lib.hid hp
  rw [← hp]
  clear hp
  obtain ⟨w0, hw0⟩ : ∃ w0, w0 = (w.alloc (.cells #[.int .i64 k, .int .i64 s, .int .i64 q, .slice A1 rs.length c1, .slice A2 ws.length c2, .int .i64 i, .int .i64 j, .int .i64 g, .int .u64 (st : Int), .bool y] 45)).alloc (.cells #[.int .i64 k', .int .i64 s', .int .i64 q', .slice A1' rs'.length c1', .slice A2' ws'.length c2', .int .i64 i', .int .i64 j', .int .i64 g', .int .u64 (st' : Int), .bool y'] 45) := ⟨_, rfl⟩
  have g0 : Below w.heap.size w w0 := by rw [hw0]; exact ((Below.refl _ _).alloc (Nat.le_refl _) _).alloc (by simp) _
  obtain ⟨a0, a1, a2, a3, a4, a5, a6, a7, a8, a9, b0, b1, b2, b3, b4, b5, b6, b7, b8, b9⟩ : w0.cell? ⟨w.heap.size, 0, none⟩ = some (.int .i64 k) ∧ w0.cell? ⟨w.heap.size, 1, none⟩ = some (.int .i64 s) ∧ w0.cell? ⟨w.heap.size, 2, none⟩ = some (.int .i64 q) ∧ w0.cell? ⟨w.heap.size, 3, none⟩ = some (.slice A1 rs.length c1) ∧ w0.cell? ⟨w.heap.size, 4, none⟩ = some (.slice A2 ws.length c2) ∧ w0.cell? ⟨w.heap.size, 5, none⟩ = some (.int .i64 i) ∧ w0.cell? ⟨w.heap.size, 6, none⟩ = some (.int .i64 j) ∧ w0.cell? ⟨w.heap.size, 7, none⟩ = some (.int .i64 g) ∧ w0.cell? ⟨w.heap.size, 8, none⟩ = some (.int .u64 (st : Int)) ∧ w0.cell? ⟨w.heap.size, 9, none⟩ = some (.bool y) ∧ w0.cell? ⟨w.heap.size + 1, 0, none⟩ = some (.int .i64 k') ∧ w0.cell? ⟨w.heap.size + 1, 1, none⟩ = some (.int .i64 s') ∧ w0.cell? ⟨w.heap.size + 1, 2, none⟩ = some (.int .i64 q') ∧ w0.cell? ⟨w.heap.size + 1, 3, none⟩ = some (.slice A1' rs'.length c1') ∧ w0.cell? ⟨w.heap.size + 1, 4, none⟩ = some (.slice A2' ws'.length c2') ∧ w0.cell? ⟨w.heap.size + 1, 5, none⟩ = some (.int .i64 i') ∧ w0.cell? ⟨w.heap.size + 1, 6, none⟩ = some (.int .i64 j') ∧ w0.cell? ⟨w.heap.size + 1, 7, none⟩ = some (.int .i64 g') ∧ w0.cell? ⟨w.heap.size + 1, 8, none⟩ = some (.int .u64 (st' : Int)) ∧ w0.cell? ⟨w.heap.size + 1, 9, none⟩ = some (.bool y') := by
    rw [hw0]; exact ⟨cellA _ (by simp), cellA _ (by simp), cellA _ (by simp), cellA _ (by simp), cellA _ (by simp), cellA _ (by simp), cellA _ (by simp), cellA _ (by simp), cellA _ (by simp), cellA _ (by simp), by simp, by simp, by simp, by simp, by simp, by simp, by simp, by simp, by simp, by simp⟩
  have gB := g0.size
  have H1 := Lib.hid (rtsame_any s q rs ws A1 c1 A2 c2 s' q' rs' ws' A1' c1' A2' c2' w0 B (by omega) (ok.below g0 hB) (ok'.below g0 hB))
  clear ok ok'
  generalize rs.length = n1 at *
  generalize rs'.length = n1' at *
  generalize ws.length = n2 at *
  generalize ws'.length = n2' at *
  go_enter Tryd.func59, Tryd.ntmps59
  go_upto_region 1 with fail
  rw [← hw0]
  clear hw0
  have hI := fun z => run_eqId i j i' j' z
  have HR1 : Hid (¬ k = k' → false = p) := by show _ → _; intro h; rw [HP.out, decide_eq_false]; exact fun e => h e.1
  have HR2 : Hid (decide (i = i' ∧ j = j') = false → false = p) := by show _ → _; intro h; rw [HP.out, decide_eq_false]; exact fun e => of_decide_eq_false h e.2.1
  have HR3 : Hid (¬ g = g' → false = p) := by show _ → _; intro h; rw [HP.out, decide_eq_false]; exact fun e => h e.2.2.1
  have HR4 : Hid (¬ st = st' → false = p) := by show _ → _; intro h; rw [HP.out, decide_eq_false]; exact fun e => h e.2.2.2.1
  have HR5 : Hid (¬ y = y' → false = p) := by show _ → _; intro h; rw [HP.out, decide_eq_false]; exact fun e => h e.2.2.2.2.1
  have HR6 : Hid (k = k' → decide (i = i' ∧ j = j') = true → g = g' → st = st' → y = y' → decide (s = s' ∧ q = q' ∧ rs = rs' ∧ ws = ws') = p) := by
    show _ → _
    intro h1 h2 h3 h4 h5
    rw [HP.out]
    have := of_decide_eq_true h2
    simp [h1, this.1, this.2, h3, h4, h5]
  clear HP
  by_cases hk : k = k'
  · have dk : (k == k') = true := by simp [hk]
    cases hd : decide (i = i' ∧ j = j') with
    | false =>
      rw [hd] at hI HR2
      have HR := Lib.hid (HR2.out rfl)
      clear hd hk HR1 HR2 HR3 HR4 HR5 HR6
      go_wp2_with fail
      go_ret
      exact ⟨ret_bool HR.out, g0⟩
    | true =>
      rw [hd] at hI HR6
      by_cases hg : g = g'
      · have dg : (g == g') = true := by simp [hg]
        by_cases hst : st = st'
        · have dst : ((st : Int) == (st' : Int)) = true := by simp [hst]
          by_cases hy : y = y'
          · have dy : (y == y') = true := by simp [hy]
            have HR := Lib.hid (HR6.out hk rfl hg hst hy)
            clear hd hk hg hst hy HR1 HR2 HR3 HR4 HR5 HR6
            go_wp2_with fail
            refine H1.out.mono ?_
            rintro e w1 ⟨rfl, b1⟩
            clear H1
            generalize decide (s = s' ∧ q = q' ∧ rs = rs' ∧ ws = ws') = r at *
            go_wp2_with fail
            go_ret
            exact ⟨ret_bool (by rw [← HR.out]), g0.trans (b1.mono gB)⟩
          · have dy : (y == y') = false := by simp [hy]
            have HR := Lib.hid (HR5.out hy)
            clear hd hk hg hst hy HR1 HR2 HR3 HR4 HR5 HR6
            go_wp2_with fail
            go_ret
            exact ⟨ret_bool HR.out, g0⟩
        · have dst : ((st : Int) == (st' : Int)) = false := by simp; omega
          have HR := Lib.hid (HR4.out hst)
          clear hd hk hg hst HR1 HR2 HR3 HR4 HR5 HR6
          go_wp2_with fail
          go_ret
          exact ⟨ret_bool HR.out, g0⟩
      · have dg : (g == g') = false := by simp [hg]
        have HR := Lib.hid (HR3.out hg)
        clear hd hk hg HR1 HR2 HR3 HR4 HR5 HR6
        go_wp2_with fail
        go_ret
        exact ⟨ret_bool HR.out, g0⟩
  · have dk : (k == k') = false := by simp [hk]
    have HR := Lib.hid (HR1.out hk)
    clear hk HR1 HR2 HR3 HR4 HR5 HR6
    go_wp2_with fail
    go_ret
    exact ⟨ret_bool HR.out, g0⟩
end Go.Proofs.YtjofjpmhokjhnaaDoor
