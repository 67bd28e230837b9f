/- The walk of the reference's Formed of commands. Conditions: what lies, lies below. (Printed by gen_rcformed.py.) -/
import Derived.Test.YtjofjpmhokjhnaaDoorMwM1
import Derived.Test.YtjofjpmhokjhnaaDoorMwM18
import Derived.Test.YtjofjpmhokjhnaaDoorMwM26
namespace Go.Proofs.YtjofjpmhokjhnaaDoor
set_option maxRecDepth 20000
namespace V
theorem bl_nil (x : List UInt8) : Op.bytesLess x [] = false := by unfold Op.bytesLess; rfl
theorem bl_cons (a b : UInt8) (x y : List UInt8) : Op.bytesLess (a :: x) (b :: y) = true ↔ a.toNat < b.toNat ∨ (a = b ∧ Op.bytesLess x y = true) := by
  rw [Op.bytesLess]
  simp [UInt8.lt_iff_toNat_lt]
theorem bl_irr : ∀ x : List UInt8, Op.bytesLess x x = false
  | [] => rfl
  | a :: x => by
    have ih := bl_irr x
    rw [← Bool.not_eq_true, bl_cons]
    rintro (h | ⟨_, h⟩)
    · omega
    · rw [ih] at h; exact Bool.noConfusion h
theorem bl_asym : ∀ x y : List UInt8, Op.bytesLess x y = true → Op.bytesLess y x = false
  | _, [], h => by rw [bl_nil] at h; exact Bool.noConfusion h
  | [], _ :: _, _ => bl_nil _
  | a :: x, b :: y, h => by
    rw [bl_cons] at h
    rw [← Bool.not_eq_true, bl_cons]
    rintro (g | ⟨g, g'⟩)
    · rcases h with h | ⟨h, _⟩
      · omega
      · subst h; omega
    · subst g
      rcases h with h | ⟨_, h⟩
      · omega
      · rw [bl_asym x y h] at g'; exact Bool.noConfusion g'
theorem bl_total : ∀ x y : List UInt8, Op.bytesLess x y = false → Op.bytesLess y x = false → x = y
  | [], [], _, _ => rfl
  | [], b :: y, h, _ => by exact Bool.noConfusion h
  | a :: x, [], _, h => by exact Bool.noConfusion h
  | a :: x, b :: y, h, g => by
    rw [← Bool.not_eq_true, bl_cons] at h g
    have hab : a.toNat = b.toNat := by
      have h1 : ¬ a.toNat < b.toNat := fun e => h (Or.inl e)
      have h2 : ¬ b.toNat < a.toNat := fun e => g (Or.inl e)
      omega
    have hab := UInt8.toNat_inj.1 hab
    subst hab
    have h1 : Op.bytesLess x y = false := by rw [← Bool.not_eq_true]; exact fun e => h (Or.inr ⟨rfl, e⟩)
    have h2 : Op.bytesLess y x = false := by rw [← Bool.not_eq_true]; exact fun e => g (Or.inr ⟨rfl, e⟩)
    rw [bl_total x y h1 h2]
end V
end Go.Proofs.YtjofjpmhokjhnaaDoor

namespace Go.Proofs.YtjofjpmhokjhnaaDoor
set_option maxRecDepth 20001
open Go.RowKit T
set_option linter.unusedSimpArgs false
set_option linter.unusedVariables false

theorem belowOfDrewH {B : Nat} {w w' : World} (h : Below B w.drew w') : Below B w w' := ⟨h.os, h.tape, h.output, h.size, h.block⟩
theorem T.le_true {x y : List UInt8} (h : Op.bytesLess x y = true) : Op.bytesLess y x = false ∧ (y == x) = false := by
  refine ⟨V.bl_asym x y h, ?_⟩
  cases he : y == x with
  | false => rfl
  | true =>
    rw [eq_of_beq he, V.bl_irr] at h
    exact Bool.noConfusion h
theorem T.le_false {x y : List UInt8} (h : Op.bytesLess x y = false) : Op.bytesLess y x = true ∨ (Op.bytesLess y x = false ∧ (y == x) = true) := by
  cases hl : Op.bytesLess y x with
  | true => exact .inl rfl
  | false => exact .inr ⟨rfl, by rw [V.bl_total x y h hl]; simp⟩
set_option maxHeartbeats 12800000 in
theorem rtformed_any (s q : Int) (rs : List Rd1) (ws : List Wr1) (A1 : Option Addr) (c1 : Nat) (A2 : Option Addr) (c2 : Nat) (w : World) (B : Nat) (hB : B ≤ w.heap.size) (ok : TxOk w B rs ws A1 c1 A2 c2) :
    Calls Tryd.prog 109 #[.agg #[.int .i64 s, .int .i64 q, .slice A1 rs.length c1, .slice A2 ws.length c2]] w fun e w' => e = .returned (.bool (T.formed s q rs ws)) ∧ Below w.heap.size w w' := by
  obtain ⟨p, hp⟩ : ∃ p : Bool, p = T.formed s q rs ws := ⟨_, rfl⟩
  have HP := Lib.hid hp
  rw [← hp]
  obtain ⟨w0, hw0⟩ : ∃ w0, w0 = w.alloc (.cells #[.int .i64 s, .int .i64 q, .slice A1 rs.length c1, .slice A2 ws.length c2] 30) := ⟨_, rfl⟩
  have g0 : Below w.heap.size w w0 := by rw [hw0]; exact (Below.refl _ _).alloc (Nat.le_refl _) _
  have y0 : w0.cell? ⟨w.heap.size, 0, none⟩ = some (.int .i64 s) := by rw [hw0]; simp
  have y1 : w0.cell? ⟨w.heap.size, 1, none⟩ = some (.int .i64 q) := by rw [hw0]; simp
  have y2 : w0.cell? ⟨w.heap.size, 2, none⟩ = some (.slice A1 rs.length c1) := by rw [hw0]; simp
  have y3 : w0.cell? ⟨w.heap.size, 3, none⟩ = some (.slice A2 ws.length c2) := by rw [hw0]; simp
  obtain ⟨hr, hw, rc, wc, rm, wm, ro, wo⟩ := ok.below g0 hB
  unfold maxLen at rm wm
  obtain ⟨n1, hn1⟩ : ∃ n, n = rs.length := ⟨_, rfl⟩
  obtain ⟨n2, hn2⟩ : ∃ n, n = ws.length := ⟨_, rfl⟩
  have HN1 := Lib.hid hn1
  have HN2 := Lib.hid hn2
  rw [← hn1] at hw0 y2 rc ⊢
  rw [← hn2] at hw0 y3 wc ⊢
  have F1 : Hid (idb s q = false → false = p) := by show _ → _; intro h; rw [HP.out]; unfold T.formed; rw [h]; rfl
  have F2 : Hid (¬ (n1 ≤ 6 ∧ n2 ≤ 6 ∧ n1 + n2 ≠ 0) → false = p) := by show _ → _; intro h; rw [HP.out]; unfold T.formed; rw [← hn1, ← hn2, decide_eq_false h]; simp
  have F3 : Hid (∀ k, k < rs.length → good (rs.map (·.1)) k = false → false = p) := by
    show ∀ _, _; intro k hk h; rw [HP.out]; unfold T.formed; rw [rises_false _ k (by simpa using hk) h]; simp
  have F4 : Hid (∀ k, k < ws.length → good (ws.map (·.1)) k = false → false = p) := by
    show ∀ _, _; intro k hk h; rw [HP.out]; unfold T.formed; rw [rises_false _ k (by simpa using hk) h]; simp
  have F5 : Hid (∀ k, ∀ hk : k < ws.length, wok ws[k] = false → false = p) := by
    show ∀ _, _; intro k hk h; rw [HP.out]; unfold T.formed; rw [all_false ws k hk h]; simp
  have F6 : Hid (idb s q = true → (n1 ≤ 6 ∧ n2 ≤ 6 ∧ n1 + n2 ≠ 0) → (∀ k, k < rs.length → good (rs.map (·.1)) k = true) → (∀ k, k < ws.length → good (ws.map (·.1)) k = true) → (∀ k, ∀ hk : k < ws.length, wok ws[k] = true) → true = p) := by
    show _ → _; intro h1 h2 h3 h4 h5; rw [HP.out]; unfold T.formed
    rw [h1, ← hn1, ← hn2, decide_eq_true h2, (rises_iff _).2 (fun i hi => h3 i (by simpa using hi)), (rises_iff _).2 (fun i hi => h4 i (by simpa using hi)), all_true ws h5]; rfl
  clear HP hp hn1 hn2 ok
  go_enter Tryd.func109, Tryd.ntmps109
  go_upto_region 1 with fail
  rw [← hw0]
  clear hw0
  go_cut [32] (fun u w1 => ∃ r : Bool, u = .bool r ∧ Hid (Below w0.heap.size w0 w1) ∧ Hid (r = true → false = p) ∧ Hid (r = false → (∀ k, k < rs.length → good (rs.map (·.1)) k = true) → (∀ k, k < ws.length → good (ws.map (·.1)) k = true) → (∀ k, ∀ hk : k < ws.length, wok ws[k] = true) → true = p))
  case first =>
    go_wp2_with fail
    refine (rtid_any s q w0).mono ?_
    rintro e w1 ⟨rfl, b1⟩
    have y2 := cellB b1 y2
    have y3 := cellB b1 y3
    clear y0 y1
    cases hid : idb s q with
    | false =>
      have HR := Lib.hid (F1.out hid)
      clear hid F1 F2 F3 F4 F5 F6
      go_wp2_with fail
      go_meet
      exact ⟨_, rfl, b1, (fun _ => HR.out), (fun h => Bool.noConfusion h)⟩
    | true =>
      have F7 := Lib.hid (F6.out hid)
      clear hid F1 F6
      by_cases h1 : 6 < n1
      · have HR := Lib.hid (F2.out (by omega))
        have d1 : decide (6 < (n1 : Int)) = true := by simp; omega
        clear F2 F3 F4 F5 F7
        go_wp2_with fail
        go_meet
        exact ⟨_, rfl, b1, (fun _ => HR.out), (fun h => Bool.noConfusion h)⟩
      · have d1 : decide (6 < (n1 : Int)) = false := by simp; omega
        by_cases h2 : 6 < n2
        · have HR := Lib.hid (F2.out (by omega))
          have d2 : decide (6 < (n2 : Int)) = true := by simp; omega
          clear F2 F3 F4 F5 F7
          go_wp2_with fail
          go_meet
          exact ⟨_, rfl, b1, (fun _ => HR.out), (fun h => Bool.noConfusion h)⟩
        · have d2 : decide (6 < (n2 : Int)) = false := by simp; omega
          by_cases h3 : n1 = 0
          · have d3 : ((n1 : Int) == 0) = true := by simp; omega
            by_cases h4 : n2 = 0
            · have HR := Lib.hid (F2.out (by omega))
              have d4 : ((n2 : Int) == 0) = true := by simp; omega
              clear F2 F3 F4 F5 F7 h3 h4
              go_wp2_with fail
              go_meet
              exact ⟨_, rfl, b1, (fun _ => HR.out), (fun h => Bool.noConfusion h)⟩
            · have F8 := Lib.hid (F7.out (by omega))
              have d4 : ((n2 : Int) == 0) = false := by simp; omega
              clear F2 F3 F4 F5 F7 h3 h4
              go_wp2_with fail
              go_meet
              exact ⟨_, rfl, b1, (fun h => Bool.noConfusion h), (fun _ => F8.out)⟩
          · have F8 := Lib.hid (F7.out (by omega))
            have d3 : ((n1 : Int) == 0) = false := by simp; omega
            clear F2 F3 F4 F5 F7 h3
            go_wp2_with fail
            go_meet
            exact ⟨_, rfl, b1, (fun h => Bool.noConfusion h), (fun _ => F8.out)⟩
  case rest =>
    obtain ⟨r, rfl, b1, HR1, F7⟩ := hcut
    have b1 := b1.out
    have nm : ∀ z : World, Below w0.heap.size w0 z → ∃ z', z' = z := fun z _ => ⟨z, rfl⟩
    obtain ⟨w1, hw1⟩ := nm _ b1
    subst hw1
    clear nm
    have gB := g0.size
    have e1 := g0.trans (b1.mono gB)
    have s1 := b1.size
    have y2 := cellB b1 y2
    have y3 := cellB b1 y3
    have hr := hr.below b1 (by omega)
    have hw := hw.below b1 (by omega)
    clear y0 y1
    clear F1 F2 F6
    cases r with
    | true =>
      have HR := Lib.hid (HR1.out rfl)
      clear HR1 F7 F3 F4 F5
      go_wp2_with fail
      go_ret
      exact ⟨ret_bool HR.out, e1⟩
    | false =>
      have F8 := Lib.hid (F7.out rfl)
      clear F7 HR1
      go_upto_region 4 with fail
      go_loopw [3] (fun i wr => ∃ k : Nat, k ≤ n1 ∧ i = .int .i64 (k : Int) ∧ Hid (∀ j, j < k → good (rs.map (·.1)) j = true) ∧ Hid (Below w1.heap.size w1 wr)) (fun i _ => n1 - (intOf i).toNat)
      case atStart => exact ⟨0, Nat.zero_le _, rfl, fun j hj => absurd hj (Nat.not_lt_zero _), Below.refl _ _⟩
      case round =>
        obtain ⟨k, hk, rfl, HG, hbel⟩ := hrel
        have y2 := cellB hbel.out y2
        have hr0 := hr.below hbel.out (by omega)
        by_cases hlt : k < n1
        · have hkl : k < rs.length := by rw [← HN1.out]; exact hlt
          have hG := Lib.hid (good_at (rs.map (·.1)) k (by simpa using hkl))
          simp only [List.getElem_map] at hG
          have HF := Lib.hid (F3.out k hkl)
          obtain ⟨b, off, rfl, hb, x0, x1⟩ := hr0.rd k hkl
          have hsz := (ro rs[k] (List.getElem_mem hkl)).1
          obtain ⟨xa, hxa⟩ : ∃ xa : ByteArray, xa = ⟨rs[k].1.toArray⟩ := ⟨_, rfl⟩
          rw [← hxa] at x0
          have hsd : xa.data.toList = rs[k].1 := by rw [hxa]
          have hss : xa.size ≤ 9223372036854775807 := by rw [← str_size, hsd]; exact hsz
          have HK := Lib.hid (fun z => rkey_any xa z hss)
          rw [hsd] at HK
          have HS := Lib.hid hsd
          clear hxa hsd hsz hss x1
          cases hkey : V.key rs[k].1 with
          | false =>
            rw [hkey] at HK hG
            have HR := Lib.hid (HF.out (by rw [hG.out]; rfl))
            clear hG HS hkey HF HG F3 F4 F5 F8
            have HQ := Lib.hid (fun (n : Nat) => Calls.quiet_of_same (w := wr) (n := n) (HK.out _))
            clear HK
            go_wp2_with fail
            go_quiet ((go_at_call 53; exact HQ.out _))
            go_wp2_with fail
            go_ret
            exact ⟨ret_bool HR.out, belowDrewN (e1.trans (hbel.out.mono (by omega))) _⟩
          | true =>
            rw [hkey] at HK hG
            clear hkey
            cases k with
            | zero =>
              have HG' : Hid (∀ j, j < 1 → good (rs.map (·.1)) j = true) := fun j hj => by
                obtain rfl : j = 0 := by omega
                rw [hG.out]; rfl
              have x0 : wr.cell? ⟨b, off, none⟩ = some (.string xa) := x0
              clear HG hG HS HF
              have HQ := Lib.hid (fun (n : Nat) => Calls.quiet_of_same (w := wr) (n := n) (HK.out _))
              clear HK
              go_wp2_with fail
              go_quiet ((go_at_call 53; exact HQ.out _))
              go_wp2_with fail
              go_roundw
              case rel => exact ⟨1, by omega, by go_num, HG', belowDrewN hbel.out _⟩
              case measure => first | (simp [intOf]; done) | (simp [intOf]; omega)
            | succ k =>
              have hkl' : k < rs.length := by omega
              obtain ⟨b', off', hA', _, z0, z1⟩ := hr0.rd k hkl'
              injection hA' with hA'
              injection hA' with q1 q2
              subst q1; subst q2
              obtain ⟨xp, hxp⟩ : ∃ xp : ByteArray, xp = ⟨rs[k].1.toArray⟩ := ⟨_, rfl⟩
              rw [← hxp] at z0
              have hpd : xp.data.toList = rs[k].1 := by rw [hxp]
              have hG2 : Hid (good (rs.map (·.1)) (k + 1) = Op.bytesLess xp.toList xa.toList) := by
                show _ = _
                rw [hG.out, Lib.toList_data, Lib.toList_data, HS.out, hpd]
                simp
              clear hG HS hxp hpd z1
              have hlt2 : (k : Int) + 1 < (n1 : Int) := by omega
              cases hless : Op.bytesLess xp.toList xa.toList with
              | false =>
                have HR := Lib.hid (HF.out (by rw [hG2.out]; exact hless))
                clear hG2 HF HG F3 F4 F5 F8
                have HQ := Lib.hid (fun (n : Nat) => Calls.quiet_of_same (w := wr) (n := n) (HK.out _))
                clear HK
                rcases le_false hless with dl | ⟨dl, dm⟩
                all_goals
                  go_wp2_with fail
                  go_quiet ((go_at_call 53; exact HQ.out _))
                  go_wp2_with fail
                  go_ret
                  exact ⟨ret_bool HR.out, belowDrewN (e1.trans (hbel.out.mono (by omega))) _⟩
              | true =>
                have HG' : Hid (∀ j, j < k + 1 + 1 → good (rs.map (·.1)) j = true) := fun j hj => by
                  by_cases e : j = k + 1
                  · subst e; rw [hG2.out]; exact hless
                  · exact HG.out j (by omega)
                clear HG hG2 HF
                obtain ⟨dl, dm⟩ := le_true hless
                have HQ := Lib.hid (fun (n : Nat) => Calls.quiet_of_same (w := wr) (n := n) (HK.out _))
                clear HK
                go_wp2_with fail
                go_quiet ((go_at_call 53; exact HQ.out _))
                go_wp2_with fail
                go_roundw
                case rel => exact ⟨k + 1 + 1, by omega, by go_num, HG', belowDrewN hbel.out _⟩
                case measure => first | (simp [intOf]; done) | (simp [intOf]; omega)
        · obtain rfl : k = n1 := by omega
          have F9 := Lib.hid (F8.out fun i hi => HG.out i (by rw [HN1.out]; exact hi))
          clear HG F8 F3 ro
          go_upto_region 9 with fail
          clear y2 hr hr0
          have e2 : Below w.heap.size w wr := e1.trans (hbel.out.mono (by omega))
          have s2 : w0.heap.size ≤ wr.heap.size := Nat.le_trans s1 hbel.out.size
          have y3 := cellB hbel.out y3
          have hw := hw.below hbel.out (by omega)
          clear hbel
          generalize wr = w2 at *
          go_loopw [4] (fun i wr => ∃ k : Nat, k ≤ n2 ∧ i = .int .i64 (k : Int) ∧ Hid (∀ j, j < k → good (ws.map (·.1)) j = true) ∧ Hid (∀ j, ∀ hj : j < ws.length, j < k → wok ws[j] = true) ∧ Hid (Below w2.heap.size w2 wr)) (fun i _ => n2 - (intOf i).toNat)
          case atStart => exact ⟨0, Nat.zero_le _, rfl, fun j hj => absurd hj (Nat.not_lt_zero _), fun j _ hj => absurd hj (Nat.not_lt_zero _), Below.refl _ _⟩
          case round =>
            obtain ⟨k, hk, rfl, HG, HGW, hbel⟩ := hrel
            by_cases hlt : k < n2
            · have hkl : k < ws.length := by rw [← HN2.out]; exact hlt
              have hG := Lib.hid (good_at (ws.map (·.1)) k (by simpa using hkl))
              simp only [List.getElem_map] at hG
              have HF := Lib.hid (F4.out k hkl)
              have HFW := Lib.hid (F5.out k hkl)
              have y3 := cellB hbel.out y3
              have hwr := hw.below hbel.out (by omega)
              obtain ⟨b, off, rfl, hb, x0, x1, x2, x3⟩ := hwr.wr k hkl
              have hsz := (wo ws[k] (List.getElem_mem hkl)).1
              have hbb := (wo ws[k] (List.getElem_mem hkl)).2.1
              have HWK : Hid (wok ws[k] = V.formed ws[k].2.1 ws[k].2.2.1 (⟨ws[k].2.2.2.toArray⟩ : ByteArray).data.toList) := rfl
              obtain ⟨xa, hxa⟩ : ∃ xa : ByteArray, xa = ⟨ws[k].1.toArray⟩ := ⟨_, rfl⟩
              rw [← hxa] at x0
              have hsd : xa.data.toList = ws[k].1 := by rw [hxa]
              have hss : xa.size ≤ 9223372036854775807 := by rw [← str_size, hsd]; exact hsz
              have HK := Lib.hid (fun z => rkey_any xa z hss)
              rw [hsd] at HK
              have HS := Lib.hid hsd
              have HV := Lib.hid (fun z => rformed_any ws[k].2.1 ws[k].2.2.1 hbb ⟨ws[k].2.2.2.toArray⟩ z)
              unfold V.val at HV
              clear hxa hsd hsz hss hbb hwr
              generalize (⟨ws[k].2.2.2.toArray⟩ : ByteArray) = xd at x3 HV HWK
              generalize ws[k].2.2.1 = xc at x2 HV HWK
              generalize ws[k].2.1 = xb at x1 HV HWK
              obtain ⟨vf, hvf⟩ : ∃ vf, vf = V.formed xb xc xd.data.toList := ⟨_, rfl⟩
              rw [← hvf] at HV HWK
              clear hvf
              cases hkey : V.key ws[k].1 with
              | false =>
                rw [hkey] at HK hG
                have HR := Lib.hid (HF.out (by rw [hG.out]; rfl))
                clear hG HS hkey HF HFW HG HGW HWK HV F4 F5 F9
                have HQ := Lib.hid (fun (n : Nat) => Calls.quiet_of_same (w := wr) (n := n) (HK.out _))
                clear HK
                go_wp2_with fail
                go_quiet ((go_at_call 53; exact HQ.out _))
                go_wp2_with fail
                go_ret
                exact ⟨ret_bool HR.out, belowDrewN (e2.trans (hbel.out.mono (by omega))) _⟩
              | true =>
                rw [hkey] at HK hG
                clear hkey
                cases vf with
                | false =>
                  have HR := Lib.hid (HFW.out HWK.out)
                  have kc : wr.cell? ⟨w.heap.size, 3, none⟩ = some (.slice (some ⟨b, off, none⟩) n2 c2) ∧ wr.cell? ⟨b, off + k * 4, none⟩ = some (.string xa) ∧ wr.cell? ⟨b, off + k * 4 + 1, none⟩ = some (.int .i64 xb) ∧ wr.cell? ⟨b, off + k * 4 + 2, none⟩ = some (.int .u64 (xc : Int)) ∧ wr.cell? ⟨b, off + k * 4 + 3, none⟩ = some (.string xd) := ⟨y3, x0, x1, x2, x3⟩
                  clear hG HS HF HFW HG HGW HWK F4 F5 F9 y3 x0 x1 x2 x3
                  go_upto_region 11 with fail
                  refine wp_region_held_drew (S := fun w' => w'.cell? ⟨w.heap.size, 3, none⟩ = some (.slice (some ⟨b, off, none⟩) n2 c2) ∧ w'.cell? ⟨b, off + k * 4, none⟩ = some (.string xa) ∧ w'.cell? ⟨b, off + k * 4 + 1, none⟩ = some (.int .i64 xb) ∧ w'.cell? ⟨b, off + k * 4 + 2, none⟩ = some (.int .u64 (xc : Int)) ∧ w'.cell? ⟨b, off + k * 4 + 3, none⟩ = some (.string xd)) (by kernel_rfl) (by exact kc) (fun hHeld => ?_)
                  refine wpAnyH_take (i := 0) (v := ?_) rfl (by kernel_rfl) (by kernel_rfl) (by kernel_rfl) (fun _ _ _ h => h) (Or.inl ⟨by rfl, ?_⟩) (by assumption) ?_
                  rotate_left
                  · (intro w hSw; (try dsimp only at hSw); go_simp; try with_reducible rfl)
                  try simp only [List.getElem_toArray, List.getElem_cons_zero, List.getElem_cons_succ, Act.put, List.setIfInBounds_toArray, List.set_cons_zero, List.set_cons_succ]
                  refine wpAnyH_take (i := 1) (v := ?_) rfl (by kernel_rfl) (by kernel_rfl) (by kernel_rfl) (fun _ _ _ h => h) (Or.inl ⟨by rfl, ?_⟩) (by assumption) ?_
                  rotate_left
                  · (intro w hSw; (try dsimp only at hSw); go_simp; try with_reducible rfl)
                  try simp only [List.getElem_toArray, List.getElem_cons_zero, List.getElem_cons_succ, Act.put, List.setIfInBounds_toArray, List.set_cons_zero, List.set_cons_succ]
                  refine wpAnyH_take (i := 2) (v := ?_) rfl (by kernel_rfl) (by kernel_rfl) (by kernel_rfl) (fun _ _ _ h => h) (Or.inl ⟨by rfl, ?_⟩) (by assumption) ?_
                  rotate_left
                  · (intro w hSw; (try dsimp only at hSw); go_simp; try with_reducible rfl)
                  try simp only [List.getElem_toArray, List.getElem_cons_zero, List.getElem_cons_succ, Act.put, List.setIfInBounds_toArray, List.set_cons_zero, List.set_cons_succ]
                  refine wpAnyH_take (i := 3) (v := ?_) rfl (by kernel_rfl) (by kernel_rfl) (by kernel_rfl) (fun _ _ _ h => h) (Or.inl ⟨by rfl, ?_⟩) (by assumption) ?_
                  rotate_left
                  · (intro w hSw; (try dsimp only at hSw); go_simp; try with_reducible rfl)
                  try simp only [List.getElem_toArray, List.getElem_cons_zero, List.getElem_cons_succ, Act.put, List.setIfInBounds_toArray, List.set_cons_zero, List.set_cons_succ]
                  refine wpAnyH_take (i := 4) (v := ?_) rfl (by kernel_rfl) (by kernel_rfl) (by kernel_rfl) (fun _ _ _ h => h) (Or.inl ⟨by rfl, ?_⟩) (by assumption) ?_
                  rotate_left
                  · (intro w hSw; (try dsimp only at hSw); go_simp; try with_reducible rfl)
                  try simp only [List.getElem_toArray, List.getElem_cons_zero, List.getElem_cons_succ, Act.put, List.setIfInBounds_toArray, List.set_cons_zero, List.set_cons_succ]
                  refine wpAnyH_take (i := 5) (v := ?_) rfl (by kernel_rfl) (by kernel_rfl) (by kernel_rfl) (fun _ _ _ h => h) (Or.inl ⟨by rfl, ?_⟩) (by assumption) ?_
                  rotate_left
                  · (intro w hSw; (try dsimp only at hSw); go_simp; try with_reducible rfl)
                  try simp only [List.getElem_toArray, List.getElem_cons_zero, List.getElem_cons_succ, Act.put, List.setIfInBounds_toArray, List.set_cons_zero, List.set_cons_succ]
                  refine wpAnyH_ready (rs := [6]) (by kernel_rfl) (by simp) ?_
                  refine AllReadyH.cons rfl (fun K hK => ?_) AllReadyH.nil
                  go_simp
                  refine (HK.out _).mono ?_
                  rintro e v1 ⟨rfl, rfl⟩
                  refine hK.out _ _ ?_ (fun hHeld => ?_)
                  · exact kc
                  clear hK K
                  try simp only [List.getElem_toArray, List.getElem_cons_zero, List.getElem_cons_succ, Act.put, List.setIfInBounds_toArray, List.set_cons_zero, List.set_cons_succ]
                  refine wpAnyH_take (i := 7) (v := ?_) rfl (by kernel_rfl) (by kernel_rfl) (by kernel_rfl) (fun _ _ _ h => h) (Or.inl ⟨by rfl, ?_⟩) (by assumption) ?_
                  rotate_left
                  · (intro w hSw; (try dsimp only at hSw); go_simp; try with_reducible rfl)
                  try simp only [List.getElem_toArray, List.getElem_cons_zero, List.getElem_cons_succ, Act.put, List.setIfInBounds_toArray, List.set_cons_zero, List.set_cons_succ]
                  refine wpAnyH_take (i := 8) (v := ?_) rfl (by kernel_rfl) (by kernel_rfl) (by kernel_rfl) (fun _ _ _ h => h) (Or.inl ⟨by rfl, ?_⟩) (by assumption) ?_
                  rotate_left
                  · (intro w hSw; (try dsimp only at hSw); go_simp; try with_reducible rfl)
                  try simp only [List.getElem_toArray, List.getElem_cons_zero, List.getElem_cons_succ, Act.put, List.setIfInBounds_toArray, List.set_cons_zero, List.set_cons_succ]
                  refine wpAnyH_take (i := 9) (v := ?_) rfl (by kernel_rfl) (by kernel_rfl) (by kernel_rfl) (fun _ _ _ h => h) (Or.inl ⟨by rfl, ?_⟩) (by assumption) ?_
                  rotate_left
                  · (intro w hSw; (try dsimp only at hSw); go_simp; try with_reducible rfl)
                  try simp only [List.getElem_toArray, List.getElem_cons_zero, List.getElem_cons_succ, Act.put, List.setIfInBounds_toArray, List.set_cons_zero, List.set_cons_succ]
                  refine wpAnyH_take (i := 10) (v := ?_) rfl (by kernel_rfl) (by kernel_rfl) (by kernel_rfl) (fun _ _ _ h => h) (Or.inl ⟨by rfl, ?_⟩) (by assumption) ?_
                  rotate_left
                  · (intro w hSw; (try dsimp only at hSw); go_simp; try with_reducible rfl)
                  try simp only [List.getElem_toArray, List.getElem_cons_zero, List.getElem_cons_succ, Act.put, List.setIfInBounds_toArray, List.set_cons_zero, List.set_cons_succ]
                  refine wpAnyH_take (i := 11) (v := ?_) rfl (by kernel_rfl) (by kernel_rfl) (by kernel_rfl) (fun _ _ _ h => h) (Or.inl ⟨by rfl, ?_⟩) (by assumption) ?_
                  rotate_left
                  · (intro w hSw; (try dsimp only at hSw); go_simp; try with_reducible rfl)
                  try simp only [List.getElem_toArray, List.getElem_cons_zero, List.getElem_cons_succ, Act.put, List.setIfInBounds_toArray, List.set_cons_zero, List.set_cons_succ]
                  refine wpAnyH_take (i := 12) (v := ?_) rfl (by kernel_rfl) (by kernel_rfl) (by kernel_rfl) (fun _ _ _ h => h) (Or.inl ⟨by rfl, ?_⟩) (by assumption) ?_
                  rotate_left
                  · (intro w hSw; (try dsimp only at hSw); go_simp; try with_reducible rfl)
                  try simp only [List.getElem_toArray, List.getElem_cons_zero, List.getElem_cons_succ, Act.put, List.setIfInBounds_toArray, List.set_cons_zero, List.set_cons_succ]
                  refine wpAnyH_take (i := 13) (v := ?_) rfl (by kernel_rfl) (by kernel_rfl) (by kernel_rfl) (fun _ _ _ h => h) (Or.inl ⟨by rfl, ?_⟩) (by assumption) ?_
                  rotate_left
                  · (intro w hSw; (try dsimp only at hSw); go_simp; try with_reducible rfl)
                  try simp only [List.getElem_toArray, List.getElem_cons_zero, List.getElem_cons_succ, Act.put, List.setIfInBounds_toArray, List.set_cons_zero, List.set_cons_succ]
                  refine wpAnyH_take (i := 14) (v := ?_) rfl (by kernel_rfl) (by kernel_rfl) (by kernel_rfl) (fun _ _ _ h => h) (Or.inl ⟨by rfl, ?_⟩) (by assumption) ?_
                  rotate_left
                  · (intro w hSw; (try dsimp only at hSw); go_simp; try with_reducible rfl)
                  try simp only [List.getElem_toArray, List.getElem_cons_zero, List.getElem_cons_succ, Act.put, List.setIfInBounds_toArray, List.set_cons_zero, List.set_cons_succ]
                  refine wpAnyH_ready (rs := [15]) (by kernel_rfl) (by simp) ?_
                  refine AllReadyH.cons rfl (fun K hK => ?_) AllReadyH.nil
                  go_simp
                  refine (HV.out _).mono ?_
                  rintro e v2 ⟨rfl, g2⟩
                  have g2 := belowOfDrewH g2
                  have bz := hbel.out.trans (g2.mono hbel.out.size)
                  have k2 : v2.cell? ⟨w.heap.size, 3, none⟩ = some (.slice (some ⟨b, off, none⟩) n2 c2) ∧ v2.cell? ⟨b, off + k * 4, none⟩ = some (.string xa) ∧ v2.cell? ⟨b, off + k * 4 + 1, none⟩ = some (.int .i64 xb) ∧ v2.cell? ⟨b, off + k * 4 + 2, none⟩ = some (.int .u64 (xc : Int)) ∧ v2.cell? ⟨b, off + k * 4 + 3, none⟩ = some (.string xd) := ⟨cellB g2 kc.1, cellB g2 kc.2.1, cellB g2 kc.2.2.1, cellB g2 kc.2.2.2.1, cellB g2 kc.2.2.2.2⟩
                  refine hK.out _ _ ?_ (fun hHeld => ?_)
                  · exact k2
                  clear hK K
                  try simp only [List.getElem_toArray, List.getElem_cons_zero, List.getElem_cons_succ, Act.put, List.setIfInBounds_toArray, List.set_cons_zero, List.set_cons_succ]
                  refine wpAnyH_take (i := 16) (v := ?_) rfl (by kernel_rfl) (by kernel_rfl) (by kernel_rfl) (fun _ _ _ h => h) (Or.inl ⟨by rfl, ?_⟩) (by assumption) ?_
                  rotate_left
                  · (intro w hSw; (try dsimp only at hSw); go_simp; try with_reducible rfl)
                  try simp only [List.getElem_toArray, List.getElem_cons_zero, List.getElem_cons_succ, Act.put, List.setIfInBounds_toArray, List.set_cons_zero, List.set_cons_succ]
                  refine wpAnyH_take (i := 17) (v := ?_) rfl (by kernel_rfl) (by kernel_rfl) (by kernel_rfl) (fun _ _ _ h => h) (Or.inl ⟨by rfl, ?_⟩) (by assumption) ?_
                  rotate_left
                  · (intro w hSw; (try dsimp only at hSw); go_simp; try with_reducible rfl)
                  try simp only [List.getElem_toArray, List.getElem_cons_zero, List.getElem_cons_succ, Act.put, List.setIfInBounds_toArray, List.set_cons_zero, List.set_cons_succ]
                  refine wpAnyH_take (i := 18) (v := ?_) rfl (by kernel_rfl) (by kernel_rfl) (by kernel_rfl) (fun _ _ _ h => h) (Or.inl ⟨by rfl, ?_⟩) (by assumption) ?_
                  rotate_left
                  · (intro w hSw; (try dsimp only at hSw); go_simp; try with_reducible rfl)
                  try simp only [List.getElem_toArray, List.getElem_cons_zero, List.getElem_cons_succ, Act.put, List.setIfInBounds_toArray, List.set_cons_zero, List.set_cons_succ]
                  refine wpAnyH_take (i := 19) (v := undef) rfl (by kernel_rfl) (by kernel_rfl) (by kernel_rfl) (fun _ _ _ h => h) (Or.inr ⟨by rfl, rfl⟩) (by assumption) ?_
                  try simp only [List.getElem_toArray, List.getElem_cons_zero, List.getElem_cons_succ, Act.put, List.setIfInBounds_toArray, List.set_cons_zero, List.set_cons_succ]
                  refine wpAnyH_take (i := 20) (v := undef) rfl (by kernel_rfl) (by kernel_rfl) (by kernel_rfl) (fun _ _ _ h => h) (Or.inr ⟨by rfl, rfl⟩) (by assumption) ?_
                  try simp only [List.getElem_toArray, List.getElem_cons_zero, List.getElem_cons_succ, Act.put, List.setIfInBounds_toArray, List.set_cons_zero, List.set_cons_succ]
                  refine wpAnyH_take (i := 21) (v := undef) rfl (by kernel_rfl) (by kernel_rfl) (by kernel_rfl) (fun _ _ _ h => h) (Or.inr ⟨by rfl, rfl⟩) (by assumption) ?_
                  try simp only [List.getElem_toArray, List.getElem_cons_zero, List.getElem_cons_succ, Act.put, List.setIfInBounds_toArray, List.set_cons_zero, List.set_cons_succ]
                  refine wpAnyH_take (i := 22) (v := undef) rfl (by kernel_rfl) (by kernel_rfl) (by kernel_rfl) (fun _ _ _ h => h) (Or.inr ⟨by rfl, rfl⟩) (by assumption) ?_
                  try simp only [List.getElem_toArray, List.getElem_cons_zero, List.getElem_cons_succ, Act.put, List.setIfInBounds_toArray, List.set_cons_zero, List.set_cons_succ]
                  refine wpAnyH_take (i := 23) (v := undef) rfl (by kernel_rfl) (by kernel_rfl) (by kernel_rfl) (fun _ _ _ h => h) (Or.inr ⟨by rfl, rfl⟩) (by assumption) ?_
                  try simp only [List.getElem_toArray, List.getElem_cons_zero, List.getElem_cons_succ, Act.put, List.setIfInBounds_toArray, List.set_cons_zero, List.set_cons_succ]
                  refine wpAnyH_take (i := 24) (v := undef) rfl (by kernel_rfl) (by kernel_rfl) (by kernel_rfl) (fun _ _ _ h => h) (Or.inr ⟨by rfl, rfl⟩) (by assumption) ?_
                  try simp only [List.getElem_toArray, List.getElem_cons_zero, List.getElem_cons_succ, Act.put, List.setIfInBounds_toArray, List.set_cons_zero, List.set_cons_succ]
                  refine wpAnyH_take (i := 25) (v := undef) rfl (by kernel_rfl) (by kernel_rfl) (by kernel_rfl) (fun _ _ _ h => h) (Or.inr ⟨by rfl, rfl⟩) (by assumption) ?_
                  try simp only [List.getElem_toArray, List.getElem_cons_zero, List.getElem_cons_succ, Act.put, List.setIfInBounds_toArray, List.set_cons_zero, List.set_cons_succ]
                  refine wpAnyH_take (i := 26) (v := undef) rfl (by kernel_rfl) (by kernel_rfl) (by kernel_rfl) (fun _ _ _ h => h) (Or.inr ⟨by rfl, rfl⟩) (by assumption) ?_
                  try simp only [List.getElem_toArray, List.getElem_cons_zero, List.getElem_cons_succ, Act.put, List.setIfInBounds_toArray, List.set_cons_zero, List.set_cons_succ]
                  refine wpAnyH_take (i := 27) (v := undef) rfl (by kernel_rfl) (by kernel_rfl) (by kernel_rfl) (fun _ _ _ h => h) (Or.inr ⟨by rfl, rfl⟩) (by assumption) ?_
                  try simp only [List.getElem_toArray, List.getElem_cons_zero, List.getElem_cons_succ, Act.put, List.setIfInBounds_toArray, List.set_cons_zero, List.set_cons_succ]
                  refine wpAnyH_take (i := 28) (v := undef) rfl (by kernel_rfl) (by kernel_rfl) (by kernel_rfl) (fun _ _ _ h => h) (Or.inr ⟨by rfl, rfl⟩) (by assumption) ?_
                  try simp only [List.getElem_toArray, List.getElem_cons_zero, List.getElem_cons_succ, Act.put, List.setIfInBounds_toArray, List.set_cons_zero, List.set_cons_succ]
                  refine wpAnyH_take (i := 29) (v := undef) rfl (by kernel_rfl) (by kernel_rfl) (by kernel_rfl) (fun _ _ _ h => h) (Or.inr ⟨by rfl, rfl⟩) (by assumption) ?_
                  try simp only [List.getElem_toArray, List.getElem_cons_zero, List.getElem_cons_succ, Act.put, List.setIfInBounds_toArray, List.set_cons_zero, List.set_cons_succ]
                  refine wpAnyH_take (i := 30) (v := undef) rfl (by kernel_rfl) (by kernel_rfl) (by kernel_rfl) (fun _ _ _ h => h) (Or.inr ⟨by rfl, rfl⟩) (by assumption) ?_
                  try simp only [List.getElem_toArray, List.getElem_cons_zero, List.getElem_cons_succ, Act.put, List.setIfInBounds_toArray, List.set_cons_zero, List.set_cons_succ]
                  refine wpAnyH_take (i := 31) (v := undef) rfl (by kernel_rfl) (by kernel_rfl) (by kernel_rfl) (fun _ _ _ h => h) (Or.inr ⟨by rfl, rfl⟩) (by assumption) ?_
                  try simp only [List.getElem_toArray, List.getElem_cons_zero, List.getElem_cons_succ, Act.put, List.setIfInBounds_toArray, List.set_cons_zero, List.set_cons_succ]
                  refine wpAnyH_take (i := 32) (v := undef) rfl (by kernel_rfl) (by kernel_rfl) (by kernel_rfl) (fun _ _ _ h => h) (Or.inr ⟨by rfl, rfl⟩) (by assumption) ?_
                  try simp only [List.getElem_toArray, List.getElem_cons_zero, List.getElem_cons_succ, Act.put, List.setIfInBounds_toArray, List.set_cons_zero, List.set_cons_succ]
                  refine wpAnyH_take (i := 33) (v := undef) rfl (by kernel_rfl) (by kernel_rfl) (by kernel_rfl) (fun _ _ _ h => h) (Or.inr ⟨by rfl, rfl⟩) (by assumption) ?_
                  try simp only [List.getElem_toArray, List.getElem_cons_zero, List.getElem_cons_succ, Act.put, List.setIfInBounds_toArray, List.set_cons_zero, List.set_cons_succ]
                  refine wpAnyH_take (i := 34) (v := undef) rfl (by kernel_rfl) (by kernel_rfl) (by kernel_rfl) (fun _ _ _ h => h) (Or.inr ⟨by rfl, rfl⟩) (by assumption) ?_
                  try simp only [List.getElem_toArray, List.getElem_cons_zero, List.getElem_cons_succ, Act.put, List.setIfInBounds_toArray, List.set_cons_zero, List.set_cons_succ]
                  refine wpAnyH_take (i := 35) (v := undef) rfl (by kernel_rfl) (by kernel_rfl) (by kernel_rfl) (fun _ _ _ h => h) (Or.inr ⟨by rfl, rfl⟩) (by assumption) ?_
                  try simp only [List.getElem_toArray, List.getElem_cons_zero, List.getElem_cons_succ, Act.put, List.setIfInBounds_toArray, List.set_cons_zero, List.set_cons_succ]
                  refine wpAnyH_take (i := 36) (v := undef) rfl (by kernel_rfl) (by kernel_rfl) (by kernel_rfl) (fun _ _ _ h => h) (Or.inr ⟨by rfl, rfl⟩) (by assumption) ?_
                  try simp only [List.getElem_toArray, List.getElem_cons_zero, List.getElem_cons_succ, Act.put, List.setIfInBounds_toArray, List.set_cons_zero, List.set_cons_succ]
                  refine wpAnyH_take (i := 37) (v := ?_) rfl (by kernel_rfl) (by kernel_rfl) (by kernel_rfl) (fun _ _ _ h => h) (Or.inl ⟨by rfl, ?_⟩) (by assumption) ?_
                  rotate_left
                  · (intro w hSw; (try dsimp only at hSw); go_simp; try with_reducible rfl)
                  try simp only [List.getElem_toArray, List.getElem_cons_zero, List.getElem_cons_succ, Act.put, List.setIfInBounds_toArray, List.set_cons_zero, List.set_cons_succ]
                  refine wpAnyH_done (by kernel_rfl) ?_ _
                  go_wp2_with fail
                  go_ret
                  exact ⟨ret_bool HR.out, e2.trans (bz.mono (by omega))⟩
                | true =>
                  have HGW' : Hid (∀ j, ∀ hj : j < ws.length, j < k + 1 → wok ws[j] = true) := fun j hj hjk => by
                    by_cases e : j = k
                    · subst e; exact HWK.out
                    · exact HGW.out j hj (by omega)
                  clear HGW HFW HWK
                  rcases Nat.eq_zero_or_pos k with rfl | kpos
                  · skip
                    have HG' : Hid (∀ j, j < 1 → good (ws.map (·.1)) j = true) := fun j hj => by
                      obtain rfl : j = 0 := by omega
                      rw [hG.out]; rfl
                    have kc : wr.cell? ⟨w.heap.size, 3, none⟩ = some (.slice (some ⟨b, off, none⟩) n2 c2) ∧ wr.cell? ⟨b, off, none⟩ = some (.string xa) ∧ wr.cell? ⟨b, off + 1, none⟩ = some (.int .i64 xb) ∧ wr.cell? ⟨b, off + 2, none⟩ = some (.int .u64 (xc : Int)) ∧ wr.cell? ⟨b, off + 3, none⟩ = some (.string xd) := ⟨y3, x0, x1, x2, x3⟩
                    clear HG hG HS HF y3 x0 x1 x2 x3
                    go_upto_region 11 with fail
                    refine wp_region_held_drew (S := fun w' => w'.cell? ⟨w.heap.size, 3, none⟩ = some (.slice (some ⟨b, off, none⟩) n2 c2) ∧ w'.cell? ⟨b, off, none⟩ = some (.string xa) ∧ w'.cell? ⟨b, off + 1, none⟩ = some (.int .i64 xb) ∧ w'.cell? ⟨b, off + 2, none⟩ = some (.int .u64 (xc : Int)) ∧ w'.cell? ⟨b, off + 3, none⟩ = some (.string xd)) (by kernel_rfl) (by exact kc) (fun hHeld => ?_)
                    refine wpAnyH_take (i := 0) (v := ?_) rfl (by kernel_rfl) (by kernel_rfl) (by kernel_rfl) (fun _ _ _ h => h) (Or.inl ⟨by rfl, ?_⟩) (by assumption) ?_
                    rotate_left
                    · (intro w hSw; (try dsimp only at hSw); go_simp; try with_reducible rfl)
                    try simp only [List.getElem_toArray, List.getElem_cons_zero, List.getElem_cons_succ, Act.put, List.setIfInBounds_toArray, List.set_cons_zero, List.set_cons_succ]
                    refine wpAnyH_take (i := 1) (v := ?_) rfl (by kernel_rfl) (by kernel_rfl) (by kernel_rfl) (fun _ _ _ h => h) (Or.inl ⟨by rfl, ?_⟩) (by assumption) ?_
                    rotate_left
                    · (intro w hSw; (try dsimp only at hSw); go_simp; try with_reducible rfl)
                    try simp only [List.getElem_toArray, List.getElem_cons_zero, List.getElem_cons_succ, Act.put, List.setIfInBounds_toArray, List.set_cons_zero, List.set_cons_succ]
                    refine wpAnyH_take (i := 2) (v := ?_) rfl (by kernel_rfl) (by kernel_rfl) (by kernel_rfl) (fun _ _ _ h => h) (Or.inl ⟨by rfl, ?_⟩) (by assumption) ?_
                    rotate_left
                    · (intro w hSw; (try dsimp only at hSw); go_simp; try with_reducible rfl)
                    try simp only [List.getElem_toArray, List.getElem_cons_zero, List.getElem_cons_succ, Act.put, List.setIfInBounds_toArray, List.set_cons_zero, List.set_cons_succ]
                    refine wpAnyH_take (i := 3) (v := ?_) rfl (by kernel_rfl) (by kernel_rfl) (by kernel_rfl) (fun _ _ _ h => h) (Or.inl ⟨by rfl, ?_⟩) (by assumption) ?_
                    rotate_left
                    · (intro w hSw; (try dsimp only at hSw); go_simp; try with_reducible rfl)
                    try simp only [List.getElem_toArray, List.getElem_cons_zero, List.getElem_cons_succ, Act.put, List.setIfInBounds_toArray, List.set_cons_zero, List.set_cons_succ]
                    refine wpAnyH_take (i := 4) (v := ?_) rfl (by kernel_rfl) (by kernel_rfl) (by kernel_rfl) (fun _ _ _ h => h) (Or.inl ⟨by rfl, ?_⟩) (by assumption) ?_
                    rotate_left
                    · (intro w hSw; (try dsimp only at hSw); go_simp; try with_reducible rfl)
                    try simp only [List.getElem_toArray, List.getElem_cons_zero, List.getElem_cons_succ, Act.put, List.setIfInBounds_toArray, List.set_cons_zero, List.set_cons_succ]
                    refine wpAnyH_take (i := 5) (v := ?_) rfl (by kernel_rfl) (by kernel_rfl) (by kernel_rfl) (fun _ _ _ h => h) (Or.inl ⟨by rfl, ?_⟩) (by assumption) ?_
                    rotate_left
                    · (intro w hSw; (try dsimp only at hSw); go_simp; try with_reducible rfl)
                    try simp only [List.getElem_toArray, List.getElem_cons_zero, List.getElem_cons_succ, Act.put, List.setIfInBounds_toArray, List.set_cons_zero, List.set_cons_succ]
                    refine wpAnyH_ready (rs := [6]) (by kernel_rfl) (by simp) ?_
                    refine AllReadyH.cons rfl (fun K hK => ?_) AllReadyH.nil
                    go_simp
                    refine (HK.out _).mono ?_
                    rintro e v1 ⟨rfl, rfl⟩
                    refine hK.out _ _ ?_ (fun hHeld => ?_)
                    · exact kc
                    clear hK K
                    try simp only [List.getElem_toArray, List.getElem_cons_zero, List.getElem_cons_succ, Act.put, List.setIfInBounds_toArray, List.set_cons_zero, List.set_cons_succ]
                    refine wpAnyH_take (i := 7) (v := ?_) rfl (by kernel_rfl) (by kernel_rfl) (by kernel_rfl) (fun _ _ _ h => h) (Or.inl ⟨by rfl, ?_⟩) (by assumption) ?_
                    rotate_left
                    · (intro w hSw; (try dsimp only at hSw); go_simp; try with_reducible rfl)
                    try simp only [List.getElem_toArray, List.getElem_cons_zero, List.getElem_cons_succ, Act.put, List.setIfInBounds_toArray, List.set_cons_zero, List.set_cons_succ]
                    refine wpAnyH_take (i := 8) (v := ?_) rfl (by kernel_rfl) (by kernel_rfl) (by kernel_rfl) (fun _ _ _ h => h) (Or.inl ⟨by rfl, ?_⟩) (by assumption) ?_
                    rotate_left
                    · (intro w hSw; (try dsimp only at hSw); go_simp; try with_reducible rfl)
                    try simp only [List.getElem_toArray, List.getElem_cons_zero, List.getElem_cons_succ, Act.put, List.setIfInBounds_toArray, List.set_cons_zero, List.set_cons_succ]
                    refine wpAnyH_take (i := 9) (v := ?_) rfl (by kernel_rfl) (by kernel_rfl) (by kernel_rfl) (fun _ _ _ h => h) (Or.inl ⟨by rfl, ?_⟩) (by assumption) ?_
                    rotate_left
                    · (intro w hSw; (try dsimp only at hSw); go_simp; try with_reducible rfl)
                    try simp only [List.getElem_toArray, List.getElem_cons_zero, List.getElem_cons_succ, Act.put, List.setIfInBounds_toArray, List.set_cons_zero, List.set_cons_succ]
                    refine wpAnyH_take (i := 10) (v := ?_) rfl (by kernel_rfl) (by kernel_rfl) (by kernel_rfl) (fun _ _ _ h => h) (Or.inl ⟨by rfl, ?_⟩) (by assumption) ?_
                    rotate_left
                    · (intro w hSw; (try dsimp only at hSw); go_simp; try with_reducible rfl)
                    try simp only [List.getElem_toArray, List.getElem_cons_zero, List.getElem_cons_succ, Act.put, List.setIfInBounds_toArray, List.set_cons_zero, List.set_cons_succ]
                    refine wpAnyH_take (i := 11) (v := ?_) rfl (by kernel_rfl) (by kernel_rfl) (by kernel_rfl) (fun _ _ _ h => h) (Or.inl ⟨by rfl, ?_⟩) (by assumption) ?_
                    rotate_left
                    · (intro w hSw; (try dsimp only at hSw); go_simp; try with_reducible rfl)
                    try simp only [List.getElem_toArray, List.getElem_cons_zero, List.getElem_cons_succ, Act.put, List.setIfInBounds_toArray, List.set_cons_zero, List.set_cons_succ]
                    refine wpAnyH_take (i := 12) (v := ?_) rfl (by kernel_rfl) (by kernel_rfl) (by kernel_rfl) (fun _ _ _ h => h) (Or.inl ⟨by rfl, ?_⟩) (by assumption) ?_
                    rotate_left
                    · (intro w hSw; (try dsimp only at hSw); go_simp; try with_reducible rfl)
                    try simp only [List.getElem_toArray, List.getElem_cons_zero, List.getElem_cons_succ, Act.put, List.setIfInBounds_toArray, List.set_cons_zero, List.set_cons_succ]
                    refine wpAnyH_take (i := 13) (v := ?_) rfl (by kernel_rfl) (by kernel_rfl) (by kernel_rfl) (fun _ _ _ h => h) (Or.inl ⟨by rfl, ?_⟩) (by assumption) ?_
                    rotate_left
                    · (intro w hSw; (try dsimp only at hSw); go_simp; try with_reducible rfl)
                    try simp only [List.getElem_toArray, List.getElem_cons_zero, List.getElem_cons_succ, Act.put, List.setIfInBounds_toArray, List.set_cons_zero, List.set_cons_succ]
                    refine wpAnyH_take (i := 14) (v := ?_) rfl (by kernel_rfl) (by kernel_rfl) (by kernel_rfl) (fun _ _ _ h => h) (Or.inl ⟨by rfl, ?_⟩) (by assumption) ?_
                    rotate_left
                    · (intro w hSw; (try dsimp only at hSw); go_simp; try with_reducible rfl)
                    try simp only [List.getElem_toArray, List.getElem_cons_zero, List.getElem_cons_succ, Act.put, List.setIfInBounds_toArray, List.set_cons_zero, List.set_cons_succ]
                    refine wpAnyH_ready (rs := [15]) (by kernel_rfl) (by simp) ?_
                    refine AllReadyH.cons rfl (fun K hK => ?_) AllReadyH.nil
                    go_simp
                    refine (HV.out _).mono ?_
                    rintro e v2 ⟨rfl, g2⟩
                    have g2 := belowOfDrewH g2
                    have bz := hbel.out.trans (g2.mono hbel.out.size)
                    have k2 : v2.cell? ⟨w.heap.size, 3, none⟩ = some (.slice (some ⟨b, off, none⟩) n2 c2) ∧ v2.cell? ⟨b, off, none⟩ = some (.string xa) ∧ v2.cell? ⟨b, off + 1, none⟩ = some (.int .i64 xb) ∧ v2.cell? ⟨b, off + 2, none⟩ = some (.int .u64 (xc : Int)) ∧ v2.cell? ⟨b, off + 3, none⟩ = some (.string xd) := ⟨cellB g2 kc.1, cellB g2 kc.2.1, cellB g2 kc.2.2.1, cellB g2 kc.2.2.2.1, cellB g2 kc.2.2.2.2⟩
                    refine hK.out _ _ ?_ (fun hHeld => ?_)
                    · exact k2
                    clear hK K
                    try simp only [List.getElem_toArray, List.getElem_cons_zero, List.getElem_cons_succ, Act.put, List.setIfInBounds_toArray, List.set_cons_zero, List.set_cons_succ]
                    refine wpAnyH_take (i := 16) (v := ?_) rfl (by kernel_rfl) (by kernel_rfl) (by kernel_rfl) (fun _ _ _ h => h) (Or.inl ⟨by rfl, ?_⟩) (by assumption) ?_
                    rotate_left
                    · (intro w hSw; (try dsimp only at hSw); go_simp; try with_reducible rfl)
                    try simp only [List.getElem_toArray, List.getElem_cons_zero, List.getElem_cons_succ, Act.put, List.setIfInBounds_toArray, List.set_cons_zero, List.set_cons_succ]
                    refine wpAnyH_take (i := 17) (v := ?_) rfl (by kernel_rfl) (by kernel_rfl) (by kernel_rfl) (fun _ _ _ h => h) (Or.inl ⟨by rfl, ?_⟩) (by assumption) ?_
                    rotate_left
                    · (intro w hSw; (try dsimp only at hSw); go_simp; try with_reducible rfl)
                    try simp only [List.getElem_toArray, List.getElem_cons_zero, List.getElem_cons_succ, Act.put, List.setIfInBounds_toArray, List.set_cons_zero, List.set_cons_succ]
                    refine wpAnyH_take (i := 18) (v := ?_) rfl (by kernel_rfl) (by kernel_rfl) (by kernel_rfl) (fun _ _ _ h => h) (Or.inl ⟨by rfl, ?_⟩) (by assumption) ?_
                    rotate_left
                    · (intro w hSw; (try dsimp only at hSw); go_simp; try with_reducible rfl)
                    try simp only [List.getElem_toArray, List.getElem_cons_zero, List.getElem_cons_succ, Act.put, List.setIfInBounds_toArray, List.set_cons_zero, List.set_cons_succ]
                    refine wpAnyH_take (i := 19) (v := ?_) rfl (by kernel_rfl) (by kernel_rfl) (by kernel_rfl) (fun _ _ _ h => h) (Or.inl ⟨by rfl, ?_⟩) (by assumption) ?_
                    rotate_left
                    · (intro w hSw; (try dsimp only at hSw); go_simp; try with_reducible rfl)
                    try simp only [List.getElem_toArray, List.getElem_cons_zero, List.getElem_cons_succ, Act.put, List.setIfInBounds_toArray, List.set_cons_zero, List.set_cons_succ]
                    refine wpAnyH_take (i := 20) (v := ?_) rfl (by kernel_rfl) (by kernel_rfl) (by kernel_rfl) (fun _ _ _ h => h) (Or.inl ⟨by rfl, ?_⟩) (by assumption) ?_
                    rotate_left
                    · (intro w hSw; (try dsimp only at hSw); go_simp; try with_reducible rfl)
                    try simp only [List.getElem_toArray, List.getElem_cons_zero, List.getElem_cons_succ, Act.put, List.setIfInBounds_toArray, List.set_cons_zero, List.set_cons_succ]
                    refine wpAnyH_take (i := 21) (v := ?_) rfl (by kernel_rfl) (by kernel_rfl) (by kernel_rfl) (fun _ _ _ h => h) (Or.inl ⟨by rfl, ?_⟩) (by assumption) ?_
                    rotate_left
                    · (intro w hSw; (try dsimp only at hSw); go_simp; try with_reducible rfl)
                    try simp only [List.getElem_toArray, List.getElem_cons_zero, List.getElem_cons_succ, Act.put, List.setIfInBounds_toArray, List.set_cons_zero, List.set_cons_succ]
                    refine wpAnyH_take (i := 22) (v := undef) rfl (by kernel_rfl) (by kernel_rfl) (by kernel_rfl) (fun _ _ _ h => h) (Or.inr ⟨by rfl, rfl⟩) (by assumption) ?_
                    try simp only [List.getElem_toArray, List.getElem_cons_zero, List.getElem_cons_succ, Act.put, List.setIfInBounds_toArray, List.set_cons_zero, List.set_cons_succ]
                    refine wpAnyH_take (i := 23) (v := undef) rfl (by kernel_rfl) (by kernel_rfl) (by kernel_rfl) (fun _ _ _ h => h) (Or.inr ⟨by rfl, rfl⟩) (by assumption) ?_
                    try simp only [List.getElem_toArray, List.getElem_cons_zero, List.getElem_cons_succ, Act.put, List.setIfInBounds_toArray, List.set_cons_zero, List.set_cons_succ]
                    refine wpAnyH_take (i := 24) (v := undef) rfl (by kernel_rfl) (by kernel_rfl) (by kernel_rfl) (fun _ _ _ h => h) (Or.inr ⟨by rfl, rfl⟩) (by assumption) ?_
                    try simp only [List.getElem_toArray, List.getElem_cons_zero, List.getElem_cons_succ, Act.put, List.setIfInBounds_toArray, List.set_cons_zero, List.set_cons_succ]
                    refine wpAnyH_take (i := 25) (v := undef) rfl (by kernel_rfl) (by kernel_rfl) (by kernel_rfl) (fun _ _ _ h => h) (Or.inr ⟨by rfl, rfl⟩) (by assumption) ?_
                    try simp only [List.getElem_toArray, List.getElem_cons_zero, List.getElem_cons_succ, Act.put, List.setIfInBounds_toArray, List.set_cons_zero, List.set_cons_succ]
                    refine wpAnyH_take (i := 26) (v := undef) rfl (by kernel_rfl) (by kernel_rfl) (by kernel_rfl) (fun _ _ _ h => h) (Or.inr ⟨by rfl, rfl⟩) (by assumption) ?_
                    try simp only [List.getElem_toArray, List.getElem_cons_zero, List.getElem_cons_succ, Act.put, List.setIfInBounds_toArray, List.set_cons_zero, List.set_cons_succ]
                    refine wpAnyH_take (i := 27) (v := undef) rfl (by kernel_rfl) (by kernel_rfl) (by kernel_rfl) (fun _ _ _ h => h) (Or.inr ⟨by rfl, rfl⟩) (by assumption) ?_
                    try simp only [List.getElem_toArray, List.getElem_cons_zero, List.getElem_cons_succ, Act.put, List.setIfInBounds_toArray, List.set_cons_zero, List.set_cons_succ]
                    refine wpAnyH_take (i := 28) (v := undef) rfl (by kernel_rfl) (by kernel_rfl) (by kernel_rfl) (fun _ _ _ h => h) (Or.inr ⟨by rfl, rfl⟩) (by assumption) ?_
                    try simp only [List.getElem_toArray, List.getElem_cons_zero, List.getElem_cons_succ, Act.put, List.setIfInBounds_toArray, List.set_cons_zero, List.set_cons_succ]
                    refine wpAnyH_take (i := 29) (v := undef) rfl (by kernel_rfl) (by kernel_rfl) (by kernel_rfl) (fun _ _ _ h => h) (Or.inr ⟨by rfl, rfl⟩) (by assumption) ?_
                    try simp only [List.getElem_toArray, List.getElem_cons_zero, List.getElem_cons_succ, Act.put, List.setIfInBounds_toArray, List.set_cons_zero, List.set_cons_succ]
                    refine wpAnyH_take (i := 30) (v := undef) rfl (by kernel_rfl) (by kernel_rfl) (by kernel_rfl) (fun _ _ _ h => h) (Or.inr ⟨by rfl, rfl⟩) (by assumption) ?_
                    try simp only [List.getElem_toArray, List.getElem_cons_zero, List.getElem_cons_succ, Act.put, List.setIfInBounds_toArray, List.set_cons_zero, List.set_cons_succ]
                    refine wpAnyH_take (i := 31) (v := undef) rfl (by kernel_rfl) (by kernel_rfl) (by kernel_rfl) (fun _ _ _ h => h) (Or.inr ⟨by rfl, rfl⟩) (by assumption) ?_
                    try simp only [List.getElem_toArray, List.getElem_cons_zero, List.getElem_cons_succ, Act.put, List.setIfInBounds_toArray, List.set_cons_zero, List.set_cons_succ]
                    refine wpAnyH_take (i := 32) (v := undef) rfl (by kernel_rfl) (by kernel_rfl) (by kernel_rfl) (fun _ _ _ h => h) (Or.inr ⟨by rfl, rfl⟩) (by assumption) ?_
                    try simp only [List.getElem_toArray, List.getElem_cons_zero, List.getElem_cons_succ, Act.put, List.setIfInBounds_toArray, List.set_cons_zero, List.set_cons_succ]
                    refine wpAnyH_take (i := 33) (v := undef) rfl (by kernel_rfl) (by kernel_rfl) (by kernel_rfl) (fun _ _ _ h => h) (Or.inr ⟨by rfl, rfl⟩) (by assumption) ?_
                    try simp only [List.getElem_toArray, List.getElem_cons_zero, List.getElem_cons_succ, Act.put, List.setIfInBounds_toArray, List.set_cons_zero, List.set_cons_succ]
                    refine wpAnyH_take (i := 34) (v := undef) rfl (by kernel_rfl) (by kernel_rfl) (by kernel_rfl) (fun _ _ _ h => h) (Or.inr ⟨by rfl, rfl⟩) (by assumption) ?_
                    try simp only [List.getElem_toArray, List.getElem_cons_zero, List.getElem_cons_succ, Act.put, List.setIfInBounds_toArray, List.set_cons_zero, List.set_cons_succ]
                    refine wpAnyH_take (i := 35) (v := undef) rfl (by kernel_rfl) (by kernel_rfl) (by kernel_rfl) (fun _ _ _ h => h) (Or.inr ⟨by rfl, rfl⟩) (by assumption) ?_
                    try simp only [List.getElem_toArray, List.getElem_cons_zero, List.getElem_cons_succ, Act.put, List.setIfInBounds_toArray, List.set_cons_zero, List.set_cons_succ]
                    refine wpAnyH_take (i := 36) (v := ?_) rfl (by kernel_rfl) (by kernel_rfl) (by kernel_rfl) (fun _ _ _ h => h) (Or.inl ⟨by rfl, ?_⟩) (by assumption) ?_
                    rotate_left
                    · (intro w hSw; (try dsimp only at hSw); go_simp; try with_reducible rfl)
                    try simp only [List.getElem_toArray, List.getElem_cons_zero, List.getElem_cons_succ, Act.put, List.setIfInBounds_toArray, List.set_cons_zero, List.set_cons_succ]
                    refine wpAnyH_take (i := 37) (v := ?_) rfl (by kernel_rfl) (by kernel_rfl) (by kernel_rfl) (fun _ _ _ h => h) (Or.inl ⟨by rfl, ?_⟩) (by assumption) ?_
                    rotate_left
                    · (intro w hSw; (try dsimp only at hSw); go_simp; try with_reducible rfl)
                    try simp only [List.getElem_toArray, List.getElem_cons_zero, List.getElem_cons_succ, Act.put, List.setIfInBounds_toArray, List.set_cons_zero, List.set_cons_succ]
                    refine wpAnyH_done (by kernel_rfl) ?_ _
                    go_wp2_with fail
                    go_roundw
                    case rel => exact ⟨1, by omega, by go_num, HG', HGW', bz⟩
                    case measure => first | (simp [intOf]; done) | (simp [intOf]; omega)
                  · obtain ⟨j, hkj⟩ : ∃ j, k = j + 1 := ⟨k - 1, by omega⟩
                    have hjl : j < ws.length := by omega
                    obtain ⟨b', off', hA', _, z0, _⟩ := (hw.below hbel.out (by omega)).wr j hjl
                    injection hA' with hA'
                    injection hA' with q1 q2
                    subst q1; subst q2
                    obtain ⟨xp, hxp⟩ : ∃ xp : ByteArray, xp = ⟨ws[j].1.toArray⟩ := ⟨_, rfl⟩
                    rw [← hxp] at z0
                    have hpd : xp.data.toList = ws[j].1 := by rw [hxp]
                    have hG2 : Hid (good (ws.map (·.1)) k = Op.bytesLess xp.toList xa.toList) := by
                      show _ = _
                      rw [hG.out, Lib.toList_data, Lib.toList_data, HS.out, hpd]
                      rw [decide_eq_false (show ¬ k = 0 by omega)]
                      simp [hkj]
                    have i0 : (0 : Int) ≤ (k : Int) := by omega
                    have i1 : (k : Int) < (n2 : Int) := by omega
                    have i3 : decide (0 < (k : Int)) = true := by simp; omega
                    have i4 : (0 : Int) ≤ (j : Int) := by omega
                    have i5 : (j : Int) < (n2 : Int) := by omega
                    have i7 : (0 : Int) ≤ (k : Int) - 1 := by omega
                    have i9 : (1 : Int) ≤ (k : Int) := by omega
                    have i8 : (k : Int) - 1 < (n2 : Int) := by omega
                    have i6 : IntKind.i64.wrap ((k : Int) - 1) = (k : Int) - 1 := by rw [IntKind.wrap_i64]; omega
                    have kc : wr.cell? ⟨w.heap.size, 3, none⟩ = some (.slice (some ⟨b, off, none⟩) n2 c2) ∧ wr.cell? ⟨b, off + k * 4, none⟩ = some (.string xa) ∧ wr.cell? ⟨b, off + k * 4 + 1, none⟩ = some (.int .i64 xb) ∧ wr.cell? ⟨b, off + k * 4 + 2, none⟩ = some (.int .u64 (xc : Int)) ∧ wr.cell? ⟨b, off + k * 4 + 3, none⟩ = some (.string xd) ∧ wr.cell? ⟨b, off + j * 4, none⟩ = some (.string xp) ∧ wr.cell? ⟨b, off + (k - 1) * 4, none⟩ = some (.string xp) ∧ wr.cell? ⟨b, off + ((k : Int) - 1).toNat * 4, none⟩ = some (.string xp) := ⟨y3, x0, x1, x2, x3, z0, by rw [show k - 1 = j by omega]; exact z0, by rw [show ((k : Int) - 1).toNat = j by omega]; exact z0⟩
                    clear hG HS hxp hpd y3 x0 x1 x2 x3 z0 hkj
                    cases hless : Op.bytesLess xp.toList xa.toList with
                    | false =>
                      have HR := Lib.hid (HF.out (by rw [hG2.out]; exact hless))
                      clear hG2 HF HG HGW' F4 F5 F9
                      rcases le_false hless with dl | ⟨dl, dm⟩
                      all_goals
                        go_wp2_with fail
                        go_region_held3 (fun w' => w'.cell? ⟨w.heap.size, 3, none⟩ = some (.slice (some ⟨b, off, none⟩) n2 c2) ∧ w'.cell? ⟨b, off + k * 4, none⟩ = some (.string xa) ∧ w'.cell? ⟨b, off + k * 4 + 1, none⟩ = some (.int .i64 xb) ∧ w'.cell? ⟨b, off + k * 4 + 2, none⟩ = some (.int .u64 (xc : Int)) ∧ w'.cell? ⟨b, off + k * 4 + 3, none⟩ = some (.string xd) ∧ w'.cell? ⟨b, off + j * 4, none⟩ = some (.string xp) ∧ w'.cell? ⟨b, off + (k - 1) * 4, none⟩ = some (.string xp) ∧ w'.cell? ⟨b, off + ((k : Int) - 1).toNat * 4, none⟩ = some (.string xp)) (exact kc) (first | (go_at_call 53; refine (HK.out _).mono ?_; rintro e w' ⟨rfl, rfl⟩) | (go_at_call 54; refine (HV.out _).mono ?_; rintro e v2 ⟨rfl, g⟩; have g := belowOfDrewH g; have bz := hbel.out.trans (g.mono hbel.out.size); have kc : v2.cell? ⟨w.heap.size, 3, none⟩ = some (.slice (some ⟨b, off, none⟩) n2 c2) ∧ v2.cell? ⟨b, off + k * 4, none⟩ = some (.string xa) ∧ v2.cell? ⟨b, off + k * 4 + 1, none⟩ = some (.int .i64 xb) ∧ v2.cell? ⟨b, off + k * 4 + 2, none⟩ = some (.int .u64 (xc : Int)) ∧ v2.cell? ⟨b, off + k * 4 + 3, none⟩ = some (.string xd) ∧ v2.cell? ⟨b, off + j * 4, none⟩ = some (.string xp) ∧ v2.cell? ⟨b, off + (k - 1) * 4, none⟩ = some (.string xp) ∧ v2.cell? ⟨b, off + ((k : Int) - 1).toNat * 4, none⟩ = some (.string xp) := ⟨cellB g kc.1, cellB g kc.2.1, cellB g kc.2.2.1, cellB g kc.2.2.2.1, cellB g kc.2.2.2.2.1, cellB g kc.2.2.2.2.2.1, cellB g kc.2.2.2.2.2.2.1, cellB g kc.2.2.2.2.2.2.2⟩))
                        go_wp2_with fail
                        go_ret
                        exact ⟨ret_bool HR.out, e2.trans (bz.mono (by omega))⟩
                    | true =>
                      have HG' : Hid (∀ i, i < k + 1 → good (ws.map (·.1)) i = true) := fun i hi => by
                        by_cases e : i = k
                        · subst e; rw [hG2.out]; exact hless
                        · exact HG.out i (by omega)
                      clear HG hG2 HF
                      obtain ⟨dl, dm⟩ := le_true hless
                      go_wp2_with fail
                      go_region_held3 (fun w' => w'.cell? ⟨w.heap.size, 3, none⟩ = some (.slice (some ⟨b, off, none⟩) n2 c2) ∧ w'.cell? ⟨b, off + k * 4, none⟩ = some (.string xa) ∧ w'.cell? ⟨b, off + k * 4 + 1, none⟩ = some (.int .i64 xb) ∧ w'.cell? ⟨b, off + k * 4 + 2, none⟩ = some (.int .u64 (xc : Int)) ∧ w'.cell? ⟨b, off + k * 4 + 3, none⟩ = some (.string xd) ∧ w'.cell? ⟨b, off + j * 4, none⟩ = some (.string xp) ∧ w'.cell? ⟨b, off + (k - 1) * 4, none⟩ = some (.string xp) ∧ w'.cell? ⟨b, off + ((k : Int) - 1).toNat * 4, none⟩ = some (.string xp)) (exact kc) (first | (go_at_call 53; refine (HK.out _).mono ?_; rintro e w' ⟨rfl, rfl⟩) | (go_at_call 54; refine (HV.out _).mono ?_; rintro e v2 ⟨rfl, g⟩; have g := belowOfDrewH g; have bz := hbel.out.trans (g.mono hbel.out.size); have kc : v2.cell? ⟨w.heap.size, 3, none⟩ = some (.slice (some ⟨b, off, none⟩) n2 c2) ∧ v2.cell? ⟨b, off + k * 4, none⟩ = some (.string xa) ∧ v2.cell? ⟨b, off + k * 4 + 1, none⟩ = some (.int .i64 xb) ∧ v2.cell? ⟨b, off + k * 4 + 2, none⟩ = some (.int .u64 (xc : Int)) ∧ v2.cell? ⟨b, off + k * 4 + 3, none⟩ = some (.string xd) ∧ v2.cell? ⟨b, off + j * 4, none⟩ = some (.string xp) ∧ v2.cell? ⟨b, off + (k - 1) * 4, none⟩ = some (.string xp) ∧ v2.cell? ⟨b, off + ((k : Int) - 1).toNat * 4, none⟩ = some (.string xp) := ⟨cellB g kc.1, cellB g kc.2.1, cellB g kc.2.2.1, cellB g kc.2.2.2.1, cellB g kc.2.2.2.2.1, cellB g kc.2.2.2.2.2.1, cellB g kc.2.2.2.2.2.2.1, cellB g kc.2.2.2.2.2.2.2⟩))
                      go_wp2_with fail
                      go_roundw
                      case rel => exact ⟨k + 1, by omega, by go_num, HG', HGW', bz⟩
                      case measure => first | (simp [intOf]; done) | (simp [intOf]; omega)
            · obtain rfl : k = n2 := by omega
              have y3 := cellB hbel.out y3
              have HR := Lib.hid (F9.out (fun i hi => HG.out i (by rw [HN2.out]; exact hi)) (fun i hi => HGW.out i hi (by rw [HN2.out]; exact hi)))
              clear HG HGW F9
              go_wp2_with fail
              go_ret
              exact ⟨ret_bool HR.out, e2.trans (hbel.out.mono (by omega))⟩
end Go.Proofs.YtjofjpmhokjhnaaDoor

namespace Go.Proofs.YtjofjpmhokjhnaaDoor
set_option maxRecDepth 20001
open Go.RowKit T
set_option linter.unusedSimpArgs false
set_option linter.unusedVariables false

set_option maxHeartbeats 6400000 in
theorem rcf0 (s q : Int) (rs : List Rd1) (ws : List Wr1) (A1 : Option Addr) (c1 : Nat) (A2 : Option Addr) (c2 : Nat) (i j g : Int) (st : Nat) (y : Bool) (w : World) (B : Nat) (hB : B ≤ w.heap.size) (ok : TxOk w B rs ws A1 c1 A2 c2) :
    Calls Tryd.prog 108 #[.agg #[.int .i64 0, .int .i64 s, .int .i64 q, .slice A1 rs.length c1, .slice A2 ws.length c2, .int .i64 i, .int .i64 j, .int .i64 g, .int .u64 (st : Int), .bool y]] w fun e w' => e = .returned (.bool (T.cformed 0 s q rs ws i j g st y)) ∧ Below w.heap.size w w' := by
  obtain ⟨p, hp⟩ : ∃ p : Bool, p = (T.cformed 0 s q rs ws i j g st y) := ⟨_, rfl⟩
  have HP := Lib.hid hp
  rw [← hp]
  clear hp
  obtain ⟨w0, hw0⟩ : ∃ w0, w0 = w.alloc (.cells #[.int .i64 0, .int .i64 s, .int .i64 q, .slice A1 rs.length c1, .slice A2 ws.length c2, .int .i64 i, .int .i64 j, .int .i64 g, .int .u64 (st : Int), .bool y] 45) := ⟨_, rfl⟩
  have g0 : Below w.heap.size w w0 := by rw [hw0]; exact (Below.refl _ _).alloc (Nat.le_refl _) _
  obtain ⟨a0, a1, a2, a3, a4, a5, a6, a7, a8, a9⟩ : w0.cell? ⟨w.heap.size, 0, none⟩ = some (.int .i64 0) ∧ w0.cell? ⟨w.heap.size, 1, none⟩ = some (.int .i64 s) ∧ w0.cell? ⟨w.heap.size, 2, none⟩ = some (.int .i64 q) ∧ w0.cell? ⟨w.heap.size, 3, none⟩ = some (.slice A1 rs.length c1) ∧ w0.cell? ⟨w.heap.size, 4, none⟩ = some (.slice A2 ws.length c2) ∧ w0.cell? ⟨w.heap.size, 5, none⟩ = some (.int .i64 i) ∧ w0.cell? ⟨w.heap.size, 6, none⟩ = some (.int .i64 j) ∧ w0.cell? ⟨w.heap.size, 7, none⟩ = some (.int .i64 g) ∧ w0.cell? ⟨w.heap.size, 8, none⟩ = some (.int .u64 (st : Int)) ∧ w0.cell? ⟨w.heap.size, 9, none⟩ = some (.bool y) := by
    rw [hw0]; exact ⟨by simp, by simp, by simp, by simp, by simp, by simp, by simp, by simp, by simp, by simp⟩
  have gB := g0.size
  have HO := Lib.hid (ok.below g0 hB)
  clear ok
  have H0 := Lib.hid (rtsame_any s q rs ws A1 c1 A2 c2 0 0 [] [] none 0 none 0 w0 B (by omega) HO.out TxOk.zero)
  obtain ⟨no, hno⟩ : ∃ no, no = decide (s = 0 ∧ q = 0 ∧ rs = [] ∧ ws = []) := ⟨_, rfl⟩
  have HNO := Lib.hid hno
  rw [← hno] at H0
  simp only [List.length_nil] at H0
  have H1 := Lib.hid (fun z => rtid_any i j z)
  obtain ⟨ib, hib⟩ : ∃ ib, ib = idb i j := ⟨_, rfl⟩
  have HIB := Lib.hid hib
  rw [← hib] at H1
  clear hno hib
  have HS := Lib.hid (fun z (hz : Below w0.heap.size w0 z) => rcsame_any 0 s q rs ws A1 c1 A2 c2 i j g st y 0 0 0 [] [] none 0 none 0 0 0 0 0 false z B (by have := hz.size; omega) (HO.out.below hz (by omega)) TxOk.zero)
  have HQ : Hid (decide ((0 : Int) = 0 ∧ (i = 0 ∧ j = 0) ∧ g = 0 ∧ st = 0 ∧ y = false ∧ s = 0 ∧ q = 0 ∧ rs = [] ∧ ws = []) = p) := by
    show _ = _
    rw [HP.out]; unfold T.cformed; rw [if_pos rfl]
    apply decide_eq_decide.2
    exact ⟨fun ⟨_, ⟨h1, h2⟩, h3, h4, h5, h6, h7, h8, h9⟩ => ⟨h6, h7, h8, h9, h1, h2, h3, h4, h5⟩, fun ⟨h6, h7, h8, h9, h1, h2, h3, h4, h5⟩ => ⟨rfl, ⟨h1, h2⟩, h3, h4, h5, h6, h7, h8, h9⟩⟩
  clear HP
  generalize decide ((0 : Int) = 0 ∧ (i = 0 ∧ j = 0) ∧ g = 0 ∧ st = 0 ∧ y = false ∧ s = 0 ∧ q = 0 ∧ rs = [] ∧ ws = []) = r at *
  simp only [List.length_nil] at HS
  generalize rs.length = n1 at *
  generalize ws.length = n2 at *
  go_enter Tryd.func108, Tryd.ntmps108
  go_upto_region 1 with fail
  rw [← hw0]
  clear hw0
  go_wp2_with fail
  refine H0.out.mono ?_
  rintro e w1 ⟨rfl, b1⟩
  clear H0
  have a0 := cellB b1 a0
  have a1 := cellB b1 a1
  have a2 := cellB b1 a2
  have a3 := cellB b1 a3
  have a4 := cellB b1 a4
  have a5 := cellB b1 a5
  have a6 := cellB b1 a6
  have a7 := cellB b1 a7
  have a8 := cellB b1 a8
  have a9 := cellB b1 a9
  have e1 := g0.trans (b1.mono gB)
  have s1 := b1.size
  cases no with
  | false =>
    go_wp2_with fail
    refine (HS.out w1 b1).mono ?_
    rintro e w9 ⟨rfl, b9⟩
    go_wp2_with fail
    go_ret
    exact ⟨ret_bool HQ.out, e1.trans (b9.mono (by omega))⟩
  | true =>
    go_wp2_with fail
    refine (H1.out w1).mono ?_
    rintro e w2 ⟨rfl, b2⟩
    clear H1
    have a0 := cellB b2 a0
    have a1 := cellB b2 a1
    have a2 := cellB b2 a2
    have a3 := cellB b2 a3
    have a4 := cellB b2 a4
    have a5 := cellB b2 a5
    have a6 := cellB b2 a6
    have a7 := cellB b2 a7
    have a8 := cellB b2 a8
    have a9 := cellB b2 a9
    have e2 := e1.trans (b2.mono (by omega))
    have s2 := b2.size
    cases ib with
    | false =>
      go_wp2_with fail
      refine (HS.out w2 (b1.trans (b2.mono (by omega)))).mono ?_
      rintro e w9 ⟨rfl, b9⟩
      go_wp2_with fail
      go_ret
      exact ⟨ret_bool HQ.out, e2.trans (b9.mono (by omega))⟩
    | true =>
      by_cases g0' : 0 ≤ g
      · have dg0 : decide (0 ≤ g) = true := by simpa using g0'
        by_cases g1' : g < 4
        · have dg1 : decide (g < 4) = true := by simpa using g1'
          go_wp2_with fail
          refine (HS.out w2 (b1.trans (b2.mono (by omega)))).mono ?_
          rintro e w9 ⟨rfl, b9⟩
          go_wp2_with fail
          go_ret
          exact ⟨ret_bool HQ.out, e2.trans (b9.mono (by omega))⟩
        · have dg1 : decide (g < 4) = false := by simpa using g1'
          go_wp2_with fail
          refine (HS.out w2 (b1.trans (b2.mono (by omega)))).mono ?_
          rintro e w9 ⟨rfl, b9⟩
          go_wp2_with fail
          go_ret
          exact ⟨ret_bool HQ.out, e2.trans (b9.mono (by omega))⟩
      · have dg0 : decide (0 ≤ g) = false := by simpa using g0'
        go_wp2_with fail
        refine (HS.out w2 (b1.trans (b2.mono (by omega)))).mono ?_
        rintro e w9 ⟨rfl, b9⟩
        go_wp2_with fail
        go_ret
        exact ⟨ret_bool HQ.out, e2.trans (b9.mono (by omega))⟩
set_option maxHeartbeats 6400000 in
theorem rcf1 (s q : Int) (rs : List Rd1) (ws : List Wr1) (A1 : Option Addr) (c1 : Nat) (A2 : Option Addr) (c2 : Nat) (i j g : Int) (st : Nat) (y : Bool) (w : World) (B : Nat) (hB : B ≤ w.heap.size) (ok : TxOk w B rs ws A1 c1 A2 c2) :
    Calls Tryd.prog 108 #[.agg #[.int .i64 1, .int .i64 s, .int .i64 q, .slice A1 rs.length c1, .slice A2 ws.length c2, .int .i64 i, .int .i64 j, .int .i64 g, .int .u64 (st : Int), .bool y]] w fun e w' => e = .returned (.bool (T.cformed 1 s q rs ws i j g st y)) ∧ Below w.heap.size w w' := by
  obtain ⟨p, hp⟩ : ∃ p : Bool, p = (T.cformed 1 s q rs ws i j g st y) := ⟨_, rfl⟩
  have HP := Lib.hid hp
  rw [← hp]
  clear hp
  obtain ⟨w0, hw0⟩ : ∃ w0, w0 = w.alloc (.cells #[.int .i64 1, .int .i64 s, .int .i64 q, .slice A1 rs.length c1, .slice A2 ws.length c2, .int .i64 i, .int .i64 j, .int .i64 g, .int .u64 (st : Int), .bool y] 45) := ⟨_, rfl⟩
  have g0 : Below w.heap.size w w0 := by rw [hw0]; exact (Below.refl _ _).alloc (Nat.le_refl _) _
  obtain ⟨a0, a1, a2, a3, a4, a5, a6, a7, a8, a9⟩ : w0.cell? ⟨w.heap.size, 0, none⟩ = some (.int .i64 1) ∧ w0.cell? ⟨w.heap.size, 1, none⟩ = some (.int .i64 s) ∧ w0.cell? ⟨w.heap.size, 2, none⟩ = some (.int .i64 q) ∧ w0.cell? ⟨w.heap.size, 3, none⟩ = some (.slice A1 rs.length c1) ∧ w0.cell? ⟨w.heap.size, 4, none⟩ = some (.slice A2 ws.length c2) ∧ w0.cell? ⟨w.heap.size, 5, none⟩ = some (.int .i64 i) ∧ w0.cell? ⟨w.heap.size, 6, none⟩ = some (.int .i64 j) ∧ w0.cell? ⟨w.heap.size, 7, none⟩ = some (.int .i64 g) ∧ w0.cell? ⟨w.heap.size, 8, none⟩ = some (.int .u64 (st : Int)) ∧ w0.cell? ⟨w.heap.size, 9, none⟩ = some (.bool y) := by
    rw [hw0]; exact ⟨by simp, by simp, by simp, by simp, by simp, by simp, by simp, by simp, by simp, by simp⟩
  have gB := g0.size
  have HO := Lib.hid (ok.below g0 hB)
  clear ok
  have H0 := Lib.hid (rtsame_any s q rs ws A1 c1 A2 c2 0 0 [] [] none 0 none 0 w0 B (by omega) HO.out TxOk.zero)
  obtain ⟨no, hno⟩ : ∃ no, no = decide (s = 0 ∧ q = 0 ∧ rs = [] ∧ ws = []) := ⟨_, rfl⟩
  have HNO := Lib.hid hno
  rw [← hno] at H0
  simp only [List.length_nil] at H0
  have H1 := Lib.hid (fun z => rtid_any i j z)
  obtain ⟨ib, hib⟩ : ∃ ib, ib = idb i j := ⟨_, rfl⟩
  have HIB := Lib.hid hib
  rw [← hib] at H1
  clear hno hib
  have HS := Lib.hid (fun z (hz : Below w0.heap.size w0 z) => rtformed_any s q rs ws A1 c1 A2 c2 z B (by have := hz.size; omega) (HO.out.below hz (by omega)))
  obtain ⟨tf, htf⟩ : ∃ tf, tf = T.formed s q rs ws := ⟨_, rfl⟩
  have HQ1 : Hid (tf = false → false = p) := by show _ → _; intro h; rw [HP.out]; unfold T.cformed; rw [if_neg (by omega), if_pos rfl, ← htf, h]; rfl
  have HQ2 : Hid (¬ (i = 0 ∧ j = 0 ∧ g = 0 ∧ st = 0 ∧ y = false) → false = p) := by show _ → _; intro h; rw [HP.out]; unfold T.cformed; rw [if_neg (by omega), if_pos rfl, decide_eq_false h]; simp
  have HQ3 : Hid (tf = true → i = 0 → j = 0 → g = 0 → st = 0 → y = false → true = p) := by show _ → _; intro h h1 h2 h3 h4 h5; rw [HP.out]; unfold T.cformed; rw [if_neg (by omega), if_pos rfl, ← htf, h, decide_eq_true ⟨h1, h2, h3, h4, h5⟩]; rfl
  rw [← htf] at HS
  clear HP htf
  generalize rs.length = n1 at *
  generalize ws.length = n2 at *
  go_enter Tryd.func108, Tryd.ntmps108
  go_upto_region 1 with fail
  rw [← hw0]
  clear hw0
  go_wp2_with fail
  refine H0.out.mono ?_
  rintro e w1 ⟨rfl, b1⟩
  clear H0
  have a0 := cellB b1 a0
  have a1 := cellB b1 a1
  have a2 := cellB b1 a2
  have a3 := cellB b1 a3
  have a4 := cellB b1 a4
  have a5 := cellB b1 a5
  have a6 := cellB b1 a6
  have a7 := cellB b1 a7
  have a8 := cellB b1 a8
  have a9 := cellB b1 a9
  have e1 := g0.trans (b1.mono gB)
  have s1 := b1.size
  cases no with
  | false =>
    go_wp2_with fail
    refine (HS.out w1 b1).mono ?_
    rintro e w9 ⟨rfl, b9⟩
    have a0 := cellB b9 a0
    have a1 := cellB b9 a1
    have a2 := cellB b9 a2
    have a3 := cellB b9 a3
    have a4 := cellB b9 a4
    have a5 := cellB b9 a5
    have a6 := cellB b9 a6
    have a7 := cellB b9 a7
    have a8 := cellB b9 a8
    have a9 := cellB b9 a9
    cases tf with
    | false =>
      have HR := Lib.hid (HQ1.out rfl)
      clear HQ1 HQ2 HQ3
      go_wp2_with fail
      go_ret
      exact ⟨ret_bool HR.out, e1.trans (b9.mono (by omega))⟩
    | true =>
      have hI := fun z => run_eqId i j 0 0 z
      cases hd : decide (i = 0 ∧ j = 0) with
      | false =>
        rw [hd] at hI
        have HR := Lib.hid (HQ2.out fun h => of_decide_eq_false hd ⟨h.1, h.2.1⟩)
        clear HQ1 HQ2 HQ3 hd
        go_wp2_with fail
        go_ret
        exact ⟨ret_bool HR.out, e1.trans (b9.mono (by omega))⟩
      | true =>
        rw [hd] at hI
        have hij := of_decide_eq_true hd
        by_cases hg : g = 0
        · have dg : (g == 0) = true := by simp [hg]
          by_cases hst : st = 0
          · have dst : ((st : Int) == 0) = true := by simp [hst]
            cases y with
            | true =>
              have HR := Lib.hid (HQ2.out fun h => Bool.noConfusion h.2.2.2.2)
              clear HQ1 HQ2 HQ3 hd hij
              go_wp2_with fail
              go_ret
              exact ⟨ret_bool HR.out, e1.trans (b9.mono (by omega))⟩
            | false =>
              have HR := Lib.hid (HQ3.out rfl hij.1 hij.2 hg hst rfl)
              clear HQ1 HQ2 HQ3 hd hij
              go_wp2_with fail
              go_ret
              exact ⟨ret_bool HR.out, e1.trans (b9.mono (by omega))⟩
          · have dst : ((st : Int) == 0) = false := by simp; omega
            have HR := Lib.hid (HQ2.out fun h => hst h.2.2.2.1)
            clear HQ1 HQ2 HQ3 hd hij
            go_wp2_with fail
            go_ret
            exact ⟨ret_bool HR.out, e1.trans (b9.mono (by omega))⟩
        · have dg : (g == 0) = false := by simp [hg]
          have HR := Lib.hid (HQ2.out fun h => hg h.2.2.1)
          clear HQ1 HQ2 HQ3 hd hij
          go_wp2_with fail
          go_ret
          exact ⟨ret_bool HR.out, e1.trans (b9.mono (by omega))⟩
  | true =>
    go_wp2_with fail
    refine (H1.out w1).mono ?_
    rintro e w2 ⟨rfl, b2⟩
    clear H1
    have a0 := cellB b2 a0
    have a1 := cellB b2 a1
    have a2 := cellB b2 a2
    have a3 := cellB b2 a3
    have a4 := cellB b2 a4
    have a5 := cellB b2 a5
    have a6 := cellB b2 a6
    have a7 := cellB b2 a7
    have a8 := cellB b2 a8
    have a9 := cellB b2 a9
    have e2 := e1.trans (b2.mono (by omega))
    have s2 := b2.size
    cases ib with
    | false =>
      go_wp2_with fail
      refine (HS.out w2 (b1.trans (b2.mono (by omega)))).mono ?_
      rintro e w9 ⟨rfl, b9⟩
      have a0 := cellB b9 a0
      have a1 := cellB b9 a1
      have a2 := cellB b9 a2
      have a3 := cellB b9 a3
      have a4 := cellB b9 a4
      have a5 := cellB b9 a5
      have a6 := cellB b9 a6
      have a7 := cellB b9 a7
      have a8 := cellB b9 a8
      have a9 := cellB b9 a9
      cases tf with
      | false =>
        have HR := Lib.hid (HQ1.out rfl)
        clear HQ1 HQ2 HQ3
        go_wp2_with fail
        go_ret
        exact ⟨ret_bool HR.out, e2.trans (b9.mono (by omega))⟩
      | true =>
        have hI := fun z => run_eqId i j 0 0 z
        cases hd : decide (i = 0 ∧ j = 0) with
        | false =>
          rw [hd] at hI
          have HR := Lib.hid (HQ2.out fun h => of_decide_eq_false hd ⟨h.1, h.2.1⟩)
          clear HQ1 HQ2 HQ3 hd
          go_wp2_with fail
          go_ret
          exact ⟨ret_bool HR.out, e2.trans (b9.mono (by omega))⟩
        | true =>
          rw [hd] at hI
          have hij := of_decide_eq_true hd
          by_cases hg : g = 0
          · have dg : (g == 0) = true := by simp [hg]
            by_cases hst : st = 0
            · have dst : ((st : Int) == 0) = true := by simp [hst]
              cases y with
              | true =>
                have HR := Lib.hid (HQ2.out fun h => Bool.noConfusion h.2.2.2.2)
                clear HQ1 HQ2 HQ3 hd hij
                go_wp2_with fail
                go_ret
                exact ⟨ret_bool HR.out, e2.trans (b9.mono (by omega))⟩
              | false =>
                have HR := Lib.hid (HQ3.out rfl hij.1 hij.2 hg hst rfl)
                clear HQ1 HQ2 HQ3 hd hij
                go_wp2_with fail
                go_ret
                exact ⟨ret_bool HR.out, e2.trans (b9.mono (by omega))⟩
            · have dst : ((st : Int) == 0) = false := by simp; omega
              have HR := Lib.hid (HQ2.out fun h => hst h.2.2.2.1)
              clear HQ1 HQ2 HQ3 hd hij
              go_wp2_with fail
              go_ret
              exact ⟨ret_bool HR.out, e2.trans (b9.mono (by omega))⟩
          · have dg : (g == 0) = false := by simp [hg]
            have HR := Lib.hid (HQ2.out fun h => hg h.2.2.1)
            clear HQ1 HQ2 HQ3 hd hij
            go_wp2_with fail
            go_ret
            exact ⟨ret_bool HR.out, e2.trans (b9.mono (by omega))⟩
    | true =>
      by_cases g0' : 0 ≤ g
      · have dg0 : decide (0 ≤ g) = true := by simpa using g0'
        by_cases g1' : g < 4
        · have dg1 : decide (g < 4) = true := by simpa using g1'
          go_wp2_with fail
          refine (HS.out w2 (b1.trans (b2.mono (by omega)))).mono ?_
          rintro e w9 ⟨rfl, b9⟩
          have a0 := cellB b9 a0
          have a1 := cellB b9 a1
          have a2 := cellB b9 a2
          have a3 := cellB b9 a3
          have a4 := cellB b9 a4
          have a5 := cellB b9 a5
          have a6 := cellB b9 a6
          have a7 := cellB b9 a7
          have a8 := cellB b9 a8
          have a9 := cellB b9 a9
          cases tf with
          | false =>
            have HR := Lib.hid (HQ1.out rfl)
            clear HQ1 HQ2 HQ3
            go_wp2_with fail
            go_ret
            exact ⟨ret_bool HR.out, e2.trans (b9.mono (by omega))⟩
          | true =>
            have hI := fun z => run_eqId i j 0 0 z
            cases hd : decide (i = 0 ∧ j = 0) with
            | false =>
              rw [hd] at hI
              have HR := Lib.hid (HQ2.out fun h => of_decide_eq_false hd ⟨h.1, h.2.1⟩)
              clear HQ1 HQ2 HQ3 hd
              go_wp2_with fail
              go_ret
              exact ⟨ret_bool HR.out, e2.trans (b9.mono (by omega))⟩
            | true =>
              rw [hd] at hI
              have hij := of_decide_eq_true hd
              by_cases hg : g = 0
              · have dg : (g == 0) = true := by simp [hg]
                by_cases hst : st = 0
                · have dst : ((st : Int) == 0) = true := by simp [hst]
                  cases y with
                  | true =>
                    have HR := Lib.hid (HQ2.out fun h => Bool.noConfusion h.2.2.2.2)
                    clear HQ1 HQ2 HQ3 hd hij
                    go_wp2_with fail
                    go_ret
                    exact ⟨ret_bool HR.out, e2.trans (b9.mono (by omega))⟩
                  | false =>
                    have HR := Lib.hid (HQ3.out rfl hij.1 hij.2 hg hst rfl)
                    clear HQ1 HQ2 HQ3 hd hij
                    go_wp2_with fail
                    go_ret
                    exact ⟨ret_bool HR.out, e2.trans (b9.mono (by omega))⟩
                · have dst : ((st : Int) == 0) = false := by simp; omega
                  have HR := Lib.hid (HQ2.out fun h => hst h.2.2.2.1)
                  clear HQ1 HQ2 HQ3 hd hij
                  go_wp2_with fail
                  go_ret
                  exact ⟨ret_bool HR.out, e2.trans (b9.mono (by omega))⟩
              · have dg : (g == 0) = false := by simp [hg]
                have HR := Lib.hid (HQ2.out fun h => hg h.2.2.1)
                clear HQ1 HQ2 HQ3 hd hij
                go_wp2_with fail
                go_ret
                exact ⟨ret_bool HR.out, e2.trans (b9.mono (by omega))⟩
        · have dg1 : decide (g < 4) = false := by simpa using g1'
          go_wp2_with fail
          refine (HS.out w2 (b1.trans (b2.mono (by omega)))).mono ?_
          rintro e w9 ⟨rfl, b9⟩
          have a0 := cellB b9 a0
          have a1 := cellB b9 a1
          have a2 := cellB b9 a2
          have a3 := cellB b9 a3
          have a4 := cellB b9 a4
          have a5 := cellB b9 a5
          have a6 := cellB b9 a6
          have a7 := cellB b9 a7
          have a8 := cellB b9 a8
          have a9 := cellB b9 a9
          cases tf with
          | false =>
            have HR := Lib.hid (HQ1.out rfl)
            clear HQ1 HQ2 HQ3
            go_wp2_with fail
            go_ret
            exact ⟨ret_bool HR.out, e2.trans (b9.mono (by omega))⟩
          | true =>
            have hI := fun z => run_eqId i j 0 0 z
            cases hd : decide (i = 0 ∧ j = 0) with
            | false =>
              rw [hd] at hI
              have HR := Lib.hid (HQ2.out fun h => of_decide_eq_false hd ⟨h.1, h.2.1⟩)
              clear HQ1 HQ2 HQ3 hd
              go_wp2_with fail
              go_ret
              exact ⟨ret_bool HR.out, e2.trans (b9.mono (by omega))⟩
            | true =>
              rw [hd] at hI
              have hij := of_decide_eq_true hd
              have hg : ¬ g = 0 := by omega
              have dg : (g == 0) = false := by simp [hg]
              have HR := Lib.hid (HQ2.out fun h => hg h.2.2.1)
              clear HQ1 HQ2 HQ3 hd hij
              go_wp2_with fail
              go_ret
              exact ⟨ret_bool HR.out, e2.trans (b9.mono (by omega))⟩
      · have dg0 : decide (0 ≤ g) = false := by simpa using g0'
        go_wp2_with fail
        refine (HS.out w2 (b1.trans (b2.mono (by omega)))).mono ?_
        rintro e w9 ⟨rfl, b9⟩
        have a0 := cellB b9 a0
        have a1 := cellB b9 a1
        have a2 := cellB b9 a2
        have a3 := cellB b9 a3
        have a4 := cellB b9 a4
        have a5 := cellB b9 a5
        have a6 := cellB b9 a6
        have a7 := cellB b9 a7
        have a8 := cellB b9 a8
        have a9 := cellB b9 a9
        cases tf with
        | false =>
          have HR := Lib.hid (HQ1.out rfl)
          clear HQ1 HQ2 HQ3
          go_wp2_with fail
          go_ret
          exact ⟨ret_bool HR.out, e2.trans (b9.mono (by omega))⟩
        | true =>
          have hI := fun z => run_eqId i j 0 0 z
          cases hd : decide (i = 0 ∧ j = 0) with
          | false =>
            rw [hd] at hI
            have HR := Lib.hid (HQ2.out fun h => of_decide_eq_false hd ⟨h.1, h.2.1⟩)
            clear HQ1 HQ2 HQ3 hd
            go_wp2_with fail
            go_ret
            exact ⟨ret_bool HR.out, e2.trans (b9.mono (by omega))⟩
          | true =>
            rw [hd] at hI
            have hij := of_decide_eq_true hd
            have hg : ¬ g = 0 := by omega
            have dg : (g == 0) = false := by simp [hg]
            have HR := Lib.hid (HQ2.out fun h => hg h.2.2.1)
            clear HQ1 HQ2 HQ3 hd hij
            go_wp2_with fail
            go_ret
            exact ⟨ret_bool HR.out, e2.trans (b9.mono (by omega))⟩
set_option maxHeartbeats 6400000 in
theorem rcf2 (s q : Int) (rs : List Rd1) (ws : List Wr1) (A1 : Option Addr) (c1 : Nat) (A2 : Option Addr) (c2 : Nat) (i j g : Int) (st : Nat) (y : Bool) (w : World) (B : Nat) (hB : B ≤ w.heap.size) (ok : TxOk w B rs ws A1 c1 A2 c2) :
    Calls Tryd.prog 108 #[.agg #[.int .i64 2, .int .i64 s, .int .i64 q, .slice A1 rs.length c1, .slice A2 ws.length c2, .int .i64 i, .int .i64 j, .int .i64 g, .int .u64 (st : Int), .bool y]] w fun e w' => e = .returned (.bool (T.cformed 2 s q rs ws i j g st y)) ∧ Below w.heap.size w w' := by
  obtain ⟨p, hp⟩ : ∃ p : Bool, p = (T.cformed 2 s q rs ws i j g st y) := ⟨_, rfl⟩
  have HP := Lib.hid hp
  rw [← hp]
  clear hp
  obtain ⟨w0, hw0⟩ : ∃ w0, w0 = w.alloc (.cells #[.int .i64 2, .int .i64 s, .int .i64 q, .slice A1 rs.length c1, .slice A2 ws.length c2, .int .i64 i, .int .i64 j, .int .i64 g, .int .u64 (st : Int), .bool y] 45) := ⟨_, rfl⟩
  have g0 : Below w.heap.size w w0 := by rw [hw0]; exact (Below.refl _ _).alloc (Nat.le_refl _) _
  obtain ⟨a0, a1, a2, a3, a4, a5, a6, a7, a8, a9⟩ : w0.cell? ⟨w.heap.size, 0, none⟩ = some (.int .i64 2) ∧ w0.cell? ⟨w.heap.size, 1, none⟩ = some (.int .i64 s) ∧ w0.cell? ⟨w.heap.size, 2, none⟩ = some (.int .i64 q) ∧ w0.cell? ⟨w.heap.size, 3, none⟩ = some (.slice A1 rs.length c1) ∧ w0.cell? ⟨w.heap.size, 4, none⟩ = some (.slice A2 ws.length c2) ∧ w0.cell? ⟨w.heap.size, 5, none⟩ = some (.int .i64 i) ∧ w0.cell? ⟨w.heap.size, 6, none⟩ = some (.int .i64 j) ∧ w0.cell? ⟨w.heap.size, 7, none⟩ = some (.int .i64 g) ∧ w0.cell? ⟨w.heap.size, 8, none⟩ = some (.int .u64 (st : Int)) ∧ w0.cell? ⟨w.heap.size, 9, none⟩ = some (.bool y) := by
    rw [hw0]; exact ⟨by simp, by simp, by simp, by simp, by simp, by simp, by simp, by simp, by simp, by simp⟩
  have gB := g0.size
  have HO := Lib.hid (ok.below g0 hB)
  clear ok
  have H0 := Lib.hid (rtsame_any s q rs ws A1 c1 A2 c2 0 0 [] [] none 0 none 0 w0 B (by omega) HO.out TxOk.zero)
  obtain ⟨no, hno⟩ : ∃ no, no = decide (s = 0 ∧ q = 0 ∧ rs = [] ∧ ws = []) := ⟨_, rfl⟩
  have HNO := Lib.hid hno
  rw [← hno] at H0
  simp only [List.length_nil] at H0
  have H1 := Lib.hid (fun z => rtid_any i j z)
  obtain ⟨ib, hib⟩ : ∃ ib, ib = idb i j := ⟨_, rfl⟩
  have HIB := Lib.hid hib
  rw [← hib] at H1
  clear hno hib
  have HC : T.cformed 2 s q rs ws i j g st y = decide (no = true ∧ ib = true ∧ 0 ≤ g ∧ g < 4 ∧ y = false ∧ 1 ≤ st ∧ st < 9223372036854775808) := by
    unfold T.cformed; rw [if_neg (by omega), if_neg (by omega), if_pos rfl]
    rw [Bool.eq_iff_iff, Bool.and_eq_true, Bool.and_eq_true, decide_eq_true_eq, decide_eq_true_eq, decide_eq_true_eq, HNO.out, HIB.out, decide_eq_true_eq]
    exact ⟨fun ⟨⟨⟨h1, h2, h3, h4, h5⟩, h6⟩, h7, h8, h9, h10⟩ => ⟨⟨h1, h2, h3, h4⟩, h6, h7, h8, h5, h9, h10⟩, fun ⟨⟨h1, h2, h3, h4⟩, h6, h7, h8, h5, h9, h10⟩ => ⟨⟨⟨h1, h2, h3, h4, h5⟩, h6⟩, h7, h8, h9, h10⟩⟩
  have HF : Hid (¬ (no = true ∧ ib = true ∧ 0 ≤ g ∧ g < 4 ∧ y = false ∧ 1 ≤ st ∧ st < 9223372036854775808) → false = p) := by show _ → _; intro h; rw [HP.out, HC, decide_eq_false h]
  have HT : Hid ((no = true ∧ ib = true ∧ 0 ≤ g ∧ g < 4 ∧ y = false ∧ 1 ≤ st ∧ st < 9223372036854775808) → true = p) := by show _ → _; intro h; rw [HP.out, HC, decide_eq_true h]
  clear HP HC HNO HIB
  generalize rs.length = n1 at *
  generalize ws.length = n2 at *
  go_enter Tryd.func108, Tryd.ntmps108
  go_upto_region 1 with fail
  rw [← hw0]
  clear hw0
  go_wp2_with fail
  refine H0.out.mono ?_
  rintro e w1 ⟨rfl, b1⟩
  clear H0
  have a0 := cellB b1 a0
  have a1 := cellB b1 a1
  have a2 := cellB b1 a2
  have a3 := cellB b1 a3
  have a4 := cellB b1 a4
  have a5 := cellB b1 a5
  have a6 := cellB b1 a6
  have a7 := cellB b1 a7
  have a8 := cellB b1 a8
  have a9 := cellB b1 a9
  have e1 := g0.trans (b1.mono gB)
  have s1 := b1.size
  cases no with
  | false =>
    have HR := Lib.hid (HF.out fun h => Bool.noConfusion h.1)
    clear HF HT
    go_wp2_with fail
    go_ret
    exact ⟨ret_bool HR.out, e1⟩
  | true =>
    go_wp2_with fail
    refine (H1.out w1).mono ?_
    rintro e w2 ⟨rfl, b2⟩
    clear H1
    have a0 := cellB b2 a0
    have a1 := cellB b2 a1
    have a2 := cellB b2 a2
    have a3 := cellB b2 a3
    have a4 := cellB b2 a4
    have a5 := cellB b2 a5
    have a6 := cellB b2 a6
    have a7 := cellB b2 a7
    have a8 := cellB b2 a8
    have a9 := cellB b2 a9
    have e2 := e1.trans (b2.mono (by omega))
    have s2 := b2.size
    cases ib with
    | false =>
      have HR := Lib.hid (HF.out fun h => Bool.noConfusion h.2.1)
      clear HF HT
      go_wp2_with fail
      go_ret
      exact ⟨ret_bool HR.out, e2⟩
    | true =>
      by_cases g0' : 0 ≤ g
      · have dg0 : decide (0 ≤ g) = true := by simpa using g0'
        by_cases g1' : g < 4
        · have dg1 : decide (g < 4) = true := by simpa using g1'
          cases y with
          | true =>
            have HR := Lib.hid (HF.out fun h => Bool.noConfusion h.2.2.2.2.1)
            clear HF HT
            go_wp2_with fail
            go_ret
            exact ⟨ret_bool HR.out, e2⟩
          | false =>
            by_cases h1 : 1 ≤ st
            · have d1 : decide (0 < (st : Int)) = true := by simp; omega
              have d1' : 0 < st := by omega
              by_cases h2 : st < 9223372036854775808
              · have d2 : decide ((st : Int) ≤ 9223372036854775807) = true := by simp; omega
                have HR := Lib.hid (HT.out ⟨(by first | exact rfl | trivial), (by first | exact rfl | trivial), g0', g1', (by first | exact rfl | trivial), h1, h2⟩)
                clear HF HT
                go_wp2_with fail
                go_ret
                exact ⟨ret_bool HR.out, e2⟩
              · have d2 : decide ((st : Int) ≤ 9223372036854775807) = false := by simp; omega
                have HR := Lib.hid (HF.out fun h => h2 h.2.2.2.2.2.2)
                clear HF HT
                go_wp2_with fail
                go_ret
                exact ⟨ret_bool HR.out, e2⟩
            · have d1 : decide (0 < (st : Int)) = false := by simp; omega
              have d1' : st = 0 := by omega
              have HR := Lib.hid (HF.out fun h => h1 h.2.2.2.2.2.1)
              clear HF HT
              go_wp2_with fail
              go_ret
              exact ⟨ret_bool HR.out, e2⟩
        · have dg1 : decide (g < 4) = false := by simpa using g1'
          have HR := Lib.hid (HF.out fun h => g1' h.2.2.2.1)
          clear HF HT
          go_wp2_with fail
          go_ret
          exact ⟨ret_bool HR.out, e2⟩
      · have dg0 : decide (0 ≤ g) = false := by simpa using g0'
        have HR := Lib.hid (HF.out fun h => g0' h.2.2.1)
        clear HF HT
        go_wp2_with fail
        go_ret
        exact ⟨ret_bool HR.out, e2⟩
set_option maxHeartbeats 6400000 in
theorem rcf3 (s q : Int) (rs : List Rd1) (ws : List Wr1) (A1 : Option Addr) (c1 : Nat) (A2 : Option Addr) (c2 : Nat) (i j g : Int) (st : Nat) (y : Bool) (w : World) (B : Nat) (hB : B ≤ w.heap.size) (ok : TxOk w B rs ws A1 c1 A2 c2) :
    Calls Tryd.prog 108 #[.agg #[.int .i64 3, .int .i64 s, .int .i64 q, .slice A1 rs.length c1, .slice A2 ws.length c2, .int .i64 i, .int .i64 j, .int .i64 g, .int .u64 (st : Int), .bool y]] w fun e w' => e = .returned (.bool (T.cformed 3 s q rs ws i j g st y)) ∧ Below w.heap.size w w' := by
  obtain ⟨p, hp⟩ : ∃ p : Bool, p = (T.cformed 3 s q rs ws i j g st y) := ⟨_, rfl⟩
  have HP := Lib.hid hp
  rw [← hp]
  clear hp
  obtain ⟨w0, hw0⟩ : ∃ w0, w0 = w.alloc (.cells #[.int .i64 3, .int .i64 s, .int .i64 q, .slice A1 rs.length c1, .slice A2 ws.length c2, .int .i64 i, .int .i64 j, .int .i64 g, .int .u64 (st : Int), .bool y] 45) := ⟨_, rfl⟩
  have g0 : Below w.heap.size w w0 := by rw [hw0]; exact (Below.refl _ _).alloc (Nat.le_refl _) _
  obtain ⟨a0, a1, a2, a3, a4, a5, a6, a7, a8, a9⟩ : w0.cell? ⟨w.heap.size, 0, none⟩ = some (.int .i64 3) ∧ w0.cell? ⟨w.heap.size, 1, none⟩ = some (.int .i64 s) ∧ w0.cell? ⟨w.heap.size, 2, none⟩ = some (.int .i64 q) ∧ w0.cell? ⟨w.heap.size, 3, none⟩ = some (.slice A1 rs.length c1) ∧ w0.cell? ⟨w.heap.size, 4, none⟩ = some (.slice A2 ws.length c2) ∧ w0.cell? ⟨w.heap.size, 5, none⟩ = some (.int .i64 i) ∧ w0.cell? ⟨w.heap.size, 6, none⟩ = some (.int .i64 j) ∧ w0.cell? ⟨w.heap.size, 7, none⟩ = some (.int .i64 g) ∧ w0.cell? ⟨w.heap.size, 8, none⟩ = some (.int .u64 (st : Int)) ∧ w0.cell? ⟨w.heap.size, 9, none⟩ = some (.bool y) := by
    rw [hw0]; exact ⟨by simp, by simp, by simp, by simp, by simp, by simp, by simp, by simp, by simp, by simp⟩
  have gB := g0.size
  have HO := Lib.hid (ok.below g0 hB)
  clear ok
  have H0 := Lib.hid (rtsame_any s q rs ws A1 c1 A2 c2 0 0 [] [] none 0 none 0 w0 B (by omega) HO.out TxOk.zero)
  obtain ⟨no, hno⟩ : ∃ no, no = decide (s = 0 ∧ q = 0 ∧ rs = [] ∧ ws = []) := ⟨_, rfl⟩
  have HNO := Lib.hid hno
  rw [← hno] at H0
  simp only [List.length_nil] at H0
  have H1 := Lib.hid (fun z => rtid_any i j z)
  obtain ⟨ib, hib⟩ : ∃ ib, ib = idb i j := ⟨_, rfl⟩
  have HIB := Lib.hid hib
  rw [← hib] at H1
  clear hno hib
  have HC : T.cformed 3 s q rs ws i j g st y = decide (no = true ∧ ib = true ∧ 0 ≤ g ∧ g < 4 ∧ st = 0) := by
    unfold T.cformed; rw [if_neg (by omega), if_neg (by omega), if_neg (by omega), if_pos rfl]
    rw [Bool.eq_iff_iff, Bool.and_eq_true, Bool.and_eq_true, decide_eq_true_eq, decide_eq_true_eq, decide_eq_true_eq, HNO.out, HIB.out, decide_eq_true_eq]
    exact ⟨fun ⟨⟨⟨h1, h2, h3, h4, h5⟩, h6⟩, h7, h8⟩ => ⟨⟨h1, h2, h3, h4⟩, h6, h7, h8, h5⟩, fun ⟨⟨h1, h2, h3, h4⟩, h6, h7, h8, h5⟩ => ⟨⟨⟨h1, h2, h3, h4, h5⟩, h6⟩, h7, h8⟩⟩
  have HF : Hid (¬ (no = true ∧ ib = true ∧ 0 ≤ g ∧ g < 4 ∧ st = 0) → false = p) := by show _ → _; intro h; rw [HP.out, HC, decide_eq_false h]
  have HT : Hid ((no = true ∧ ib = true ∧ 0 ≤ g ∧ g < 4 ∧ st = 0) → true = p) := by show _ → _; intro h; rw [HP.out, HC, decide_eq_true h]
  clear HP HC HNO HIB
  generalize rs.length = n1 at *
  generalize ws.length = n2 at *
  go_enter Tryd.func108, Tryd.ntmps108
  go_upto_region 1 with fail
  rw [← hw0]
  clear hw0
  go_wp2_with fail
  refine H0.out.mono ?_
  rintro e w1 ⟨rfl, b1⟩
  clear H0
  have a0 := cellB b1 a0
  have a1 := cellB b1 a1
  have a2 := cellB b1 a2
  have a3 := cellB b1 a3
  have a4 := cellB b1 a4
  have a5 := cellB b1 a5
  have a6 := cellB b1 a6
  have a7 := cellB b1 a7
  have a8 := cellB b1 a8
  have a9 := cellB b1 a9
  have e1 := g0.trans (b1.mono gB)
  have s1 := b1.size
  cases no with
  | false =>
    have HR := Lib.hid (HF.out fun h => Bool.noConfusion h.1)
    clear HF HT
    go_wp2_with fail
    go_ret
    exact ⟨ret_bool HR.out, e1⟩
  | true =>
    go_wp2_with fail
    refine (H1.out w1).mono ?_
    rintro e w2 ⟨rfl, b2⟩
    clear H1
    have a0 := cellB b2 a0
    have a1 := cellB b2 a1
    have a2 := cellB b2 a2
    have a3 := cellB b2 a3
    have a4 := cellB b2 a4
    have a5 := cellB b2 a5
    have a6 := cellB b2 a6
    have a7 := cellB b2 a7
    have a8 := cellB b2 a8
    have a9 := cellB b2 a9
    have e2 := e1.trans (b2.mono (by omega))
    have s2 := b2.size
    cases ib with
    | false =>
      have HR := Lib.hid (HF.out fun h => Bool.noConfusion h.2.1)
      clear HF HT
      go_wp2_with fail
      go_ret
      exact ⟨ret_bool HR.out, e2⟩
    | true =>
      by_cases g0' : 0 ≤ g
      · have dg0 : decide (0 ≤ g) = true := by simpa using g0'
        by_cases g1' : g < 4
        · have dg1 : decide (g < 4) = true := by simpa using g1'
          by_cases hst : st = 0
          · have dst : ((st : Int) == 0) = true := by simp [hst]
            have HR := Lib.hid (HT.out ⟨(by first | exact rfl | trivial), (by first | exact rfl | trivial), g0', g1', hst⟩)
            clear HF HT
            go_wp2_with fail
            go_ret
            exact ⟨ret_bool HR.out, e2⟩
          · have dst : ((st : Int) == 0) = false := by simp; omega
            have HR := Lib.hid (HF.out fun h => hst h.2.2.2.2)
            clear HF HT
            go_wp2_with fail
            go_ret
            exact ⟨ret_bool HR.out, e2⟩
        · have dg1 : decide (g < 4) = false := by simpa using g1'
          have HR := Lib.hid (HF.out fun h => g1' h.2.2.2.1)
          clear HF HT
          go_wp2_with fail
          go_ret
          exact ⟨ret_bool HR.out, e2⟩
      · have dg0 : decide (0 ≤ g) = false := by simpa using g0'
        have HR := Lib.hid (HF.out fun h => g0' h.2.2.1)
        clear HF HT
        go_wp2_with fail
        go_ret
        exact ⟨ret_bool HR.out, e2⟩
set_option maxHeartbeats 6400000 in
theorem rcf4 (k : Int) (k0 : ¬ k = 0) (k1 : ¬ k = 1) (k2 : ¬ k = 2) (k3 : ¬ k = 3) (s q : Int) (rs : List Rd1) (ws : List Wr1) (A1 : Option Addr) (c1 : Nat) (A2 : Option Addr) (c2 : Nat) (i j g : Int) (st : Nat) (y : Bool) (w : World) (B : Nat) (hB : B ≤ w.heap.size) (ok : TxOk w B rs ws A1 c1 A2 c2) :
    Calls Tryd.prog 108 #[.agg #[.int .i64 k, .int .i64 s, .int .i64 q, .slice A1 rs.length c1, .slice A2 ws.length c2, .int .i64 i, .int .i64 j, .int .i64 g, .int .u64 (st : Int), .bool y]] w fun e w' => e = .returned (.bool (T.cformed k s q rs ws i j g st y)) ∧ Below w.heap.size w w' := by
  obtain ⟨p, hp⟩ : ∃ p : Bool, p = (T.cformed k s q rs ws i j g st y) := ⟨_, rfl⟩
  have HP := Lib.hid hp
  rw [← hp]
  clear hp
  obtain ⟨w0, hw0⟩ : ∃ w0, w0 = w.alloc (.cells #[.int .i64 k, .int .i64 s, .int .i64 q, .slice A1 rs.length c1, .slice A2 ws.length c2, .int .i64 i, .int .i64 j, .int .i64 g, .int .u64 (st : Int), .bool y] 45) := ⟨_, rfl⟩
  have g0 : Below w.heap.size w w0 := by rw [hw0]; exact (Below.refl _ _).alloc (Nat.le_refl _) _
  obtain ⟨a0, a1, a2, a3, a4, a5, a6, a7, a8, a9⟩ : w0.cell? ⟨w.heap.size, 0, none⟩ = some (.int .i64 k) ∧ w0.cell? ⟨w.heap.size, 1, none⟩ = some (.int .i64 s) ∧ w0.cell? ⟨w.heap.size, 2, none⟩ = some (.int .i64 q) ∧ w0.cell? ⟨w.heap.size, 3, none⟩ = some (.slice A1 rs.length c1) ∧ w0.cell? ⟨w.heap.size, 4, none⟩ = some (.slice A2 ws.length c2) ∧ w0.cell? ⟨w.heap.size, 5, none⟩ = some (.int .i64 i) ∧ w0.cell? ⟨w.heap.size, 6, none⟩ = some (.int .i64 j) ∧ w0.cell? ⟨w.heap.size, 7, none⟩ = some (.int .i64 g) ∧ w0.cell? ⟨w.heap.size, 8, none⟩ = some (.int .u64 (st : Int)) ∧ w0.cell? ⟨w.heap.size, 9, none⟩ = some (.bool y) := by
    rw [hw0]; exact ⟨by simp, by simp, by simp, by simp, by simp, by simp, by simp, by simp, by simp, by simp⟩
  have gB := g0.size
  have HO := Lib.hid (ok.below g0 hB)
  clear ok
  have H0 := Lib.hid (rtsame_any s q rs ws A1 c1 A2 c2 0 0 [] [] none 0 none 0 w0 B (by omega) HO.out TxOk.zero)
  obtain ⟨no, hno⟩ : ∃ no, no = decide (s = 0 ∧ q = 0 ∧ rs = [] ∧ ws = []) := ⟨_, rfl⟩
  have HNO := Lib.hid hno
  rw [← hno] at H0
  simp only [List.length_nil] at H0
  have H1 := Lib.hid (fun z => rtid_any i j z)
  obtain ⟨ib, hib⟩ : ∃ ib, ib = idb i j := ⟨_, rfl⟩
  have HIB := Lib.hid hib
  rw [← hib] at H1
  clear hno hib
  have HR : Hid (false = p) := by show _ = _; rw [HP.out]; unfold T.cformed; rw [if_neg k0, if_neg k1, if_neg k2, if_neg k3]
  have d0 : (k == 0) = false := by simp [k0]
  have d1 : (k == 1) = false := by simp [k1]
  have d2 : (k == 2) = false := by simp [k2]
  have d3 : (k == 3) = false := by simp [k3]
  generalize rs.length = n1 at *
  generalize ws.length = n2 at *
  go_enter Tryd.func108, Tryd.ntmps108
  go_upto_region 1 with fail
  rw [← hw0]
  clear hw0
  go_wp2_with fail
  refine H0.out.mono ?_
  rintro e w1 ⟨rfl, b1⟩
  clear H0
  have a0 := cellB b1 a0
  have a1 := cellB b1 a1
  have a2 := cellB b1 a2
  have a3 := cellB b1 a3
  have a4 := cellB b1 a4
  have a5 := cellB b1 a5
  have a6 := cellB b1 a6
  have a7 := cellB b1 a7
  have a8 := cellB b1 a8
  have a9 := cellB b1 a9
  have e1 := g0.trans (b1.mono gB)
  have s1 := b1.size
  cases no with
  | false =>
    go_wp2_with fail
    go_ret
    exact ⟨ret_bool HR.out, e1⟩
  | true =>
    go_wp2_with fail
    refine (H1.out w1).mono ?_
    rintro e w2 ⟨rfl, b2⟩
    clear H1
    have a0 := cellB b2 a0
    have a1 := cellB b2 a1
    have a2 := cellB b2 a2
    have a3 := cellB b2 a3
    have a4 := cellB b2 a4
    have a5 := cellB b2 a5
    have a6 := cellB b2 a6
    have a7 := cellB b2 a7
    have a8 := cellB b2 a8
    have a9 := cellB b2 a9
    have e2 := e1.trans (b2.mono (by omega))
    have s2 := b2.size
    cases ib with
    | false =>
      go_wp2_with fail
      go_ret
      exact ⟨ret_bool HR.out, e2⟩
    | true =>
      by_cases g0' : 0 ≤ g
      · have dg0 : decide (0 ≤ g) = true := by simpa using g0'
        by_cases g1' : g < 4
        · have dg1 : decide (g < 4) = true := by simpa using g1'
          go_wp2_with fail
          go_ret
          exact ⟨ret_bool HR.out, e2⟩
        · have dg1 : decide (g < 4) = false := by simpa using g1'
          go_wp2_with fail
          go_ret
          exact ⟨ret_bool HR.out, e2⟩
      · have dg0 : decide (0 ≤ g) = false := by simpa using g0'
        go_wp2_with fail
        go_ret
        exact ⟨ret_bool HR.out, e2⟩
theorem rcformed_any (k : Int) (s q : Int) (rs : List Rd1) (ws : List Wr1) (A1 : Option Addr) (c1 : Nat) (A2 : Option Addr) (c2 : Nat) (i j g : Int) (st : Nat) (y : Bool) (w : World) (B : Nat) (hB : B ≤ w.heap.size) (ok : TxOk w B rs ws A1 c1 A2 c2) :
    Calls Tryd.prog 108 #[.agg #[.int .i64 k, .int .i64 s, .int .i64 q, .slice A1 rs.length c1, .slice A2 ws.length c2, .int .i64 i, .int .i64 j, .int .i64 g, .int .u64 (st : Int), .bool y]] w fun e w' => e = .returned (.bool (T.cformed k s q rs ws i j g st y)) ∧ Below w.heap.size w w' := by
  by_cases k0 : k = 0
  · subst k0; exact rcf0 s q rs ws A1 c1 A2 c2 i j g st y w B hB ok
  · by_cases k1 : k = 1
    · subst k1; exact rcf1 s q rs ws A1 c1 A2 c2 i j g st y w B hB ok
    · by_cases k2 : k = 2
      · subst k2; exact rcf2 s q rs ws A1 c1 A2 c2 i j g st y w B hB ok
      · by_cases k3 : k = 3
        · subst k3; exact rcf3 s q rs ws A1 c1 A2 c2 i j g st y w B hB ok
        · exact rcf4 k k0 k1 k2 k3 s q rs ws A1 c1 A2 c2 i j g st y w B hB ok
end Go.Proofs.YtjofjpmhokjhnaaDoor
