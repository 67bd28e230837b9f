import Derived.Test.YthclniimhpmeoaaGreatDoorMrM13
import Derived.Test.YthclniimhpmeoaaGreatDoorMrM6
set_option maxHeartbeats 12800000
set_option linter.unusedSimpArgs false
set_option linter.unusedVariables false
namespace Go.Proofs.YthclniimhpmeoaaGreatDoor
set_option maxRecDepth 20000
open Go.RowKit T
theorem belowOfDrewH {B : Nat} {w w' : World} (h : Below B w.drew w') : Below B w w' := ⟨h.os, h.tape, h.output, h.size, h.block⟩
theorem T.le_true {x y : List UInt8} (h : Op.bytesLess x y = true) : Op.bytesLess y x = false ∧ (y == x) = false := by
 refine ⟨V.bl_asym x y h, ?_⟩
 cases he : y == x with
 | false => rfl
 | true =>
   rw [eq_of_beq he, V.bl_irr] at h;exact Bool.noConfusion h
theorem T.le_false {x y : List UInt8} (h : Op.bytesLess x y = false) : Op.bytesLess y x = true ∨ (Op.bytesLess y x = false ∧ (y == x) = true) := by
 cases hl : Op.bytesLess y x with
 | true => exact .inl rfl
 | false => exact .inr ⟨rfl, by rw [V.bl_total x y h hl]; simp⟩
theorem rtformed_any (s q : Int) (rs : List Rd1) (ws : List Wr1) (A1 : Option Addr) (c1 : Nat) (A2 : Option Addr) (c2 : Nat) (w : World) (B : Nat) (hB : B ≤ w.heap.size) (ok : TxOk w B rs ws A1 c1 A2 c2) :
 Calls Tryz.prog 97 #[.agg #[.int .i64 s, .int .i64 q, .slice A1 rs.length c1, .slice A2 ws.length c2]] w fun e w' => e = .returned (.bool (T.formed s q rs ws)) ∧ Below w.heap.size w w' := by
 obtain ⟨p, hp⟩ : ∃ p : Bool, p = T.formed s q rs ws := ⟨_, rfl⟩;have HP := Lib.hid hp;rw [← hp];obtain ⟨w0, hw0⟩ : ∃ w0, w0 = w.alloc (.cells #[.int .i64 s, .int .i64 q, .slice A1 rs.length c1, .slice A2 ws.length c2] 30) := ⟨_, rfl⟩;(have g0 : Below w.heap.size w w0 := by rw [hw0]; exact (Below.refl _ _).alloc (Nat.le_refl _) _);(have y0 : w0.cell? ⟨w.heap.size, 0, none⟩ = some (.int .i64 s) := by rw [hw0]; simp);(have y1 : w0.cell? ⟨w.heap.size, 1, none⟩ = some (.int .i64 q) := by rw [hw0]; simp);(have y2 : w0.cell? ⟨w.heap.size, 2, none⟩ = some (.slice A1 rs.length c1) := by rw [hw0]; simp);(have y3 : w0.cell? ⟨w.heap.size, 3, none⟩ = some (.slice A2 ws.length c2) := by rw [hw0]; simp);obtain ⟨hr, hw, rc, wc, rm, wm, ro, wo⟩ := ok.below g0 hB;unfold maxLen at rm wm;obtain ⟨n1, hn1⟩ : ∃ n, n = rs.length := ⟨_, rfl⟩;obtain ⟨n2, hn2⟩ : ∃ n, n = ws.length := ⟨_, rfl⟩;have HN1 := Lib.hid hn1;have HN2 := Lib.hid hn2;rw [← hn1] at hw0 y2 rc ⊢;rw [← hn2] at hw0 y3 wc ⊢;(have F1 : Hid (idb s q = false → false = p) := by show _ → _; intro h; rw [HP.out]; unfold T.formed; rw [h]; rfl);(have F2 : Hid (¬ (n1 ≤ 6 ∧ n2 ≤ 6 ∧ n1 + n2 ≠ 0) → false = p) := by show _ → _; intro h; rw [HP.out]; unfold T.formed; rw [← hn1, ← hn2, decide_eq_false h]; simp)
 have F3 : Hid (∀ k, k < rs.length → good (rs.map (·.1)) k = false → false = p) := by
  show ∀ _, _; intro k hk h; rw [HP.out]; unfold T.formed; rw [rises_false _ k (by simpa using hk) h]; simp
 have F4 : Hid (∀ k, k < ws.length → good (ws.map (·.1)) k = false → false = p) := by
  show ∀ _, _; intro k hk h; rw [HP.out]; unfold T.formed; rw [rises_false _ k (by simpa using hk) h]; simp
 have F5 : Hid (∀ k, ∀ hk : k < ws.length, wok ws[k] = false → false = p) := by
  show ∀ _, _; intro k hk h; rw [HP.out]; unfold T.formed; rw [all_false ws k hk h]; simp
 have F6 : Hid (idb s q = true → (n1 ≤ 6 ∧ n2 ≤ 6 ∧ n1 + n2 ≠ 0) → (∀ k, k < rs.length → good (rs.map (·.1)) k = true) → (∀ k, k < ws.length → good (ws.map (·.1)) k = true) → (∀ k, ∀ hk : k < ws.length, wok ws[k] = true) → true = p) := by
  show _ → _; intro h1 h2 h3 h4 h5; rw [HP.out]; unfold T.formed;rw [h1, ← hn1, ← hn2, decide_eq_true h2, (rises_iff _).2 (fun i hi => h3 i (by simpa using hi)), (rises_iff _).2 (fun i hi => h4 i (by simpa using hi)), all_true ws h5]; rfl
 clear HP hp hn1 hn2 ok
 go_enter Tryz.func97, Tryz.ntmps97
 go_upto_region 1 with fail
 rw [← hw0];clear hw0
 go_cut [32] (fun u w1 => ∃ r : Bool, u = .bool r ∧ Hid (Below w0.heap.size w0 w1) ∧ Hid (r = true → false = p) ∧ Hid (r = false → (∀ k, k < rs.length → good (rs.map (·.1)) k = true) → (∀ k, k < ws.length → good (ws.map (·.1)) k = true) → (∀ k, ∀ hk : k < ws.length, wok ws[k] = true) → true = p))
 case first =>
  go_wp2_with fail
  refine (rtid_any s q w0).mono ?_;rintro e w1 ⟨rfl, b1⟩;have y2 := cellB b1 y2;have y3 := cellB b1 y3;clear y0 y1
  cases hid : idb s q with
  | false =>
    have HR := Lib.hid (F1.out hid);clear hid F1 F2 F3 F4 F5 F6
    go_wp2_with fail
    go_meet
    exact ⟨_, rfl, b1, (fun _ => HR.out), (fun h => Bool.noConfusion h)⟩
  | true =>
    have F7 := Lib.hid (F6.out hid);clear hid F1 F6
    by_cases h1 : 6 < n1
    ·have HR := Lib.hid (F2.out (by omega));(have d1 : decide (6 < (n1 : Int)) = true := by simp; omega);clear F2 F3 F4 F5 F7
     go_wp2_with fail
     go_meet
     exact ⟨_, rfl, b1, (fun _ => HR.out), (fun h => Bool.noConfusion h)⟩
    ·have d1 : decide (6 < (n1 : Int)) = false := by simp; omega
     by_cases h2 : 6 < n2
     ·have HR := Lib.hid (F2.out (by omega));(have d2 : decide (6 < (n2 : Int)) = true := by simp; omega);clear F2 F3 F4 F5 F7
      go_wp2_with fail
      go_meet
      exact ⟨_, rfl, b1, (fun _ => HR.out), (fun h => Bool.noConfusion h)⟩
     ·have d2 : decide (6 < (n2 : Int)) = false := by simp; omega
      by_cases h3 : n1 = 0
      ·have d3 : ((n1 : Int) == 0) = true := by simp; omega
       by_cases h4 : n2 = 0
       ·have HR := Lib.hid (F2.out (by omega));(have d4 : ((n2 : Int) == 0) = true := by simp; omega);clear F2 F3 F4 F5 F7 h3 h4
        go_wp2_with fail
        go_meet
        exact ⟨_, rfl, b1, (fun _ => HR.out), (fun h => Bool.noConfusion h)⟩
       ·have F8 := Lib.hid (F7.out (by omega));(have d4 : ((n2 : Int) == 0) = false := by simp; omega);clear F2 F3 F4 F5 F7 h3 h4
        go_wp2_with fail
        go_meet
        exact ⟨_, rfl, b1, (fun h => Bool.noConfusion h), (fun _ => F8.out)⟩
      ·have F8 := Lib.hid (F7.out (by omega));(have d3 : ((n1 : Int) == 0) = false := by simp; omega);clear F2 F3 F4 F5 F7 h3
       go_wp2_with fail
       go_meet
       exact ⟨_, rfl, b1, (fun h => Bool.noConfusion h), (fun _ => F8.out)⟩
 case rest =>
  obtain ⟨r, rfl, b1, HR1, F7⟩ := hcut;have b1 := b1.out;have nm : ∀ z : World, Below w0.heap.size w0 z → ∃ z', z' = z := fun z _ => ⟨z, rfl⟩;obtain ⟨w1, hw1⟩ := nm _ b1;subst hw1;clear nm;have gB := g0.size;have e1 := g0.trans (b1.mono gB);have s1 := b1.size;have y2 := cellB b1 y2;have y3 := cellB b1 y3;have hr := hr.below b1 (by omega);have hw := hw.below b1 (by omega);clear y0 y1;clear F1 F2 F6
  cases r with
  | true =>
    have HR := Lib.hid (HR1.out rfl);clear HR1 F7 F3 F4 F5
    go_wp2_with fail
    go_ret
    exact ⟨ret_bool HR.out, e1⟩
  | false =>
    have F8 := Lib.hid (F7.out rfl);clear F7 HR1
    go_upto_region 4 with fail
    go_loopw [3] (fun i wr => ∃ k : Nat, k ≤ n1 ∧ i = .int .i64 (k : Int) ∧ Hid (∀ j, j < k → good (rs.map (·.1)) j = true) ∧ Hid (Below w1.heap.size w1 wr)) (fun i _ => n1 - (intOf i).toNat)
    case atStart => exact ⟨0, Nat.zero_le _, rfl, fun j hj => absurd hj (Nat.not_lt_zero _), Below.refl _ _⟩
    case round =>
     obtain ⟨k, hk, rfl, HG, hbel⟩ := hrel;have y2 := cellB hbel.out y2;have hr0 := hr.below hbel.out (by omega)
     by_cases hlt : k < n1
     ·have hkl : k < rs.length := by rw [← HN1.out]; exact hlt
      have hG := Lib.hid (good_at (rs.map (·.1)) k (by simpa using hkl))
      simp only [List.getElem_map] at hG;have HF := Lib.hid (F3.out k hkl);obtain ⟨b, off, rfl, hb, x0, x1⟩ := hr0.rd k hkl;have hsz := (ro rs[k] (List.getElem_mem hkl)).1;obtain ⟨xa, hxa⟩ : ∃ xa : ByteArray, xa = ⟨rs[k].1.toArray⟩ := ⟨_, rfl⟩;rw [← hxa] at x0;(have hsd : xa.data.toList = rs[k].1 := by rw [hxa]);(have hss : xa.size ≤ 9223372036854775807 := by rw [← str_size, hsd]; exact hsz);have HK := Lib.hid (fun z => rkey_any xa z hss);rw [hsd] at HK;have HS := Lib.hid hsd;clear hxa hsd hsz hss x1
      cases hkey : V.key rs[k].1 with
      | false =>
        rw [hkey] at HK hG;have HR := Lib.hid (HF.out (by rw [hG.out]; rfl));clear hG HS hkey HF HG F3 F4 F5 F8;have HQ := Lib.hid (fun (n : Nat) => Calls.quiet_of_same (w := wr) (n := n) (HK.out _));clear HK
        go_wp2_with fail
        go_quiet ((go_at_call 125; exact HQ.out _))
        go_wp2_with fail
        go_ret
        exact ⟨ret_bool HR.out, belowDrewN (e1.trans (hbel.out.mono (by omega))) _⟩
      | true =>
        rw [hkey] at HK hG;clear hkey
        cases k with
        | zero =>
          have HG' : Hid (∀ j, j < 1 → good (rs.map (·.1)) j = true) := fun j hj => by
           (obtain rfl : j = 0 := by omega);rw [hG.out]; rfl
          have x0 : wr.cell? ⟨b, off, none⟩ = some (.string xa) := x0;clear HG hG HS HF;have HQ := Lib.hid (fun (n : Nat) => Calls.quiet_of_same (w := wr) (n := n) (HK.out _));clear HK
          go_wp2_with fail
          go_quiet ((go_at_call 125; exact HQ.out _))
          go_wp2_with fail
          go_roundw
          case rel => exact ⟨1, by omega, by go_num, HG', belowDrewN hbel.out _⟩
          case measure => first | (simp [intOf]; done) | (simp [intOf]; omega)
        | succ k =>
          (have hkl' : k < rs.length := by omega);obtain ⟨b', off', hA', _, z0, z1⟩ := hr0.rd k hkl';injection hA' with hA';injection hA' with q1 q2;subst q1; subst q2;obtain ⟨xp, hxp⟩ : ∃ xp : ByteArray, xp = ⟨rs[k].1.toArray⟩ := ⟨_, rfl⟩;rw [← hxp] at z0;(have hpd : xp.data.toList = rs[k].1 := by rw [hxp])
          have hG2 : Hid (good (rs.map (·.1)) (k + 1) = Op.bytesLess xp.toList xa.toList) := by
           show _ = _;rw [hG.out, Lib.toList_data, Lib.toList_data, HS.out, hpd];simp
          clear hG HS hxp hpd z1;(have hlt2 : (k : Int) + 1 < (n1 : Int) := by omega)
          cases hless : Op.bytesLess xp.toList xa.toList with
          | false =>
            have HR := Lib.hid (HF.out (by rw [hG2.out]; exact hless));clear hG2 HF HG F3 F4 F5 F8;have HQ := Lib.hid (fun (n : Nat) => Calls.quiet_of_same (w := wr) (n := n) (HK.out _));clear HK;rcases le_false hless with dl | ⟨dl, dm⟩
            all_goals
             go_wp2_with fail
             go_quiet ((go_at_call 125; exact HQ.out _))
             go_wp2_with fail
             go_ret
             exact ⟨ret_bool HR.out, belowDrewN (e1.trans (hbel.out.mono (by omega))) _⟩
          | true =>
            have HG' : Hid (∀ j, j < k + 1 + 1 → good (rs.map (·.1)) j = true) := fun j hj => by
             by_cases e : j = k + 1
             ·subst e; rw [hG2.out]; exact hless
             ·exact HG.out j (by omega)
            clear HG hG2 HF;obtain ⟨dl, dm⟩ := le_true hless;have HQ := Lib.hid (fun (n : Nat) => Calls.quiet_of_same (w := wr) (n := n) (HK.out _));clear HK
            go_wp2_with fail
            go_quiet ((go_at_call 125; exact HQ.out _))
            go_wp2_with fail
            go_roundw
            case rel => exact ⟨k + 1 + 1, by omega, by go_num, HG', belowDrewN hbel.out _⟩
            case measure => first | (simp [intOf]; done) | (simp [intOf]; omega)
     ·(obtain rfl : k = n1 := by omega);have F9 := Lib.hid (F8.out fun i hi => HG.out i (by rw [HN1.out]; exact hi));clear HG F8 F3 ro
      go_upto_region 9 with fail
      clear y2 hr hr0;have e2 : Below w.heap.size w wr := e1.trans (hbel.out.mono (by omega));have s2 : w0.heap.size ≤ wr.heap.size := Nat.le_trans s1 hbel.out.size;have y3 := cellB hbel.out y3;have hw := hw.below hbel.out (by omega);clear hbel;generalize wr = w2 at *
      go_loopw [4] (fun i wr => ∃ k : Nat, k ≤ n2 ∧ i = .int .i64 (k : Int) ∧ Hid (∀ j, j < k → good (ws.map (·.1)) j = true) ∧ Hid (∀ j, ∀ hj : j < ws.length, j < k → wok ws[j] = true) ∧ Hid (Below w2.heap.size w2 wr)) (fun i _ => n2 - (intOf i).toNat)
      case atStart => exact ⟨0, Nat.zero_le _, rfl, fun j hj => absurd hj (Nat.not_lt_zero _), fun j _ hj => absurd hj (Nat.not_lt_zero _), Below.refl _ _⟩
      case round =>
       obtain ⟨k, hk, rfl, HG, HGW, hbel⟩ := hrel
       by_cases hlt : k < n2
       ·have hkl : k < ws.length := by rw [← HN2.out]; exact hlt
        have hG := Lib.hid (good_at (ws.map (·.1)) k (by simpa using hkl))
        simp only [List.getElem_map] at hG;have HF := Lib.hid (F4.out k hkl);have HFW := Lib.hid (F5.out k hkl);have y3 := cellB hbel.out y3;have hwr := hw.below hbel.out (by omega);obtain ⟨b, off, rfl, hb, x0, x1, x2, x3⟩ := hwr.wr k hkl;have hsz := (wo ws[k] (List.getElem_mem hkl)).1;have hbb := (wo ws[k] (List.getElem_mem hkl)).2.1;have HWK : Hid (wok ws[k] = V.formed ws[k].2.1 ws[k].2.2.1 (⟨ws[k].2.2.2.toArray⟩ : ByteArray).data.toList) := rfl;obtain ⟨xa, hxa⟩ : ∃ xa : ByteArray, xa = ⟨ws[k].1.toArray⟩ := ⟨_, rfl⟩;rw [← hxa] at x0;(have hsd : xa.data.toList = ws[k].1 := by rw [hxa]);(have hss : xa.size ≤ 9223372036854775807 := by rw [← str_size, hsd]; exact hsz);have HK := Lib.hid (fun z => rkey_any xa z hss);rw [hsd] at HK;have HS := Lib.hid hsd;have HV := Lib.hid (fun z => rformed_any ws[k].2.1 ws[k].2.2.1 hbb ⟨ws[k].2.2.2.toArray⟩ z);unfold V.val at HV;clear hxa hsd hsz hss hbb hwr;generalize (⟨ws[k].2.2.2.toArray⟩ : ByteArray) = xd at x3 HV HWK;generalize ws[k].2.2.1 = xc at x2 HV HWK;generalize ws[k].2.1 = xb at x1 HV HWK;obtain ⟨vf, hvf⟩ : ∃ vf, vf = V.formed xb xc xd.data.toList := ⟨_, rfl⟩;rw [← hvf] at HV HWK;clear hvf
        cases hkey : V.key ws[k].1 with
        | false =>
          rw [hkey] at HK hG;have HR := Lib.hid (HF.out (by rw [hG.out]; rfl));clear hG HS hkey HF HFW HG HGW HWK HV F4 F5 F9;have HQ := Lib.hid (fun (n : Nat) => Calls.quiet_of_same (w := wr) (n := n) (HK.out _));clear HK
          go_wp2_with fail
          go_quiet ((go_at_call 125; exact HQ.out _))
          go_wp2_with fail
          go_ret
          exact ⟨ret_bool HR.out, belowDrewN (e2.trans (hbel.out.mono (by omega))) _⟩
        | true =>
          rw [hkey] at HK hG;clear hkey
          cases vf with
          | false =>
            have HR := Lib.hid (HFW.out HWK.out);have kc : wr.cell? ⟨w.heap.size, 3, none⟩ = some (.slice (some ⟨b, off, none⟩) n2 c2) ∧ wr.cell? ⟨b, off + k * 4, none⟩ = some (.string xa) ∧ wr.cell? ⟨b, off + k * 4 + 1, none⟩ = some (.int .i64 xb) ∧ wr.cell? ⟨b, off + k * 4 + 2, none⟩ = some (.int .u64 (xc : Int)) ∧ wr.cell? ⟨b, off + k * 4 + 3, none⟩ = some (.string xd) := ⟨y3, x0, x1, x2, x3⟩;clear hG HS HF HFW HG HGW HWK F4 F5 F9 y3 x0 x1 x2 x3
            go_upto_region 11 with fail
            refine wp_region_held_drew (S := fun w' => w'.cell? ⟨w.heap.size, 3, none⟩ = some (.slice (some ⟨b, off, none⟩) n2 c2) ∧ w'.cell? ⟨b, off + k * 4, none⟩ = some (.string xa) ∧ w'.cell? ⟨b, off + k * 4 + 1, none⟩ = some (.int .i64 xb) ∧ w'.cell? ⟨b, off + k * 4 + 2, none⟩ = some (.int .u64 (xc : Int)) ∧ w'.cell? ⟨b, off + k * 4 + 3, none⟩ = some (.string xd)) (by kernel_rfl) (by exact kc) (fun hHeld => ?_);refine zT 0 (?_) rfl (Or.inl ⟨by rfl, ?_⟩) (by assumption) ?_
            rotate_left
            ·(intro w hSw; (try dsimp only at hSw); go_simp; try with_reducible rfl)
            (try simp only [Act.put, zL]);refine zT 1 (?_) rfl (Or.inl ⟨by rfl, ?_⟩) (by assumption) ?_
            rotate_left
            ·(intro w hSw; (try dsimp only at hSw); go_simp; try with_reducible rfl)
            (try simp only [Act.put, zL]);refine zT 2 (?_) rfl (Or.inl ⟨by rfl, ?_⟩) (by assumption) ?_
            rotate_left
            ·(intro w hSw; (try dsimp only at hSw); go_simp; try with_reducible rfl)
            (try simp only [Act.put, zL]);refine zT 3 (?_) rfl (Or.inl ⟨by rfl, ?_⟩) (by assumption) ?_
            rotate_left
            ·(intro w hSw; (try dsimp only at hSw); go_simp; try with_reducible rfl)
            (try simp only [Act.put, zL]);refine zT 4 (?_) rfl (Or.inl ⟨by rfl, ?_⟩) (by assumption) ?_
            rotate_left
            ·(intro w hSw; (try dsimp only at hSw); go_simp; try with_reducible rfl)
            (try simp only [Act.put, zL]);refine zT 5 (?_) rfl (Or.inl ⟨by rfl, ?_⟩) (by assumption) ?_
            rotate_left
            ·(intro w hSw; (try dsimp only at hSw); go_simp; try with_reducible rfl)
            (try simp only [Act.put, zL]);refine wrd 6 fun K hK => ?_
            go_simp
            refine (HK.out _).mono ?_;rintro e v1 ⟨rfl, rfl⟩;refine hK.out _ _ ?_ (fun hHeld => ?_)
            ·exact kc
            clear hK K;(try simp only [Act.put, zL]);refine zT 7 (?_) rfl (Or.inl ⟨by rfl, ?_⟩) (by assumption) ?_
            rotate_left
            ·(intro w hSw; (try dsimp only at hSw); go_simp; try with_reducible rfl)
            (try simp only [Act.put, zL]);refine zT 8 (?_) rfl (Or.inl ⟨by rfl, ?_⟩) (by assumption) ?_
            rotate_left
            ·(intro w hSw; (try dsimp only at hSw); go_simp; try with_reducible rfl)
            (try simp only [Act.put, zL]);refine zT 9 (?_) rfl (Or.inl ⟨by rfl, ?_⟩) (by assumption) ?_
            rotate_left
            ·(intro w hSw; (try dsimp only at hSw); go_simp; try with_reducible rfl)
            (try simp only [Act.put, zL]);refine zT 10 (?_) rfl (Or.inl ⟨by rfl, ?_⟩) (by assumption) ?_
            rotate_left
            ·(intro w hSw; (try dsimp only at hSw); go_simp; try with_reducible rfl)
            (try simp only [Act.put, zL]);refine zT 11 (?_) rfl (Or.inl ⟨by rfl, ?_⟩) (by assumption) ?_
            rotate_left
            ·(intro w hSw; (try dsimp only at hSw); go_simp; try with_reducible rfl)
            (try simp only [Act.put, zL]);refine zT 12 (?_) rfl (Or.inl ⟨by rfl, ?_⟩) (by assumption) ?_
            rotate_left
            ·(intro w hSw; (try dsimp only at hSw); go_simp; try with_reducible rfl)
            (try simp only [Act.put, zL]);refine zT 13 (?_) rfl (Or.inl ⟨by rfl, ?_⟩) (by assumption) ?_
            rotate_left
            ·(intro w hSw; (try dsimp only at hSw); go_simp; try with_reducible rfl)
            (try simp only [Act.put, zL]);refine zT 14 (?_) rfl (Or.inl ⟨by rfl, ?_⟩) (by assumption) ?_
            rotate_left
            ·(intro w hSw; (try dsimp only at hSw); go_simp; try with_reducible rfl)
            (try simp only [Act.put, zL]);refine wrd 15 fun K hK => ?_
            go_simp
            refine (HV.out _).mono ?_;rintro e v2 ⟨rfl, g2⟩;have g2 := belowOfDrewH g2;have bz := hbel.out.trans (g2.mono hbel.out.size);have k2 : v2.cell? ⟨w.heap.size, 3, none⟩ = some (.slice (some ⟨b, off, none⟩) n2 c2) ∧ v2.cell? ⟨b, off + k * 4, none⟩ = some (.string xa) ∧ v2.cell? ⟨b, off + k * 4 + 1, none⟩ = some (.int .i64 xb) ∧ v2.cell? ⟨b, off + k * 4 + 2, none⟩ = some (.int .u64 (xc : Int)) ∧ v2.cell? ⟨b, off + k * 4 + 3, none⟩ = some (.string xd) := ⟨cellB g2 kc.1, cellB g2 kc.2.1, cellB g2 kc.2.2.1, cellB g2 kc.2.2.2.1, cellB g2 kc.2.2.2.2⟩;refine hK.out _ _ ?_ (fun hHeld => ?_)
            ·exact k2
            clear hK K;(try simp only [Act.put, zL]);refine zT 16 (?_) rfl (Or.inl ⟨by rfl, ?_⟩) (by assumption) ?_
            rotate_left
            ·(intro w hSw; (try dsimp only at hSw); go_simp; try with_reducible rfl)
            (try simp only [Act.put, zL]);refine zT 17 (?_) rfl (Or.inl ⟨by rfl, ?_⟩) (by assumption) ?_
            rotate_left
            ·(intro w hSw; (try dsimp only at hSw); go_simp; try with_reducible rfl)
            (try simp only [Act.put, zL]);refine zT 18 (?_) rfl (Or.inl ⟨by rfl, ?_⟩) (by assumption) ?_
            rotate_left
            ·(intro w hSw; (try dsimp only at hSw); go_simp; try with_reducible rfl)
            (try simp only [Act.put, zL]);refine zT 19 (undef) rfl (Or.inr ⟨by rfl, rfl⟩) (by assumption) ?_;(try simp only [Act.put, zL]);refine zT 20 (undef) rfl (Or.inr ⟨by rfl, rfl⟩) (by assumption) ?_;(try simp only [Act.put, zL]);refine zT 21 (undef) rfl (Or.inr ⟨by rfl, rfl⟩) (by assumption) ?_;(try simp only [Act.put, zL]);refine zT 22 (undef) rfl (Or.inr ⟨by rfl, rfl⟩) (by assumption) ?_;(try simp only [Act.put, zL]);refine zT 23 (undef) rfl (Or.inr ⟨by rfl, rfl⟩) (by assumption) ?_;(try simp only [Act.put, zL]);refine zT 24 (undef) rfl (Or.inr ⟨by rfl, rfl⟩) (by assumption) ?_;(try simp only [Act.put, zL]);refine zT 25 (undef) rfl (Or.inr ⟨by rfl, rfl⟩) (by assumption) ?_;(try simp only [Act.put, zL]);refine zT 26 (undef) rfl (Or.inr ⟨by rfl, rfl⟩) (by assumption) ?_;(try simp only [Act.put, zL]);refine zT 27 (undef) rfl (Or.inr ⟨by rfl, rfl⟩) (by assumption) ?_;(try simp only [Act.put, zL]);refine zT 28 (undef) rfl (Or.inr ⟨by rfl, rfl⟩) (by assumption) ?_;(try simp only [Act.put, zL]);refine zT 29 (undef) rfl (Or.inr ⟨by rfl, rfl⟩) (by assumption) ?_;(try simp only [Act.put, zL]);refine zT 30 (undef) rfl (Or.inr ⟨by rfl, rfl⟩) (by assumption) ?_;(try simp only [Act.put, zL]);refine zT 31 (undef) rfl (Or.inr ⟨by rfl, rfl⟩) (by assumption) ?_;(try simp only [Act.put, zL]);refine zT 32 (undef) rfl (Or.inr ⟨by rfl, rfl⟩) (by assumption) ?_;(try simp only [Act.put, zL]);refine zT 33 (undef) rfl (Or.inr ⟨by rfl, rfl⟩) (by assumption) ?_;(try simp only [Act.put, zL]);refine zT 34 (undef) rfl (Or.inr ⟨by rfl, rfl⟩) (by assumption) ?_;(try simp only [Act.put, zL]);refine zT 35 (undef) rfl (Or.inr ⟨by rfl, rfl⟩) (by assumption) ?_;(try simp only [Act.put, zL]);refine zT 36 (undef) rfl (Or.inr ⟨by rfl, rfl⟩) (by assumption) ?_;(try simp only [Act.put, zL]);refine zT 37 (?_) rfl (Or.inl ⟨by rfl, ?_⟩) (by assumption) ?_
            rotate_left
            ·(intro w hSw; (try dsimp only at hSw); go_simp; try with_reducible rfl)
            (try simp only [Act.put, zL]);refine wpAnyH_done (by kernel_rfl) ?_ _
            go_wp2_with fail
            go_ret
            exact ⟨ret_bool HR.out, e2.trans (bz.mono (by omega))⟩
          | true =>
            have HGW' : Hid (∀ j, ∀ hj : j < ws.length, j < k + 1 → wok ws[j] = true) := fun j hj hjk => by
             by_cases e : j = k
             ·subst e; exact HWK.out
             ·exact HGW.out j hj (by omega)
            clear HGW HFW HWK;rcases Nat.eq_zero_or_pos k with rfl | kpos
            ·skip
             have HG' : Hid (∀ j, j < 1 → good (ws.map (·.1)) j = true) := fun j hj => by
              (obtain rfl : j = 0 := by omega);rw [hG.out]; rfl
             have kc : wr.cell? ⟨w.heap.size, 3, none⟩ = some (.slice (some ⟨b, off, none⟩) n2 c2) ∧ wr.cell? ⟨b, off, none⟩ = some (.string xa) ∧ wr.cell? ⟨b, off + 1, none⟩ = some (.int .i64 xb) ∧ wr.cell? ⟨b, off + 2, none⟩ = some (.int .u64 (xc : Int)) ∧ wr.cell? ⟨b, off + 3, none⟩ = some (.string xd) := ⟨y3, x0, x1, x2, x3⟩;clear HG hG HS HF y3 x0 x1 x2 x3
             go_upto_region 11 with fail
             refine wp_region_held_drew (S := fun w' => w'.cell? ⟨w.heap.size, 3, none⟩ = some (.slice (some ⟨b, off, none⟩) n2 c2) ∧ w'.cell? ⟨b, off, none⟩ = some (.string xa) ∧ w'.cell? ⟨b, off + 1, none⟩ = some (.int .i64 xb) ∧ w'.cell? ⟨b, off + 2, none⟩ = some (.int .u64 (xc : Int)) ∧ w'.cell? ⟨b, off + 3, none⟩ = some (.string xd)) (by kernel_rfl) (by exact kc) (fun hHeld => ?_);refine zT 0 (?_) rfl (Or.inl ⟨by rfl, ?_⟩) (by assumption) ?_
             rotate_left
             ·(intro w hSw; (try dsimp only at hSw); go_simp; try with_reducible rfl)
             (try simp only [Act.put, zL]);refine zT 1 (?_) rfl (Or.inl ⟨by rfl, ?_⟩) (by assumption) ?_
             rotate_left
             ·(intro w hSw; (try dsimp only at hSw); go_simp; try with_reducible rfl)
             (try simp only [Act.put, zL]);refine zT 2 (?_) rfl (Or.inl ⟨by rfl, ?_⟩) (by assumption) ?_
             rotate_left
             ·(intro w hSw; (try dsimp only at hSw); go_simp; try with_reducible rfl)
             (try simp only [Act.put, zL]);refine zT 3 (?_) rfl (Or.inl ⟨by rfl, ?_⟩) (by assumption) ?_
             rotate_left
             ·(intro w hSw; (try dsimp only at hSw); go_simp; try with_reducible rfl)
             (try simp only [Act.put, zL]);refine zT 4 (?_) rfl (Or.inl ⟨by rfl, ?_⟩) (by assumption) ?_
             rotate_left
             ·(intro w hSw; (try dsimp only at hSw); go_simp; try with_reducible rfl)
             (try simp only [Act.put, zL]);refine zT 5 (?_) rfl (Or.inl ⟨by rfl, ?_⟩) (by assumption) ?_
             rotate_left
             ·(intro w hSw; (try dsimp only at hSw); go_simp; try with_reducible rfl)
             (try simp only [Act.put, zL]);refine wrd 6 fun K hK => ?_
             go_simp
             refine (HK.out _).mono ?_;rintro e v1 ⟨rfl, rfl⟩;refine hK.out _ _ ?_ (fun hHeld => ?_)
             ·exact kc
             clear hK K;(try simp only [Act.put, zL]);refine zT 7 (?_) rfl (Or.inl ⟨by rfl, ?_⟩) (by assumption) ?_
             rotate_left
             ·(intro w hSw; (try dsimp only at hSw); go_simp; try with_reducible rfl)
             (try simp only [Act.put, zL]);refine zT 8 (?_) rfl (Or.inl ⟨by rfl, ?_⟩) (by assumption) ?_
             rotate_left
             ·(intro w hSw; (try dsimp only at hSw); go_simp; try with_reducible rfl)
             (try simp only [Act.put, zL]);refine zT 9 (?_) rfl (Or.inl ⟨by rfl, ?_⟩) (by assumption) ?_
             rotate_left
             ·(intro w hSw; (try dsimp only at hSw); go_simp; try with_reducible rfl)
             (try simp only [Act.put, zL]);refine zT 10 (?_) rfl (Or.inl ⟨by rfl, ?_⟩) (by assumption) ?_
             rotate_left
             ·(intro w hSw; (try dsimp only at hSw); go_simp; try with_reducible rfl)
             (try simp only [Act.put, zL]);refine zT 11 (?_) rfl (Or.inl ⟨by rfl, ?_⟩) (by assumption) ?_
             rotate_left
             ·(intro w hSw; (try dsimp only at hSw); go_simp; try with_reducible rfl)
             (try simp only [Act.put, zL]);refine zT 12 (?_) rfl (Or.inl ⟨by rfl, ?_⟩) (by assumption) ?_
             rotate_left
             ·(intro w hSw; (try dsimp only at hSw); go_simp; try with_reducible rfl)
             (try simp only [Act.put, zL]);refine zT 13 (?_) rfl (Or.inl ⟨by rfl, ?_⟩) (by assumption) ?_
             rotate_left
             ·(intro w hSw; (try dsimp only at hSw); go_simp; try with_reducible rfl)
             (try simp only [Act.put, zL]);refine zT 14 (?_) rfl (Or.inl ⟨by rfl, ?_⟩) (by assumption) ?_
             rotate_left
             ·(intro w hSw; (try dsimp only at hSw); go_simp; try with_reducible rfl)
             (try simp only [Act.put, zL]);refine wrd 15 fun K hK => ?_
             go_simp
             refine (HV.out _).mono ?_;rintro e v2 ⟨rfl, g2⟩;have g2 := belowOfDrewH g2;have bz := hbel.out.trans (g2.mono hbel.out.size);have k2 : v2.cell? ⟨w.heap.size, 3, none⟩ = some (.slice (some ⟨b, off, none⟩) n2 c2) ∧ v2.cell? ⟨b, off, none⟩ = some (.string xa) ∧ v2.cell? ⟨b, off + 1, none⟩ = some (.int .i64 xb) ∧ v2.cell? ⟨b, off + 2, none⟩ = some (.int .u64 (xc : Int)) ∧ v2.cell? ⟨b, off + 3, none⟩ = some (.string xd) := ⟨cellB g2 kc.1, cellB g2 kc.2.1, cellB g2 kc.2.2.1, cellB g2 kc.2.2.2.1, cellB g2 kc.2.2.2.2⟩;refine hK.out _ _ ?_ (fun hHeld => ?_)
             ·exact k2
             clear hK K;(try simp only [Act.put, zL]);refine zT 16 (?_) rfl (Or.inl ⟨by rfl, ?_⟩) (by assumption) ?_
             rotate_left
             ·(intro w hSw; (try dsimp only at hSw); go_simp; try with_reducible rfl)
             (try simp only [Act.put, zL]);refine zT 17 (?_) rfl (Or.inl ⟨by rfl, ?_⟩) (by assumption) ?_
             rotate_left
             ·(intro w hSw; (try dsimp only at hSw); go_simp; try with_reducible rfl)
             (try simp only [Act.put, zL]);refine zT 18 (?_) rfl (Or.inl ⟨by rfl, ?_⟩) (by assumption) ?_
             rotate_left
             ·(intro w hSw; (try dsimp only at hSw); go_simp; try with_reducible rfl)
             (try simp only [Act.put, zL]);refine zT 19 (?_) rfl (Or.inl ⟨by rfl, ?_⟩) (by assumption) ?_
             rotate_left
             ·(intro w hSw; (try dsimp only at hSw); go_simp; try with_reducible rfl)
             (try simp only [Act.put, zL]);refine zT 20 (?_) rfl (Or.inl ⟨by rfl, ?_⟩) (by assumption) ?_
             rotate_left
             ·(intro w hSw; (try dsimp only at hSw); go_simp; try with_reducible rfl)
             (try simp only [Act.put, zL]);refine zT 21 (?_) rfl (Or.inl ⟨by rfl, ?_⟩) (by assumption) ?_
             rotate_left
             ·(intro w hSw; (try dsimp only at hSw); go_simp; try with_reducible rfl)
             (try simp only [Act.put, zL]);refine zT 22 (undef) rfl (Or.inr ⟨by rfl, rfl⟩) (by assumption) ?_;(try simp only [Act.put, zL]);refine zT 23 (undef) rfl (Or.inr ⟨by rfl, rfl⟩) (by assumption) ?_;(try simp only [Act.put, zL]);refine zT 24 (undef) rfl (Or.inr ⟨by rfl, rfl⟩) (by assumption) ?_;(try simp only [Act.put, zL]);refine zT 25 (undef) rfl (Or.inr ⟨by rfl, rfl⟩) (by assumption) ?_;(try simp only [Act.put, zL]);refine zT 26 (undef) rfl (Or.inr ⟨by rfl, rfl⟩) (by assumption) ?_;(try simp only [Act.put, zL]);refine zT 27 (undef) rfl (Or.inr ⟨by rfl, rfl⟩) (by assumption) ?_;(try simp only [Act.put, zL]);refine zT 28 (undef) rfl (Or.inr ⟨by rfl, rfl⟩) (by assumption) ?_;(try simp only [Act.put, zL]);refine zT 29 (undef) rfl (Or.inr ⟨by rfl, rfl⟩) (by assumption) ?_;(try simp only [Act.put, zL]);refine zT 30 (undef) rfl (Or.inr ⟨by rfl, rfl⟩) (by assumption) ?_;(try simp only [Act.put, zL]);refine zT 31 (undef) rfl (Or.inr ⟨by rfl, rfl⟩) (by assumption) ?_;(try simp only [Act.put, zL]);refine zT 32 (undef) rfl (Or.inr ⟨by rfl, rfl⟩) (by assumption) ?_;(try simp only [Act.put, zL]);refine zT 33 (undef) rfl (Or.inr ⟨by rfl, rfl⟩) (by assumption) ?_;(try simp only [Act.put, zL]);refine zT 34 (undef) rfl (Or.inr ⟨by rfl, rfl⟩) (by assumption) ?_;(try simp only [Act.put, zL]);refine zT 35 (undef) rfl (Or.inr ⟨by rfl, rfl⟩) (by assumption) ?_;(try simp only [Act.put, zL]);refine zT 36 (?_) rfl (Or.inl ⟨by rfl, ?_⟩) (by assumption) ?_
             rotate_left
             ·(intro w hSw; (try dsimp only at hSw); go_simp; try with_reducible rfl)
             (try simp only [Act.put, zL]);refine zT 37 (?_) rfl (Or.inl ⟨by rfl, ?_⟩) (by assumption) ?_
             rotate_left
             ·(intro w hSw; (try dsimp only at hSw); go_simp; try with_reducible rfl)
             (try simp only [Act.put, zL]);refine wpAnyH_done (by kernel_rfl) ?_ _
             go_wp2_with fail
             go_roundw
             case rel => exact ⟨1, by omega, by go_num, HG', HGW', bz⟩
             case measure => first | (simp [intOf]; done) | (simp [intOf]; omega)
            ·obtain ⟨j, hkj⟩ : ∃ j, k = j + 1 := ⟨k - 1, by omega⟩;(have hjl : j < ws.length := by omega);obtain ⟨b', off', hA', _, z0, _⟩ := (hw.below hbel.out (by omega)).wr j hjl;injection hA' with hA';injection hA' with q1 q2;subst q1; subst q2;obtain ⟨xp, hxp⟩ : ∃ xp : ByteArray, xp = ⟨ws[j].1.toArray⟩ := ⟨_, rfl⟩;rw [← hxp] at z0;(have hpd : xp.data.toList = ws[j].1 := by rw [hxp])
             have hG2 : Hid (good (ws.map (·.1)) k = Op.bytesLess xp.toList xa.toList) := by
              show _ = _;rw [hG.out, Lib.toList_data, Lib.toList_data, HS.out, hpd];rw [decide_eq_false (show ¬ k = 0 by omega)];simp [hkj]
             (have i0 : (0 : Int) ≤ (k : Int) := by omega);(have i1 : (k : Int) < (n2 : Int) := by omega);(have i3 : decide (0 < (k : Int)) = true := by simp; omega);(have i4 : (0 : Int) ≤ (j : Int) := by omega);(have i5 : (j : Int) < (n2 : Int) := by omega);(have i7 : (0 : Int) ≤ (k : Int) - 1 := by omega);(have i9 : (1 : Int) ≤ (k : Int) := by omega);(have i8 : (k : Int) - 1 < (n2 : Int) := by omega);(have i6 : IntKind.i64.wrap ((k : Int) - 1) = (k : Int) - 1 := by rw [IntKind.wrap_i64]; omega);have kc : wr.cell? ⟨w.heap.size, 3, none⟩ = some (.slice (some ⟨b, off, none⟩) n2 c2) ∧ wr.cell? ⟨b, off + k * 4, none⟩ = some (.string xa) ∧ wr.cell? ⟨b, off + k * 4 + 1, none⟩ = some (.int .i64 xb) ∧ wr.cell? ⟨b, off + k * 4 + 2, none⟩ = some (.int .u64 (xc : Int)) ∧ wr.cell? ⟨b, off + k * 4 + 3, none⟩ = some (.string xd) ∧ wr.cell? ⟨b, off + j * 4, none⟩ = some (.string xp) ∧ wr.cell? ⟨b, off + (k - 1) * 4, none⟩ = some (.string xp) ∧ wr.cell? ⟨b, off + ((k : Int) - 1).toNat * 4, none⟩ = some (.string xp) := ⟨y3, x0, x1, x2, x3, z0, by rw [show k - 1 = j by omega]; exact z0, by rw [show ((k : Int) - 1).toNat = j by omega]; exact z0⟩;clear hG HS hxp hpd y3 x0 x1 x2 x3 z0 hkj
             cases hless : Op.bytesLess xp.toList xa.toList with
             | false =>
               have HR := Lib.hid (HF.out (by rw [hG2.out]; exact hless));clear hG2 HF HG HGW' F4 F5 F9;rcases le_false hless with dl | ⟨dl, dm⟩
               all_goals
                go_wp2_with fail
                go_region_held3 (fun w' => w'.cell? ⟨w.heap.size, 3, none⟩ = some (.slice (some ⟨b, off, none⟩) n2 c2) ∧ w'.cell? ⟨b, off + k * 4, none⟩ = some (.string xa) ∧ w'.cell? ⟨b, off + k * 4 + 1, none⟩ = some (.int .i64 xb) ∧ w'.cell? ⟨b, off + k * 4 + 2, none⟩ = some (.int .u64 (xc : Int)) ∧ w'.cell? ⟨b, off + k * 4 + 3, none⟩ = some (.string xd) ∧ w'.cell? ⟨b, off + j * 4, none⟩ = some (.string xp) ∧ w'.cell? ⟨b, off + (k - 1) * 4, none⟩ = some (.string xp) ∧ w'.cell? ⟨b, off + ((k : Int) - 1).toNat * 4, none⟩ = some (.string xp)) (exact kc) (first | (go_at_call 125; refine (HK.out _).mono ?_; rintro e w' ⟨rfl, rfl⟩) | (go_at_call 113; refine (HV.out _).mono ?_; rintro e v2 ⟨rfl, g⟩; have g := belowOfDrewH g; have bz := hbel.out.trans (g.mono hbel.out.size); have kc : v2.cell? ⟨w.heap.size, 3, none⟩ = some (.slice (some ⟨b, off, none⟩) n2 c2) ∧ v2.cell? ⟨b, off + k * 4, none⟩ = some (.string xa) ∧ v2.cell? ⟨b, off + k * 4 + 1, none⟩ = some (.int .i64 xb) ∧ v2.cell? ⟨b, off + k * 4 + 2, none⟩ = some (.int .u64 (xc : Int)) ∧ v2.cell? ⟨b, off + k * 4 + 3, none⟩ = some (.string xd) ∧ v2.cell? ⟨b, off + j * 4, none⟩ = some (.string xp) ∧ v2.cell? ⟨b, off + (k - 1) * 4, none⟩ = some (.string xp) ∧ v2.cell? ⟨b, off + ((k : Int) - 1).toNat * 4, none⟩ = some (.string xp) := ⟨cellB g kc.1, cellB g kc.2.1, cellB g kc.2.2.1, cellB g kc.2.2.2.1, cellB g kc.2.2.2.2.1, cellB g kc.2.2.2.2.2.1, cellB g kc.2.2.2.2.2.2.1, cellB g kc.2.2.2.2.2.2.2⟩))
                go_wp2_with fail
                go_ret
                exact ⟨ret_bool HR.out, e2.trans (bz.mono (by omega))⟩
             | true =>
               have HG' : Hid (∀ i, i < k + 1 → good (ws.map (·.1)) i = true) := fun i hi => by
                by_cases e : i = k
                ·subst e; rw [hG2.out]; exact hless
                ·exact HG.out i (by omega)
               clear HG hG2 HF;obtain ⟨dl, dm⟩ := le_true hless
               go_wp2_with fail
               go_region_held3 (fun w' => w'.cell? ⟨w.heap.size, 3, none⟩ = some (.slice (some ⟨b, off, none⟩) n2 c2) ∧ w'.cell? ⟨b, off + k * 4, none⟩ = some (.string xa) ∧ w'.cell? ⟨b, off + k * 4 + 1, none⟩ = some (.int .i64 xb) ∧ w'.cell? ⟨b, off + k * 4 + 2, none⟩ = some (.int .u64 (xc : Int)) ∧ w'.cell? ⟨b, off + k * 4 + 3, none⟩ = some (.string xd) ∧ w'.cell? ⟨b, off + j * 4, none⟩ = some (.string xp) ∧ w'.cell? ⟨b, off + (k - 1) * 4, none⟩ = some (.string xp) ∧ w'.cell? ⟨b, off + ((k : Int) - 1).toNat * 4, none⟩ = some (.string xp)) (exact kc) (first | (go_at_call 125; refine (HK.out _).mono ?_; rintro e w' ⟨rfl, rfl⟩) | (go_at_call 113; refine (HV.out _).mono ?_; rintro e v2 ⟨rfl, g⟩; have g := belowOfDrewH g; have bz := hbel.out.trans (g.mono hbel.out.size); have kc : v2.cell? ⟨w.heap.size, 3, none⟩ = some (.slice (some ⟨b, off, none⟩) n2 c2) ∧ v2.cell? ⟨b, off + k * 4, none⟩ = some (.string xa) ∧ v2.cell? ⟨b, off + k * 4 + 1, none⟩ = some (.int .i64 xb) ∧ v2.cell? ⟨b, off + k * 4 + 2, none⟩ = some (.int .u64 (xc : Int)) ∧ v2.cell? ⟨b, off + k * 4 + 3, none⟩ = some (.string xd) ∧ v2.cell? ⟨b, off + j * 4, none⟩ = some (.string xp) ∧ v2.cell? ⟨b, off + (k - 1) * 4, none⟩ = some (.string xp) ∧ v2.cell? ⟨b, off + ((k : Int) - 1).toNat * 4, none⟩ = some (.string xp) := ⟨cellB g kc.1, cellB g kc.2.1, cellB g kc.2.2.1, cellB g kc.2.2.2.1, cellB g kc.2.2.2.2.1, cellB g kc.2.2.2.2.2.1, cellB g kc.2.2.2.2.2.2.1, cellB g kc.2.2.2.2.2.2.2⟩))
               go_wp2_with fail
               go_roundw
               case rel => exact ⟨k + 1, by omega, by go_num, HG', HGW', bz⟩
               case measure => first | (simp [intOf]; done) | (simp [intOf]; omega)
       ·(obtain rfl : k = n2 := by omega);have y3 := cellB hbel.out y3;have HR := Lib.hid (F9.out (fun i hi => HG.out i (by rw [HN2.out]; exact hi)) (fun i hi => HGW.out i hi (by rw [HN2.out]; exact hi)));clear HG HGW F9
        go_wp2_with fail
        go_ret
        exact ⟨ret_bool HR.out, e2.trans (hbel.out.mono (by omega))⟩
end Go.Proofs.YthclniimhpmeoaaGreatDoor
