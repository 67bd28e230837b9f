import Derived.Test.YtjofjpmhokjhnaaGreatDoorWfM13
import Derived.Test.YtjofjpmhokjhnaaGreatDoorWfM8
set_option linter.unusedSimpArgs false
set_option linter.unusedVariables false
namespace Go.Proofs.YtjofjpmhokjhnaaGreatDoor
set_option maxRecDepth 20000
open Go.RowKit T
set_option maxHeartbeats 800000 in
theorem tclos_any (ky : ByteArray) (k : Int) (b : Nat) (t : ByteArray) (w : World) (hT : Tabs w) :
 Calls Tryz.prog 124 #[.agg #[.string ky, .int .i64 k, .int .u64 (b : Int), .string t]] w fun e w' => e = .returned (.bool (!V.formed k b t.data.toList)) ∧ Below w.heap.size w w' := by
 have g0 : Below w.heap.size w (w.alloc (.cells #[.string ky, .int .i64 k, .int .u64 (b : Int), .string t] 163)) := (Below.refl _ _).alloc (Nat.le_refl _) _
 have HF := Lib.hid (formed_any k b t _ (hT.below g0))
 unfold V.val at HF
 go_enter Tryz.func124, Tryz.ntmps124
 go_wp2_with fail
 refine HF.out.mono ?_
 rintro e w1 ⟨rfl, b1⟩
 go_wp2_with fail
 go_ret
 exact ⟨rfl, g0.trans (b1.mono g0.size)⟩
theorem T.all_false (ws : List Wr1) (k : Nat) (hk : k < ws.length) (h : wok ws[k] = false) : ws.all wok = false := by
 cases ha : ws.all wok with
 | false => rfl
 | true => rw [List.all_eq_true.1 ha _ (List.getElem_mem hk)] at h; exact Bool.noConfusion h
theorem T.all_true (ws : List Wr1) (h : ∀ k, ∀ hk : k < ws.length, wok ws[k] = true) : ws.all wok = true := List.all_eq_true.2 fun x hx => by
 obtain ⟨k, hk, rfl⟩ := List.mem_iff_getElem.1 hx
 exact h k hk
set_option maxHeartbeats 3200000 in
theorem tindex_any (ws : List Wr1) (A : Option Addr) (c : Nat) (w : World) (B : Nat) (hB : B ≤ w.heap.size) (hr : RowsAt w B A 4 (ws.map encW)) (hc : ws.length ≤ c) (hm : c ≤ maxLen) (hT : Tabs w) :
 Calls Tryz.prog 139 #[.slice A ws.length c, .func (.func 124) #[] #[]] w fun e w' => (∃ r : Int, e = .returned (.int .i64 r) ∧ decide (0 ≤ r) = !ws.all wok) ∧ Below w.heap.size w w' := by
 have eg : ∀ args w, (callFunc 124 args).run Tryz.prog w = .ok (.enter 124 args) w := enters_of Tryz.func124 (by kernel_rfl) rfl
 obtain ⟨n, hn⟩ : ∃ n, n = ws.length := ⟨_, rfl⟩
 have HN := Lib.hid hn
 rw [← hn] at hc ⊢
 clear hn
 unfold maxLen at hm
 go_enter Tryz.func139, Tryz.ntmps139
 go_wp2_with fail
 go_loopw [5, 8] (fun _ i wr => ∃ k : Nat, k ≤ n ∧ i = .int .i64 (k : Int) ∧ Hid (∀ j, ∀ hj : j < ws.length, j < k → wok ws[j] = true) ∧ Below w.heap.size w wr) (fun _ i _ => n - (intOf i).toNat)
 case atStart => exact ⟨0, Nat.zero_le _, rfl, fun j _ hj => absurd hj (Nat.not_lt_zero _), Below.refl _ _⟩
 case round =>
  obtain ⟨k, hk, rfl, HG, hbel⟩ := hrel
  by_cases hlt : k < n
  ·have hkl : k < ws.length := by rw [← HN.out]; exact hlt
   obtain ⟨b, off, rfl, hb, x0, x1, x2, x3⟩ := (hr.below hbel hB).wr k hkl
   have HC := Lib.hid (tclos_any ⟨ws[k].1.toArray⟩ ws[k].2.1 ws[k].2.2.1 ⟨ws[k].2.2.2.toArray⟩ wr (hT.below hbel))
   have HW : Hid (wok ws[k] = V.formed ws[k].2.1 ws[k].2.2.1 ws[k].2.2.2) := rfl
   obtain ⟨r, hrr⟩ : ∃ r, r = V.formed ws[k].2.1 ws[k].2.2.1 ws[k].2.2.2 := ⟨_, rfl⟩
   have HC' : Hid (Calls Tryz.prog 124 #[.agg #[.string ⟨ws[k].1.toArray⟩, .int .i64 ws[k].2.1, .int .u64 (ws[k].2.2.1 : Int), .string ⟨ws[k].2.2.2.toArray⟩]] wr fun e w' => e = .returned (.bool (!r)) ∧ Below wr.heap.size wr w') := by
    rw [hrr]; exact HC.out
   rw [← hrr] at HW
   clear HC hrr
   generalize ws[k].1 = ky at x0 HC'
   generalize ws[k].2.1 = vk at x1 HC'
   generalize ws[k].2.2.1 = vb at x2 HC'
   generalize ws[k].2.2.2 = vt at x3 HC'
   have HC := HC'
   clear HC'
   cases r with
   | false =>
     have HR := Lib.hid (all_false ws k hkl HW.out)
     clear HW HG
     go_wp2_with (go_at_fn 124; refine HC.out.mono ?_; rintro e w' ⟨rfl, hb'⟩)
     go_ret
     exact ⟨⟨_, rfl, by rw [HR.out]; simp⟩, hbel.trans (hb'.mono hbel.size)⟩
   | true =>
     have HG' : Hid (∀ j, ∀ hj : j < ws.length, j < k + 1 → wok ws[j] = true) := fun j hj hjk => by
      by_cases e : j = k
      ·subst e; exact HW.out
      ·exact HG.out j hj (by omega)
     clear HW HG
     go_wp2_with (go_at_fn 124; refine HC.out.mono ?_; rintro e w' ⟨rfl, hb'⟩)
     go_roundw
     case rel => exact ⟨k + 1, by omega, by go_num, HG', hbel.trans (hb'.mono hbel.size)⟩
     case measure => first | (simp [intOf]; done) | (simp [intOf]; omega)
  ·obtain rfl : k = n := by omega
   have HR := Lib.hid (all_true ws fun j hj => HG.out j hj (by rw [HN.out]; exact hj))
   clear HG
   go_wp2_with fail
   go_ret
   exact ⟨⟨_, rfl, by rw [HR.out]; rfl⟩, hbel⟩
set_option maxHeartbeats 800000 in
theorem tcontains_any (ws : List Wr1) (A : Option Addr) (c : Nat) (w : World) (B : Nat) (hB : B ≤ w.heap.size) (hr : RowsAt w B A 4 (ws.map encW)) (hc : ws.length ≤ c) (hm : c ≤ maxLen) (hT : Tabs w) :
 Calls Tryz.prog 123 #[.slice A ws.length c, .func (.func 124) #[] #[]] w fun e w' => e = .returned (.bool (!ws.all wok)) ∧ Below w.heap.size w w' := by
 have HI := Lib.hid (tindex_any ws A c w B hB hr hc hm hT)
 go_enter Tryz.func123, Tryz.ntmps123
 go_wp2_with fail
 refine HI.out.mono ?_
 rintro e w1 ⟨⟨r, rfl, hr'⟩, b1⟩
 have HR := Lib.hid hr'
 clear hr'
 go_wp2_with fail
 all_goals
  go_ret
  exact ⟨ret_bool (by rw [← HR.out]), b1⟩
set_option maxHeartbeats 3200000 in
theorem tformed_any (s q : Int) (rs : List Rd1) (ws : List Wr1) (A1 : Option Addr) (c1 : Nat) (A2 : Option Addr) (c2 : Nat) (w : World) (B : Nat) (hB : B ≤ w.heap.size) (ok : TxOk w B rs ws A1 c1 A2 c2) (hT : Tabs w) :
 Calls Tryz.prog 93 #[.agg #[.int .i64 s, .int .i64 q, .slice A1 rs.length c1, .slice A2 ws.length c2]] w fun e w' => e = .returned (.bool (T.formed s q rs ws)) ∧ Below w.heap.size w w' := by
 obtain ⟨p, hp⟩ : ∃ p : Bool, p = T.formed s q rs ws := ⟨_, rfl⟩
 have HP := Lib.hid hp
 rw [← hp]
 obtain ⟨n, hn⟩ : ∃ n, n = rs.length := ⟨_, rfl⟩
 obtain ⟨m, hm⟩ : ∃ m, m = ws.length := ⟨_, rfl⟩
 have HN := Lib.hid hn
 have HM := Lib.hid hm
 rw [← hn, ← hm]
 have g0 : Below w.heap.size w (w.alloc (.cells #[.int .i64 s, .int .i64 q, .slice A1 n c1, .slice A2 m c2] 30)) := (Below.refl _ _).alloc (Nat.le_refl _) _
 obtain ⟨w0, hw0⟩ : ∃ w0, w0 = w.alloc (.cells #[.int .i64 s, .int .i64 q, .slice A1 n c1, .slice A2 m c2] 30) := ⟨_, rfl⟩
 have y0 : w0.cell? ⟨w.heap.size, 0, none⟩ = some (.int .i64 s) := by rw [hw0]; simp
 have y1 : w0.cell? ⟨w.heap.size, 1, none⟩ = some (.int .i64 q) := by rw [hw0]; simp
 have y2 : w0.cell? ⟨w.heap.size, 2, none⟩ = some (.slice A1 n c1) := by rw [hw0]; simp
 have y3 : w0.cell? ⟨w.heap.size, 3, none⟩ = some (.slice A2 m c2) := by rw [hw0]; simp
 have y23 := Lib.hid (And.intro y0 (And.intro y1 (And.intro y2 y3)))
 rw [← hw0] at g0
 have HO := Lib.hid (ok.below g0 hB)
 have hT0 := Lib.hid (hT.below g0)
 have gB : w.heap.size ≤ w0.heap.size := g0.size
 clear hp hn hm hT ok
 go_enter Tryz.func93, Tryz.ntmps93
 go_upto_region 1 with fail
 rw [← hw0]
 clear hw0
 go_wp2_with fail
 refine (tid_any s q w0).mono ?_
 rintro e w1 ⟨rfl, b1⟩
 have e1 := g0.trans (b1.mono gB)
 have s1 := b1.size
 have y3 := cellB b1 y3
 clear y0 y1 y2
 cases hid : idb s q with
 | false =>
   have HR : Hid (false = p) := by show _ = _; rw [HP.out]; unfold T.formed; rw [hid]; rfl
   clear hid
   go_wp2_with fail
   go_ret
   exact ⟨ret_bool HR.out, e1⟩
 | true =>
   have HI := Lib.hid hid
   clear hid
   by_cases h1 : 6 < n
   ·have HR : Hid (false = p) := by show _ = _; rw [HP.out]; unfold T.formed; rw [HI.out, ← HN.out, ← HM.out, decide_eq_false (by omega)]; rfl
    go_wp2_with fail
    go_ret
    exact ⟨ret_bool HR.out, e1⟩
   ·by_cases h2 : 6 < m
    ·have HR : Hid (false = p) := by show _ = _; rw [HP.out]; unfold T.formed; rw [HI.out, ← HN.out, ← HM.out, decide_eq_false (by omega)]; rfl
     go_wp2_with fail
     go_ret
     exact ⟨ret_bool HR.out, e1⟩
    ·by_cases h3 : n + m = 0
     ·have HR : Hid (false = p) := by show _ = _; rw [HP.out]; unfold T.formed; rw [HI.out, ← HN.out, ← HM.out, decide_eq_false (by omega)]; rfl
      have h3' : (n : Int) + (m : Int) = 0 := by omega
      go_wp2_with fail
      go_ret
      exact ⟨ret_bool HR.out, e1⟩
     ·have h3' : ((n : Int) + (m : Int) == 0) = false := by simp; omega
      have d1 : decide (6 < (n : Int)) = false := by simp; omega
      have d2 : decide (6 < (m : Int)) = false := by simp; omega
      have HF : Hid (p = (rises (rs.map (·.1)) && rises (ws.map (·.1)) && ws.all wok)) := by
       show _ = _
       rw [HP.out]; unfold T.formed
       rw [HI.out, ← HN.out, ← HM.out, decide_eq_true (by omega)]; rfl
      have HO1 := Lib.hid (HO.out.below b1 (by omega))
      have HT1 := Lib.hid (hT0.out.below b1)
      have HKE := Lib.hid (keys_any s q rs ws A1 c1 A2 c2 w1 B (by omega) HO1.out (by rw [← HN.out]; omega) (by rw [← HM.out]; omega))
      have z := y23.out
      have z0 := cellB b1 z.1
      have z1 := cellB b1 z.2.1
      have z2 := cellB b1 z.2.2.1
      have HKE' : Hid (Calls Tryz.prog 121 #[.agg #[.int .i64 s, .int .i64 q, .slice A1 n c1, .slice A2 m c2]] w1 (MadeS w1 (rs.map (·.1) ++ ws.map (·.1)))) := by
       show Calls _ _ _ _ _
       rw [HN.out, HM.out]; exact HKE.out
      clear HKE z
      go_wp2_with fail
      refine HKE'.out.mono ?_
      rintro e w2 ⟨v, rfl, o2, b2⟩
      obtain ⟨KA, kc, rfl, hkc, hkA, hkm⟩ := ownShape o2
      have HL : Hid ((rs.map (·.1) ++ ws.map (·.1)).length = n + m) := by show _ = _; rw [HN.out, HM.out]; simp
      rw [HL.out] at o2 hkc ⊢
      have hrd := Rd.ofOwn o2
      unfold maxLen at hkm
      go_wp2_with fail
      have HS1 : Hid ((strs (rs.map (·.1) ++ ws.map (·.1))).take n = strs (rs.map (·.1))) := by
       show _ = _; rw [strs_app, List.take_append_of_le_length (by rw [strs_len, HN.out]; simp), List.take_of_length_le (by rw [strs_len, HN.out]; simp)]
      have HS2 : Hid ((strs (rs.map (·.1) ++ ws.map (·.1))).drop n = strs (ws.map (·.1))) := by
       show _ = _; rw [strs_app, List.drop_append_of_le_length (by rw [strs_len, HN.out]; simp), List.drop_of_length_le (by rw [strs_len, HN.out]; simp)]; rfl
      have hlr : ∀ x ∈ rs.map (·.1), x.length ≤ 9223372036854775807 := fun x hx => by
       obtain ⟨r, hr, rfl⟩ := List.mem_map.1 hx; exact (HO1.out.ro r hr).1
      have hlw : ∀ x ∈ ws.map (·.1), x.length ≤ 9223372036854775807 := fun x hx => by
       obtain ⟨r, hr, rfl⟩ := List.mem_map.1 hx; exact (HO1.out.wo r hr).1
      have r1 := hrd.take n
      rw [HS1.out] at r1
      have HR1 := Lib.hid (rises_any KA kc (rs.map (·.1)) w2 w2.heap.size (by simp [← HN.out]; omega) (by unfold maxLen; omega) r1 (Nat.le_refl _) hlr)
      rw [show (rs.map (·.1)).length = n by rw [HN.out]; simp] at HR1
      have s2 := b2.size
      have e2 := e1.trans (b2.mono (by omega))
      refine HR1.out.mono ?_
      rintro e w3 ⟨rfl, b3⟩
      have e3 := e2.trans (b3.mono (by omega))
      have s3 := b3.size
      have y3 := cellB b3 (cellB b2 y3)
      clear HR1 r1
      cases hr1 : rises (rs.map (·.1)) with
      | false =>
        have HR : Hid (false = p) := by show _ = _; rw [HF.out, hr1]; rfl
        clear hr1
        go_wp2_with fail
        go_ret
        exact ⟨ret_bool HR.out, e3⟩
      | true =>
        rw [hr1, Bool.true_and] at HF
        clear hr1
        have r2 := (hrd.cut (k := n) (cap := kc) (by rw [strs_len, HL.out]; omega)).below b3
        rw [HS2.out] at r2
        have hmk : m ≤ kc - n := by omega
        by_cases hca : kc = n
        ·rw [if_pos hca] at r2
         have HR2 := Lib.hid (rises_any (KA) (0) (ws.map (·.1)) w3 w2.heap.size (by simp [← HM.out]; omega) (by unfold maxLen; omega) r2 (by omega) hlw)
         rw [show (ws.map (·.1)).length = m by rw [HM.out]; simp] at HR2
         have HC := Lib.hid (fun z (hz : Below w3.heap.size w3 z) => tcontains_any ws A2 c2 z B (by have := hz.size; omega) (((HO1.out.w.below b2 (by omega)).below b3 (by omega)).below hz (by omega)) HO1.out.wc HO1.out.wm (((HT1.out.below b2).below b3).below hz))
         rw [← HM.out] at HC
         go_wp2_with fail
         refine HR2.out.mono ?_
         rintro e w4 ⟨rfl, b4⟩
         have e4 := e3.trans (b4.mono (by omega))
         have s4 := b4.size
         have y3 := cellB b4 y3
         clear HR2 r2
         cases hr2 : rises (ws.map (·.1)) with
         | false =>
           have HR : Hid (false = p) := by show _ = _; rw [HF.out, hr2]; rfl
           clear hr2
           go_wp2_with fail
           go_ret
           exact ⟨ret_bool HR.out, e4⟩
         | true =>
           rw [hr2, Bool.true_and] at HF
           clear hr2
           go_wp2_with fail
           refine (HC.out w4 b4).mono ?_
           rintro e w5 ⟨rfl, b5⟩
           have HR : Hid ((!!ws.all wok) = p) := by show _ = _; rw [HF.out, Bool.not_not]
           generalize ws.all wok = r at HR ⊢
           clear HC
           cases r with
           | false =>
             go_wp2_with fail
             go_ret
             exact ⟨ret_bool HR.out, e4.trans (b5.mono (by omega))⟩
           | true =>
             go_wp2_with fail
             go_ret
             exact ⟨ret_bool HR.out, e4.trans (b5.mono (by omega))⟩
        ·rw [if_neg hca] at r2
         have HR2 := Lib.hid (rises_any (KA.map (·.add n)) (kc - n) (ws.map (·.1)) w3 w2.heap.size (by simp [← HM.out]; omega) (by unfold maxLen; omega) r2 (by omega) hlw)
         rw [show (ws.map (·.1)).length = m by rw [HM.out]; simp] at HR2
         have HC := Lib.hid (fun z (hz : Below w3.heap.size w3 z) => tcontains_any ws A2 c2 z B (by have := hz.size; omega) (((HO1.out.w.below b2 (by omega)).below b3 (by omega)).below hz (by omega)) HO1.out.wc HO1.out.wm (((HT1.out.below b2).below b3).below hz))
         rw [← HM.out] at HC
         go_wp2_with fail
         refine HR2.out.mono ?_
         rintro e w4 ⟨rfl, b4⟩
         have e4 := e3.trans (b4.mono (by omega))
         have s4 := b4.size
         have y3 := cellB b4 y3
         clear HR2 r2
         cases hr2 : rises (ws.map (·.1)) with
         | false =>
           have HR : Hid (false = p) := by show _ = _; rw [HF.out, hr2]; rfl
           clear hr2
           go_wp2_with fail
           go_ret
           exact ⟨ret_bool HR.out, e4⟩
         | true =>
           rw [hr2, Bool.true_and] at HF
           clear hr2
           go_wp2_with fail
           refine (HC.out w4 b4).mono ?_
           rintro e w5 ⟨rfl, b5⟩
           have HR : Hid ((!!ws.all wok) = p) := by show _ = _; rw [HF.out, Bool.not_not]
           generalize ws.all wok = r at HR ⊢
           clear HC
           cases r with
           | false =>
             go_wp2_with fail
             go_ret
             exact ⟨ret_bool HR.out, e4.trans (b5.mono (by omega))⟩
           | true =>
             go_wp2_with fail
             go_ret
             exact ⟨ret_bool HR.out, e4.trans (b5.mono (by omega))⟩
end Go.Proofs.YtjofjpmhokjhnaaGreatDoor
namespace Go.Proofs.YtjofjpmhokjhnaaGreatDoor
set_option maxRecDepth 20001
open Go.RowKit
namespace T
theorem fId : (Tryz.prog.fieldsOf 26).toList = [{ name := "Session", type := 3, offset := 0, embedded := false, tag := "", pkgPath := "", byteOffset := 0 },
 { name := "Seq", type := 3, offset := 1, embedded := false, tag := "", pkgPath := "", byteOffset := 8 }] := by kernel_rfl
theorem fRd : (Tryz.prog.fieldsOf 161).toList = [{ name := "Key", type := 9, offset := 0, embedded := false, tag := "", pkgPath := "", byteOffset := 0 },
 { name := "Version", type := 31, offset := 1, embedded := false, tag := "", pkgPath := "", byteOffset := 16 }] := by kernel_rfl
theorem fWr : (Tryz.prog.fieldsOf 163).toList = [{ name := "Key", type := 9, offset := 0, embedded := false, tag := "", pkgPath := "", byteOffset := 0 },
 { name := "Value", type := 77, offset := 1, embedded := false, tag := "", pkgPath := "", byteOffset := 16 }] := by kernel_rfl
theorem fVal : (Tryz.prog.fieldsOf 77).toList = [{ name := "Kind", type := 3, offset := 0, embedded := false, tag := "", pkgPath := "", byteOffset := 0 },
 { name := "Bits", type := 31, offset := 1, embedded := false, tag := "", pkgPath := "", byteOffset := 8 },
 { name := "Text", type := 9, offset := 2, embedded := false, tag := "", pkgPath := "", byteOffset := 16 }] := by kernel_rfl
theorem eqId (d : Nat) (s q s' q' : Int) (w : World) :
 (Op.equalIn (d + 2) 26 (.agg #[.int .i64 s, .int .i64 q]) (.agg #[.int .i64 s', .int .i64 q'])).run Tryz.prog w = .ok (decide (s = s' ∧ q = q')) w := by
 have hu : Tryz.prog.underlying 26 = some (.struct (Tryz.prog.fieldsOf 26)) := by kernel_rfl
 rw [run_equalIn_struct (P := Tryz.prog) w (d + 1) 26 _ _ hu (by kernel_rfl), fId]
 have e0 : ∀ w, (Op.equalIn (d + 1) 3 (.int .i64 s) (.int .i64 s')).run Tryz.prog w = .ok (s == s') w := fun w => run_equalIn_int w d 3 .i64 .i64 s s' Tryz.underlying3
 have e1 : ∀ w, (Op.equalIn (d + 1) 3 (.int .i64 q) (.int .i64 q')).run Tryz.prog w = .ok (q == q') w := fun w => run_equalIn_int w d 3 .i64 .i64 q q' Tryz.underlying3
 have p0 : ∀ (x y : Value) w, (part 3 #[x, y] 0).run Tryz.prog w = .ok x w := fun x y w => by rfl
 have p1 : ∀ (x y : Value) w, (part 3 #[x, y] 1).run Tryz.prog w = .ok y w := fun x y w => by rfl
 generalize hd : d + 1 = d1 at *
 clear hd
 by_cases hs : s = s'
 ·subst hs
  by_cases hq : q = q'
  ·subst hq; simp [Op.eqFields, e0, e1, p0, p1]
  ·simp [Op.eqFields, e0, e1, p0, p1, hq]
 ·simp [Op.eqFields, e0, e1, p0, p1, hs]
theorem run_eqId (s q s' q' : Int) (w : World) :
 (binOp .eql 26 (.agg #[.int .i64 s, .int .i64 q]) (.agg #[.int .i64 s', .int .i64 q'])).run Tryz.prog w = .ok (.bool (decide (s = s' ∧ q = q'))) w := by
 rw [run_eql_struct, show (10000 : Nat) = 9998 + 2 from rfl, eqId]; rfl
theorem run_neId (s q s' q' : Int) (w : World) :
 (binOp .neq 26 (.agg #[.int .i64 s, .int .i64 q]) (.agg #[.int .i64 s', .int .i64 q'])).run Tryz.prog w = .ok (.bool (!decide (s = s' ∧ q = q'))) w := by
 rw [run_neq_struct, show (10000 : Nat) = 9998 + 2 from rfl, eqId]; rfl
theorem eqRd (d : Nat) (k : ByteArray) (b : Nat) (k' : ByteArray) (b' : Nat) (w : World) :
 (Op.equalIn (d + 2) 161 (.agg #[.string k, .int .u64 b]) (.agg #[.string k', .int .u64 b'])).run Tryz.prog w = .ok (decide (k.toList = k'.toList ∧ b = b')) w := by
 have hu : Tryz.prog.underlying 161 = some (.struct (Tryz.prog.fieldsOf 161)) := by kernel_rfl
 rw [run_equalIn_struct (P := Tryz.prog) w (d + 1) 161 _ _ hu (by kernel_rfl), fRd]
 have e0 : ∀ w, (Op.equalIn (d + 1) 9 (.string k) (.string k')).run Tryz.prog w = .ok (k.toList == k'.toList) w := fun w => run_equalIn_string w d 9 k k' Tryz.underlying9
 have e1 : ∀ w, (Op.equalIn (d + 1) 31 (.int .u64 b) (.int .u64 b')).run Tryz.prog w = .ok ((b : Int) == (b' : Int)) w := fun w => run_equalIn_int w d 31 .u64 .u64 _ _ Tryz.underlying31
 have p0 : ∀ (x y : Value) w, (part 9 #[x, y] 0).run Tryz.prog w = .ok x w := fun x y w => by rfl
 have p1 : ∀ (x y : Value) w, (part 31 #[x, y] 1).run Tryz.prog w = .ok y w := fun x y w => by rfl
 generalize hd : d + 1 = d1 at *
 clear hd
 by_cases hk : k.toList = k'.toList
 ·by_cases hb : b = b'
  ·subst hb; simp [Op.eqFields, e0, e1, p0, p1, hk]
  ·have : ¬ (b : Int) = (b' : Int) := by omega
   simp [Op.eqFields, e0, e1, p0, p1, hk, hb, this]
 ·simp [Op.eqFields, e0, e1, p0, p1, hk]
theorem run_neRd (k : ByteArray) (b : Nat) (k' : ByteArray) (b' : Nat) (w : World) :
 (binOp .neq 161 (.agg #[.string k, .int .u64 b]) (.agg #[.string k', .int .u64 b'])).run Tryz.prog w = .ok (.bool (!decide (k.toList = k'.toList ∧ b = b'))) w := by
 rw [run_neq_struct, show (10000 : Nat) = 9998 + 2 from rfl, eqRd]; rfl
theorem eqVal (d : Nat) (k : Int) (b : Nat) (t : ByteArray) (k' : Int) (b' : Nat) (t' : ByteArray) (w : World) :
 (Op.equalIn (d + 2) 77 (.agg #[.int .i64 k, .int .u64 b, .string t]) (.agg #[.int .i64 k', .int .u64 b', .string t'])).run Tryz.prog w = .ok (decide (k = k' ∧ b = b' ∧ t.toList = t'.toList)) w := by
 have hu : Tryz.prog.underlying 77 = some (.struct (Tryz.prog.fieldsOf 77)) := by kernel_rfl
 rw [run_equalIn_struct (P := Tryz.prog) w (d + 1) 77 _ _ hu (by kernel_rfl), fVal]
 have e0 : ∀ w, (Op.equalIn (d + 1) 3 (.int .i64 k) (.int .i64 k')).run Tryz.prog w = .ok (k == k') w := fun w => run_equalIn_int w d 3 .i64 .i64 k k' Tryz.underlying3
 have e1 : ∀ w, (Op.equalIn (d + 1) 31 (.int .u64 b) (.int .u64 b')).run Tryz.prog w = .ok ((b : Int) == (b' : Int)) w := fun w => run_equalIn_int w d 31 .u64 .u64 _ _ Tryz.underlying31
 have e2 : ∀ w, (Op.equalIn (d + 1) 9 (.string t) (.string t')).run Tryz.prog w = .ok (t.toList == t'.toList) w := fun w => run_equalIn_string w d 9 t t' Tryz.underlying9
 have p0 : ∀ (x y z : Value) w, (part 3 #[x, y, z] 0).run Tryz.prog w = .ok x w := fun x y z w => by rfl
 have p1 : ∀ (x y z : Value) w, (part 31 #[x, y, z] 1).run Tryz.prog w = .ok y w := fun x y z w => by rfl
 have p2 : ∀ (x y z : Value) w, (part 9 #[x, y, z] 2).run Tryz.prog w = .ok z w := fun x y z w => by rfl
 generalize hd : d + 1 = d1 at *
 clear hd
 by_cases hk : k = k'
 ·subst hk
  by_cases hb : b = b'
  ·subst hb
   by_cases ht : t.toList = t'.toList
   ·simp [Op.eqFields, e0, e1, e2, p0, p1, p2, ht]
   ·simp [Op.eqFields, e0, e1, e2, p0, p1, p2, ht]
  ·simp [Op.eqFields, e0, e1, e2, p0, p1, p2, hb]
   exact fun h => absurd (by omega) hb
 ·simp [Op.eqFields, e0, e1, e2, p0, p1, p2, hk]
theorem eqWr (d : Nat) (y : ByteArray) (k : Int) (b : Nat) (t : ByteArray) (y' : ByteArray) (k' : Int) (b' : Nat) (t' : ByteArray) (w : World) :
 (Op.equalIn (d + 3) 163 (.agg #[.string y, .int .i64 k, .int .u64 b, .string t]) (.agg #[.string y', .int .i64 k', .int .u64 b', .string t'])).run Tryz.prog w = .ok (decide (y.toList = y'.toList ∧ k = k' ∧ b = b' ∧ t.toList = t'.toList)) w := by
 have hu : Tryz.prog.underlying 163 = some (.struct (Tryz.prog.fieldsOf 163)) := by kernel_rfl
 rw [run_equalIn_struct (P := Tryz.prog) w (d + 2) 163 _ _ hu (by kernel_rfl), fWr]
 have e0 : ∀ w, (Op.equalIn (d + 2) 9 (.string y) (.string y')).run Tryz.prog w = .ok (y.toList == y'.toList) w := fun w => run_equalIn_string w (d + 1) 9 y y' Tryz.underlying9
 have e1 := fun w => eqVal d k b t k' b' t' w
 have p0 : ∀ (x y z u : Value) w, (part 9 #[x, y, z, u] 0).run Tryz.prog w = .ok x w := fun x y z u w => by rfl
 have p1 : ∀ (x y z u : Value) w, (part 77 #[x, y, z, u] 1).run Tryz.prog w = .ok (.agg #[y, z, u]) w := fun x y z u w => by rfl
 generalize hd : d + 2 = d1 at *
 clear hd
 rw [show decide (y.toList = y'.toList ∧ k = k' ∧ b = b' ∧ t.toList = t'.toList) = (decide (y.toList = y'.toList) && decide (k = k' ∧ b = b' ∧ t.toList = t'.toList)) from Bool.decide_and _ _]
 generalize decide (k = k' ∧ b = b' ∧ t.toList = t'.toList) = p at *
 by_cases hk : y.toList = y'.toList
 ·cases p <;> simp [Op.eqFields, e0, e1, p0, p1, hk]
 ·simp [Op.eqFields, e0, e1, p0, p1, hk]
theorem run_neWr (y : ByteArray) (k : Int) (b : Nat) (t : ByteArray) (y' : ByteArray) (k' : Int) (b' : Nat) (t' : ByteArray) (w : World) :
 (binOp .neq 163 (.agg #[.string y, .int .i64 k, .int .u64 b, .string t]) (.agg #[.string y', .int .i64 k', .int .u64 b', .string t'])).run Tryz.prog w = .ok (.bool (!decide (y.toList = y'.toList ∧ k = k' ∧ b = b' ∧ t.toList = t'.toList))) w := by
 rw [run_neq_struct, show (10000 : Nat) = 9997 + 3 from rfl, eqWr]; rfl
end T
end Go.Proofs.YtjofjpmhokjhnaaGreatDoor
namespace Go.Proofs.YtjofjpmhokjhnaaGreatDoor
set_option maxRecDepth 20001
open Go.RowKit T
theorem T.eq_true {α : Type} {xs ys : List α} (hl : xs.length = ys.length) (h : ∀ k, ∀ hk : k < xs.length, xs[k] = ys[k]) : xs = ys := List.ext_getElem hl fun k h1 h2 => h k h1
set_option maxHeartbeats 3200000 in
theorem eqr_any (xs ys : List Rd1) (A A' : Option Addr) (c c' : Nat) (w : World) (B : Nat) (hB : B ≤ w.heap.size) (hx : RowsAt w B A 2 (xs.map encR)) (hy : RowsAt w B A' 2 (ys.map encR)) (hc : xs.length ≤ c) (hm : c ≤ maxLen) (hc' : ys.length ≤ c') (hm' : c' ≤ maxLen) :
 Calls Tryz.prog 126 #[.slice A xs.length c, .slice A' ys.length c'] w fun e w' => e = .returned (.bool (decide (xs = ys))) ∧ Below w.heap.size w w' := by
 obtain ⟨p, hp⟩ : ∃ p : Bool, p = decide (xs = ys) := ⟨_, rfl⟩
 have HP := Lib.hid hp
 rw [← hp]
 obtain ⟨n, hn⟩ : ∃ n, n = xs.length := ⟨_, rfl⟩
 obtain ⟨m, hmm⟩ : ∃ m, m = ys.length := ⟨_, rfl⟩
 have HN := Lib.hid hn
 have HM := Lib.hid hmm
 rw [← hn] at hc ⊢
 rw [← hmm] at hc' ⊢
 clear hn hmm hp
 unfold maxLen at hm hm'
 by_cases hnm : n = m
 ·subst hnm
  go_enter Tryz.func126, Tryz.ntmps126
  go_wp2_with fail
  go_loopw [5, 13] (fun _ i wr => ∃ k : Nat, k ≤ n ∧ i = .int .i64 (k : Int) ∧ Hid (∀ j, ∀ hj : j < xs.length, j < k → xs[j] = ys[j]?.getD ([], 0)) ∧ ∃ q, wr = w.drewN q) (fun _ i _ => n - (intOf i).toNat)
  case atStart => exact ⟨0, Nat.zero_le _, rfl, fun j _ hj => absurd hj (Nat.not_lt_zero _), 0, rfl⟩
  case round =>
   obtain ⟨k, hk, rfl, HG, q, rfl⟩ := hrel
   by_cases hlt : k < n
   ·have hkx : k < xs.length := by rw [← HN.out]; exact hlt
    have hky : k < ys.length := by rw [← HM.out]; exact hlt
    obtain ⟨b, off, rfl, hb, x0, x1⟩ := hx.rd k hkx
    obtain ⟨b', off', rfl, hb', y0, y1⟩ := hy.rd k hky
    have HE : Hid ((⟨xs[k].1.toArray⟩ : ByteArray).toList = (⟨ys[k].1.toArray⟩ : ByteArray).toList ∧ xs[k].2 = ys[k].2 ↔ xs[k] = ys[k]) := by
     show _ ↔ _
     rw [Lib.toList_data, Lib.toList_data]
     exact ⟨fun h => Prod.ext h.1 h.2, fun h => by rw [h]; exact ⟨rfl, rfl⟩⟩
    have hne := fun z => run_neRd ⟨xs[k].1.toArray⟩ xs[k].2 ⟨ys[k].1.toArray⟩ ys[k].2 z
    cases hd : decide ((⟨xs[k].1.toArray⟩ : ByteArray).toList = (⟨ys[k].1.toArray⟩ : ByteArray).toList ∧ xs[k].2 = ys[k].2) with
    | false =>
      rw [hd] at hne
      have HR : Hid (false = p) := by
       show _ = _
       rw [HP.out, decide_eq_false]
       intro e
       exact of_decide_eq_false hd (HE.out.2 (by subst e; rfl))
      clear HE HG hd
      generalize (⟨xs[k].1.toArray⟩ : ByteArray) = xa at x0 hne
      generalize xs[k].2 = xb at x1 hne
      generalize (⟨ys[k].1.toArray⟩ : ByteArray) = ya at y0 hne
      generalize ys[k].2 = yb at y1 hne
      simp only [Bool.not_false] at hne
      go_wp2_with fail
      go_quiet (fail)
      go_wp2_with fail
      go_ret
      exact ⟨ret_bool HR.out, belowDrewN (belowDrewN (Below.refl _ _) _) _⟩
    | true =>
      rw [hd] at hne
      have HG' : Hid (∀ j, ∀ hj : j < xs.length, j < k + 1 → xs[j] = ys[j]?.getD ([], 0)) := fun j hj hjk => by
       by_cases e : j = k
       ·subst e
        rw [List.getElem?_eq_getElem hky]
        exact HE.out.1 (of_decide_eq_true hd)
       ·exact HG.out j hj (by omega)
      clear HE HG hd
      generalize (⟨xs[k].1.toArray⟩ : ByteArray) = xa at x0 hne
      generalize xs[k].2 = xb at x1 hne
      generalize (⟨ys[k].1.toArray⟩ : ByteArray) = ya at y0 hne
      generalize ys[k].2 = yb at y1 hne
      simp only [Bool.not_true] at hne
      go_wp2_with fail
      go_quiet (fail)
      go_wp2_with fail
      go_roundw
      case rel => exact ⟨k + 1, by omega, by go_num, HG', _, rfl⟩
      case measure => first | (simp [intOf]; done) | (simp [intOf]; omega)
   ·obtain rfl : k = n := by omega
    have HR : Hid (true = p) := by
     show _ = _
     rw [HP.out, decide_eq_true (eq_true (by rw [← HN.out, ← HM.out]) fun j hj => ?_)]
     have := HG.out j hj (by rw [HN.out]; exact hj)
     rw [List.getElem?_eq_getElem (by rw [← HM.out, HN.out]; exact hj)] at this
     exact this
    clear HG
    go_wp2_with fail
    go_ret
    exact ⟨ret_bool HR.out, belowDrewN (Below.refl _ _) _⟩
 ·have HR : Hid (false = p) := by
   show _ = _
   rw [HP.out, decide_eq_false]
   intro e
   exact hnm (by rw [HN.out, HM.out, e])
  have hnm' : ¬ (n : Int) = (m : Int) := by omega
  go_enter Tryz.func126, Tryz.ntmps126
  go_wp2_with fail
  go_ret
  exact ⟨ret_bool HR.out, Below.refl _ _⟩
set_option maxHeartbeats 3200000 in
theorem eqw_any (xs ys : List Wr1) (A A' : Option Addr) (c c' : Nat) (w : World) (B : Nat) (hB : B ≤ w.heap.size) (hx : RowsAt w B A 4 (xs.map encW)) (hy : RowsAt w B A' 4 (ys.map encW)) (hc : xs.length ≤ c) (hm : c ≤ maxLen) (hc' : ys.length ≤ c') (hm' : c' ≤ maxLen) :
 Calls Tryz.prog 127 #[.slice A xs.length c, .slice A' ys.length c'] w fun e w' => e = .returned (.bool (decide (xs = ys))) ∧ Below w.heap.size w w' := by
 obtain ⟨p, hp⟩ : ∃ p : Bool, p = decide (xs = ys) := ⟨_, rfl⟩
 have HP := Lib.hid hp
 rw [← hp]
 obtain ⟨n, hn⟩ : ∃ n, n = xs.length := ⟨_, rfl⟩
 obtain ⟨m, hmm⟩ : ∃ m, m = ys.length := ⟨_, rfl⟩
 have HN := Lib.hid hn
 have HM := Lib.hid hmm
 rw [← hn] at hc ⊢
 rw [← hmm] at hc' ⊢
 clear hn hmm hp
 unfold maxLen at hm hm'
 by_cases hnm : n = m
 ·subst hnm
  go_enter Tryz.func127, Tryz.ntmps127
  go_wp2_with fail
  go_loopw [5, 13] (fun _ i wr => ∃ k : Nat, k ≤ n ∧ i = .int .i64 (k : Int) ∧ Hid (∀ j, ∀ hj : j < xs.length, j < k → xs[j] = ys[j]?.getD ([], 0, 0, [])) ∧ ∃ q, wr = w.drewN q) (fun _ i _ => n - (intOf i).toNat)
  case atStart => exact ⟨0, Nat.zero_le _, rfl, fun j _ hj => absurd hj (Nat.not_lt_zero _), 0, rfl⟩
  case round =>
   obtain ⟨k, hk, rfl, HG, q, rfl⟩ := hrel
   by_cases hlt : k < n
   ·have hkx : k < xs.length := by rw [← HN.out]; exact hlt
    have hky : k < ys.length := by rw [← HM.out]; exact hlt
    obtain ⟨b, off, rfl, hb, x0, x1, x2, x3⟩ := hx.wr k hkx
    obtain ⟨b', off', rfl, hb', y0, y1, y2, y3⟩ := hy.wr k hky
    have HE : Hid ((⟨xs[k].1.toArray⟩ : ByteArray).toList = (⟨ys[k].1.toArray⟩ : ByteArray).toList ∧ xs[k].2.1 = ys[k].2.1 ∧ xs[k].2.2.1 = ys[k].2.2.1 ∧ (⟨xs[k].2.2.2.toArray⟩ : ByteArray).toList = (⟨ys[k].2.2.2.toArray⟩ : ByteArray).toList ↔ xs[k] = ys[k]) := by
     show _ ↔ _
     rw [Lib.toList_data, Lib.toList_data, Lib.toList_data, Lib.toList_data]
     exact ⟨fun h => Prod.ext h.1 (Prod.ext h.2.1 (Prod.ext h.2.2.1 h.2.2.2)), fun h => by rw [h]; exact ⟨rfl, rfl, rfl, rfl⟩⟩
    have hne := fun z => run_neWr ⟨xs[k].1.toArray⟩ xs[k].2.1 xs[k].2.2.1 ⟨xs[k].2.2.2.toArray⟩ ⟨ys[k].1.toArray⟩ ys[k].2.1 ys[k].2.2.1 ⟨ys[k].2.2.2.toArray⟩ z
    cases hd : decide ((⟨xs[k].1.toArray⟩ : ByteArray).toList = (⟨ys[k].1.toArray⟩ : ByteArray).toList ∧ xs[k].2.1 = ys[k].2.1 ∧ xs[k].2.2.1 = ys[k].2.2.1 ∧ (⟨xs[k].2.2.2.toArray⟩ : ByteArray).toList = (⟨ys[k].2.2.2.toArray⟩ : ByteArray).toList) with
    | false =>
      rw [hd] at hne
      have HR : Hid (false = p) := by
       show _ = _
       rw [HP.out, decide_eq_false]
       intro e
       exact of_decide_eq_false hd (HE.out.2 (by subst e; rfl))
      clear HE HG hd
      generalize (⟨xs[k].1.toArray⟩ : ByteArray) = xa at x0 hne
      generalize (⟨xs[k].2.2.2.toArray⟩ : ByteArray) = xd at x3 hne
      generalize xs[k].2.2.1 = xc at x2 hne
      generalize xs[k].2.1 = xb at x1 hne
      generalize (⟨ys[k].1.toArray⟩ : ByteArray) = ya at y0 hne
      generalize (⟨ys[k].2.2.2.toArray⟩ : ByteArray) = yd at y3 hne
      generalize ys[k].2.2.1 = yc at y2 hne
      generalize ys[k].2.1 = yb at y1 hne
      simp only [Bool.not_false] at hne
      go_wp2_with fail
      go_quiet (fail)
      go_wp2_with fail
      go_ret
      exact ⟨ret_bool HR.out, belowDrewN (belowDrewN (Below.refl _ _) _) _⟩
    | true =>
      rw [hd] at hne
      have HG' : Hid (∀ j, ∀ hj : j < xs.length, j < k + 1 → xs[j] = ys[j]?.getD ([], 0, 0, [])) := fun j hj hjk => by
       by_cases e : j = k
       ·subst e
        rw [List.getElem?_eq_getElem hky]
        exact HE.out.1 (of_decide_eq_true hd)
       ·exact HG.out j hj (by omega)
      clear HE HG hd
      generalize (⟨xs[k].1.toArray⟩ : ByteArray) = xa at x0 hne
      generalize (⟨xs[k].2.2.2.toArray⟩ : ByteArray) = xd at x3 hne
      generalize xs[k].2.2.1 = xc at x2 hne
      generalize xs[k].2.1 = xb at x1 hne
      generalize (⟨ys[k].1.toArray⟩ : ByteArray) = ya at y0 hne
      generalize (⟨ys[k].2.2.2.toArray⟩ : ByteArray) = yd at y3 hne
      generalize ys[k].2.2.1 = yc at y2 hne
      generalize ys[k].2.1 = yb at y1 hne
      simp only [Bool.not_true] at hne
      go_wp2_with fail
      go_quiet (fail)
      go_wp2_with fail
      go_roundw
      case rel => exact ⟨k + 1, by omega, by go_num, HG', _, rfl⟩
      case measure => first | (simp [intOf]; done) | (simp [intOf]; omega)
   ·obtain rfl : k = n := by omega
    have HR : Hid (true = p) := by
     show _ = _
     rw [HP.out, decide_eq_true (eq_true (by rw [← HN.out, ← HM.out]) fun j hj => ?_)]
     have := HG.out j hj (by rw [HN.out]; exact hj)
     rw [List.getElem?_eq_getElem (by rw [← HM.out, HN.out]; exact hj)] at this
     exact this
    clear HG
    go_wp2_with fail
    go_ret
    exact ⟨ret_bool HR.out, belowDrewN (Below.refl _ _) _⟩
 ·have HR : Hid (false = p) := by
   show _ = _
   rw [HP.out, decide_eq_false]
   intro e
   exact hnm (by rw [HN.out, HM.out, e])
  have hnm' : ¬ (n : Int) = (m : Int) := by omega
  go_enter Tryz.func127, Tryz.ntmps127
  go_wp2_with fail
  go_ret
  exact ⟨ret_bool HR.out, Below.refl _ _⟩
end Go.Proofs.YtjofjpmhokjhnaaGreatDoor
