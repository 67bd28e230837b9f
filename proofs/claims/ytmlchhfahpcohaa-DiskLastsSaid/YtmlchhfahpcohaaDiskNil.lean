/- The walk of the law DiskNil; layer 12's first fact. -/
import Derived.Test.YtmlchhfahpcohaaDiskCut
import Derived.Lib.SlBytesConst
namespace Go.Proofs.Ytmlchhfahpcohaa
open Go.RowKit
set_option linter.unusedSimpArgs false
set_option linter.unusedVariables false

theorem constK (w : World) (l : List UInt8) (m : Nat × Nat) (g n : Nat) (hg : g < w.heap.size) (hn : n = l.length) (hl : l.length ≤ 1000) : SlK (w.alloc (.cells (bc l).toArray 5 m)) g (.slice (some ⟨w.heap.size, 0, none⟩) n n) l := fun w' hw => by
  subst hn
  refine ⟨some ⟨w.heap.size, 0, none⟩, l.length, rfl, Nat.le_refl _, by unfold maxLen; omega, (fun h => by cases h), fun j u hu => ?_⟩
  obtain ⟨b, off, e, _, hc⟩ := rdAlloc w (bc l) 5 m j u hu
  injection e with e
  injection e with e1 e2
  subst e1; subst e2
  refine ⟨_, _, rfl, by simp, ?_⟩
  rw [World.cell?_of_block (hw.block w.heap.size (by simp) (by simp; omega))]
  exact hc

set_option maxHeartbeats 1600000 in
theorem d_awake (w : World) : Calls Try.prog 36 #[] w fun e w' => e = .returned (.bool true) ∧ Below w.heap.size w w' := by
  have kc := fun (w : World) (C : Array Value) (n c : Nat) => Lib.run_convert_bytes_const (P := Try.prog) w 22 5 C n c Try.underlying22 Try.underlying5
  go_enter Try.func36, Try.ntmps36
  go_wp2_with fail
  refine (dnew_any 10 w (by omega)).mono ?_
  rintro e w1 ⟨rfl, h1, b1, z1⟩
  have hg := ltAt h1.1
  go_wp2_with fail
  refine (ddown_any _ _ _ _ _ _ h1).mono ?_
  rintro e w' ⟨rfl, rfl⟩
  have e0 : (D.new 10).down = false := rfl
  rw [e0]
  clear e0
  have K := Lib.hid (constK w1 [97, 98] (2, 3) w.heap.size 2 hg rfl (by decide))
  have H1 := Lib.hid (h1.below ((Below.refl _ w1).alloc (Nat.le_refl _) (.cells #[.int .u8 97, .int .u8 98] 5 (2, 3))))
  have bb : Below w.heap.size w (w1.alloc (.cells #[.int .u8 97, .int .u8 98] 5 (2, 3))) := b1.alloc b1.size _
  clear h1 z1
  go_wp2_with fail
  refine (dappend_any w.heap.size w.heap.size _ _ _ _ 2 [97, 98] _ (by simp; omega) H1.out K.out).mono ?_
  rw [show D.append (D.new 10) [97, 98] = (0, { D.new 10 with b := [97, 98] }) from rfl]
  rintro e w2 ⟨bv2, rv2, rfl, h2, g2, _⟩
  have b2 := bb.trans (g2.below (Nat.le_refl _) (fun k hk => by simp [Value.ownBlock] at hk) (by simp; omega))
  have H2 := Lib.hid h2
  clear h2 g2
  go_wp2_with fail
  refine (dbytes_any _ _ _ _ _ _ H2.out).mono ?_
  rintro e w3 ⟨v3, rfl, own3, b3⟩
  have own3 : w3.ownsRow w2.heap.size 5 1 v3 2 (bc [97, 98]) := own3
  obtain ⟨A3, c3, rfl, _, _, _⟩ := ownShape own3
  clear own3
  go_wp2_with fail
  go_ret
  exact ⟨rfl, b2.trans (b3.mono b2.size)⟩

/-! ### no disk -/
theorem n_fuse (n : Int) (w : World) : Calls Try.prog 48 #[.pointer none, .int .i64 n] w fun e w' => e = .returned (.tuple #[]) ∧ w = w' := by
  go_enter Try.func48, Try.ntmps48
  go_wp2_with fail
  go_end0
  exact ⟨rfl, rfl⟩
theorem n_append (v : Value) (w : World) : Calls Try.prog 38 #[.pointer none, v] w fun e w' => e = .returned (.int .i64 8) ∧ w = w' := by
  go_enter Try.func38, Try.ntmps38
  go_wp2_with fail
  go_ret
  exact ⟨rfl, rfl⟩
theorem n_sync (w : World) : Calls Try.prog 39 #[.pointer none] w fun e w' => e = .returned (.int .i64 8) ∧ w = w' := by
  go_enter Try.func39, Try.ntmps39
  go_wp2_with fail
  go_ret
  exact ⟨rfl, rfl⟩
theorem n_replace (v : Value) (w : World) : Calls Try.prog 49 #[.pointer none, v] w fun e w' => e = .returned (.int .i64 8) ∧ w = w' := by
  go_enter Try.func49, Try.ntmps49
  go_wp2_with fail
  go_ret
  exact ⟨rfl, rfl⟩
theorem n_bytes (w : World) : Calls Try.prog 41 #[.pointer none] w fun e w' => e = .returned (.slice none 0 0) ∧ w = w' := by
  go_enter Try.func41, Try.ntmps41
  go_wp2_with fail
  go_ret
  exact ⟨rfl, rfl⟩
theorem n_lasting (w : World) : Calls Try.prog 51 #[.pointer none] w fun e w' => e = .returned (.int .i64 0) ∧ w = w' := by
  go_enter Try.func51, Try.ntmps51
  go_wp2_with fail
  go_ret
  exact ⟨rfl, rfl⟩
theorem n_down (w : World) : Calls Try.prog 50 #[.pointer none] w fun e w' => e = .returned (.bool true) ∧ w = w' := by
  go_enter Try.func50, Try.ntmps50
  go_wp2_with fail
  go_ret
  exact ⟨rfl, rfl⟩
theorem n_cut (n : Int) (w : World) : Calls Try.prog 40 #[.pointer none, .int .i64 n] w fun e w' => e = .returned (.pointer none) ∧ w = w' := by
  go_enter Try.func40, Try.ntmps40
  go_wp2_with fail
  go_ret
  exact ⟨rfl, rfl⟩
/-! ### the law -/
set_option maxHeartbeats 3200000 in
theorem dnil (s : Nat) (n : Int) (A : Option Addr) (c : Nat) (l : List UInt8) (w : World) (hs : s < 256) (h : SlB w w.heap.size (.slice A l.length c) l) :
    Calls Try.prog 13 #[.int .u8 (s : Int), .slice A l.length c, .int .i64 n] w fun e w' => e = .returned (.bool true) ∧ Below w.heap.size w w' := by
  by_cases hl : 1000 < l.length
  · clear h
    generalize l.length = m at *
    go_enter Try.func13, Try.ntmps13
    go_wp2_with fail
    refine (d_awake _).mono ?_
    rintro e w1 ⟨rfl, hb1⟩
    go_wp2_with fail
    refine (d_awake _).mono ?_
    rintro e w2 ⟨rfl, hb2⟩
    go_wp2_with fail
    go_ret
    exact ⟨rfl, hb1.trans (hb2.mono hb1.size)⟩
  · have H := Lib.hid h
    clear h
    have hd : (D.new (s : Int)).down = false := rfl
    have hns : (D.new (s : Int)).size = s := by show (max (s : Int) 0).toNat = s; omega
    obtain ⟨m, hm⟩ : ∃ m, m = l.length := ⟨_, rfl⟩
    have HN := Lib.hid hm
    have hm1 : m ≤ 1000 := by omega
    by_cases h1 : m < s
    · have HR1 := Lib.hid (show D.replace (D.new (s : Int)) l = (0, { D.new (s : Int) with b := l, lasts := l.length }) from by unfold D.replace; rw [if_neg (by show ¬ ((D.new (s : Int)).down = true); rw [hd]; decide), if_neg (by rw [hns]; omega)]; rfl)
      have HR2 := Lib.hid (show D.append { D.new (s : Int) with b := l, lasts := l.length } [1] = (0, { { D.new (s : Int) with b := l, lasts := l.length } with b := l ++ [1] }) from by unfold D.append; rw [if_neg (by show ¬ ((D.new (s : Int)).down = true); rw [hd]; decide), if_neg (by show ¬ ((D.new (s : Int)).size - l.length < 1); rw [hns]; omega)]; rfl)
      have q1 : ((m : Int) ≤ (s : Int)) := by omega
      have q2 : ((m : Int) < (s : Int)) := by omega
      rw [← hm] at H ⊢
      clear hm hns hd
      clear hl
      go_enter Try.func13, Try.ntmps13
      go_wp2_with fail
      refine (d_awake _).mono ?_
      rintro e w1 ⟨rfl, b1⟩
      go_wp2_with fail
      refine (n_fuse _ _).mono ?_
      rintro e w' ⟨rfl, rfl⟩
      go_wp2_with fail
      refine (dnew_any (s : Int) w1 (by omega)).mono ?_
      rintro e w2 ⟨rfl, h2, b2, z2⟩
      have B2 := b1.trans (b2.mono b1.size)
      have hx := (H.out.below B2).notIn b1.size B2.size
      rw [HN.out] at hx
      go_wp2_with fail
      rw [HN.out]
      refine (dreplace_any _ _ _ _ _ A c l w2 b2.size h2 hx).mono ?_
      rw [← HN.out, HR1.out]
      rintro e w3 ⟨bv3, rv3, rfl, h3, g3, o3⟩
      have b3 : Below w1.heap.size w2 w3 := g3.below (Nat.le_refl _) (fun k hk => by simp [Value.ownBlock] at hk) b2.size
      have B3 := B2.trans (b3.mono b1.size)
      have hg3 := ltAt h3.1
      have K := Lib.hid (constK w3 [1] (0, 0) w1.heap.size 1 hg3 rfl (by decide))
      have H3 := Lib.hid (h3.below ((Below.refl _ w3).alloc (Nat.le_refl _) (.cells #[.int .u8 1] 5 (0, 0))))
      have hs3 : w1.heap.size ≤ w3.heap.size := Nat.le_of_lt hg3
      clear h2 b2 z2 hx h3 g3 b3
      go_wp2_with fail
      refine (dappend_any w1.heap.size w1.heap.size bv3 rv3 _ _ 1 [1] _ (by simp; omega) H3.out K.out).mono ?_
      rw [HR2.out]
      rintro e w4 ⟨bv4, rv4, rfl, h4, g4, _⟩
      have g4' := g4.below (B := w1.heap.size) (Nat.le_refl _) (fun k hk => (H3.out.2.2.1.lt k hk).1) (by simp; omega)
      have B3 := (B3.alloc B3.size _).trans (g4'.mono b1.size)
      clear h4 g4 g4' H3 K o3
      go_wp2_with fail
      refine (n_append _ _).mono ?_
      rintro e w' ⟨rfl, rfl⟩
      go_wp2_with fail
      refine (n_sync _).mono ?_
      rintro e w' ⟨rfl, rfl⟩
      go_wp2_with fail
      refine (n_replace _ _).mono ?_
      rintro e w' ⟨rfl, rfl⟩
      go_wp2_with fail
      refine (n_bytes _).mono ?_
      rintro e w' ⟨rfl, rfl⟩
      go_wp2_with fail
      refine (n_lasting _).mono ?_
      rintro e w' ⟨rfl, rfl⟩
      go_wp2_with fail
      refine (n_down _).mono ?_
      rintro e w' ⟨rfl, rfl⟩
      go_wp2_with fail
      refine (n_cut _ _).mono ?_
      rintro e w' ⟨rfl, rfl⟩
      go_wp2_with fail
      go_ret
      exact ⟨rfl, B3⟩
    · by_cases h2 : m = s
      · have HR1 := Lib.hid (show D.replace (D.new (s : Int)) l = (0, { D.new (s : Int) with b := l, lasts := l.length }) from by unfold D.replace; rw [if_neg (by show ¬ ((D.new (s : Int)).down = true); rw [hd]; decide), if_neg (by rw [hns]; omega)]; rfl)
        have HR2 := Lib.hid (show D.append { D.new (s : Int) with b := l, lasts := l.length } [1] = (7, { D.new (s : Int) with b := l, lasts := l.length }) from by unfold D.append; rw [if_neg (by show ¬ ((D.new (s : Int)).down = true); rw [hd]; decide), if_pos (by show ((D.new (s : Int)).size - l.length < 1); rw [hns]; omega)])
        have q1 : ((m : Int) ≤ (s : Int)) := by omega
        have q2 : ¬ ((m : Int) < (s : Int)) := by omega
        rw [← hm] at H ⊢
        clear hm hns hd h2
        clear hl
        go_enter Try.func13, Try.ntmps13
        go_wp2_with fail
        refine (d_awake _).mono ?_
        rintro e w1 ⟨rfl, b1⟩
        go_wp2_with fail
        refine (n_fuse _ _).mono ?_
        rintro e w' ⟨rfl, rfl⟩
        go_wp2_with fail
        refine (dnew_any (s : Int) w1 (by omega)).mono ?_
        rintro e w2 ⟨rfl, h2, b2, z2⟩
        have B2 := b1.trans (b2.mono b1.size)
        have hx := (H.out.below B2).notIn b1.size B2.size
        rw [HN.out] at hx
        go_wp2_with fail
        rw [HN.out]
        refine (dreplace_any _ _ _ _ _ A c l w2 b2.size h2 hx).mono ?_
        rw [← HN.out, HR1.out]
        rintro e w3 ⟨bv3, rv3, rfl, h3, g3, o3⟩
        have b3 : Below w1.heap.size w2 w3 := g3.below (Nat.le_refl _) (fun k hk => by simp [Value.ownBlock] at hk) b2.size
        have B3 := B2.trans (b3.mono b1.size)
        have hg3 := ltAt h3.1
        have K := Lib.hid (constK w3 [1] (0, 0) w1.heap.size 1 hg3 rfl (by decide))
        have H3 := Lib.hid (h3.below ((Below.refl _ w3).alloc (Nat.le_refl _) (.cells #[.int .u8 1] 5 (0, 0))))
        have hs3 : w1.heap.size ≤ w3.heap.size := Nat.le_of_lt hg3
        clear h2 b2 z2 hx h3 g3 b3
        go_wp2_with fail
        refine (dappend_any w1.heap.size w1.heap.size bv3 rv3 _ _ 1 [1] _ (by simp; omega) H3.out K.out).mono ?_
        rw [HR2.out]
        rintro e w4 ⟨bv4, rv4, rfl, h4, g4, _⟩
        have g4' := g4.below (B := w1.heap.size) (Nat.le_refl _) (fun k hk => (H3.out.2.2.1.lt k hk).1) (by simp; omega)
        have B3 := (B3.alloc B3.size _).trans (g4'.mono b1.size)
        clear h4 g4 g4' H3 K o3
        go_wp2_with fail
        refine (n_append _ _).mono ?_
        rintro e w' ⟨rfl, rfl⟩
        go_wp2_with fail
        refine (n_sync _).mono ?_
        rintro e w' ⟨rfl, rfl⟩
        go_wp2_with fail
        refine (n_replace _ _).mono ?_
        rintro e w' ⟨rfl, rfl⟩
        go_wp2_with fail
        refine (n_bytes _).mono ?_
        rintro e w' ⟨rfl, rfl⟩
        go_wp2_with fail
        refine (n_lasting _).mono ?_
        rintro e w' ⟨rfl, rfl⟩
        go_wp2_with fail
        refine (n_down _).mono ?_
        rintro e w' ⟨rfl, rfl⟩
        go_wp2_with fail
        refine (n_cut _ _).mono ?_
        rintro e w' ⟨rfl, rfl⟩
        go_wp2_with fail
        go_ret
        exact ⟨rfl, B3⟩
      · have q1 : ¬ ((m : Int) ≤ (s : Int)) := by omega
        by_cases h3 : s = 0
        · have HR1 := Lib.hid (show D.replace (D.new (s : Int)) l = (7, (D.new (s : Int))) from by unfold D.replace; rw [if_neg (by show ¬ ((D.new (s : Int)).down = true); rw [hd]; decide), if_pos (by rw [hns]; omega)])
          have HR2 := Lib.hid (show D.append (D.new (s : Int)) [1] = (7, (D.new (s : Int))) from by unfold D.append; rw [if_neg (by show ¬ ((D.new (s : Int)).down = true); rw [hd]; decide), if_pos (by show ((D.new (s : Int)).size - 0 < 1); rw [hns]; omega)])
          have q2 : ¬ ((0 : Int) < (s : Int)) := by omega
          have q3 : ¬ 0 < s := by omega
          rw [← hm] at H ⊢
          clear hm hns hd h2 h3
          clear hl
          go_enter Try.func13, Try.ntmps13
          go_wp2_with fail
          refine (d_awake _).mono ?_
          rintro e w1 ⟨rfl, b1⟩
          go_wp2_with fail
          refine (n_fuse _ _).mono ?_
          rintro e w' ⟨rfl, rfl⟩
          go_wp2_with fail
          refine (dnew_any (s : Int) w1 (by omega)).mono ?_
          rintro e w2 ⟨rfl, h2, b2, z2⟩
          have B2 := b1.trans (b2.mono b1.size)
          have hx := (H.out.below B2).notIn b1.size B2.size
          rw [HN.out] at hx
          go_wp2_with fail
          rw [HN.out]
          refine (dreplace_any _ _ _ _ _ A c l w2 b2.size h2 hx).mono ?_
          rw [← HN.out, HR1.out]
          rintro e w3 ⟨bv3, rv3, rfl, h3, g3, o3⟩
          have b3 : Below w1.heap.size w2 w3 := g3.below (Nat.le_refl _) (fun k hk => by simp [Value.ownBlock] at hk) b2.size
          have B3 := B2.trans (b3.mono b1.size)
          have hg3 := ltAt h3.1
          have K := Lib.hid (constK w3 [1] (0, 0) w1.heap.size 1 hg3 rfl (by decide))
          have H3 := Lib.hid (h3.below ((Below.refl _ w3).alloc (Nat.le_refl _) (.cells #[.int .u8 1] 5 (0, 0))))
          have hs3 : w1.heap.size ≤ w3.heap.size := Nat.le_of_lt hg3
          clear h2 b2 z2 hx h3 g3 b3
          go_wp2_with fail
          refine (dappend_any w1.heap.size w1.heap.size bv3 rv3 _ _ 1 [1] _ (by simp; omega) H3.out K.out).mono ?_
          rw [HR2.out]
          rintro e w4 ⟨bv4, rv4, rfl, h4, g4, _⟩
          have g4' := g4.below (B := w1.heap.size) (Nat.le_refl _) (fun k hk => (H3.out.2.2.1.lt k hk).1) (by simp; omega)
          have B3 := (B3.alloc B3.size _).trans (g4'.mono b1.size)
          clear h4 g4 g4' H3 K o3
          go_wp2_with fail
          refine (n_append _ _).mono ?_
          rintro e w' ⟨rfl, rfl⟩
          go_wp2_with fail
          refine (n_sync _).mono ?_
          rintro e w' ⟨rfl, rfl⟩
          go_wp2_with fail
          refine (n_replace _ _).mono ?_
          rintro e w' ⟨rfl, rfl⟩
          go_wp2_with fail
          refine (n_bytes _).mono ?_
          rintro e w' ⟨rfl, rfl⟩
          go_wp2_with fail
          refine (n_lasting _).mono ?_
          rintro e w' ⟨rfl, rfl⟩
          go_wp2_with fail
          refine (n_down _).mono ?_
          rintro e w' ⟨rfl, rfl⟩
          go_wp2_with fail
          refine (n_cut _ _).mono ?_
          rintro e w' ⟨rfl, rfl⟩
          go_wp2_with fail
          go_ret
          exact ⟨rfl, B3⟩
        · have HR1 := Lib.hid (show D.replace (D.new (s : Int)) l = (7, (D.new (s : Int))) from by unfold D.replace; rw [if_neg (by show ¬ ((D.new (s : Int)).down = true); rw [hd]; decide), if_pos (by rw [hns]; omega)])
          have HR2 := Lib.hid (show D.append (D.new (s : Int)) [1] = (0, { (D.new (s : Int)) with b := [] ++ [1] }) from by unfold D.append; rw [if_neg (by show ¬ ((D.new (s : Int)).down = true); rw [hd]; decide), if_neg (by show ¬ ((D.new (s : Int)).size - 0 < 1); rw [hns]; omega)]; rfl)
          have q2 : ((0 : Int) < (s : Int)) := by omega
          have q3 : 0 < s := by omega
          rw [← hm] at H ⊢
          clear hm hns hd h2 h3
          clear hl
          go_enter Try.func13, Try.ntmps13
          go_wp2_with fail
          refine (d_awake _).mono ?_
          rintro e w1 ⟨rfl, b1⟩
          go_wp2_with fail
          refine (n_fuse _ _).mono ?_
          rintro e w' ⟨rfl, rfl⟩
          go_wp2_with fail
          refine (dnew_any (s : Int) w1 (by omega)).mono ?_
          rintro e w2 ⟨rfl, h2, b2, z2⟩
          have B2 := b1.trans (b2.mono b1.size)
          have hx := (H.out.below B2).notIn b1.size B2.size
          rw [HN.out] at hx
          go_wp2_with fail
          rw [HN.out]
          refine (dreplace_any _ _ _ _ _ A c l w2 b2.size h2 hx).mono ?_
          rw [← HN.out, HR1.out]
          rintro e w3 ⟨bv3, rv3, rfl, h3, g3, o3⟩
          have b3 : Below w1.heap.size w2 w3 := g3.below (Nat.le_refl _) (fun k hk => by simp [Value.ownBlock] at hk) b2.size
          have B3 := B2.trans (b3.mono b1.size)
          have hg3 := ltAt h3.1
          have K := Lib.hid (constK w3 [1] (0, 0) w1.heap.size 1 hg3 rfl (by decide))
          have H3 := Lib.hid (h3.below ((Below.refl _ w3).alloc (Nat.le_refl _) (.cells #[.int .u8 1] 5 (0, 0))))
          have hs3 : w1.heap.size ≤ w3.heap.size := Nat.le_of_lt hg3
          clear h2 b2 z2 hx h3 g3 b3
          go_wp2_with fail
          refine (dappend_any w1.heap.size w1.heap.size bv3 rv3 _ _ 1 [1] _ (by simp; omega) H3.out K.out).mono ?_
          rw [HR2.out]
          rintro e w4 ⟨bv4, rv4, rfl, h4, g4, _⟩
          have g4' := g4.below (B := w1.heap.size) (Nat.le_refl _) (fun k hk => (H3.out.2.2.1.lt k hk).1) (by simp; omega)
          have B3 := (B3.alloc B3.size _).trans (g4'.mono b1.size)
          clear h4 g4 g4' H3 K o3
          go_wp2_with fail
          refine (n_append _ _).mono ?_
          rintro e w' ⟨rfl, rfl⟩
          go_wp2_with fail
          refine (n_sync _).mono ?_
          rintro e w' ⟨rfl, rfl⟩
          go_wp2_with fail
          refine (n_replace _ _).mono ?_
          rintro e w' ⟨rfl, rfl⟩
          go_wp2_with fail
          refine (n_bytes _).mono ?_
          rintro e w' ⟨rfl, rfl⟩
          go_wp2_with fail
          refine (n_lasting _).mono ?_
          rintro e w' ⟨rfl, rfl⟩
          go_wp2_with fail
          refine (n_down _).mono ?_
          rintro e w' ⟨rfl, rfl⟩
          go_wp2_with fail
          refine (n_cut _ _).mono ?_
          rintro e w' ⟨rfl, rfl⟩
          go_wp2_with fail
          go_ret
          exact ⟨rfl, B3⟩

theorem diskNil_walk (W : World) (v0 v1 v2 : Value) (h0 : Arg W 5 v0) (h1 : Arg W 22 v1) (h2 : Arg W 3 v2) :
    Calls Try.prog 13 #[v0, v1, v2] W fun e W' => e = .returned (.bool true) ∧ Below W.heap.size W W' := by
  obtain ⟨s, rfl, hs⟩ := h0.u8 Try.underlying5
  obtain ⟨A, c, l, rfl, hc, hm, hA, hr⟩ := h1.bytes Try.underlying22
  obtain ⟨n, rfl, _⟩ := h2.i64 Try.underlying3
  exact dnil s n A c l W hs ⟨A, c, rfl, hc, hm, hA, hr⟩
end Go.Proofs.Ytmlchhfahpcohaa
