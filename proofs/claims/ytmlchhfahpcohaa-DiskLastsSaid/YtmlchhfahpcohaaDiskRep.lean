/- The walk of the law DiskReplaces. -/
import Derived.Test.YtmlchhfahpcohaaDiskNil
import Derived.Test.YtmlchhfahpcohaaFrameCuts
namespace Go.Proofs.Ytmlchhfahpcohaa
open Go.RowKit
set_option linter.unusedSimpArgs false
set_option linter.unusedVariables false

theorem Arg.pairB {W : World} {t e : TypeId} {v : Value} (h : Arg W t v) (ht : Try.prog.underlying t = some (.array 2 e)) (he : Try.prog.underlying e = some (.slice 5)) (hce : Try.prog.cellsOf e = 1) (hct : Try.prog.cellsOf t = 2) :
    ∃ x y l m, v = .agg #[x, y] ∧ SlB W W.heap.size x l ∧ SlB W W.heap.size y m := by
  obtain ⟨⟨cs⟩, rfl, hc⟩ := h.array ht
  have hl := hc.lenA ht
  rw [hct] at hl
  match cs, hl with
  | [a, b], _ =>
    have h0 := hc.elem ht 0 (by omega)
    have h1 := hc.elem ht 1 (by omega)
    rw [hce] at h0 h1
    obtain ⟨l, hl⟩ := Cel.bytes (v := a) (by simpa using h0) he
    obtain ⟨m, hm⟩ := Cel.bytes (v := b) (by simpa using h1) he
    exact ⟨a, b, l, m, rfl, hl, hm⟩

namespace D
theorem append_ok {d : Dk} {l : List UInt8} (hd : d.down = false) (hf : d.fuse < 0) (hs : l.length ≤ d.size - d.b.length) : append d l = (0, { d with b := d.b ++ l }) := by
  have ha : act d = (true, d) := by unfold act; rw [if_neg (by omega), if_neg (by omega)]
  unfold append
  rw [if_neg (by rw [hd]; decide), if_neg (by omega), ha]
  rfl
theorem sync_ok {d : Dk} (hd : d.down = false) (hf : d.fuse < 0) : sync d = (0, { d with lasts := d.b.length }) := by
  have ha : act d = (true, d) := by unfold act; rw [if_neg (by omega), if_neg (by omega)]
  unfold sync
  rw [if_neg (by rw [hd]; decide), ha, if_pos rfl]
end D
/-- a slice that was there before the disk -/
theorem notIn' {w0 w : World} {g : Nat} {v : Value} {l : List UInt8} (h : SlB w0 w0.heap.size v l) (b : Below w0.heap.size w0 w) (hg : w0.heap.size ≤ g) : SlK w g v l := (h.below b).notIn hg b.size

set_option maxHeartbeats 3200000 in
theorem drep (kept : Int) (A : Option Addr) (c : Nat) (old : List UInt8) (rv nv : Value) (rest next : List UInt8) (w : World) (h : SlB w w.heap.size (.slice A old.length c) old) (hr : SlB w w.heap.size rv rest) (hn : SlB w w.heap.size nv next) :
    Calls Try.prog 11 #[.slice A old.length c, .agg #[rv, nv], .int .i64 kept] w fun e w' => e = .returned (.bool true) ∧ Below w.heap.size w w' := by
  obtain ⟨rA, rc, hre, _, _, _, _⟩ := id hr
  obtain ⟨nA, nc, hne, _, _, _, _⟩ := id hn
  subst hre
  subst hne
  have bb : Below w.heap.size w (w.alloc (.cells #[.slice rA rest.length rc, .slice nA next.length nc] 64)) := (Below.refl _ _).alloc (Nat.le_refl _) _
  by_cases hl : 1000 < old.length
  · clear h hr hn
    generalize old.length = a at *
    generalize rest.length = b at *
    generalize next.length = d at *
    go_enter Try.func11, Try.ntmps11
    go_wp2_with fail
    go_quiet (fail)
    go_wp2_with fail
    refine (d_awake _).mono ?_
    rintro e w1 ⟨rfl, hb1⟩
    go_wp2_with fail
    refine (d_awake _).mono ?_
    rintro e w2 ⟨rfl, hb2⟩
    go_wp2_with fail
    go_ret
    exact ⟨rfl, (bb.trans ((belowOfDrewN hb1).mono (by simp))).trans (hb2.mono (by have := hb1.size; simp at this; omega))⟩
  · by_cases hl2 : 1000 < rest.length
    · clear h hr hn
      generalize old.length = a at *
      generalize rest.length = b at *
      generalize next.length = d at *
      go_enter Try.func11, Try.ntmps11
      go_wp2_with fail
      go_quiet (fail)
      go_wp2_with fail
      refine (d_awake _).mono ?_
      rintro e w1 ⟨rfl, hb1⟩
      go_wp2_with fail
      refine (d_awake _).mono ?_
      rintro e w2 ⟨rfl, hb2⟩
      go_wp2_with fail
      go_ret
      exact ⟨rfl, (bb.trans ((belowOfDrewN hb1).mono (by simp))).trans (hb2.mono (by have := hb1.size; simp at this; omega))⟩
    · by_cases hl3 : 1000 < next.length
      · clear h hr hn
        generalize old.length = a at *
        generalize rest.length = b at *
        generalize next.length = d at *
        go_enter Try.func11, Try.ntmps11
        go_wp2_with fail
        go_quiet (fail)
        go_wp2_with fail
        refine (d_awake _).mono ?_
        rintro e w1 ⟨rfl, hb1⟩
        go_wp2_with fail
        refine (d_awake _).mono ?_
        rintro e w2 ⟨rfl, hb2⟩
        go_wp2_with fail
        go_ret
        exact ⟨rfl, (bb.trans ((belowOfDrewN hb1).mono (by simp))).trans (hb2.mono (by have := hb1.size; simp at this; omega))⟩
      · obtain ⟨d0, hd0⟩ : ∃ d, d = D.new 10000 := ⟨_, rfl⟩
        have e1 : D.append d0 old = (0, { d0 with b := old }) := by rw [hd0]; exact D.append_ok rfl (by decide) (by show old.length ≤ 10000 - 0; omega)
        have e2 : D.sync { d0 with b := old } = (0, { d0 with b := old, lasts := old.length }) := by rw [hd0]; exact D.sync_ok rfl (by show (-1 : Int) < 0; omega)
        have e3 : D.append { d0 with b := old, lasts := old.length } rest = (0, { d0 with b := old ++ rest, lasts := old.length }) := by rw [hd0]; exact D.append_ok rfl (by show (-1 : Int) < 0; omega) (by show rest.length ≤ 10000 - old.length; omega)
        have e4 : D.setFuse { d0 with b := old ++ rest, lasts := old.length } 0 = { d0 with b := old ++ rest, lasts := old.length, fuse := 0 } := rfl
        have e5 : D.replace { d0 with b := old ++ rest, lasts := old.length, fuse := 0 } next = (8, { d0 with b := old ++ rest, lasts := old.length, fuse := 0, down := true, within := true, rep := next }) := by
          rw [hd0]
          unfold D.replace
          rw [if_neg (by show ¬ (false = true); decide), if_neg (by show ¬ (10000 < next.length); omega)]
          rfl
        have e6 : (D.cut { d0 with b := old ++ rest, lasts := old.length, fuse := 0, down := true, within := true, rep := next } kept).b = if 0 < kept then next else old := by
          unfold D.cut D.cutB
          dsimp only
          rw [if_pos rfl]
          show (if 0 < kept then next else (old ++ rest).take old.length) = _
          rw [List.take_left]
        have E1 := Lib.hid e1
        have E2 := Lib.hid e2
        have E3 := Lib.hid e3
        have E4 := Lib.hid e4
        have E5 := Lib.hid e5
        have E6 := Lib.hid e6
        have HO := Lib.hid h
        have HR := Lib.hid hr
        have HX := Lib.hid hn
        have HD0 := Lib.hid hd0
        have ho3 : old.length ≤ 1000 := by omega
        have hx3 : next.length ≤ 1000 := by omega
        clear e1 e2 e3 e4 e5 e6 h hr hn hd0
        obtain ⟨a, ha⟩ : ∃ a, a = old.length := ⟨_, rfl⟩
        obtain ⟨b, hb⟩ : ∃ b, b = rest.length := ⟨_, rfl⟩
        obtain ⟨f, hf⟩ : ∃ f, f = next.length := ⟨_, rfl⟩
        have HA := Lib.hid ha
        have HB := Lib.hid hb
        have HF := Lib.hid hf
        rw [← ha] at HO hl ho3 ⊢
        rw [← hb] at HR hl2 bb ⊢
        rw [← hf] at HX hl3 bb hx3 ⊢
        clear ha hb hf
        go_enter Try.func11, Try.ntmps11
        go_wp2_with fail
        go_quiet (fail)
        go_wp2_with fail
        refine (d_awake _).mono ?_
        rintro e w1 ⟨rfl, b1⟩
        have B1 := bb.trans ((belowOfDrewN b1).mono (by simp))
        clear b1
        go_wp2_with fail
        refine (dnew_any 10000 w1 (by omega)).mono ?_
        rw [← HD0.out]
        rintro e w2 ⟨rfl, h2, b2, z2⟩
        have B2 := B1.trans (b2.mono B1.size)
        have s1 := B1.size
        have K := notIn' HO.out B2 s1
        rw [HA.out] at K
        go_wp2_with fail
        rw [HA.out]
        refine (dappend_any _ _ _ _ _ A c old w2 b2.size h2 K).mono ?_
        rw [← HA.out, E1.out]
        rintro e w3 ⟨bv3, rv3, rfl, h3, g3, o3⟩
        have b3 : Below w1.heap.size w2 w3 := g3.below (Nat.le_refl _) (fun k hk => (h2.2.2.1.lt k hk).1) b2.size
        have B3 := B2.trans (b3.mono s1)
        clear h2 b2 z2 K g3 o3
        go_wp2_with fail
        refine (dsync_any _ _ _ _ _ _ h3).mono ?_
        rw [E2.out]
        rintro e w4 ⟨rfl, h4, g4⟩
        have b4 : Below w1.heap.size w3 w4 := (grown2.ofGrown none g4).below (Nat.le_refl _) (fun k hk => by cases hk) (Nat.le_of_lt (ltAt h3.1))
        have B4 := B3.trans (b4.mono s1)
        have K := notIn' HR.out B4 s1
        rw [HB.out] at K
        clear h3 b3 g4 b4
        go_wp2_with fail
        rw [HB.out]
        refine (dappend_any _ _ _ _ _ rA rc rest w4 (Nat.le_of_lt (ltAt h4.1)) h4 K).mono ?_
        rw [← HB.out, E3.out]
        rintro e w5 ⟨bv5, rv5, rfl, h5, g5, o5⟩
        have b5 : Below w1.heap.size w4 w5 := g5.below (Nat.le_refl _) (fun k hk => (h4.2.2.1.lt k hk).1) (Nat.le_of_lt (ltAt h4.1))
        have B5 := B4.trans (b5.mono s1)
        clear h4 K g5 o5 b5
        go_wp2_with fail
        refine (dfuse_any _ _ _ _ _ 0 _ (by omega) h5).mono ?_
        rw [E4.out]
        rintro e w6 ⟨rfl, h6, g6⟩
        have b6 : Below w1.heap.size w5 w6 := (grown2.ofGrown none g6).below (Nat.le_refl _) (fun k hk => by cases hk) (Nat.le_of_lt (ltAt h5.1))
        have B6 := B5.trans (b6.mono s1)
        have K := notIn' HX.out B6 s1
        rw [HF.out] at K
        clear h5 g6 b6
        go_wp2_with fail
        rw [HF.out]
        refine (dreplace_any _ _ _ _ _ nA nc next w6 (Nat.le_of_lt (ltAt h6.1)) h6 K).mono ?_
        rw [← HF.out, E5.out]
        rintro e w7 ⟨bv7, rv7, rfl, h7, g7, o7⟩
        have b7 : Below w1.heap.size w6 w7 := g7.below (Nat.le_refl _) (fun k hk => (h6.2.2.1.lt k hk).1) (Nat.le_of_lt (ltAt h6.1))
        have B7 := B6.trans (b7.mono s1)
        have s7 : w1.heap.size ≤ w7.heap.size := Nat.le_of_lt (ltAt h7.1)
        clear h6 K g7 o7 b7
        go_wp2_with fail
        refine (dcut_any _ _ _ _ _ kept w7 s7 h7).mono ?_
        rintro e w8 ⟨g8, bv8, rfl, hg8, h8, h8', gr8⟩
        have b8 : Below w1.heap.size w7 w8 := (grown2.ofGrown none gr8).below (Nat.le_refl _) (fun k hk => by cases hk) s7
        have B8 := B7.trans (b8.mono s1)
        clear h7 h8' gr8 b8
        go_wp2_with fail
        refine (dbytes_any _ _ _ _ _ _ h8).mono ?_
        rw [E6.out]
        clear E1 E2 E3 E4 E5 E6 h8
        by_cases hk : 0 < kept
        · rw [if_pos hk]
          rintro e w9 ⟨v9, rfl, own9, b9⟩
          have B9 := B8.trans (b9.mono B8.size)
          have S9 := Lib.hid (SlB.ofOwn own9)
          go_wp2_with fail
          refine (same_s S9.out (HX.out.below B9) (by rw [← HF.out]; omega)).mono ?_
          rintro e w10 ⟨rfl, k10, rfl⟩
          go_wp2_with fail
          go_ret
          exact ⟨rfl, belowDrewN B9 _⟩
        · rw [if_neg hk]
          rintro e w9 ⟨v9, rfl, own9, b9⟩
          have B9 := B8.trans (b9.mono B8.size)
          have S9 := Lib.hid (SlB.ofOwn own9)
          go_wp2_with fail
          refine (same_s S9.out (HO.out.below B9) (by rw [← HA.out]; omega)).mono ?_
          rintro e w10 ⟨rfl, k10, rfl⟩
          go_wp2_with fail
          go_ret
          exact ⟨rfl, belowDrewN B9 _⟩

theorem diskReplaces_walk (W : World) (v0 v1 v2 : Value) (h0 : Arg W 22 v0) (h1 : Arg W 64 v1) (h2 : Arg W 3 v2) :
    Calls Try.prog 11 #[v0, v1, v2] W fun e W' => e = .returned (.bool true) ∧ Below W.heap.size W W' := by
  obtain ⟨A, c, l, rfl, hc, hm, hA, hr⟩ := h0.bytes Try.underlying22
  obtain ⟨x, y, m, q, rfl, hx, hy⟩ := h1.pairB Try.underlying64 Try.underlying22 (by kernel_rfl) (by kernel_rfl)
  obtain ⟨n, rfl, _⟩ := h2.i64 Try.underlying3
  exact drep n A c l x y m q W ⟨A, c, rfl, hc, hm, hA, hr⟩ hx hy
end Go.Proofs.Ytmlchhfahpcohaa
