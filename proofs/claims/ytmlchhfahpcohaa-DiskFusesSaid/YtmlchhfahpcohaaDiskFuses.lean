/- The walk of the law DiskFuses. -/
import Derived.Test.YtmlchhfahpcohaaDiskRep
namespace Go.Proofs.Ytmlchhfahpcohaa
open Go.RowKit
set_option linter.unusedSimpArgs false
set_option linter.unusedVariables false

/-- an act of the script: what it is, and what it answers -/
def fact (d : Dk) (k : Nat) : Nat × Dk := if k % 3 = 0 then D.append d [1] else if k % 3 = 1 then D.sync d else D.replace d [2]
/-- a disk of the script after i acts, of n that are allowed -/
def FInv (d : Dk) (n i : Nat) : Prop :=
  d.size = 1000 ∧ (d.b.length ≤ i ∧ d.rep.length ≤ 1) ∧ (i ≤ n → d.fuse = ((n - i : Nat) : Int) ∧ d.down = false ∧ d.within = false) ∧ (n < i → d.down = true)
theorem FInv.start (n : Nat) : FInv (D.setFuse (D.new 1000) (n : Int)) n 0 := by
  refine ⟨rfl, ⟨Nat.le_refl _, Nat.zero_le _⟩, fun _ => ⟨?_, rfl, rfl⟩, fun h => by omega⟩
  show max (n : Int) (-1) = _
  omega
theorem FInv.step {d : Dk} {n i k : Nat} (h : FInv d n i) (hi : i < 100) : ((fact d k).1 = if i < n then 0 else 8) ∧ FInv (fact d k).2 n (i + 1) := by
  obtain ⟨h1, ⟨h2, hrp⟩, h3, h4⟩ := h
  by_cases hin : i < n
  · obtain ⟨h5, h6, h7⟩ := h3 (by omega)
    have ha : D.act d = (true, { d with fuse := d.fuse - 1 }) := by unfold D.act; rw [if_neg (by omega), if_pos (by omega)]
    rw [if_pos hin]
    unfold fact
    split
    · unfold D.append
      rw [if_neg (by rw [h6]; decide), if_neg (by simp; omega), ha]
      exact ⟨rfl, h1, ⟨by simp; omega, hrp⟩, fun _ => ⟨by simp only; omega, h6, h7⟩, fun _ => by omega⟩
    split
    · unfold D.sync
      rw [if_neg (by rw [h6]; decide), ha, if_pos rfl]
      exact ⟨rfl, h1, ⟨by simp only; omega, hrp⟩, fun _ => ⟨by simp only; omega, h6, h7⟩, fun _ => by omega⟩
    · unfold D.replace
      rw [if_neg (by rw [h6]; decide), if_neg (by simp; omega), ha, if_pos rfl]
      exact ⟨rfl, h1, ⟨by simp, hrp⟩, fun _ => ⟨by simp only; omega, h6, h7⟩, fun _ => by omega⟩
  · rw [if_neg hin]
    by_cases he : i = n
    · obtain ⟨h5, h6, h7⟩ := h3 (by omega)
      have ha : D.act d = (false, { d with down := true }) := by unfold D.act; rw [if_pos (by omega)]
      unfold fact
      split
      · unfold D.append
        rw [if_neg (by rw [h6]; decide), if_neg (by simp; omega), ha]
        exact ⟨rfl, h1, ⟨by simp; omega, hrp⟩, fun _ => by omega, fun _ => rfl⟩
      split
      · unfold D.sync
        rw [if_neg (by rw [h6]; decide), ha, if_neg (by show ¬ (false = true); decide)]
        exact ⟨rfl, h1, ⟨by simp only; omega, hrp⟩, fun _ => by omega, fun _ => rfl⟩
      · unfold D.replace
        rw [if_neg (by rw [h6]; decide), if_neg (by simp; omega), ha, if_neg (by show ¬ (false = true); decide)]
        exact ⟨rfl, h1, ⟨by simp only; omega, Nat.le_refl _⟩, fun _ => by omega, fun _ => rfl⟩
    · have h6 := h4 (by omega)
      have hr : fact d k = (8, d) := by
        unfold fact
        split
        · unfold D.append; rw [if_pos h6]
        split
        · unfold D.sync; rw [if_pos h6]
        · unfold D.replace; rw [if_pos h6]
      rw [hr]
      exact ⟨rfl, h1, ⟨by simp only; omega, hrp⟩, fun _ => by omega, fun _ => h6⟩
theorem FInv.downs {d : Dk} {n i : Nat} (h : FInv d n i) : d.down = decide (n < i) := by
  by_cases hn : n < i
  · rw [h.2.2.2 hn]; simp [hn]
  · rw [(h.2.2.1 (by omega)).2.1]; simp [hn]

set_option maxHeartbeats 3200000 in
theorem dfuses (n : Nat) (kept : Int) (A : Option Addr) (c : Nat) (l : List UInt8) (w : World) (hn : n < 256) (h : SlB w w.heap.size (.slice A l.length c) l) :
    Calls Try.prog 12 #[.int .u8 (n : Int), .slice A l.length c, .int .i64 kept] w fun e w' => e = .returned (.bool true) ∧ Below w.heap.size w w' := by
  by_cases hl : 100 < l.length
  · clear h
    generalize l.length = m at *
    go_enter Try.func12, Try.ntmps12
    go_wp2_with fail
    refine (d_awake _).mono ?_
    rintro e w1 ⟨rfl, hb1⟩
    go_wp2_with fail
    refine (d_awake _).mono ?_
    rintro e w2 ⟨rfl, hb2⟩
    go_wp2_with fail
    go_ret
    exact ⟨rfl, hb1.trans (hb2.mono hb1.size)⟩
  · have HO := Lib.hid h
    obtain ⟨_, _, e, _, _, _, hr⟩ := h
    injection e with e1 _ e3
    subst e1; subst e3
    obtain ⟨m, hm⟩ : ∃ m, m = l.length := ⟨_, rfl⟩
    have HM := Lib.hid hm
    rw [← hm] at hl ⊢
    clear hm
    go_enter Try.func12, Try.ntmps12
    go_wp2_with fail
    refine (d_awake _).mono ?_
    rintro e w1 ⟨rfl, b1⟩
    go_wp2_with fail
    refine (dnew_any 1000 w1 (by omega)).mono ?_
    rintro e w2 ⟨rfl, h2, b2, z2⟩
    have B2 := b1.trans (b2.mono b1.size)
    go_wp2_with fail
    refine (dfuse_any _ _ _ _ _ (n : Int) _ (by omega) h2).mono ?_
    rintro e w3 ⟨rfl, h3, g3⟩
    have b3 : Below w1.heap.size w2 w3 := (grown2.ofGrown none g3).below (Nat.le_refl _) (fun k hk => by cases hk) (Nat.le_of_lt (ltAt h2.1))
    have B3 := B2.trans (b3.mono b1.size)
    have HS := Lib.hid (FInv.start n)
    have s1 := b1.size
    clear h2 b2 z2 g3 b3 b1
    go_wp2_with fail
    go_loopw [8, 9] (fun iv ev wr => ∃ (i : Nat) (d : Dk) (bv rv : Value), i ≤ m ∧ iv = .int .i64 (i : Int) ∧ DkAt wr w1.heap.size w1.heap.size bv rv d ∧ Hid (FInv d n i) ∧ Below w.heap.size w wr) (fun iv _ _ => m - (intOf iv).toNat)
    case atStart => exact ⟨0, _, _, _, Nat.zero_le _, rfl, h3, HS, B3⟩
    case round =>
      obtain ⟨i, d, bv, rv, hi, rfl, hd, HI, bel⟩ := hrel
      by_cases him : i < m
      · have i1 : i < (bc l).length := by rw [bc_len, ← HM.out]; exact him
        obtain ⟨ab, ao, hAe, hab, hca⟩ := hr.at_ i1
        rw [bc_get] at hca
        have i2 : i < l.length := by rw [← HM.out]; exact him
        have hx := (l[i]'i2).toNat_lt
        have hca2 := cellB (bel.mono (Nat.le_refl _)) hca
        generalize ((l[i]'i2).toNat) = x at *
        subst hAe
        have ST := FInv.step (k := x) HI.out (by omega)
        have hs : w1.heap.size ≤ wr.heap.size := Nat.le_of_lt (ltAt hd.1)
        have hi0 : (0 : Int) ≤ (i : Int) := by omega
        clear hca i1 i2 h3
        have hdn := FInv.downs ST.2
        by_cases hin : i < n
        all_goals
          first
            | rw [if_pos hin] at ST
            | rw [if_neg hin] at ST
          have hin1 : decide ((i : Int) < (n : Int)) = decide (i < n) := by simp
          have hin2 : (fact d x).2.down = decide ((n : Int) ≤ (i : Int)) := by rw [hdn]; simp; omega
          have ST1 := Lib.hid ST.1
          have ST2 := Lib.hid ST.2
          have HDN := Lib.hid hin2
          clear ST hdn hin1 hin2
          rcases (show x % 3 = 0 ∨ x % 3 = 1 ∨ x % 3 = 2 by omega) with h30 | h31 | h32
          · have hx3 : ((x : Int) % 3 == 0) = true := by simp; omega
            have hf : fact d x = D.append d [1] := by unfold fact; rw [if_pos h30]
            rw [hf] at ST1 ST2 HDN
            have HF := Lib.hid hf
            have H1 := Lib.hid (hd.below ((Below.refl _ wr).alloc (Nat.le_refl _) (.cells #[.int .u8 1] 5 (0, 0))))
            have K := Lib.hid (constK wr [1] (0, 0) w1.heap.size 1 (ltAt hd.1) rfl (by decide))
            clear hd hf h30 hr HF
            go_wp2_with fail
            refine (dappend_any _ _ bv rv d _ 1 [1] _ (by simp; omega) H1.out K.out).mono ?_
            rintro e w4 ⟨bv4, rv4, rfl, h4, g4, _⟩
            have b4 := g4.below (B := w1.heap.size) (Nat.le_refl _) (fun k hk => (H1.out.2.2.1.lt k hk).1) (by simp; omega)
            have bel4 := (bel.alloc bel.size _).trans (b4.mono s1)
            rw [ST1.out]
            have H4 := Lib.hid h4
            clear g4 b4 H1 K h4
            go_wp2_with fail
            refine (ddown_any _ _ _ _ _ _ H4.out).mono ?_
            rintro e w' ⟨rfl, rfl⟩
            rw [HDN.out]
            go_wp2_with fail
            go_roundw
            case rel => exact ⟨i + 1, _, _, _, by omega, by go_num, H4.out, ST2, bel4⟩
            case measure => simp [intOf]; omega
          · have hx3 : ((x : Int) % 3 == 0) = false := by simp; omega
            have hx4 : ((x : Int) % 3 == 1) = true := by simp; omega
            have hf : fact d x = D.sync d := by unfold fact; rw [if_neg (by omega), if_pos (by omega)]
            rw [hf] at ST1 ST2 HDN
            have HF := Lib.hid hf
            have H1 := Lib.hid hd
            clear hd hf h31 hr HF
            go_wp2_with fail
            refine (dsync_any _ _ bv rv d _ H1.out).mono ?_
            rintro e w4 ⟨rfl, h4, g4⟩
            have b4 : Below w1.heap.size wr w4 := (grown2.ofGrown none g4).below (Nat.le_refl _) (fun k hk => by cases hk) hs
            have bel4 := bel.trans (b4.mono s1)
            rw [ST1.out]
            have H4 := Lib.hid h4
            clear g4 b4 H1 h4
            go_wp2_with fail
            refine (ddown_any _ _ _ _ _ _ H4.out).mono ?_
            rintro e w' ⟨rfl, rfl⟩
            rw [HDN.out]
            go_wp2_with fail
            go_roundw
            case rel => exact ⟨i + 1, _, _, _, by omega, by go_num, H4.out, ST2, bel4⟩
            case measure => simp [intOf]; omega
          · have hx3 : ((x : Int) % 3 == 0) = false := by simp; omega
            have hx4 : ((x : Int) % 3 == 1) = false := by simp; omega
            have hx5 : ((x : Int) % 3 == 2) = true := by simp; omega
            have hf : fact d x = D.replace d [2] := by unfold fact; rw [if_neg (by omega), if_neg (by omega)]
            rw [hf] at ST1 ST2 HDN
            have HF := Lib.hid hf
            have H1 := Lib.hid (hd.below ((Below.refl _ wr).alloc (Nat.le_refl _) (.cells #[.int .u8 2] 5 (0, 0))))
            have K := Lib.hid (constK wr [2] (0, 0) w1.heap.size 1 (ltAt hd.1) rfl (by decide))
            clear hd hf h32 hr HF
            go_wp2_with fail
            refine (dreplace_any _ _ bv rv d _ 1 [2] _ (by simp; omega) H1.out K.out).mono ?_
            rintro e w4 ⟨bv4, rv4, rfl, h4, g4, _⟩
            have b4 := g4.below (B := w1.heap.size) (Nat.le_refl _) (fun k hk => (H1.out.2.2.1.lt k hk).1) (by simp; omega)
            have bel4 := (bel.alloc bel.size _).trans (b4.mono s1)
            rw [ST1.out]
            have H4 := Lib.hid h4
            clear g4 b4 H1 K h4
            go_wp2_with fail
            refine (ddown_any _ _ _ _ _ _ H4.out).mono ?_
            rintro e w' ⟨rfl, rfl⟩
            rw [HDN.out]
            go_wp2_with fail
            go_roundw
            case rel => exact ⟨i + 1, _, _, _, by omega, by go_num, H4.out, ST2, bel4⟩
            case measure => simp [intOf]; omega
      · obtain rfl : i = m := by omega
        have hI := HI.out
        have hcb : (D.cut d kept).b.length ≤ 101 := by
          unfold D.cut D.cutB
          dsimp only
          have h1 := hI.2.1.1
          have h2 := hI.2.1.2
          split
          · split
            · omega
            · simp; omega
          · simp; omega
        have hcs : (D.cut d kept).size = 1000 := by show (max (d.size : Int) 0).toNat = 1000; rw [hI.1]; rfl
        have e1 := D.append_ok (d := D.cut d kept) (l := [3]) rfl (by show (-1 : Int) < 0; omega) (by rw [hcs]; simp; omega)
        have e2 : D.sync { D.cut d kept with b := (D.cut d kept).b ++ [3] } = (0, { D.cut d kept with b := (D.cut d kept).b ++ [3], lasts := ((D.cut d kept).b ++ [3]).length }) := D.sync_ok rfl (by show (-1 : Int) < 0; omega)
        have E1 := Lib.hid e1
        have E2 := Lib.hid e2
        have hs : w1.heap.size ≤ wr.heap.size := Nat.le_of_lt (ltAt hd.1)
        have H0 := Lib.hid hd
        clear hI hcb hcs e1 e2 HI hd h3 hr
        go_wp2_with fail
        refine (dcut_any _ _ _ _ _ kept wr hs H0.out).mono ?_
        rintro e w4 ⟨g4, bv4, rfl, hg4, h4, h4', gr4⟩
        have b4 : Below w1.heap.size wr w4 := (grown2.ofGrown none gr4).below (Nat.le_refl _) (fun k hk => by cases hk) hs
        have B4 := bel.trans (b4.mono s1)
        have H4 := Lib.hid h4
        clear h4 h4' gr4 b4
        go_wp2_with fail
        refine (ddown_any _ _ _ _ _ _ H4.out).mono ?_
        rintro e w' ⟨rfl, rfl⟩
        rw [show (D.cut d kept).down = false from rfl]
        have H5 := Lib.hid (H4.out.below ((Below.refl _ w4).alloc (Nat.le_refl _) (.cells #[.int .u8 3] 5 (0, 0))))
        have K := Lib.hid (constK w4 [3] (0, 0) g4 1 (ltAt H4.out.1) rfl (by decide))
        have hs4 := Nat.le_of_lt (Nat.lt_of_le_of_lt hg4 (ltAt H4.out.1))
        go_wp2_with fail
        refine (dappend_any _ _ _ _ _ _ 1 [3] _ (by simp; omega) H5.out K.out).mono ?_
        rw [E1.out]
        rintro e w6 ⟨bv6, rv6, rfl, h6, g6, _⟩
        have b6 := g6.below (B := wr.heap.size) hg4 (fun k hk => (H5.out.2.2.1.lt k hk).1) (by simp; omega)
        have B6 := (B4.alloc B4.size _).trans (b6.mono bel.size)
        have H6 := Lib.hid h6
        have hs6 := Nat.le_of_lt (Nat.lt_of_le_of_lt hg4 (ltAt h6.1))
        clear h6 g6 b6 H5 K H4
        go_wp2_with fail
        refine (dsync_any _ _ _ _ _ _ H6.out).mono ?_
        rw [E2.out]
        rintro e w7 ⟨rfl, h7, g7⟩
        have b7 : Below wr.heap.size w6 w7 := (grown2.ofGrown none g7).below hg4 (fun k hk => by cases hk) hs6
        have B7 := B6.trans (b7.mono bel.size)
        have H7 := Lib.hid h7
        clear h7 g7 b7 H6
        go_wp2_with fail
        refine (dlasting_any _ _ _ _ _ _ H7.out).mono ?_
        rintro e w' ⟨rfl, rfl⟩
        go_wp2_with fail
        refine (dbytes_any _ _ _ _ _ _ H7.out).mono ?_
        rintro e w8 ⟨v8, rfl, own8, b8⟩
        obtain ⟨A8, c8, rfl, _, _, _⟩ := ownShape own8
        clear own8 H7
        go_wp2_with fail
        go_ret
        exact ⟨rfl, B7.trans (b8.mono B7.size)⟩

theorem diskFuses_walk (W : World) (v0 v1 v2 : Value) (h0 : Arg W 5 v0) (h1 : Arg W 22 v1) (h2 : Arg W 3 v2) :
    Calls Try.prog 12 #[v0, v1, v2] W fun e W' => e = .returned (.bool true) ∧ Below W.heap.size W W' := by
  obtain ⟨n, rfl, hn⟩ := h0.u8 Try.underlying5
  obtain ⟨A, c, l, rfl, hc, hm, hA, hr⟩ := h1.bytes Try.underlying22
  obtain ⟨k, rfl, _⟩ := h2.i64 Try.underlying3
  exact dfuses n k A c l W hn ⟨A, c, rfl, hc, hm, hA, hr⟩
end Go.Proofs.Ytmlchhfahpcohaa
