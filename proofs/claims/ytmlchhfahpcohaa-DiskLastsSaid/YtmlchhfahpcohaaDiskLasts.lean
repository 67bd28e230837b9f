/- The walk of the law DiskLasts. -/
import Derived.Test.YtmlchhfahpcohaaDiskRep
namespace Go.Proofs.Ytmlchhfahpcohaa
open Go.RowKit Go.ChangeShapes Go.WideShapes Go.ChangeAt Go.Deep
set_option linter.unusedSimpArgs false
set_option linter.unusedVariables false

/-- a slice of bools that came in -/
theorem Arg.bools {W : World} {v : Value} (h : Arg W 49 v) : ∃ (A : Option Addr) (c : Nat) (bs : List Bool), v = .slice A bs.length c ∧ bs.length ≤ c ∧ c ≤ maxLen ∧ Rd W W.heap.size A (bs.map Value.bool) := by
  obtain ⟨A, n, c, rfl, hc⟩ := h.slice Try.underlying49
  obtain ⟨hn, hm, hA, hat⟩ := hc.sliceAt Try.underlying49 1 (by kernel_rfl) (by omega)
  by_cases h0 : 0 < n
  · obtain ⟨b, off, rfl, hb, hi⟩ := hat h0
    have hex : ∀ i, ∃ f : Bool, i < n → W.cell? ⟨b, off + i, none⟩ = some (.bool f) := by
      intro i
      by_cases hlt : i < n
      · obtain ⟨cs', hcl, hce, hj⟩ := hi i hlt
        obtain ⟨x, rfl⟩ := hce.bool Try.underlying4
        exact ⟨x, fun _ => by have := hj 0 (by omega); simpa using this⟩
      · exact ⟨true, fun h => absurd h hlt⟩
    obtain ⟨f, hf⟩ := Classical.axiomOfChoice hex
    refine ⟨some ⟨b, off, none⟩, c, (List.range n).map f, by simp, by simpa using hn, hm, ?_⟩
    intro j u hu
    have hj : j < n := by have := (List.getElem?_eq_some_iff.1 hu).1; simpa using this
    refine ⟨b, off, rfl, hb, ?_⟩
    rw [hf j hj]
    simpa [hj] using hu
  · obtain rfl : n = 0 := by omega
    exact ⟨A, c, [], rfl, by simp, hm, Rd.nil⟩

/-- is one the beginning of the other -/
theorem begins_s {w : World} {B1 B2 : Nat} {v u : Value} {l m : List UInt8} (h : SlB w B1 v l) (g : SlB w B2 u m) (hm : m.length ≤ 1099511627776) (hp : l = m.take l.length) (hl : l.length ≤ m.length) :
    Calls Try.prog 42 #[v, u] w fun e w' => e = .returned (.bool true) ∧ ∃ n, w' = w.drewN n := by
  obtain ⟨A, c, rfl, hc, hcm, hA, hr⟩ := id h
  obtain ⟨A', c', rfl, hc', hcm', hA', hr'⟩ := id g
  have g' := SlB.first' g hl
  rw [← hp] at g'
  have HS := Lib.hid (same_s h g' (by omega))
  unfold maxLen at hcm hcm'
  generalize l.length = a at *
  generalize m.length = b at *
  clear h g g' hr hr' hp hA hA'
  go_enter Try.func42, Try.ntmps42
  go_wp2_with fail
  refine HS.out.mono ?_
  rintro e w1 ⟨rfl, k, rfl⟩
  go_wp2_with fail
  go_ret
  exact ⟨rfl, k, rfl⟩

theorem Apart.moved2 {w : World} {u v v' : Value} {base e n : Nat} {xs : List Value} (h : Apart u v) (hu : w.ownsRow base e 1 u n xs) (hw : v'.ownBlock = none ∨ v'.ownBlock = v.ownBlock ∨ ∃ k, v'.ownBlock = some k ∧ w.heap.size ≤ k) : Apart u v' := fun k hk hv => by
  have hlt := (hu.lt k hk).2
  rcases hw with h1 | h1 | ⟨q, h1, h2⟩
  · rw [h1] at hv; cases hv
  · rw [h1] at hv; exact h k hk hv
  · rw [h1] at hv; injection hv with hv; omega

/-- the disk of the script: all that was appended is there, some of it lasts -/
def LInv (d : Dk) (b : List UInt8) : Prop := d.size = 100000 ∧ d.b = b ∧ d.lasts ≤ b.length ∧ d.fuse = -1 ∧ d.down = false ∧ d.within = false
/-- all that was appended -/
def flat (ls : List (List UInt8)) (k : Nat) : List UInt8 := (ls.take k).flatten
theorem flat_succ (ls : List (List UInt8)) (k : Nat) (h : k < ls.length) : flat ls (k + 1) = flat ls k ++ ls[k] := by
  unfold flat; rw [List.take_succ_eq_append_getElem h, List.flatten_append, List.flatten_singleton]

set_option maxHeartbeats 3200000 in
theorem dlasts (kept : Int) (A A' : Option Addr) (c c' : Nat) (ls : List (List UInt8)) (bs : List Bool) (w : World) (hcm : c ≤ maxLen) (hcm' : c' ≤ maxLen) (h : SlL w w.heap.size (.slice A ls.length c) ls) (hb : Rd w w.heap.size A' (bs.map Value.bool)) (hbc : bs.length ≤ c') :
    Calls Try.prog 6 #[.slice A ls.length c, .slice A' bs.length c', .int .i64 kept] w fun e w' => e = .returned (.bool true) ∧ Below w.heap.size w w' := by
  by_cases hl : 50 < ls.length ∨ 50 < bs.length
  · clear h hb
    generalize ls.length = n at *
    generalize bs.length = m at *
    by_cases h1 : 50 < n
    · clear hl
      go_enter Try.func6, Try.ntmps6
      go_wp2_with fail
      refine (d_awake _).mono ?_
      rintro e w1 ⟨rfl, hb1⟩
      go_wp2_with fail
      refine (d_awake _).mono ?_
      rintro e w2 ⟨rfl, hb2⟩
      go_wp2_with fail
      go_ret
      exact ⟨rfl, hb1.trans (hb2.mono hb1.size)⟩
    · have h2 : 50 < m := by omega
      clear hl
      go_enter Try.func6, Try.ntmps6
      go_wp2_with fail
      refine (d_awake _).mono ?_
      rintro e w1 ⟨rfl, hb1⟩
      go_wp2_with fail
      refine (d_awake _).mono ?_
      rintro e w2 ⟨rfl, hb2⟩
      go_wp2_with fail
      go_ret
      exact ⟨rfl, hb1.trans (hb2.mono hb1.size)⟩
  · obtain ⟨i0, hi, hz0, hz1, hz2⟩ := info_parts info_u8
    obtain ⟨_, _, vs, e, hc, hr, hs⟩ := h
    injection e with e1 e2 e3
    subst e1; subst e3
    clear e2
    obtain ⟨n, hn⟩ : ∃ n, n = ls.length := ⟨_, rfl⟩
    obtain ⟨m, hm⟩ : ∃ m, m = bs.length := ⟨_, rfl⟩
    have HN := Lib.hid hn
    have HM := Lib.hid hm
    have hln : n ≤ 50 := by omega
    have hlm : m ≤ 50 := by omega
    rw [← hn] at hc ⊢
    rw [← hm] at hbc ⊢
    have HS := Lib.hid hs
    clear hs hn hm hl
    go_enter Try.func6, Try.ntmps6
    go_wp2_with fail
    refine (d_awake _).mono ?_
    rintro e w1 ⟨rfl, b1⟩
    go_wp2_with fail
    refine (dnew_any 100000 w1 (by omega)).mono ?_
    rintro e w2 ⟨rfl, h2, b2, z2⟩
    have B2 := b1.trans (b2.mono b1.size)
    have HI0 : Hid (LInv (D.new 100000) (flat ls 0)) := ⟨rfl, rfl, Nat.zero_le _, rfl, rfl, rfl⟩
    have s1 := b1.size
    clear b1 b2 z2
    go_wp2_with fail
    go_loopw [8, 9, 10] (fun av sv iv wr => ∃ (i : Nat) (d : Dk) (bv : Value), i ≤ n ∧ iv = .int .i64 (i : Int) ∧ DkAt wr w1.heap.size w1.heap.size bv (.slice none 0 0) d ∧ Hid (LInv d (flat ls i)) ∧ (flat ls i).length ≤ 1000 * i
      ∧ wr.ownsRow w.heap.size 5 1 av (flat ls i).length (bc (flat ls i)) ∧ wr.ownsRow w.heap.size 5 1 sv d.lasts (bc ((flat ls i).take d.lasts)) ∧ Apart av bv ∧ Apart sv bv ∧ Apart av sv ∧ Below w.heap.size w wr) (fun _ _ iv _ => n - (intOf iv).toNat)
    case atStart => exact ⟨0, _, _, Nat.zero_le _, rfl, h2, HI0, by simp [flat], by exact World.ownsRow_nil _ _ _ _, by exact World.ownsRow_nil _ _ _ _, Apart.nil, Apart.nil, Apart.nil, B2⟩
    case round =>
      obtain ⟨i, d, bv, hin, rfl, hd, HI, hfl, rowa, rows, ap1, ap2, ap3, bel⟩ := hrel
      by_cases hlt : i < n
      · have i1 : i < ls.length := by rw [← HN.out]; exact hlt
        have i2 : i < vs.length := by rw [HS.out.1]; exact i1
        obtain ⟨ab, ao, hAe, hab, hca⟩ := hr.at_ i2
        have hsl := HS.out.2 i _ _ (List.getElem?_eq_getElem i2) (List.getElem?_eq_getElem i1)
        have hfs := flat_succ ls i i1
        obtain ⟨lA, lc, hve, hle, hlm2, hlA, hlr⟩ := id hsl
        rw [hve] at hca hsl
        generalize ls[i]'i1 = l at *
        have hca2 := cellB (bel.mono (Nat.le_refl _)) hca
        subst hAe
        have HCA := Lib.hid hca
        have HFS := Lib.hid hfs
        have hlA' : lA = none → lc = 0 := fun h => (hlA h).2
        have HSL := Lib.hid hsl
        have HLR := Lib.hid hlr
        clear hca hve hlA hlr i1 i2 hfs hsl h2
        obtain ⟨k, hk⟩ : ∃ k, k = l.length := ⟨_, rfl⟩
        have HK := Lib.hid hk
        rw [← hk] at HSL hle hca2 HCA
        have hs := Nat.le_of_lt (ltAt hd.1)
        have hi0 : (0 : Int) ≤ (i : Int) := by omega
        by_cases hbig : 1000 < k
        · clear hk
          go_wp2_with fail
          go_ret
          exact ⟨rfl, bel⟩
        · have hI := HI.out
          have e1 : D.append d l = (0, { d with b := flat ls i ++ l }) := by
            have := D.append_ok (d := d) (l := l) hI.2.2.2.2.1 (by rw [hI.2.2.2.1]; omega) (by rw [hI.1, hI.2.1]; omega)
            rw [this, hI.2.1]
          have E1 := Lib.hid e1
          have K := notIn' HSL.out bel s1
          rw [HK.out] at K
          have K := Lib.hid K
          have HD := Lib.hid hd
          clear e1 hI hk
          go_wp2_with fail
          rw [HK.out]
          refine (dappend_any _ _ bv _ d lA lc l wr hs HD.out K.out).mono ?_
          rw [← HK.out, E1.out]
          rintro e w3 ⟨bv3, rv3, rfl, h3, g3, o3, hrv⟩
          obtain rfl := hrv HI.out.2.2.2.2.2
          have rowa3 := g3.row rowa (rowNe rowa HD.out.1 (by decide)) (fun q hq => ap1 q hq)
          have rows3 := g3.row rows (rowNe rows HD.out.1 (by decide)) (fun q hq => ap2 q hq)
          have ap1 := ap1.moved2 rowa o3
          have ap2 := ap2.moved2 rows o3
          have b3 : Below w1.heap.size wr w3 := g3.below (Nat.le_refl _) (fun q hq => (HD.out.2.2.1.lt q hq).1) hs
          have bel3 := bel.trans (b3.mono s1)
          have H3 := Lib.hid h3
          have hs3 := Nat.le_of_lt (ltAt h3.1)
          clear K HD rowa rows g3 o3 b3 h3 hrv hd bel
          have hca3 := cellB bel3 HCA.out
          clear hca2
          obtain ⟨T, hT⟩ : ∃ T, T = (flat ls i).length := ⟨_, rfl⟩
          have HT := Lib.hid hT
          rw [← hT] at hfl rowa3
          clear hT
          go_wp2_with (at_builtin; refine wpList_append_rdw _ rfl _ _ 22 rfl w.heap.size 5 i0 (.int .u8 0) 1 Try.underlying22 hi hz0 hz1 hz2 rfl _ _ _ rfl rowa3 w.heap.size lA k lc (bc l) rfl ?d1 hlA' (HLR.out.below bel3) (bc_one l) ?c1 ?c2 ?c3 ?_)
          case d1 => rw [bc_len, HK.out]
          case c1 => unfold maxLen; omega
          case c2 => omega
          case c3 => exact bel3.size
          intro av4 w4 own4 g4 o4
          have H4 := Lib.hid (H3.out.grown g4 (rowNe rowa3 H3.out.1 (by decide)) (fun q hq h => ap1 q hq h) (fun q hq h => by cases h))
          have rows4 := rows3.kept g4 ap3.symm.ne
          have ap1 := (ap1.symm.moved H3.out.2.2.1 o4).symm
          have ap3 := (ap3.symm.moved rows3 o4).symm
          have bel4 := bel3.grown g4 bel3.size (fun q hq => (rowa3.lt q hq).1)
          have own4 : w4.ownsRow w.heap.size 5 1 av4 (flat ls (i + 1)).length (bc (flat ls (i + 1))) := by
            rw [HFS.out, List.length_append, bc_app, ← HT.out, ← HK.out]; exact own4
          have hfl4 : Hid ((flat ls (i + 1)).length ≤ 1000 * (i + 1)) := by show _ ≤ _; rw [HFS.out, List.length_append, ← HT.out, ← HK.out]; omega
          have HI4 : Hid (LInv { d with b := flat ls i ++ l } (flat ls (i + 1))) := by
            obtain ⟨q1, q2, q3, q4⟩ := HI.out
            exact ⟨q1, HFS.out.symm, by show d.lasts ≤ _; rw [HFS.out, List.length_append]; omega, q4⟩
          have htk : Hid ((flat ls (i + 1)).take d.lasts = (flat ls i).take d.lasts) := by
            show _ = _
            rw [HFS.out, List.take_append_of_le_length HI.out.2.2.1]
          have hs4 := Nat.le_of_lt (ltAt H4.out.1)
          clear g4 o4 rows3 rowa3 H3 E1 HSL HLR bel3 hca3
          obtain ⟨T4, hT4⟩ : ∃ T4, T4 = (flat ls (i + 1)).length := ⟨_, rfl⟩
          have HT4 := Lib.hid hT4
          rw [← hT4] at own4 hfl4
          have hT4b := hfl4.out
          clear hT4
          by_cases him : i < m
          · have j1 : i < (bs.map Value.bool).length := by rw [List.length_map, ← HM.out]; exact him
            obtain ⟨sb, so, hAs, _, hcs⟩ := hb.at_ j1
            subst hAs
            have hcs4 := cellB bel4 hcs
            rw [List.getElem_map] at hcs4
            generalize bs[i]'(by simpa using j1) = bv at hcs4
            clear hcs j1
            cases bv with
            | false =>
              go_wp2_with fail
              go_roundw
              case rel => exact ⟨i + 1, _, _, by omega, by go_num, H4.out, HI4, by rw [← HT4.out]; exact hT4b, by rw [← HT4.out]; exact own4, by show w4.ownsRow _ _ _ _ d.lasts _; rw [htk.out]; exact rows4, ap1, ap2, ap3, bel4⟩
              case measure => simp [intOf]; omega
            | true =>
              have e2 : D.sync { d with b := flat ls i ++ l } = (0, { d with b := flat ls i ++ l, lasts := (flat ls i ++ l).length }) := D.sync_ok HI.out.2.2.2.2.1 (by show d.fuse < 0; rw [HI.out.2.2.2.1]; omega)
              have E2 := Lib.hid e2
              clear e2
              go_wp2_with fail
              refine (dsync_any _ _ _ _ _ _ H4.out).mono ?_
              rw [E2.out]
              rintro e w5 ⟨rfl, h5, g5⟩
              have b5 : Below w1.heap.size w4 w5 := (grown2.ofGrown none g5).below (Nat.le_refl _) (fun k hk => by cases hk) hs4
              have bel5 := bel4.trans (b5.mono s1)
              have own5 := own4.kept g5 (.inr (rowNe own4 H4.out.1 (by decide)))
              have H5 := Lib.hid h5
              clear g5 b5 h5
              obtain ⟨Aa, ca, rfl, hca4, hAa, _⟩ := ownShape own5
              go_wp2_with (at_builtin; refine wpList_append_rdw _ rfl _ _ 22 rfl w5.heap.size 5 i0 (.int .u8 0) 1 Try.underlying22 hi hz0 hz1 hz2 rfl _ _ _ rfl (World.ownsRow_nil _ _ _ _) w5.heap.size Aa T4 ca (bc (flat ls (i + 1))) rfl ?d1 (fun h => (hAa h).2) (Rd.ofOwn own5) (bc_one _) ?c1 ?c2 ?c3 ?_)
              case d1 => rw [bc_len, HT4.out]
              case c1 => unfold maxLen; omega
              case c2 => omega
              case c3 => exact Nat.le_refl _
              intro sv6 w6 own6 g6 o6
              have own6 : w6.ownsRow w5.heap.size 5 1 sv6 T4 (bc (flat ls (i + 1))) := by simpa using own6
              have b6 : Below w5.heap.size w5 w6 := (Below.refl _ _).grown g6 (Nat.le_refl _) (by intro k hk; simp [Value.ownBlock] at hk)
              have bel6 := bel5.trans (b6.mono bel5.size)
              have ap6 := Apart.fresh own5 own6 (Nat.le_refl _)
              have ap7 := (Apart.fresh H5.out.2.2.1 own6 (Nat.le_refl _)).symm
              have H6 := Lib.hid (H5.out.below b6)
              have own5' := belowRow own5 b6
              have own6' := ownMore own6 bel5.size
              have HI6 : Hid (LInv { d with b := flat ls i ++ l, lasts := (flat ls i ++ l).length } (flat ls (i + 1))) := by
                obtain ⟨q1, q2, q3, q4⟩ := HI4.out
                exact ⟨q1, q2, by rw [← HFS.out]; exact Nat.le_refl _, q4⟩
              clear g6 b6 own6 own5 H5 o6 bel5 own4 rows4
              go_wp2_with fail
              go_roundw
              case rel =>
                refine ⟨i + 1, _, _, by omega, by go_num, H6.out, HI6, by rw [← HT4.out]; exact hT4b, by rw [← HT4.out]; exact own5', ?_, ap1, ap7, ap6, bel6⟩
                show w6.ownsRow _ _ _ _ (flat ls i ++ l).length (bc ((flat ls (i + 1)).take (flat ls i ++ l).length))
                rw [← HFS.out, List.take_length, ← HT4.out]
                exact own6'
              case measure => simp [intOf]; omega
          · go_wp2_with fail
            go_roundw
            case rel => exact ⟨i + 1, _, _, by omega, by go_num, H4.out, HI4, by rw [← HT4.out]; exact hT4b, by rw [← HT4.out]; exact own4, by show w4.ownsRow _ _ _ _ d.lasts _; rw [htk.out]; exact rows4, ap1, ap2, ap3, bel4⟩
            case measure => simp [intOf]; omega
      · obtain rfl : i = n := by omega
        obtain ⟨F, hF⟩ : ∃ F, F = flat ls i := ⟨_, rfl⟩
        rw [← hF] at HI hfl rowa rows
        clear hF h2
        have hI := HI.out
        obtain ⟨q, hq1, hq2, hq3⟩ : ∃ q, D.cutB d kept = F.take q ∧ d.lasts ≤ q ∧ q ≤ F.length := by
          refine ⟨d.lasts + (min (max kept 0) ((d.b.length : Int) - d.lasts)).toNat, ?_, by omega, ?_⟩
          · unfold D.cutB; rw [if_neg (by rw [hI.2.2.2.2.2]; decide), hI.2.1]
          · rw [hI.2.1]; have := hI.2.2.1; omega
        have hlF : F.length ≤ 50000 := by omega
        have e1 : D.append { d with down := true } [] = (8, { d with down := true }) := rfl
        have e2 : D.sync { d with down := true } = (8, { d with down := true }) := rfl
        have E1 := Lib.hid e1
        have E2 := Lib.hid e2
        have HQ1 := Lib.hid hq1
        have hs := Nat.le_of_lt (ltAt hd.1)
        have HD := Lib.hid hd
        have ra := rowNe rowa hd.1 (by decide)
        have rs := rowNe rows hd.1 (by decide)
        clear e1 e2 hI hq1 hd
        go_wp2_with fail
        refine (dcut_any _ _ _ _ _ kept wr hs HD.out).mono ?_
        rintro e w8 ⟨g8, bv8, rfl, hg8, h8, h8', gr8⟩
        have b8 : Below w1.heap.size wr w8 := (grown2.ofGrown none gr8).below (Nat.le_refl _) (fun k hk => by cases hk) hs
        have B8 := bel.trans (b8.mono s1)
        have rowa8 := rowa.kept gr8 (.inr ra)
        have rows8 := rows.kept gr8 (.inr rs)
        have hb8 : (D.cut d kept).b = F.take q := HQ1.out
        have H8 := Lib.hid h8
        have H8' := Lib.hid h8'
        have HB8 := Lib.hid hb8
        clear h8 h8' gr8 b8 rowa rows ra rs hb8 HD
        go_wp2_with fail
        refine (dbytes_any _ _ _ _ _ _ H8.out).mono ?_
        rw [HB8.out]
        rintro e w9 ⟨v9, rfl, own9, b9⟩
        have B9 := B8.trans (b9.mono B8.size)
        have H9 := Lib.hid (H8'.out.below b9)
        have s9 := Lib.hid (SlB.ofOwn own9)
        have sa9 := Lib.hid (SlB.ofOwn (belowRow rowa8 b9))
        have hls : (F.take d.lasts).length = d.lasts := by simp; omega
        have ss9 := Lib.hid (SlB.ofOwn (belowRow rows8 b9))
        clear own9 b9 rowa8 rows8 H8 H8'
        go_wp2_with fail
        refine (begins_s ss9.out s9.out (by simp; omega) (by rw [hls, List.take_take, Nat.min_eq_left hq2]) (by simp; omega)).mono ?_
        rintro e w10 ⟨rfl, k10, rfl⟩
        go_wp2_with fail
        refine (begins_s (s9.out.drewN k10) (sa9.out.drewN k10) (by omega) (by rw [List.length_take, Nat.min_eq_left hq3]) (by simp; omega)).mono ?_
        rintro e w11 ⟨rfl, k11, rfl⟩
        have HB9 := Lib.hid B9
        have hs9 : w1.heap.size ≤ w9.heap.size := Nat.le_of_lt (ltAt H9.out.1)
        clear B9
        go_wp2_with fail
        refine (dappend_any _ _ _ _ _ none 0 [] _ (by simp; omega) (H9.out.drewN _) (fun w' hw => SlB.nil)).mono ?_
        rw [E1.out]
        rintro e w12 ⟨bv12, rv12, rfl, h12, g12, _⟩
        have b12 : Below w1.heap.size w9 w12 := belowOfDrewN (g12.below (Nat.le_refl _) (fun k hk => (H9.out.2.2.1.lt k hk).1) (by simp; omega))
        have B12 := HB9.out.trans (b12.mono s1)
        have H12 := Lib.hid h12
        have hs12 : w1.heap.size ≤ w12.heap.size := Nat.le_of_lt (ltAt h12.1)
        clear g12 b12 h12
        go_wp2_with fail
        refine (dsync_any _ _ _ _ _ _ H12.out).mono ?_
        rw [E2.out]
        rintro e w13 ⟨rfl, h13, g13⟩
        have b13 : Below w1.heap.size w12 w13 := (grown2.ofGrown none g13).below (Nat.le_refl _) (fun k hk => by cases hk) hs12
        have B13 := B12.trans (b13.mono s1)
        clear g13 h13 b13
        go_wp2_with fail
        go_ret
        exact ⟨rfl, B13⟩

theorem diskLasts_walk (W : World) (v0 v1 v2 : Value) (h0 : Arg W 48 v0) (h1 : Arg W 49 v1) (h2 : Arg W 3 v2) :
    Calls Try.prog 6 #[v0, v1, v2] W fun e W' => e = .returned (.bool true) ∧ Below W.heap.size W W' := by
  obtain ⟨A, c, ls, rfl, hm, hs⟩ := h0.lists
  obtain ⟨A', c', bs, rfl, hbc, hbm, hb⟩ := h1.bools
  obtain ⟨k, rfl, _⟩ := h2.i64 Try.underlying3
  exact dlasts k A A' c c' ls bs W hm hbm hs hb hbc
end Go.Proofs.Ytmlchhfahpcohaa
