/- The walk of the law FrameApart. -/
import Derived.Test.YtmlchhfahpcohaaFrameReads
namespace Go.Proofs.Ytmlchhfahpcohaa
open Go.RowKit
set_option linter.unusedSimpArgs false
set_option linter.unusedVariables false

/-- a slice of bytes that came in, cut behind its first bytes -/
theorem SlB.first {w : World} {B n c k : Nat} {A : Option Addr} {l : List UInt8} (h : SlB w B (.slice A n c) l) (hk : k ≤ n) : SlB w B (.slice A k c) (l.take k) := by
  obtain ⟨A', c', e, h1, h2, h3, h4⟩ := h
  injection e with e1 e2 e3
  subst e1; subst e2; subst e3
  have hl : (l.take k).length = k := by rw [List.length_take]; omega
  refine ⟨A, c, by rw [hl], by rw [hl]; omega, h2, fun h => ?_, by rw [← bc_take]; exact h4.take k⟩
  obtain ⟨rfl, rfl⟩ := h3 h
  simp
theorem SlB.parts {w : World} {B n c : Nat} {A : Option Addr} {l : List UInt8} (h : SlB w B (.slice A n c) l) : n = l.length ∧ n ≤ c ∧ c ≤ maxLen ∧ (A = none → c = 0) ∧ Rd w B A (bc l) := by
  obtain ⟨A', c', e, h1, h2, h3, h4⟩ := h
  injection e with e1 e2 e3
  subst e1; subst e2; subst e3
  exact ⟨rfl, h1, h2, fun h => (h3 h).2, h4⟩
theorem cut_parts {w : World} {B n c k : Nat} {A : Option Addr} {l : List UInt8} (h : SlB w B (.slice A n c) l) (hk : k ≤ n) : (bc (l.take k)).length = k ∧ (A = none → c = 0) ∧ Rd w B A (bc (l.take k)) := by
  obtain ⟨h1, _, _, h2, h3⟩ := (h.first hk).parts
  exact ⟨by rw [bc_len]; exact h1.symm, h2, h3⟩
theorem rows_append {w : World} {base : Nat} {v : Value} {l : List UInt8} {n m : Nat} (hn : n = l.length) (h : w.ownsRow base 5 1 v m (bc l)) : w.ownsRow base 5 1 v n (bc l) := by
  have := h.1
  rw [bc_len] at this
  obtain rfl : m = n := by omega
  exact h

theorem own_far {w w' : World} {B B'' e e' n n' : Nat} {u v : Value} {xs ys : List Value} (hu : w'.ownsRow B'' e 1 u n xs) (hB : w'.heap.size ≤ B) (hv : w.ownsRow B e' 1 v n' ys) : v.ownBlock = none ∨ v.ownBlock ≠ u.ownBlock := by
  cases hb : v.ownBlock with
  | none => exact .inl rfl
  | some g =>
    refine .inr fun h => ?_
    have h1 := (hv.lt g hb).1
    have h2 := (hu.lt g h.symm).2
    omega

set_option maxHeartbeats 1600000 in
theorem fapart (A A' : Option Addr) (c c' : Nat) (l m : List UInt8) (w : World) (h : SlB w w.heap.size (.slice A l.length c) l) (g : SlB w w.heap.size (.slice A' m.length c') m) :
    Calls Try.prog 8 #[.slice A l.length c, .slice A' m.length c'] w fun e w' => e = .returned (.bool true) ∧ Below w.heap.size w w' := by
  by_cases hl : 70000 < l.length ∨ 70000 < m.length
  · clear h g
    generalize l.length = n at *
    generalize m.length = n' at *
    by_cases h1 : 70000 < n
    · clear hl
      go_enter Try.func8, Try.ntmps8
      go_wp2_with fail
      refine (f_awake _).mono ?_
      rintro e w1 ⟨rfl, hb1⟩
      go_wp2_with fail
      refine (f_awake _).mono ?_
      rintro e w2 ⟨rfl, hb2⟩
      go_wp2_with fail
      go_ret
      exact ⟨rfl, hb1.trans (hb2.mono hb1.size)⟩
    · have h2 : 70000 < n' := by omega
      clear hl
      go_enter Try.func8, Try.ntmps8
      go_wp2_with fail
      refine (f_awake _).mono ?_
      rintro e w1 ⟨rfl, hb1⟩
      go_wp2_with fail
      refine (f_awake _).mono ?_
      rintro e w2 ⟨rfl, hb2⟩
      go_wp2_with fail
      go_ret
      exact ⟨rfl, hb1.trans (hb2.mono hb1.size)⟩
  · obtain ⟨i0, hi, hz0, hz1, hz2⟩ := info_parts info_u8
    obtain ⟨i1, hj, hy0, hy1, hy2⟩ := info_parts info_sl
    have hl1 : l.length ≤ 70000 := by omega
    have hl2 : m.length ≤ 70000 := by omega
    have hC1 := F.all_count l
    have hC2 := F.all_count m
    have hL1 := F.all_le l
    have hL2 := F.all_le m
    have hAP := F.all_app l m
    have hM1 := F.all_mem l
    have hM2 := F.all_mem m
    obtain ⟨p, hp⟩ : ∃ p, p = F.all l := ⟨_, rfl⟩
    obtain ⟨q, hq⟩ : ∃ q, q = F.all m := ⟨_, rfl⟩
    have HX1 : Hid (∀ w' B, SlB w' B (.slice A l.length c) l → B ≤ w'.heap.size → Calls Try.prog 45 #[.slice A l.length c] w' (MadeLs w' p)) := fun w' B h hB => by rw [hp]; exact all_s h (by omega) hB
    have HX2 : Hid (∀ w' B, SlB w' B (.slice A' m.length c') m → B ≤ w'.heap.size → Calls Try.prog 45 #[.slice A' m.length c'] w' (MadeLs w' q)) := fun w' B h hB => by rw [hq]; exact all_s h (by omega) hB
    rw [← hp] at hC1 hL1 hM1 hAP
    rw [← hq] at hC2 hL2 hM2 hAP
    clear hp hq
    obtain ⟨ls, a1⟩ := p
    obtain ⟨ms, a2⟩ := q
    simp only at hC1 hL1 hC2 hL2 hAP hM1 hM2
    have hx : ∀ x ∈ ls ++ ms, x.length ≤ 70000 := fun x hx => by
      rcases List.mem_append.1 hx with h | h
      · have := hM1 x h; omega
      · have := hM2 x h; omega
    have HM := Lib.hid hx
    have hlen : (l.take a1 ++ m).length ≤ 140000 := by simp; omega
    have HLEN := Lib.hid hlen
    have HX3 : Hid (∀ w' B v, SlB w' B v (l.take a1 ++ m) → B ≤ w'.heap.size → Calls Try.prog 45 #[v] w' (MadeLs w' (ls ++ ms, a1 + a2))) := fun w' B v h hB => by rw [← hAP]; exact all_s h (by omega) hB
    have H1 := Lib.hid h
    have H2 := Lib.hid g
    have HC1 := Lib.hid (fun w' (b : Below w.heap.size w w') => cut_parts (h.below b) hL1)
    have HC2 := Lib.hid (fun w' (b : Below w.heap.size w w') => (g.below b).parts)
    have HTL : Hid ((l.take a1).length = a1) := by show _ = _; rw [List.length_take]; omega
    have hca : l.length ≤ c := h.parts.2.1
    have hca2 := h.parts.2.2.1
    unfold maxLen at hca2
    clear hM1 hM2 hx hlen hAP hl h g
    obtain ⟨n, hn⟩ : ∃ n, n = l.length := ⟨_, rfl⟩
    obtain ⟨n', hn'⟩ : ∃ n', n' = m.length := ⟨_, rfl⟩
    have HN := Lib.hid hn
    have HN' := Lib.hid hn'
    rw [← hn] at HX1 H1 hL1 hl1 hca ⊢
    rw [← hn'] at HX2 H2 hL2 hl2 ⊢
    clear hn hn'
    have hz : (0 : Int) ≤ (a1 : Int) := by omega
    have hz2' : (a1 : Int) ≤ (c : Int) := by omega
    go_enter Try.func8, Try.ntmps8
    go_wp2_with fail
    refine (f_awake _).mono ?_
    rintro e w1 ⟨rfl, b1⟩
    go_wp2_with fail
    refine (HX1.out w1 _ (H1.out.below b1) b1.size).mono ?_
    rintro e w2 ⟨v2, vs, rfl, own2, O2, b2⟩
    have own2 := ownMore own2 b1.size
    have b2' := b1.trans (b2.mono b1.size)
    go_wp2_with fail
    refine (HX2.out w2 _ (H2.out.below b2') b2'.size).mono ?_
    rintro e w3 ⟨v3, us, rfl, own3, O3, b3⟩
    have b3' := b2'.trans (b3.mono b2'.size)
    have own2 := ownKept own2 b3
    have O2 := O2.kept b3
    clear b1 b2 b3 b2'
    go_wp2_with (at_builtin; refine wpList_append_rd _ rfl _ _ 22 rfl w3.heap.size 5 i0 (.int .u8 0) 1 Try.underlying22 hi hz0 hz1 hz2 rfl _ _ _ rfl (World.ownsRow_nil _ _ _ _) w.heap.size A a1 c (bc (l.take a1)) rfl (HC1.out _ b3').1 (HC1.out _ b3').2.1 (HC1.out _ b3').2.2 (bc_one _) ?c1 ?c2 ?c3 ?_)
    case c1 => unfold maxLen; omega
    case c2 => omega
    case c3 => exact Nat.le_refl _
    intro v4 w4 own4 g4
    have own4 : w4.ownsRow w3.heap.size 5 1 v4 a1 (bc (l.take a1)) := by simpa using own4
    have b4 : Below w3.heap.size w3 w4 := (Below.refl _ _).grown g4 (Nat.le_refl _) (by intro k hk; simp [Value.ownBlock] at hk)
    have b4' := b3'.trans (b4.mono b3'.size)
    clear g4
    go_wp2_with (at_builtin; refine wpList_append_rd _ rfl _ _ 22 rfl w3.heap.size 5 i0 (.int .u8 0) 1 Try.underlying22 hi hz0 hz1 hz2 rfl _ _ _ rfl own4 w.heap.size A' n' c' (bc m) rfl ?d1 (HC2.out _ b4').2.2.2.1 (HC2.out _ b4').2.2.2.2 (bc_one _) ?c1 ?c2 ?c3 ?_)
    case d1 => rw [bc_len]; exact HN'.out.symm
    case c1 => unfold maxLen; omega
    case c2 => omega
    case c3 => exact b4.size
    intro v5 w5 own5 g5
    have b5 : Below w3.heap.size w3 w5 := b4.grown g5 b4.size (fun k hk => (own4.lt k hk).1)
    have b5' := b3'.trans (b5.mono b3'.size)
    have s5 : SlB w5 w5.heap.size v5 (l.take a1 ++ m) := SlB.ofOwn (by rw [bc_app]; exact own5)
    have own2 := ownKept own2 b5
    have O2 := O2.kept b5
    have own3 := ownKept own3 b5
    have O3 := O3.kept b5
    clear g5 own4 own5 b4 b4' b5 b3'
    go_wp2_with fail
    refine (HX3.out w5 _ _ s5 (Nat.le_refl _)).mono ?_
    rintro e w6 ⟨v6, xs, rfl, own6, O6, b6⟩
    have b6' := b5'.trans (b6.mono b5'.size)
    have own2' := own2
    have own2 := ownKept own2 b6
    have O2 := O2.kept b6
    have own3 := ownKept own3 b6
    have O3 := O3.kept b6
    obtain ⟨A3, c3, rfl, hc3, hA3, hm3⟩ := ownShape own3
    go_wp2_with (at_builtin; refine wpList_append_rd _ rfl _ _ 48 rfl w.heap.size 22 i1 (.slice none 0 0) 24 Try.underlying48 hj hy0 hy1 hy2 rfl _ _ _ rfl own2 w6.heap.size A3 ms.length c3 us rfl O3.1 (fun h => (hA3 h).2) (Rd.ofOwn own3) O3.reads.cell ?c1 ?c2 ?c3 ?_)
    case c1 => unfold maxLen; omega
    case c2 => omega
    case c3 => exact b6'.size
    intro v7 w7 own7 g7
    have b7 : Below w.heap.size w w7 := b6'.grown g7 b6'.size (fun k hk => (own2.lt k hk).1)
    have own6' := own6.kept g7 (own_far own2' (Nat.le_refl _) own6)
    have O6' : SlBs w7 w7.heap.size xs (ls ++ ms) := (O6.grown own2 (by decide) g7).reads
    have O7 : SlBs w7 w7.heap.size (vs ++ us) (ls ++ ms) := (O2.grown own2 (by decide) g7).reads.app (O3.grown own2 (by decide) g7).reads
    have S6 := SlL.ofOwn own6' O6' (Nat.le_refl _)
    have S7 := SlL.ofOwn own7 O7 (Nat.le_refl _)
    clear own2 own2' O2 own3 O3 own6 O6 own7 g7 own6' O6' O7 b6 b6' b5'
    go_wp2_with fail
    refine (sames_s S6 S7 (fun x hx => by have := HM.out x hx; omega) (by simp; omega)).mono ?_
    rintro e w8 ⟨rfl, k8, rfl⟩
    go_wp2_with fail
    go_ret
    exact ⟨rfl, belowDrewN b7 _⟩

theorem frameApart_walk (W : World) (v0 v1 : Value) (h0 : Arg W 22 v0) (h1 : Arg W 22 v1) :
    Calls Try.prog 8 #[v0, v1] W fun e W' => e = .returned (.bool true) ∧ Below W.heap.size W W' := by
  obtain ⟨A, c, l, rfl, hc, hm, hA, hr⟩ := h0.bytes Try.underlying22
  obtain ⟨A', c', l', rfl, hc', hm', hA', hr'⟩ := h1.bytes Try.underlying22
  exact fapart A A' c c' l l' W ⟨A, c, rfl, hc, hm, hA, hr⟩ ⟨A', c', rfl, hc', hm', hA', hr'⟩
end Go.Proofs.Ytmlchhfahpcohaa
