/- The walk of the law BallotMost. -/
import Derived.Test.YtfpblaggnehnoaaBallotMostW
import Derived.Lib.OwnKind
namespace Go.Proofs.Ytfpblaggnehnoaa
open Go.RowKit
set_option linter.unusedSimpArgs false
set_option linter.unusedVariables false

theorem info_bal : (Try.prog.info? 27).map (fun i => (i.zero, i.size, i.bytes)) = some (some (.agg #[.int .u32 0, .int .i64 0]), 2, 16) := by kernel_rfl
theorem info_rbal : (Try.prog.info? 28).map (fun i => (i.zero, i.size, i.bytes)) = some (some (.agg #[.int .u32 0, .int .i64 0]), 2, 16) := by kernel_rfl

theorem Arg.bals {W : World} {v : Value} (h : Arg W 22 v) : ∃ (A : Option Addr) (c : Nat) (fl : List Bl), v = .slice A fl.length c ∧ fl.length ≤ c ∧ c ≤ maxLen ∧ BalsAt W W.heap.size A fl := by
  obtain ⟨A, n, c, rfl, hc⟩ := h.slice Try.underlying22
  obtain ⟨hn, hm, hA, hat⟩ := hc.sliceAt Try.underlying22 2 cells27 (by omega)
  by_cases h0 : 0 < n
  · obtain ⟨b, off, rfl, hb, hi⟩ := hat h0
    have hex : ∀ i, ∃ f : Bl, i < n → (W.cell? ⟨b, off + i * 2, none⟩ = some (.int .u32 (f.1 : Int)) ∧ W.cell? ⟨b, off + i * 2 + 1, none⟩ = some (.int .i64 f.2)) := by
      intro i
      by_cases hlt : i < n
      · obtain ⟨cs', _, hce, hj⟩ := hi i hlt
        obtain ⟨r, k, rfl, _⟩ := hce.bal
        exact ⟨(r, k), fun _ => ⟨hj 0 (by omega), hj 1 (by omega)⟩⟩
      · exact ⟨(0, 0), fun h => absurd h hlt⟩
    refine ⟨some ⟨b, off, none⟩, c, (List.range n).map fun i => (hex i).choose, by simp, by simpa using hn, hm, fun i f hf => ?_⟩
    have hlt : i < n := by have := (List.getElem?_eq_some_iff.1 hf).1; simpa using this
    have hfe : f = (hex i).choose := by simpa [hlt] using hf.symm
    subst hfe
    exact ⟨b, off, rfl, hb, (hex i).choose_spec hlt⟩
  · obtain rfl : n = 0 := by omega
    exact ⟨A, c, [], rfl, by simp, hm, fun i f hf => by simp at hf⟩

theorem twoAt (w : World) (u v : Value) (e : TypeId) : ∀ j x, ([u, v] : List Value)[j]? = some x → (w.alloc (.cells #[u, v] e)).cell? ((⟨w.heap.size, 0, none⟩ : Addr).add j) = some x := by
  intro j x hj
  match j, hj with
  | 0, hj => simp at hj; subst hj; simp [Addr.add]
  | 1, hj => simp at hj; subst hj; simp [Addr.add]

theorem own_len {w : World} {base e : Nat} {v : Value} {l : List Bl} {n : Nat} (h : w.ownsRow base e 2 v n (balCells l)) : n = l.length := by
  have := h.1; rw [balCells_len] at this; omega

theorem own_ne {w : World} {B e s n B' e' s' n' : Nat} {u v : Value} {xs ys : List Value} (hu : w.ownsRow B e s u n xs) (hv : w.ownsRow B' e' s' v n' ys) (hne : e' ≠ e) : v.ownBlock = none ∨ v.ownBlock ≠ u.ownBlock := by
  cases hb : v.ownBlock with
  | none => exact Or.inl rfl
  | some g =>
    refine Or.inr fun h => ?_
    obtain ⟨c1, f1, h1⟩ := Lib.ownsRow_kind hv g hb
    obtain ⟨c2, f2, h2⟩ := Lib.ownsRow_kind hu g (h ▸ rfl)
    rw [h1] at h2
    injection h2 with h2
    injection h2 with _ h3
    exact hne h3

theorem balShape {w : World} {base e : Nat} {v : Value} {l : List Bl} (h : w.ownsRow base e 2 v l.length (balCells l)) : ∃ (A : Option Addr) (c : Nat), v = .slice A l.length c ∧ l.length ≤ c ∧ BalsAt w w.heap.size A l := by
  rcases h.2 with ⟨hv, h0⟩ | ⟨g, cap, cur, hv, _, _, hle, _⟩
  · exact ⟨none, 0, by rw [hv, h0], by omega, fun i f hf => by have := (List.getElem?_eq_some_iff.1 hf).1; omega⟩
  · subst hv
    exact ⟨_, cap, rfl, hle, BalsAt.ofOwn h⟩

set_option maxHeartbeats 3200000 in
theorem bmost_mid (A : Option Addr) (c : Nat) (l : List Bl) (w : World) (hc : l.length ≤ c) (hm : c ≤ maxLen) (hf : BalsAt w w.heap.size A l) :
    Calls Try.prog 3 #[.slice A l.length c] w fun e w' => e = .returned (.bool true) ∧ Below w.heap.size w w' := by
  obtain ⟨i1, hi1, hz10, hz11, hz12⟩ := info_parts info_bal
  obtain ⟨i2, hi2, hz20, hz21, hz22⟩ := info_parts info_rbal
  obtain ⟨n, hn⟩ : ∃ n, n = l.length := ⟨_, rfl⟩
  have HN := Lib.hid hn
  rw [← hn] at hc ⊢
  clear hn
  unfold maxLen at hm
  by_cases hl : 100 < n
  · go_enter Try.func3, Try.ntmps3
    go_wp2_with fail
    refine (b_awake _).mono ?_
    rintro e w1 ⟨rfl, hb1⟩
    go_wp2_with fail
    refine (b_awake _).mono ?_
    rintro e w2 ⟨rfl, hb2⟩
    go_wp2_with fail
    go_ret
    exact ⟨rfl, hb1.trans (hb2.mono hb1.size)⟩
  · have hn100 : n ≤ 100 := by omega
    go_enter Try.func3, Try.ntmps3
    go_wp2_with fail
    refine (b_awake _).mono ?_
    rintro e w1 ⟨rfl, hb1⟩
    go_wp2_with fail
    go_loopw [3, 4, 5] (fun u v i wr => ∃ k : Nat, k ≤ n ∧ i = .int .i64 (k : Int) ∧ wr.ownsRow w.heap.size 27 2 u k (balCells (l.take k)) ∧ wr.ownsRow w.heap.size 28 2 v k (balCells (l.take k)) ∧ Below w.heap.size w wr) (fun _ _ i _ => n - (intOf i).toNat)
    case atStart => exact ⟨0, Nat.zero_le _, rfl, World.ownsRow_nil _ _ _ _, World.ownsRow_nil _ _ _ _, hb1⟩
    case round =>
      obtain ⟨k, hk, rfl, hu, hv, hbel⟩ := hrel
      by_cases hlt : k < n
      · have hkl : k < l.length := by rw [← HN.out]; exact hlt
        obtain ⟨b, off, rfl, hb, c0, c1⟩ := (hf.below hbel (Nat.le_refl _)) k _ (List.getElem?_eq_getElem hkl)
        have HK : Hid (l.take (k + 1) = l.take k ++ [l[k]'hkl]) := List.take_succ_eq_append_getElem hkl
        generalize l[k] = x at *
        obtain ⟨xr, xn⟩ := x
        simp only at c0 c1
        go_wp2_with (at_builtin; refine wpList_append_own _ rfl (.tmp 20) (.tmp 25) 22 rfl w.heap.size 27 i1 (.agg #[.int .u32 0, .int .i64 0]) 2 16 Try.underlying22 hi1 hz10 hz11 hz12 rfl (by decide) _ _ _ rfl (hu.alloc _) ⟨wr.heap.size, 0, none⟩ 1 1 [.int .u32 (xr : Int), .int .i64 xn] rfl rfl ?c1 ?c2 ?c3 ?c4 ?c5 ?_)
        case c1 => exact twoAt _ _ _ _
        case c2 => intro u hu; simp at hu; rcases hu with rfl | rfl <;> rfl
        case c3 => unfold maxLen; omega
        case c4 => omega
        case c5 => have := hbel.size; simp; omega
        intro u' w2 hu' hg2 _
        have hv2 := (hv.alloc (.cells #[.int .u32 (xr : Int), .int .i64 xn] 27)).kept hg2 (own_ne hu hv (by decide))
        have hbel2 := (hbel.alloc hbel.size (.cells #[.int .u32 (xr : Int), .int .i64 xn] 27)).grown hg2 (by have := hbel.size; simp; omega) (fun g hg => (hu.lt g hg).1)
        have c0' := hg2.cell (cellA (o := .cells #[.int .u32 (xr : Int), .int .i64 xn] 27) c0) (fun h => by have := (hu.lt b h.symm).1; omega)
        have c1' := hg2.cell (cellA (o := .cells #[.int .u32 (xr : Int), .int .i64 xn] 27) c1) (fun h => by have := (hu.lt b h.symm).1; omega)
        clear hg2
        go_wp2_with (at_builtin; refine wpList_append_own _ rfl (.tmp 27) (.tmp 32) 24 rfl w.heap.size 28 i2 (.agg #[.int .u32 0, .int .i64 0]) 2 16 Try.underlying24 hi2 hz20 hz21 hz22 rfl (by decide) _ _ _ rfl (hv2.alloc _) ⟨w2.heap.size, 0, none⟩ 1 1 [.int .u32 (xr : Int), .int .i64 xn] rfl rfl ?c1 ?c2 ?c3 ?c4 ?c5 ?_)
        case c1 => exact twoAt _ _ _ _
        case c2 => intro u hu; simp at hu; rcases hu with rfl | rfl <;> rfl
        case c3 => unfold maxLen; omega
        case c4 => omega
        case c5 => have := hbel2.size; simp; omega
        intro v' w3 hv' hg3 _
        have hu3 := (hu'.alloc (.cells #[.int .u32 (xr : Int), .int .i64 xn] 28)).kept hg3 (own_ne hv2 hu' (by decide))
        have hbel3 := (hbel2.alloc (by have := hbel2.size; omega) (.cells #[.int .u32 (xr : Int), .int .i64 xn] 28)).grown hg3 (by have := hbel2.size; simp; omega) (fun g hg => (hv2.lt g hg).1)
        clear hg3
        go_wp2_with fail
        go_roundw
        case rel => exact ⟨k + 1, by omega, by go_num, by rw [HK.out, balCells_snoc]; exact hu3, by rw [HK.out, balCells_snoc]; exact hv', hbel3⟩
        case measure => simp [intOf]; omega
      · obtain rfl : k = n := by omega
        have hn' := HN.out
        subst hn'
        rw [List.take_length] at hu hv
        obtain ⟨A1, q1, rfl, hq1, hB1⟩ := balShape hu
        obtain ⟨A2, q2, rfl, hq2, hB2⟩ := balShape hv
        clear hu hv
        go_wp2_with fail
        refine (most_any A1 q1 l _ _ (by omega) hq1 hB1 (Nat.le_refl _)).mono ?_
        rintro e w3 ⟨rfl, hb3⟩
        go_wp2_with fail
        refine (rmost_any A2 q2 l _ _ (by omega) hq2 (hB2.below hb3 (Nat.le_refl _)) hb3.size).mono ?_
        rintro e w4 ⟨rfl, hb4⟩
        generalize B.most l = m
        obtain ⟨mr, mn⟩ := m
        show _
        go_wp2_with fail
        go_ret
        exact ⟨rfl, (hbel.trans (hb3.mono hbel.size)).trans (hb4.mono (Nat.le_trans hbel.size hb3.size))⟩

theorem ballotMost_walk (W : World) (v0 : Value) (h0 : Arg W 22 v0) :
    Calls Try.prog 3 #[v0] W fun e W' => e = .returned (.bool true) ∧ Below W.heap.size W W' := by
  obtain ⟨A, c, fl, rfl, h1, h2, h3⟩ := h0.bals
  exact bmost_mid A c fl W h1 h2 h3
end Go.Proofs.Ytfpblaggnehnoaa
