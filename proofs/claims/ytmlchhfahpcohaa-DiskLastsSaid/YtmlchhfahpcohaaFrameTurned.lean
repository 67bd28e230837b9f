/- The walk of the law FrameTurned. -/
import Derived.Test.YtmlchhfahpcohaaFrameApart
import Derived.Test.YtmlchhfahpcohaaFrameTurnP
import Derived.Laws.OwnMore
namespace Go.Proofs.Ytmlchhfahpcohaa
open Go.RowKit Go.ChangeShapes Go.WideShapes Go.ChangeAt
set_option linter.unusedSimpArgs false
set_option linter.unusedVariables false

theorem Arg.u16 {W : World} {t : TypeId} {v : Value} (h : Arg W t v) (ht : Try.prog.underlying t = some (.int .u16)) : ∃ a : Nat, v = .int .u16 a ∧ a < 65536 := by
  obtain ⟨a, rfl, w⟩ := h.int ht
  have := bounds_u16 w
  exact ⟨a.toNat, by rw [Int.toNat_of_nonneg this.1], by omega⟩
theorem Arg.four {W : World} {t e : TypeId} {v : Value} (h : Arg W t v) (ht : Try.prog.underlying t = some (.array 4 e)) (he : Try.prog.underlying e = some (.int .u8)) (hce : Try.prog.cellsOf e = 1) (hct : Try.prog.cellsOf t = 4) :
    ∃ bs : List UInt8, v = .agg (bc bs).toArray ∧ bs.length = 4 := by
  obtain ⟨⟨cs⟩, rfl, hc⟩ := h.array ht
  have hl := hc.lenA ht
  rw [hct] at hl
  match cs, hl with
  | [a, b, c, d], _ =>
    have h0 := hc.elem ht 0 (by omega)
    have h1 := hc.elem ht 1 (by omega)
    have h2 := hc.elem ht 2 (by omega)
    have h3 := hc.elem ht 3 (by omega)
    rw [hce] at h0 h1 h2 h3
    obtain ⟨x, e0, hx⟩ := h0.u8 he
    obtain ⟨y, e1, hy⟩ := h1.u8 he
    obtain ⟨z, e2, hz⟩ := h2.u8 he
    obtain ⟨u, e3, hu⟩ := h3.u8 he
    simp at e0 e1 e2 e3
    subst e0; subst e1; subst e2; subst e3
    have f : ∀ n : Nat, n < 256 → ((UInt8.ofNat n).toNat : Int) = (n : Int) := fun n hn => by rw [UInt8.toNat_ofNat']; omega
    exact ⟨[UInt8.ofNat x, UInt8.ofNat y, UInt8.ofNat z, UInt8.ofNat u], by simp only [bc, List.map, f x hx, f y hy, f z hz, f u hu], rfl⟩

theorem u8xor (a b : UInt8) : bits BinOp.xor IntKind.u8 (a.toNat : Int) (b.toNat : Int) = ((a ^^^ b).toNat : Int) := by
  have h := u8_xor_nat a.toNat b.toNat a.toNat_lt b.toNat_lt
  rw [h, UInt8.toNat_xor]

theorem bc_set (hd m : List UInt8) (q k : Nat) (z : UInt8) (hq : q = hd.length + k) : (bc (hd ++ m)).set q (.int .u8 (z.toNat : Int)) = bc (hd ++ m.set k z) := by
  subst hq
  rw [bc_app, bc_app, List.set_append_right _ _ (by rw [bc_len]; omega), bc_len, Nat.add_sub_cancel_left]
  unfold bc
  rw [List.map_set]

set_option maxHeartbeats 3200000 in
theorem fturned (A : Option Addr) (c : Nat) (l : List UInt8) (a : Nat) (bs : List UInt8) (w : World) (ha : a < 65536) (hb4 : bs.length = 4) (h : SlB w w.heap.size (.slice A l.length c) l) :
    Calls Try.prog 9 #[.slice A l.length c, .int .u16 (a : Int), .agg (bc bs).toArray] w fun e w' => e = .returned (.bool true) ∧ Below w.heap.size w w' := by
  by_cases hl : l.length = 0 ∨ 1000 < l.length
  · clear h
    generalize l.length = n at *
    by_cases h1 : 1000 < n
    · clear hl
      go_enter Try.func9, Try.ntmps9
      go_wp2_with fail
      refine (f_awake _).mono ?_
      rintro e w1 ⟨rfl, hb1⟩
      go_wp2_with fail
      refine (f_awake _).mono ?_
      rintro e w2 ⟨rfl, hb2⟩
      go_wp2_with fail
      go_ret
      exact ⟨rfl, (((Below.refl _ _).alloc (Nat.le_refl _) _).trans (hb1.mono (by simp))).trans (hb2.mono (by have := hb1.size; simp at this; omega))⟩
    · obtain rfl : n = 0 := by omega
      clear hl
      go_enter Try.func9, Try.ntmps9
      go_wp2_with fail
      refine (f_awake _).mono ?_
      rintro e w1 ⟨rfl, hb1⟩
      go_wp2_with fail
      refine (f_awake _).mono ?_
      rintro e w2 ⟨rfl, hb2⟩
      go_wp2_with fail
      go_ret
      exact ⟨rfl, (((Below.refl _ _).alloc (Nat.le_refl _) _).trans (hb1.mono (by simp))).trans (hb2.mono (by have := hb1.size; simp at this; omega))⟩
  · have hl1 : l.length ≤ 1000 := by omega
    have hl0 : 0 < l.length := by omega
    have hpe : F.wrap l = ((C.be l.length 4 ++ C.be (F.sum l) 4) ++ l, 0) := by unfold F.wrap; rw [if_neg (by omega)]
    obtain ⟨hd, hhd⟩ : ∃ hd, hd = C.be l.length 4 ++ C.be (F.sum l) 4 := ⟨_, rfl⟩
    have hd8 : hd.length = 8 := by rw [hhd]; simp [C.be_len]
    rw [← hhd] at hpe
    have HX1 : Hid (∀ w' B, SlB w' B (.slice A l.length c) l → B ≤ w'.heap.size → Calls Try.prog 32 #[.slice A l.length c] w' (MadeE w' (hd ++ l, 0))) := fun w' B h hB => by rw [← hpe]; exact wrap_s h (by omega) hB
    have HU : Hid (∀ m k, m.length = l.length → (∀ i, i < k ∨ k + 4 ≤ i → m[i]? = l[i]?) → F.unwrap (hd ++ m) = if m = l then (l, 8 + l.length, 0) else ([], 0, 5)) := fun m k h1 h2 => by
      rw [hhd]; exact F.unwrap_turned l m k (by omega) h1 h2
    have HD := Lib.hid hd8
    have HB := Lib.hid hb4
    have H1 := Lib.hid h
    clear hpe hhd hl h hd8 hb4
    obtain ⟨n, hn⟩ : ∃ n, n = l.length := ⟨_, rfl⟩
    have HN := Lib.hid hn
    rw [← hn] at HX1 H1 hl1 hl0 ⊢
    clear hn
    obtain ⟨k, hk⟩ : ∃ k, k = a % n := ⟨_, rfl⟩
    have hkn : k < n := by rw [hk]; exact Nat.mod_lt _ hl0
    have hke : (a : Int) % (n : Int) = (k : Int) := by rw [hk]; simp
    have HK := Lib.hid hke
    clear hk hke
    have hn0 : ((n : Int) == 0) = false := by simp; omega
    go_enter Try.func9, Try.ntmps9
    go_wp2_with fail
    refine (f_awake _).mono ?_
    rintro e w1 ⟨rfl, hb1⟩
    have hby : ∀ i b, bs[i]? = some b → w1.cell? ⟨w.heap.size, i, none⟩ = some (.int .u8 (b.toNat : Int)) := fun i b hi => by
      rw [hb1.cell (by simp)]
      have := rdAlloc w (bc bs) 62 (0, 0) i (.int .u8 (b.toNat : Int)) (by simp [bc, hi])
      obtain ⟨b', off, e1, _, e2⟩ := this
      injection e1 with e1
      injection e1 with e3 e4
      subst e3; subst e4
      simpa using e2
    have b1 : Below w.heap.size w w1 := ((Below.refl _ _).alloc (Nat.le_refl _) _).trans (hb1.mono (by simp))
    have z1 : w.heap.size + 1 ≤ w1.heap.size := by have := hb1.size; simpa using this
    have HBY := Lib.hid hby
    clear hb1 hby
    go_wp2_with fail
    refine (HX1.out w1 _ (H1.out.below b1) b1.size).mono ?_
    rintro e w2 ⟨v2, rfl, own2, b2⟩
    have own2 : w2.ownsRow w1.heap.size 5 1 v2 (8 + n) (bc (hd ++ l)) := by
      have e : (hd ++ l).length = 8 + n := by rw [List.length_append, HD.out, ← HN.out]
      rw [← e]; exact own2
    have HBY2 : Hid (∀ i b, bs[i]? = some b → w2.cell? ⟨w.heap.size, i, none⟩ = some (.int .u8 (b.toNat : Int))) := fun i b hi => cellB b2 (HBY.out i b hi)
    have b2' := b1.trans (b2.mono b1.size)
    obtain ⟨g, cap, rfl, hg, hcap, hcm⟩ : ∃ g cap, v2 = .slice (some ⟨g, 0, none⟩) (8 + n) cap ∧ w1.heap.size ≤ g ∧ 8 + n ≤ cap ∧ cap ≤ maxLen := by
      rcases own2.2 with ⟨_, h0⟩ | ⟨g, cap, cur, hv, hg, _, hc, hm, _⟩
      · omega
      · exact ⟨g, cap, hv, hg, hc, hm⟩
    clear HBY b1 b2
    go_wp2_with fail
    rw [HK.out]
    have hw8 : wrap64 (8 + (k : Int)) = ((8 + k : Nat) : Int) := by
      rw [IntWalk.wrap64_in _ (by omega)]; omega
    rw [hw8]
    clear hw8
    obtain ⟨q, hq⟩ : ∃ q, q = 8 + k := ⟨_, rfl⟩
    have HQ := Lib.hid hq
    have hq1 : q < 8 + n := by omega
    have hq8 : 8 ≤ q := by omega
    rw [← hq]
    clear hq
    go_loopw [9, 11] (fun tv i wr => ∃ (j : Nat) (m : List UInt8) (t : Bool), j ≤ 4 ∧ i = .int .i64 (j : Int) ∧ tv = .bool t ∧ wr.ownsRow w1.heap.size 5 1 (.slice (some ⟨g, 0, none⟩) (8 + n) cap) (8 + n) (bc (hd ++ m)) ∧ Hid (m.length = l.length) ∧ Hid (∀ i, i < k ∨ k + j ≤ i → m[i]? = l[i]?) ∧ Hid (t = !decide (m = l)) ∧ Hid (∀ i b, bs[i]? = some b → wr.cell? ⟨w.heap.size, i, none⟩ = some (.int .u8 (b.toNat : Int))) ∧ Below w.heap.size w wr) (fun _ i _ => 4 - (intOf i).toNat)
    case atStart => exact ⟨0, l, false, by omega, rfl, rfl, own2, rfl, fun i _ => rfl, by show _ = _; simp, HBY2, b2'⟩
    case round =>
      obtain ⟨j, m, t, hj, rfl, rfl, own, HL, HAG, HT, HBY, bel⟩ := hrel
      by_cases hgo : j < 4 ∧ q + j < 8 + n
      · obtain ⟨hj4, hqj⟩ := hgo
        have hkl : k + j < l.length := by have := HQ.out; rw [← HN.out]; omega
        have hkm : k + j < m.length := by rw [HL.out]; exact hkl
        have hjb : j < bs.length := by rw [HB.out]; exact hj4
        have hd8 : hd.length = 8 := HD.out
        have hidx : (bc (hd ++ m))[q + j]? = some (.int .u8 ((m[k + j]).toNat : Int)) := by
          rw [bc_app, List.getElem?_append_right (by rw [bc_len, hd8]; omega), bc_len, hd8, show q + j - 8 = k + j from by have := HQ.out; omega]
          unfold bc
          rw [List.getElem?_map, List.getElem?_eq_getElem hkm]; rfl
        have hcell : wr.cell? ⟨g, q + j, none⟩ = some (.int .u8 ((m[k + j]).toNat : Int)) := by rw [own.cellAt (q + j) (by omega)]; exact hidx
        have hfrz : wr.frozen? ⟨g, q + j, none⟩ = false := own.frozenAt (q + j)
        have hbyc : wr.cell? ⟨w.heap.size, j, none⟩ = some (.int .u8 ((bs[j]).toNat : Int)) := HBY.out j _ (List.getElem?_eq_getElem hjb)
        have ST := Lib.hid (F.turn_step l m k j (bs[j]) t HL.out hkl hj4 HAG.out HT.out)
        have SW := Lib.hid (own.stored (q + j) (.int .u8 ((m[k + j] ^^^ bs[j]).toNat : Int)))
        have SX := Lib.hid (u8xor m[k + j] bs[j])
        have hne : Hid (∀ (b : UInt8), ((b.toNat : Int) != 0) = (b != 0)) := fun b => by
          by_cases h : b = 0
          · subst h; rfl
          · have : b.toNat ≠ 0 := fun e => h (UInt8.toNat_inj.1 e)
            have h2 : (b != 0) = true := by simpa using h
            rw [h2]; simp; omega
        generalize m[k + j]'hkm = x at *
        generalize bs[j]'hjb = y at *
        have hx := x.toNat_lt
        have hy := y.toNat_lt
        clear hd8 hidx hkl hjb hkm
        have hj0 : (0 : Int) ≤ (j : Int) := by omega
        have hgw : w.heap.size ≠ g := by omega
        cases t
        · go_wp2_with fail
          have e1 : IntKind.i64.wrap ((q : Int) + (j : Int)) = (q : Int) + (j : Int) := IntWalk.i64_in _ (by omega)
          have e2 : (0 : Int) ≤ (q : Int) + (j : Int) := by omega
          have e3 : ((q : Int) + (j : Int)).toNat = q + j := by omega
          go_region
          all_goals
            clear e1 e3
            go_wp2_with fail
            rw [SX.out]
            refine ⟨⟨j + 1, m.set (k + j) (x ^^^ y), ((y.toNat : Int) != 0), by omega, by go_num, rfl, ?_, ST.out.1, ST.out.2.1, ?_, ?_, ?_⟩, by simp [intOf]; omega⟩
            · have h1 := SW.out.1
              rw [bc_set hd m (q + j) (k + j) (x ^^^ y) (by rw [HD.out, HQ.out]; omega)] at h1
              exact h1
            · show _ = _
              have h1 := ST.out.2.2
              rw [← h1]
              rw [hne.out y]; rfl
            · intro i b hi
              rw [show (World.drew (wr.setCell ⟨g, q + j, none⟩ (.int .u8 ((x ^^^ y).toNat : Int)))).cell? ⟨w.heap.size, i, none⟩ = (wr.setCell ⟨g, q + j, none⟩ (.int .u8 ((x ^^^ y).toNat : Int))).cell? ⟨w.heap.size, i, none⟩ from rfl]
              rw [World.cell?_setCell_far _ _ _ _ (by simp; omega)]
              exact HBY.out i b hi
            · exact (bel.setCell (by simp; omega) _).drew
        · go_wp2_with fail
          have e1 : IntKind.i64.wrap ((q : Int) + (j : Int)) = (q : Int) + (j : Int) := IntWalk.i64_in _ (by omega)
          have e2 : (0 : Int) ≤ (q : Int) + (j : Int) := by omega
          have e3 : ((q : Int) + (j : Int)).toNat = q + j := by omega
          go_region
          all_goals
            clear e1 e3
            go_wp2_with fail
            rw [SX.out]
            refine ⟨⟨j + 1, m.set (k + j) (x ^^^ y), true, by omega, by go_num, rfl, ?_, ST.out.1, ST.out.2.1, ?_, ?_, ?_⟩, by simp [intOf]; omega⟩
            · have h1 := SW.out.1
              rw [bc_set hd m (q + j) (k + j) (x ^^^ y) (by rw [HD.out, HQ.out]; omega)] at h1
              exact h1
            · show _ = _
              have h1 := ST.out.2.2
              rw [← h1]; rfl
            · intro i b hi
              rw [show (World.drew (wr.setCell ⟨g, q + j, none⟩ (.int .u8 ((x ^^^ y).toNat : Int)))).cell? ⟨w.heap.size, i, none⟩ = (wr.setCell ⟨g, q + j, none⟩ (.int .u8 ((x ^^^ y).toNat : Int))).cell? ⟨w.heap.size, i, none⟩ from rfl]
              rw [World.cell?_setCell_far _ _ _ _ (by simp; omega)]
              exact HBY.out i b hi
            · exact (bel.setCell (by simp; omega) _).drew
      · have hfin := HU.out m k HL.out (fun i hi => HAG.out i (by omega))
        have hml : (hd ++ m).length = 8 + n := by rw [List.length_append, HD.out, HL.out, ← HN.out]
        have s5 : SlB wr wr.heap.size (.slice (some ⟨g, 0, none⟩) (8 + n) cap) (hd ++ m) := SlB.ofOwn own
        have HX5 := Lib.hid (unwrap_s s5 (by omega) (Nat.le_refl _))
        rw [hfin] at HX5
        have HT' := HT.out
        clear HT HL HAG HBY own hml hfin s5
        cases t with
        | false =>
          have hm : m = l := by simpa using HT'
          rw [if_pos hm] at HX5
          clear HT' hm
          by_cases hj4 : j < 4
          all_goals
            go_wp2_with fail
            refine HX5.out.mono ?_
            rintro e w6 ⟨v6, rfl, own6, b6⟩
            have b6' := bel.trans (b6.mono bel.size)
            go_wp2_with fail
            go_ret
            exact ⟨rfl, b6'⟩
        | true =>
          have hm : ¬ m = l := by simpa using HT'
          rw [if_neg hm] at HX5
          clear HT' hm
          by_cases hj4 : j < 4
          all_goals
            go_wp2_with fail
            refine HX5.out.mono ?_
            rintro e w6 ⟨v6, rfl, own6, b6⟩
            have b6' := bel.trans (b6.mono bel.size)
            go_wp2_with fail
            go_ret
            exact ⟨rfl, b6'⟩

theorem frameTurned_walk (W : World) (v0 v1 v2 : Value) (h0 : Arg W 22 v0) (h1 : Arg W 61 v1) (h2 : Arg W 62 v2) :
    Calls Try.prog 9 #[v0, v1, v2] W fun e W' => e = .returned (.bool true) ∧ Below W.heap.size W W' := by
  obtain ⟨A, c, l, rfl, hc, hm, hA, hr⟩ := h0.bytes Try.underlying22
  obtain ⟨a, rfl, ha⟩ := h1.u16 Try.underlying61
  obtain ⟨bs, rfl, hb⟩ := h2.four Try.underlying62 Try.underlying5 (by kernel_rfl) (by kernel_rfl)
  exact fturned A c l a bs W ha hb ⟨A, c, rfl, hc, hm, hA, hr⟩
end Go.Proofs.Ytmlchhfahpcohaa
