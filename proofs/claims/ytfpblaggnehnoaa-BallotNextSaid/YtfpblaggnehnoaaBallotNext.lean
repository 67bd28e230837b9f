/- The walk of the law BallotNext. -/
import Derived.Test.YtfpblaggnehnoaaBallotIO
namespace Go.Proofs.Ytfpblaggnehnoaa
open Go.RowKit
set_option linter.unusedSimpArgs false
set_option linter.unusedVariables false

theorem cellNw (w : World) {g : Nat} (cs : Array Value) {t : TypeId} (h : g = w.heap.size) (i : Nat) (v : Value) (hv : cs[i]? = some v) : (w.alloc (.cells cs t)).cell? ⟨g, i, none⟩ = some v := by
  subst h
  rw [← hv]
  exact cellAt' (heap_alloc_new w _) i
theorem B.take_put (r k : Nat) (hr : r < 4294967296) (hk : k < 5) : B.take (B.put [] r (k : Int), false) = ((r, k), ([], false)) := by
  have e0 : B.put [] r (k : Int) = C.be r 4 ++ [UInt8.ofNat k] := by
    unfold B.put
    rw [put_one, show ((k : Int) % 18446744073709551616).toNat = k from by omega]
    rfl
  have e1 : C.take 4 (C.be r 4 ++ [UInt8.ofNat k], false) = (r, ([UInt8.ofNat k], false)) := by
    unfold C.take C.some_
    have hl : (C.be r 4).length = 4 := C.be_len r 4
    rw [if_neg (by omega), if_neg (by simp [hl])]
    have h1 : (C.be r 4 ++ [UInt8.ofNat k]).take (4 : Int).toNat = C.be r 4 := by rw [show (4 : Int).toNat = (C.be r 4).length from by rw [hl]; rfl]; exact List.take_left
    have h2 : (C.be r 4 ++ [UInt8.ofNat k]).drop (4 : Int).toNat = [UInt8.ofNat k] := by rw [show (4 : Int).toNat = (C.be r 4).length from by rw [hl]; rfl]; exact List.drop_left
    simp only [h1, h2, C.val_be]
    rw [Nat.mod_eq_of_lt (by omega)]
  have e2 : C.take 1 ([UInt8.ofNat k], false) = (k, ([], false)) := by
    unfold C.take C.some_
    rw [if_neg (by omega), if_neg (by simp)]
    have : (UInt8.ofNat k).toNat = k := by rw [UInt8.toNat_ofNat']; omega
    simp [C.val, this]
  rw [e0]
  unfold B.take
  rw [e1, e2]
  have hf : B.formed (k : Int) = true := by unfold B.formed; simp; omega
  simp [hf]

theorem B.next_ok {r xr : Nat} {n k xn : Int} (h : (xr, xn, (0 : Int)) = B.next r n k) (hr : r < 4294967296) : ∃ j : Nat, j < 5 ∧ k = (j : Int) ∧ xr = r + 1 ∧ xn = (j : Int) ∧ xr < 4294967296 := by
  unfold B.next at h
  by_cases h1 : k < 0 ∨ 5 ≤ k
  · rw [if_pos h1] at h; simp at h
  · rw [if_neg h1] at h
    by_cases h2 : r = 4294967295
    · rw [if_pos h2] at h; simp at h
    · rw [if_neg h2] at h
      simp only [Prod.mk.injEq] at h
      exact ⟨k.toNat, by omega, by omega, h.1, by omega, by omega⟩
theorem btake_put (B0 g r k : Nat) (w : World) (hr : r < 4294967296) (hk : k < 5) (h : RdrAt w B0 g (B.put [] r (k : Int), false)) :
    Calls Try.prog 57 #[.pointer (some ⟨g, 0, none⟩)] w fun e w' => e = .returned (bal r (k : Int)) ∧ RdrAt w' B0 g ([], false) ∧ w.grownBy w' (some g) := by
  have T := btake_any B0 g _ w h
  rw [B.take_put r k hr hk] at T
  exact T

set_option maxHeartbeats 3200000 in
theorem bnext (ra : Nat) (na : Int) (rb : Nat) (nb n m : Int) (w : World) (ha : ra < 4294967296) (hb : rb < 4294967296) :
    Calls Try.prog 17 #[bal ra na, bal rb nb, .agg #[.int .i64 n, .int .i64 m]] w fun e w' => e = .returned (.bool true) ∧ Below w.heap.size w w' := by
  obtain ⟨x, hx⟩ : ∃ x : Nat × Int × Int, x = B.next ra na n := ⟨_, rfl⟩
  obtain ⟨y, hy⟩ : ∃ y : Nat × Int × Int, y = B.next rb nb m := ⟨_, rfl⟩
  have HX := Lib.hid hx
  have HY := Lib.hid hy
  clear hx hy
  obtain ⟨xr, xn, xe⟩ := x
  obtain ⟨yr, yn, ye⟩ := y
  go_enter Try.func17, Try.ntmps17
  go_upto_region 1 with fail
  obtain ⟨w0, hw0⟩ : ∃ w0, w0 = ((w.alloc (.cells #[.int .u32 (ra : Int), .int .i64 na] 27)).alloc (.cells #[.int .u32 (rb : Int), .int .i64 nb] 27)).alloc (.cells #[.int .i64 n, .int .i64 m] 85) := ⟨_, rfl⟩
  rw [← hw0]
  have k0 : w0.cell? ⟨w.heap.size, 0, none⟩ = some (.int .u32 (ra : Int)) ∧ w0.cell? ⟨w.heap.size, 1, none⟩ = some (.int .i64 na) ∧ w0.cell? ⟨w.heap.size + 1, 0, none⟩ = some (.int .u32 (rb : Int)) ∧ w0.cell? ⟨w.heap.size + 1, 1, none⟩ = some (.int .i64 nb) ∧ w0.cell? ⟨w.heap.size + 1 + 1, 0, none⟩ = some (.int .i64 n) ∧ w0.cell? ⟨w.heap.size + 1 + 1, 1, none⟩ = some (.int .i64 m) := by
    rw [hw0]
    exact ⟨cellA _ (cellA _ (by simp)), cellA _ (cellA _ (by simp)), cellA _ (by simp), cellA _ (by simp), cellNw _ _ (by simp) 0 _ rfl, cellNw _ _ (by simp) 1 _ rfl⟩
  have b : Below w.heap.size w w0 := by rw [hw0]; exact (((Below.refl _ _).alloc (Nat.le_refl _) _).alloc (by simp) _).alloc (by simp <;> omega) _
  clear hw0
  obtain ⟨p0, p1, p2, p3, q0, q1⟩ := k0
  go_quiet (fail)
  go_wp2_with fail
  refine (next_any ra na n _ ha).mono ?_
  rw [← HX.out]
  rintro e w1 ⟨rfl, hb1⟩
  have hb1 := belowOfDrewN hb1
  have p0 := cellB hb1 p0
  have p1 := cellB hb1 p1
  have p2 := cellB hb1 p2
  have p3 := cellB hb1 p3
  have b := b.trans (hb1.mono b.size)
  have z0 : w.heap.size < w1.heap.size := World.block_lt_of_cell? w1 _ p0
  have z1 : w.heap.size + 1 < w1.heap.size := World.block_lt_of_cell? w1 _ p2
  clear hb1 q0 q1
  go_wp2_with fail
  refine (next_any rb nb m _ hb).mono ?_
  rw [← HY.out]
  rintro e w2 ⟨rfl, hb2⟩
  have p0 := cellB hb2 (cellA _ p0)
  have p1 := cellB hb2 (cellA _ p1)
  have x0 : w2.cell? ⟨w1.heap.size, 0, none⟩ = some (.int .u32 (xr : Int)) := cellB hb2 (by simp)
  have x1 : w2.cell? ⟨w1.heap.size, 1, none⟩ = some (.int .i64 xn) := cellB hb2 (by simp)
  have b := (b.alloc b.size _).trans (hb2.mono (by have := b.size; simp; omega))
  clear hb2 p2 p3
  by_cases hxe : xe = 0
  · by_cases hye : ye = 0
    · subst hxe
      subst hye
      obtain ⟨j1, hj1, rfl, hxr1, rfl, hxr⟩ := B.next_ok HX.out ha
      obtain ⟨j2, hj2, rfl, hyr1, rfl, hyr⟩ := B.next_ok HY.out hb
      have HL : Hid (B.less ra na xr (j1 : Int) = true) := by show _ = _; unfold B.less; simp; omega
      have HF : Hid (B.formed (j1 : Int) = true) := by show _ = _; unfold B.formed; simp; omega
      clear hxr1 hyr1 HX HY
      go_wp2_with fail
      refine (b_awake _).mono ?_
      rintro e w3 ⟨rfl, hb3⟩
      have p0 := cellB hb3 (cellA _ p0)
      have p1 := cellB hb3 (cellA _ p1)
      have x0 := cellB hb3 (cellA _ x0)
      have x1 := cellB hb3 (cellA _ x1)
      have y0 : w3.cell? ⟨w2.heap.size, 0, none⟩ = some (.int .u32 (yr : Int)) := cellB hb3 (by simp)
      have y1 : w3.cell? ⟨w2.heap.size, 1, none⟩ = some (.int .i64 (j2 : Int)) := cellB hb3 (by simp)
      have b := (b.alloc b.size _).trans (hb3.mono (by have := b.size; simp; omega))
      clear hb3
      go_wp2_with fail
      refine (bput_any none 0 [] xr (j1 : Int) w3 w.heap.size (by simp) (fun _ => ⟨rfl, rfl⟩) Rd.nil b.size hxr).mono ?_
      rintro e w4 ⟨u4, rfl, o4, g4⟩
      obtain ⟨A4, c4, rfl, hc4, hA4, hm4⟩ := ownShape o4
      have b := b.trans (g4.mono b.size)
      have p0 := cellB g4 p0
      have p1 := cellB g4 p1
      have x0 := cellB g4 x0
      have x1 := cellB g4 x1
      have y0 := cellB g4 y0
      have y1 := cellB g4 y1
      clear g4
      have l0 := World.block_lt_of_cell? w4 _ p0
      have l1 := World.block_lt_of_cell? w4 _ x0
      have l2 := World.block_lt_of_cell? w4 _ y0
      simp only at l0 l1 l2
      go_wp2_with fail
      refine (new_any A4 c4 (B.put [] xr (j1 : Int)) w4 w4.heap.size hc4 hm4 (fun h => ⟨List.eq_nil_of_length_eq_zero (hA4 h).1, (hA4 h).2⟩) (Rd.ofOwn o4) (Nat.le_refl _)).mono ?_
      rintro e w5 ⟨rfl, hR, g5⟩
      have b := b.trans (g5.mono b.size)
      have k : w5.cell? ⟨w.heap.size, 0, none⟩ = some (.int .u32 (ra : Int)) ∧ w5.cell? ⟨w.heap.size, 1, none⟩ = some (.int .i64 na) ∧ w5.cell? ⟨w1.heap.size, 0, none⟩ = some (.int .u32 (xr : Int)) ∧ w5.cell? ⟨w1.heap.size, 1, none⟩ = some (.int .i64 (j1 : Int)) ∧ w5.cell? ⟨w2.heap.size, 0, none⟩ = some (.int .u32 (yr : Int)) ∧ w5.cell? ⟨w2.heap.size, 1, none⟩ = some (.int .i64 (j2 : Int)) := ⟨cellB g5 p0, cellB g5 p1, cellB g5 x0, cellB g5 x1, cellB g5 y0, cellB g5 y1⟩
      have hge : w.heap.size ≤ w4.heap.size := by omega
      clear g5 p0 p1 x0 x1 y0 y1 o4
      cases hjb : ((j1 : Int) == (j2 : Int)) with
      | false =>
        have hjd : decide ((j1 : Int) = (j2 : Int)) = ((j1 : Int) == (j2 : Int)) := rfl
        rw [hjb] at hjd
        go_upto_region 7 with fail
        go_region_held3 (fun w' => w'.cell? ⟨w.heap.size, 0, none⟩ = some (.int .u32 (ra : Int)) ∧ w'.cell? ⟨w.heap.size, 1, none⟩ = some (.int .i64 na) ∧ w'.cell? ⟨w1.heap.size, 0, none⟩ = some (.int .u32 (xr : Int)) ∧ w'.cell? ⟨w1.heap.size, 1, none⟩ = some (.int .i64 (j1 : Int)) ∧ w'.cell? ⟨w2.heap.size, 0, none⟩ = some (.int .u32 (yr : Int)) ∧ w'.cell? ⟨w2.heap.size, 1, none⟩ = some (.int .i64 (j2 : Int))) (exact k) (first | (go_at_call 21; refine (less_any ra na xr (j1 : Int) _).mono ?_; rw [HL.out]; rintro e v1 ⟨rfl, g1⟩; have g1 := belowOfDrew g1; have b := b.trans (g1.mono b.size); have k : v1.cell? ⟨w.heap.size, 0, none⟩ = some (.int .u32 (ra : Int)) ∧ v1.cell? ⟨w.heap.size, 1, none⟩ = some (.int .i64 na) ∧ v1.cell? ⟨w1.heap.size, 0, none⟩ = some (.int .u32 (xr : Int)) ∧ v1.cell? ⟨w1.heap.size, 1, none⟩ = some (.int .i64 (j1 : Int)) ∧ v1.cell? ⟨w2.heap.size, 0, none⟩ = some (.int .u32 (yr : Int)) ∧ v1.cell? ⟨w2.heap.size, 1, none⟩ = some (.int .i64 (j2 : Int)) := ⟨cellB g1 k.1, cellB g1 k.2.1, cellB g1 k.2.2.1, cellB g1 k.2.2.2.1, cellB g1 k.2.2.2.2.1, cellB g1 k.2.2.2.2.2⟩; have R := hR.below g1) | (go_at_call 24; refine (formed_any xr (j1 : Int) _).mono ?_; rw [HF.out]; rintro e v2 ⟨rfl, g2⟩; have b := b.trans (g2.mono b.size); have k : v2.cell? ⟨w.heap.size, 0, none⟩ = some (.int .u32 (ra : Int)) ∧ v2.cell? ⟨w.heap.size, 1, none⟩ = some (.int .i64 na) ∧ v2.cell? ⟨w1.heap.size, 0, none⟩ = some (.int .u32 (xr : Int)) ∧ v2.cell? ⟨w1.heap.size, 1, none⟩ = some (.int .i64 (j1 : Int)) ∧ v2.cell? ⟨w2.heap.size, 0, none⟩ = some (.int .u32 (yr : Int)) ∧ v2.cell? ⟨w2.heap.size, 1, none⟩ = some (.int .i64 (j2 : Int)) := ⟨cellB g2 k.1, cellB g2 k.2.1, cellB g2 k.2.2.1, cellB g2 k.2.2.2.1, cellB g2 k.2.2.2.2.1, cellB g2 k.2.2.2.2.2⟩; have R := R.below g2) | (go_at_call 57; refine (btake_put w4.heap.size w4.heap.size xr j1 _ hxr hj1 R).mono ?_; rintro e v3 ⟨rfl, R3, g3⟩; have b := b.grown g3 b.size (fun q hq => by injection hq with hq; omega); have k : v3.cell? ⟨w.heap.size, 0, none⟩ = some (.int .u32 (ra : Int)) ∧ v3.cell? ⟨w.heap.size, 1, none⟩ = some (.int .i64 na) ∧ v3.cell? ⟨w1.heap.size, 0, none⟩ = some (.int .u32 (xr : Int)) ∧ v3.cell? ⟨w1.heap.size, 1, none⟩ = some (.int .i64 (j1 : Int)) ∧ v3.cell? ⟨w2.heap.size, 0, none⟩ = some (.int .u32 (yr : Int)) ∧ v3.cell? ⟨w2.heap.size, 1, none⟩ = some (.int .i64 (j2 : Int)) := ⟨g3.cell k.1 (by simp; omega), g3.cell k.2.1 (by simp; omega), g3.cell k.2.2.1 (by simp; omega), g3.cell k.2.2.2.1 (by simp; omega), g3.cell k.2.2.2.2.1 (by simp; omega), g3.cell k.2.2.2.2.2 (by simp; omega)⟩) | (go_at_call 50; refine (end_any w4.heap.size w4.heap.size ([], false) _ R3).mono ?_; rintro e v4 ⟨rfl, rfl⟩))
        all_goals
          go_wp2_with fail
          go_ret
          exact ⟨rfl, b⟩
      | true =>
        have hjd : decide ((j1 : Int) = (j2 : Int)) = ((j1 : Int) == (j2 : Int)) := rfl
        rw [hjb] at hjd
        go_upto_region 7 with fail
        -- REGION7
        refine wp_region_held_drew (S := fun w' => w'.cell? ⟨w.heap.size, 0, none⟩ = some (.int .u32 (ra : Int)) ∧ w'.cell? ⟨w.heap.size, 1, none⟩ = some (.int .i64 na) ∧ w'.cell? ⟨w1.heap.size, 0, none⟩ = some (.int .u32 (xr : Int)) ∧ w'.cell? ⟨w1.heap.size, 1, none⟩ = some (.int .i64 (j1 : Int)) ∧ w'.cell? ⟨w2.heap.size, 0, none⟩ = some (.int .u32 (yr : Int)) ∧ w'.cell? ⟨w2.heap.size, 1, none⟩ = some (.int .i64 (j2 : Int))) (by kernel_rfl) (by exact k) (fun hHeld => ?_)
        refine wpAnyH_take (i := 0) (v := ?_) rfl (by kernel_rfl) (by kernel_rfl) (by kernel_rfl) (fun _ _ _ h => h) (Or.inl ⟨by rfl, ?_⟩) (by assumption) ?_
        rotate_left
        · (intro w hSw; (try dsimp only at hSw); go_simp; try with_reducible rfl)
        try simp only [List.getElem_toArray, List.getElem_cons_zero, List.getElem_cons_succ, Act.put, List.setIfInBounds_toArray, List.set_cons_zero, List.set_cons_succ]
        refine wpAnyH_take (i := 1) (v := ?_) rfl (by kernel_rfl) (by kernel_rfl) (by kernel_rfl) (fun _ _ _ h => h) (Or.inl ⟨by rfl, ?_⟩) (by assumption) ?_
        rotate_left
        · (intro w hSw; (try dsimp only at hSw); go_simp; try with_reducible rfl)
        try simp only [List.getElem_toArray, List.getElem_cons_zero, List.getElem_cons_succ, Act.put, List.setIfInBounds_toArray, List.set_cons_zero, List.set_cons_succ]
        refine wpAnyH_ready (rs := [2]) (by kernel_rfl) (by simp) ?_
        refine AllReadyH.cons rfl (fun K hK => ?_) AllReadyH.nil
        go_simp
        refine (less_any ra na xr (j1 : Int) _).mono ?_
        rw [HL.out]
        rintro e v1 ⟨rfl, g1⟩
        have g1 := belowOfDrew g1
        have b := b.trans (g1.mono b.size)
        have k1 : v1.cell? ⟨w.heap.size, 0, none⟩ = some (.int .u32 (ra : Int)) ∧ v1.cell? ⟨w.heap.size, 1, none⟩ = some (.int .i64 na) ∧ v1.cell? ⟨w1.heap.size, 0, none⟩ = some (.int .u32 (xr : Int)) ∧ v1.cell? ⟨w1.heap.size, 1, none⟩ = some (.int .i64 (j1 : Int)) ∧ v1.cell? ⟨w2.heap.size, 0, none⟩ = some (.int .u32 (yr : Int)) ∧ v1.cell? ⟨w2.heap.size, 1, none⟩ = some (.int .i64 (j2 : Int)) := ⟨cellB g1 k.1, cellB g1 k.2.1, cellB g1 k.2.2.1, cellB g1 k.2.2.2.1, cellB g1 k.2.2.2.2.1, cellB g1 k.2.2.2.2.2⟩
        have R := hR.below g1
        refine hK.out _ _ ?_ (fun hHeld => ?_)
        · exact k1
        clear hK K
        try simp only [List.getElem_toArray, List.getElem_cons_zero, List.getElem_cons_succ, Act.put, List.setIfInBounds_toArray, List.set_cons_zero, List.set_cons_succ]
        refine wpAnyH_take (i := 3) (v := ?_) rfl (by kernel_rfl) (by kernel_rfl) (by kernel_rfl) (fun _ _ _ h => h) (Or.inl ⟨by rfl, ?_⟩) (by assumption) ?_
        rotate_left
        · (intro w hSw; (try dsimp only at hSw); go_simp; try with_reducible rfl)
        try simp only [List.getElem_toArray, List.getElem_cons_zero, List.getElem_cons_succ, Act.put, List.setIfInBounds_toArray, List.set_cons_zero, List.set_cons_succ]
        refine wpAnyH_take (i := 4) (v := ?_) rfl (by kernel_rfl) (by kernel_rfl) (by kernel_rfl) (fun _ _ _ h => h) (Or.inl ⟨by rfl, ?_⟩) (by assumption) ?_
        rotate_left
        · (intro w hSw; (try dsimp only at hSw); go_simp; try with_reducible rfl)
        try simp only [List.getElem_toArray, List.getElem_cons_zero, List.getElem_cons_succ, Act.put, List.setIfInBounds_toArray, List.set_cons_zero, List.set_cons_succ]
        refine wpAnyH_ready (rs := [5]) (by kernel_rfl) (by simp) ?_
        refine AllReadyH.cons rfl (fun K hK => ?_) AllReadyH.nil
        go_simp
        refine (formed_any xr (j1 : Int) _).mono ?_
        rw [HF.out]
        rintro e v2 ⟨rfl, g2⟩
        have b := b.trans (g2.mono b.size)
        have k2 : v2.cell? ⟨w.heap.size, 0, none⟩ = some (.int .u32 (ra : Int)) ∧ v2.cell? ⟨w.heap.size, 1, none⟩ = some (.int .i64 na) ∧ v2.cell? ⟨w1.heap.size, 0, none⟩ = some (.int .u32 (xr : Int)) ∧ v2.cell? ⟨w1.heap.size, 1, none⟩ = some (.int .i64 (j1 : Int)) ∧ v2.cell? ⟨w2.heap.size, 0, none⟩ = some (.int .u32 (yr : Int)) ∧ v2.cell? ⟨w2.heap.size, 1, none⟩ = some (.int .i64 (j2 : Int)) := ⟨cellB g2 k1.1, cellB g2 k1.2.1, cellB g2 k1.2.2.1, cellB g2 k1.2.2.2.1, cellB g2 k1.2.2.2.2.1, cellB g2 k1.2.2.2.2.2⟩
        have R := R.below g2
        refine hK.out _ _ ?_ (fun hHeld => ?_)
        · exact k2
        clear hK K
        try simp only [List.getElem_toArray, List.getElem_cons_zero, List.getElem_cons_succ, Act.put, List.setIfInBounds_toArray, List.set_cons_zero, List.set_cons_succ]
        refine wpAnyH_take (i := 6) (v := ?_) rfl (by kernel_rfl) (by kernel_rfl) (by kernel_rfl) (fun _ _ _ h => h) (Or.inl ⟨by rfl, ?_⟩) (by assumption) ?_
        rotate_left
        · (intro w hSw; (try dsimp only at hSw); go_simp; try with_reducible rfl)
        try simp only [List.getElem_toArray, List.getElem_cons_zero, List.getElem_cons_succ, Act.put, List.setIfInBounds_toArray, List.set_cons_zero, List.set_cons_succ]
        refine wpAnyH_take (i := 7) (v := ?_) rfl (by kernel_rfl) (by kernel_rfl) (by kernel_rfl) (fun _ _ _ h => h) (Or.inl ⟨by rfl, ?_⟩) (by assumption) ?_
        rotate_left
        · (intro w hSw; (try dsimp only at hSw); go_simp; try with_reducible rfl)
        try simp only [List.getElem_toArray, List.getElem_cons_zero, List.getElem_cons_succ, Act.put, List.setIfInBounds_toArray, List.set_cons_zero, List.set_cons_succ]
        refine wpAnyH_take (i := 8) (v := ?_) rfl (by kernel_rfl) (by kernel_rfl) (by kernel_rfl) (fun _ _ _ h => h) (Or.inl ⟨by rfl, ?_⟩) (by assumption) ?_
        rotate_left
        · (intro w hSw; (try dsimp only at hSw); go_simp; try with_reducible rfl)
        try simp only [List.getElem_toArray, List.getElem_cons_zero, List.getElem_cons_succ, Act.put, List.setIfInBounds_toArray, List.set_cons_zero, List.set_cons_succ]
        refine wpAnyH_take (i := 9) (v := ?_) rfl (by kernel_rfl) (by kernel_rfl) (by kernel_rfl) (fun _ _ _ h => h) (Or.inl ⟨by rfl, ?_⟩) (by assumption) ?_
        rotate_left
        · (intro w hSw; (try dsimp only at hSw); go_simp; try with_reducible rfl)
        try simp only [List.getElem_toArray, List.getElem_cons_zero, List.getElem_cons_succ, Act.put, List.setIfInBounds_toArray, List.set_cons_zero, List.set_cons_succ]
        refine wpAnyH_take (i := 10) (v := ?_) rfl (by kernel_rfl) (by kernel_rfl) (by kernel_rfl) (fun _ _ _ h => h) (Or.inl ⟨by rfl, ?_⟩) (by assumption) ?_
        rotate_left
        · (intro w hSw; (try dsimp only at hSw); go_simp; try with_reducible rfl)
        try simp only [List.getElem_toArray, List.getElem_cons_zero, List.getElem_cons_succ, Act.put, List.setIfInBounds_toArray, List.set_cons_zero, List.set_cons_succ]
        refine wpAnyH_take (i := 11) (v := ?_) rfl (by kernel_rfl) (by kernel_rfl) (by kernel_rfl) (fun _ _ _ h => h) (Or.inl ⟨by rfl, ?_⟩) (by assumption) ?_
        rotate_left
        · (intro w hSw; (try dsimp only at hSw); go_simp; try with_reducible rfl)
        try simp only [List.getElem_toArray, List.getElem_cons_zero, List.getElem_cons_succ, Act.put, List.setIfInBounds_toArray, List.set_cons_zero, List.set_cons_succ]
        refine wpAnyH_take (i := 12) (v := undef) rfl (by kernel_rfl) (by kernel_rfl) (by kernel_rfl) (fun _ _ _ h => h) (Or.inr ⟨by rfl, rfl⟩) (by assumption) ?_
        try simp only [List.getElem_toArray, List.getElem_cons_zero, List.getElem_cons_succ, Act.put, List.setIfInBounds_toArray, List.set_cons_zero, List.set_cons_succ]
        refine wpAnyH_take (i := 13) (v := undef) rfl (by kernel_rfl) (by kernel_rfl) (by kernel_rfl) (fun _ _ _ h => h) (Or.inr ⟨by rfl, rfl⟩) (by assumption) ?_
        try simp only [List.getElem_toArray, List.getElem_cons_zero, List.getElem_cons_succ, Act.put, List.setIfInBounds_toArray, List.set_cons_zero, List.set_cons_succ]
        refine wpAnyH_take (i := 14) (v := undef) rfl (by kernel_rfl) (by kernel_rfl) (by kernel_rfl) (fun _ _ _ h => h) (Or.inr ⟨by rfl, rfl⟩) (by assumption) ?_
        try simp only [List.getElem_toArray, List.getElem_cons_zero, List.getElem_cons_succ, Act.put, List.setIfInBounds_toArray, List.set_cons_zero, List.set_cons_succ]
        refine wpAnyH_take (i := 15) (v := ?_) rfl (by kernel_rfl) (by kernel_rfl) (by kernel_rfl) (fun _ _ _ h => h) (Or.inl ⟨by rfl, ?_⟩) (by assumption) ?_
        rotate_left
        · (intro w hSw; (try dsimp only at hSw); go_simp; try with_reducible rfl)
        try simp only [List.getElem_toArray, List.getElem_cons_zero, List.getElem_cons_succ, Act.put, List.setIfInBounds_toArray, List.set_cons_zero, List.set_cons_succ]
        refine wpAnyH_take (i := 16) (v := ?_) rfl (by kernel_rfl) (by kernel_rfl) (by kernel_rfl) (fun _ _ _ h => h) (Or.inl ⟨by rfl, ?_⟩) (by assumption) ?_
        rotate_left
        · (intro w hSw; (try dsimp only at hSw); go_simp; try with_reducible rfl)
        try simp only [List.getElem_toArray, List.getElem_cons_zero, List.getElem_cons_succ, Act.put, List.setIfInBounds_toArray, List.set_cons_zero, List.set_cons_succ]
        refine wpAnyH_take (i := 17) (v := ?_) rfl (by kernel_rfl) (by kernel_rfl) (by kernel_rfl) (fun _ _ _ h => h) (Or.inl ⟨by rfl, ?_⟩) (by assumption) ?_
        rotate_left
        · (intro w hSw; (try dsimp only at hSw); go_simp; try with_reducible rfl)
        try simp only [List.getElem_toArray, List.getElem_cons_zero, List.getElem_cons_succ, Act.put, List.setIfInBounds_toArray, List.set_cons_zero, List.set_cons_succ]
        refine wpAnyH_take (i := 18) (v := ?_) rfl (by kernel_rfl) (by kernel_rfl) (by kernel_rfl) (fun _ _ _ h => h) (Or.inl ⟨by rfl, ?_⟩) (by assumption) ?_
        rotate_left
        · (intro w hSw; (try dsimp only at hSw); go_simp; try with_reducible rfl)
        try simp only [List.getElem_toArray, List.getElem_cons_zero, List.getElem_cons_succ, Act.put, List.setIfInBounds_toArray, List.set_cons_zero, List.set_cons_succ]
        refine wpAnyH_take (i := 20) (v := ?_) rfl (by kernel_rfl) (by kernel_rfl) (by kernel_rfl) (fun _ _ _ h => h) (Or.inl ⟨by rfl, ?_⟩) (by assumption) ?_
        rotate_left
        · (intro w hSw; (try dsimp only at hSw); go_simp; try with_reducible rfl)
        try simp only [List.getElem_toArray, List.getElem_cons_zero, List.getElem_cons_succ, Act.put, List.setIfInBounds_toArray, List.set_cons_zero, List.set_cons_succ]
        -- C
        refine wpAnyH_ready (rs := [19]) (by kernel_rfl) (by simp) ?_
        refine AllReadyH.cons rfl (fun K hK => ?_) AllReadyH.nil
        go_simp
        refine (btake_put w4.heap.size w4.heap.size xr j1 _ hxr hj1 R).mono ?_
        rintro e v3 ⟨rfl, R3, g3⟩
        have b := b.grown g3 b.size (fun q hq => by injection hq with hq; omega)
        have k3 : v3.cell? ⟨w.heap.size, 0, none⟩ = some (.int .u32 (ra : Int)) ∧ v3.cell? ⟨w.heap.size, 1, none⟩ = some (.int .i64 na) ∧ v3.cell? ⟨w1.heap.size, 0, none⟩ = some (.int .u32 (xr : Int)) ∧ v3.cell? ⟨w1.heap.size, 1, none⟩ = some (.int .i64 (j1 : Int)) ∧ v3.cell? ⟨w2.heap.size, 0, none⟩ = some (.int .u32 (yr : Int)) ∧ v3.cell? ⟨w2.heap.size, 1, none⟩ = some (.int .i64 (j2 : Int)) := ⟨g3.cell k2.1 (by simp; omega), g3.cell k2.2.1 (by simp; omega), g3.cell k2.2.2.1 (by simp; omega), g3.cell k2.2.2.2.1 (by simp; omega), g3.cell k2.2.2.2.2.1 (by simp; omega), g3.cell k2.2.2.2.2.2 (by simp; omega)⟩
        refine hK.out _ _ ?_ (fun hHeld => ?_)
        · exact k3
        clear hK K
        try simp only [List.getElem_toArray, List.getElem_cons_zero, List.getElem_cons_succ, Act.put, List.setIfInBounds_toArray, List.set_cons_zero, List.set_cons_succ]
        refine wpAnyH_take (i := 21) (v := ?_) rfl (by kernel_rfl) (by kernel_rfl) (by kernel_rfl) (fun _ _ _ h => h) (Or.inl ⟨by rfl, ?_⟩) (by assumption) ?_
        rotate_left
        · (intro w hSw; (try dsimp only at hSw); go_simp; try with_reducible rfl)
        try simp only [List.getElem_toArray, List.getElem_cons_zero, List.getElem_cons_succ, Act.put, List.setIfInBounds_toArray, List.set_cons_zero, List.set_cons_succ]
        refine wpAnyH_take (i := 22) (v := ?_) rfl (by kernel_rfl) (by kernel_rfl) (by kernel_rfl) (fun _ _ _ h => h) (Or.inl ⟨by rfl, ?_⟩) (by assumption) ?_
        rotate_left
        · (intro w hSw; (try dsimp only at hSw); go_simp; try with_reducible rfl)
        try simp only [List.getElem_toArray, List.getElem_cons_zero, List.getElem_cons_succ, Act.put, List.setIfInBounds_toArray, List.set_cons_zero, List.set_cons_succ]
        refine wpAnyH_take (i := 23) (v := ?_) rfl (by kernel_rfl) (by kernel_rfl) (by kernel_rfl) (fun _ _ _ h => h) (Or.inl ⟨by rfl, ?_⟩) (by assumption) ?_
        rotate_left
        · (intro w hSw; (try dsimp only at hSw); go_simp; try with_reducible rfl)
        try simp only [List.getElem_toArray, List.getElem_cons_zero, List.getElem_cons_succ, Act.put, List.setIfInBounds_toArray, List.set_cons_zero, List.set_cons_succ]
        refine wpAnyH_take (i := 24) (v := ?_) rfl (by kernel_rfl) (by kernel_rfl) (by kernel_rfl) (fun _ _ _ h => h) (Or.inl ⟨by rfl, ?_⟩) (by assumption) ?_
        rotate_left
        · (intro w hSw; (try dsimp only at hSw); go_simp; try with_reducible rfl)
        try simp only [List.getElem_toArray, List.getElem_cons_zero, List.getElem_cons_succ, Act.put, List.setIfInBounds_toArray, List.set_cons_zero, List.set_cons_succ]
        refine wpAnyH_ready (rs := [25]) (by kernel_rfl) (by simp) ?_
        refine AllReadyH.cons rfl (fun K hK => ?_) AllReadyH.nil
        go_simp
        refine (end_any w4.heap.size w4.heap.size ([], false) _ R3).mono ?_
        rintro e v4 ⟨rfl, rfl⟩
        refine hK.out _ _ ?_ (fun hHeld => ?_)
        · exact k3
        clear hK K
        try simp only [List.getElem_toArray, List.getElem_cons_zero, List.getElem_cons_succ, Act.put, List.setIfInBounds_toArray, List.set_cons_zero, List.set_cons_succ]
        refine wpAnyH_take (i := 26) (v := ?_) rfl (by kernel_rfl) (by kernel_rfl) (by kernel_rfl) (fun _ _ _ h => h) (Or.inl ⟨by rfl, ?_⟩) (by assumption) ?_
        rotate_left
        · (intro w hSw; (try dsimp only at hSw); go_simp; try with_reducible rfl)
        try simp only [List.getElem_toArray, List.getElem_cons_zero, List.getElem_cons_succ, Act.put, List.setIfInBounds_toArray, List.set_cons_zero, List.set_cons_succ]
        refine wpAnyH_take (i := 27) (v := ?_) rfl (by kernel_rfl) (by kernel_rfl) (by kernel_rfl) (fun _ _ _ h => h) (Or.inl ⟨by rfl, ?_⟩) (by assumption) ?_
        rotate_left
        · (intro w hSw; (try dsimp only at hSw); go_simp; try with_reducible rfl)
        try simp only [List.getElem_toArray, List.getElem_cons_zero, List.getElem_cons_succ, Act.put, List.setIfInBounds_toArray, List.set_cons_zero, List.set_cons_succ]
        refine wpAnyH_done (by kernel_rfl) ?_ _
        -- REGION7END
        all_goals
          go_wp2_with fail
          go_ret
          exact ⟨rfl, b⟩
    · have hyb : (ye == 0) = false := by simpa using hye
      have hyb2 : (ye != 0) = true := by simpa using hye
      subst hxe
      go_wp2_with fail
      refine (b_awake _).mono ?_
      rintro e w3 ⟨rfl, hb3⟩
      have b := (b.alloc b.size _).trans (hb3.mono (by have := b.size; simp; omega))
      go_wp2_with fail
      refine (b_awake _).mono ?_
      rintro e w4 ⟨rfl, hb4⟩
      have b := b.trans (hb4.mono b.size)
      go_wp2_with fail
      go_ret
      exact ⟨rfl, b⟩
  · have hxb : (xe == 0) = false := by simpa using hxe
    have hxb2 : (xe != 0) = true := by simpa using hxe
    go_wp2_with fail
    refine (b_awake _).mono ?_
    rintro e w3 ⟨rfl, hb3⟩
    have b := (b.alloc b.size _).trans (hb3.mono (by have := b.size; simp; omega))
    go_wp2_with fail
    refine (b_awake _).mono ?_
    rintro e w4 ⟨rfl, hb4⟩
    have b := b.trans (hb4.mono b.size)
    go_wp2_with fail
    go_ret
    exact ⟨rfl, b⟩

theorem ballotNext_walk (W : World) (v0 v1 v2 : Value) (h0 : Arg W 27 v0) (h1 : Arg W 27 v1) (h2 : Arg W 85 v2) :
    Calls Try.prog 17 #[v0, v1, v2] W fun e W' => e = .returned (.bool true) ∧ Below W.heap.size W W' := by
  obtain ⟨ra, na, rfl, ha, _⟩ := h0.bal
  obtain ⟨rb, nb, rfl, hb, _⟩ := h1.bal
  obtain ⟨n, m, rfl, _⟩ := h2.i64pair Try.underlying85 Try.underlying3 (by kernel_rfl) (by kernel_rfl)
  exact bnext ra na rb nb n m W ha hb
end Go.Proofs.Ytfpblaggnehnoaa
