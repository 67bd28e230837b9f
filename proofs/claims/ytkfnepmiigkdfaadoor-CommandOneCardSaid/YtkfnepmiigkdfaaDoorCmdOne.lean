/- The walk of CommandOne. Conditions: what lies, lies below; the tables lie; sizes. (Printed by gen_tio.py.) -/
import Derived.Test.YtkfnepmiigkdfaaDoorTioB
import Derived.Test.YtkfnepmiigkdfaaDoorTioQ
import Derived.Test.YtkfnepmiigkdfaaDoorSameD
import Derived.Test.YtkfnepmiigkdfaaDoorTxnD
import Derived.Test.YtkfnepmiigkdfaaDoorC9
import Derived.Test.YtkfnepmiigkdfaaDoorCmArg
namespace Go.Proofs.YtkfnepmiigkdfaaDoor
set_option maxRecDepth 20000
open Go.RowKit T
set_option linter.unusedSimpArgs false
set_option linter.unusedVariables false

theorem cput_len (x : Cm) : (cput [] x).length ≤ 1700000 := by
  unfold cput
  cases x.formed with
  | false => simp
  | true =>
    simp only [cond_true]
    have e1 := put_len2 [] 1 1
    have e2 := put_len2 [] 2 1
    have e3 := put_len2 [] 3 1
    have e0 := put_len2 [] 0 1
    have h1 := tput_len (C.put [] 1 1) x.s x.q x.rs x.ws
    have h2 := idput_len (C.put [] 2 1) x.i x.j
    have h3 := idput_len (C.put [] 3 1) x.i x.j
    have h4 := put_len2 (idput (C.put [] 2 1) x.i x.j) x.g.toNat 1
    have h5 := put_len2 (idput (C.put [] 3 1) x.i x.j) x.g.toNat 1
    have h6 := put_len2 (C.put (idput (C.put [] 2 1) x.i x.j) x.g.toNat 1) x.st 8
    have h7 := put_len2 (C.put (idput (C.put [] 3 1) x.i x.j) x.g.toNat 1) (if x.y = true then 1 else 0) 1
    simp only [List.length_nil] at e0 e1 e2 e3
    split
    · omega
    · split
      · omega
      · split <;> omega
set_option maxHeartbeats 6400000 in
theorem one_mid (a b : Cm) (w : World) (oka : CmOk w w.heap.size a) (okb : CmOk w w.heap.size b) (hT : Tabs w) :
    Calls Tryd.prog 7 #[.agg a.cells.toArray, .agg b.cells.toArray] w fun e w' => e = .returned (.bool true) ∧ Below w.heap.size w w' := by
  have HT := Lib.hid hT
  have HAW := Lib.hid (fun z (hz : Below w.heap.size w z) => c9_awake z (hT.below hz))
  have HWa := Lib.hid (fun z (hz : Below w.heap.size w z) => c9_few a.k a.s a.q a.rs a.ws a.A1 a.c1 a.A2 a.c2 a.i a.j a.g a.st a.y z w.heap.size hz.size (oka.below hz (Nat.le_refl _)))
  have HWb := Lib.hid (fun z (hz : Below w.heap.size w z) => c9_few b.k b.s b.q b.rs b.ws b.A1 b.c1 b.A2 b.c2 b.i b.j b.g b.st b.y z w.heap.size hz.size (okb.below hz (Nat.le_refl _)))
  have HCa : Hid (∀ z, Below w.heap.size w z → Calls Tryd.prog 28 #[.agg a.cells.toArray] z fun e w' => e = .returned (.bool a.formed) ∧ Below z.heap.size z w') := fun z hz => cformed_any a.k a.s a.q a.rs a.ws a.A1 a.c1 a.A2 a.c2 a.i a.j a.g a.st a.y z w.heap.size hz.size (oka.below hz (Nat.le_refl _)) (hT.below hz)
  have HCb : Hid (∀ z, Below w.heap.size w z → Calls Tryd.prog 28 #[.agg b.cells.toArray] z fun e w' => e = .returned (.bool b.formed) ∧ Below z.heap.size z w') := fun z hz => cformed_any b.k b.s b.q b.rs b.ws b.A1 b.c1 b.A2 b.c2 b.i b.j b.g b.st b.y z w.heap.size hz.size (okb.below hz (Nat.le_refl _)) (hT.below hz)
  have HPa := Lib.hid (fun z (hz : Below w.heap.size w z) => cput_s (w := z) (B := z.heap.size) (v := .slice none 0 0) (l := []) SlB.nil (by simp) (Nat.le_refl _) a (CmOk.more (oka.below hz (Nat.le_refl _)) hz.size) (hT.below hz))
  have HPb := Lib.hid (fun z (hz : Below w.heap.size w z) => cput_s (w := z) (B := z.heap.size) (v := .slice none 0 0) (l := []) SlB.nil (by simp) (Nat.le_refl _) b (CmOk.more (okb.below hz (Nat.le_refl _)) hz.size) (hT.below hz))
  have HSM : Hid (∀ z, Below w.heap.size w z → Calls Tryd.prog 31 #[.agg a.cells.toArray, .agg b.cells.toArray] z fun e w' => e = .returned (.bool (SameC a b)) ∧ Below z.heap.size z w') := fun z hz => csame_any a.k a.s a.q a.rs a.ws a.A1 a.c1 a.A2 a.c2 a.i a.j a.g a.st a.y b.k b.s b.q b.rs b.ws b.A1 b.c1 b.A2 b.c2 b.i b.j b.g b.st b.y z w.heap.size hz.size (oka.below hz (Nat.le_refl _)) (okb.below hz (Nat.le_refl _))
  have FA : Hid (Fits a) := oka.fits
  have FB : Hid (Fits b) := okb.fits
  clear oka okb hT
  obtain ⟨w0, hw0⟩ : ∃ w0, w0 = ((w.alloc (.cells a.cells.toArray 37)).alloc (.cells b.cells.toArray 37)) := ⟨_, rfl⟩
  have ee : Below w.heap.size w w0 := by rw [hw0]; exact ((Below.refl _ _).alloc (Nat.le_refl _) _).alloc (by simp) _
  have Za : w0.heap[w.heap.size]? = some (.cells a.cells.toArray 37) := by rw [hw0]; exact hpA (hpN _ _ rfl) _
  have Zb : w0.heap[w.heap.size + 1]? = some (.cells b.cells.toArray 37) := by rw [hw0]; exact hpN _ _ (by simp)
  go_enter Tryd.func7, Tryd.ntmps7
  go_upto_region 1 with fail
  change Code.wp _ _ _ _ ((w.alloc (.cells a.cells.toArray 37)).alloc (.cells b.cells.toArray 37))
  rw [← hw0]
  clear hw0
  refine wp_region_lit ?_
  go_wp2_with fail
  refine (HAW.out w0 ee).mono ?_
  rintro e z1 ⟨rfl, t⟩
  have Za := hpB Za t
  have Zb := hpB Zb t
  have ee := ee.trans (t.mono ee.size)
  clear t
  dsimp only
  rename_i hK
  refine hK _ _ ?_
  clear hK
  iterate 27 (first | with_reducible refine isLoad (ty := 37) rfl ?_ | go_step)
  refine wpList_load_g (by rfl) 37 _ rfl (w.heap.size) 0 rfl (a.cells) _ (rowAt Za) Tryd.underlying37 rfl sizeCm ?_
  go_wp2_with fail
  refine (HWa.out z1 ee).mono ?_
  rintro e z2 ⟨⟨r1, rfl⟩, t⟩
  have Za := hpB Za t
  have Zb := hpB Zb t
  have ee := ee.trans (t.mono ee.size)
  clear t
  cases r1 with
  | false =>
    go_wp2_with fail
    refine (HAW.out z2 ee).mono ?_
    rintro e z3 ⟨rfl, t⟩
    have Za := hpB Za t
    have Zb := hpB Zb t
    have ee := ee.trans (t.mono ee.size)
    clear t
    go_wp2_with fail
    go_ret
    exact ⟨rfl, ee⟩
  | true =>
    dsimp only
    rename_i hK
    refine hK _ _ ?_
    clear hK
    iterate 27 (first | with_reducible refine isLoad (ty := 37) rfl ?_ | go_step)
    refine wpList_load_g (by rfl) 37 _ rfl (w.heap.size + 1) 0 rfl (b.cells) _ (rowAt Zb) Tryd.underlying37 rfl sizeCm ?_
    go_wp2_with fail
    refine (HWb.out z2 ee).mono ?_
    rintro e z3 ⟨⟨r2, rfl⟩, t⟩
    have Za := hpB Za t
    have Zb := hpB Zb t
    have ee := ee.trans (t.mono ee.size)
    clear t
    cases r2 with
    | false =>
      go_wp2_with fail
      refine (HAW.out z3 ee).mono ?_
      rintro e z4 ⟨rfl, t⟩
      have Za := hpB Za t
      have Zb := hpB Zb t
      have ee := ee.trans (t.mono ee.size)
      clear t
      go_wp2_with fail
      go_ret
      exact ⟨rfl, ee⟩
    | true =>
      obtain ⟨fa, hfa⟩ : ∃ f, f = a.formed := ⟨_, rfl⟩
      have HFA := Lib.hid hfa
      rw [← hfa] at HCa
      clear hfa
      dsimp only
      rename_i hK
      refine hK _ _ ?_
      clear hK
      iterate 27 (first | with_reducible refine isLoad (ty := 37) rfl ?_ | go_step)
      refine wpList_load_g (by rfl) 37 _ rfl (w.heap.size) 0 rfl (a.cells) _ (rowAt Za) Tryd.underlying37 rfl sizeCm ?_
      go_wp2_with fail
      refine (HCa.out z3 ee).mono ?_
      rintro e z4 ⟨rfl, t⟩
      have Za := hpB Za t
      have Zb := hpB Zb t
      have ee := ee.trans (t.mono ee.size)
      clear t
      cases fa with
      | false =>
        go_wp2_with fail
        refine (HAW.out z4 ee).mono ?_
        rintro e z5 ⟨rfl, t⟩
        have Za := hpB Za t
        have Zb := hpB Zb t
        have ee := ee.trans (t.mono ee.size)
        clear t
        go_wp2_with fail
        go_ret
        exact ⟨rfl, ee⟩
      | true =>
        obtain ⟨fb, hfb⟩ : ∃ f, f = b.formed := ⟨_, rfl⟩
        have HFB := Lib.hid hfb
        rw [← hfb] at HCb
        clear hfb
        dsimp only
        rename_i hK
        refine hK _ _ ?_
        clear hK
        iterate 27 (first | with_reducible refine isLoad (ty := 37) rfl ?_ | go_step)
        refine wpList_load_g (by rfl) 37 _ rfl (w.heap.size + 1) 0 rfl (b.cells) _ (rowAt Zb) Tryd.underlying37 rfl sizeCm ?_
        go_wp2_with fail
        refine (HCb.out z4 ee).mono ?_
        rintro e z5 ⟨rfl, t⟩
        have Za := hpB Za t
        have Zb := hpB Zb t
        have ee := ee.trans (t.mono ee.size)
        clear t
        cases fb with
        | false =>
          go_wp2_with fail
          refine (HAW.out z5 ee).mono ?_
          rintro e z6 ⟨rfl, t⟩
          have Za := hpB Za t
          have Zb := hpB Zb t
          have ee := ee.trans (t.mono ee.size)
          clear t
          go_wp2_with fail
          go_ret
          exact ⟨rfl, ee⟩
        | true =>
          clear HAW HWa HWb HCa HCb
          go_upto_region 3 with fail
          have Za : z5.drew.heap[w.heap.size]? = some (.cells a.cells.toArray 37) := Za
          have Zb : z5.drew.heap[w.heap.size + 1]? = some (.cells b.cells.toArray 37) := Zb
          have ee := belowDrewS ee
          refine wp_region_held_drew (S := fun z' => z'.rangeAt w.heap.size 0 a.cells ∧ z'.rangeAt (w.heap.size + 1) 0 b.cells) (by kernel_rfl) ⟨rowAt Za, rowAt Zb⟩ (fun hH => ?_)
          clear hH
          generalize z5.drew = z6 at Za Zb  ee ⊢
          refine wpAnyH_take (i := 0) (v := .agg (a.cells).toArray) rfl (by kernel_rfl) (by kernel_rfl) (by kernel_rfl) (fun _ _ _ h => h) (yieldsIf_load_mid (by rfl) 37 _ rfl (w.heap.size) 0 rfl (a.cells) _ (fun _ h => h.1) Tryd.underlying37 rfl sizeCm) ⟨rowAt Za, rowAt Zb⟩ ?_
          try simp only [Act.put, List.getElem_toArray, List.getElem_cons_zero, List.getElem_cons_succ, List.setIfInBounds_toArray, List.set_cons_zero, List.set_cons_succ]
          refine wpAnyH_take (i := 2) (v := .agg (b.cells).toArray) rfl (by kernel_rfl) (by kernel_rfl) (by kernel_rfl) (fun _ _ _ h => h) (yieldsIf_load_mid (by rfl) 37 _ rfl (w.heap.size + 1) 0 rfl (b.cells) _ (fun _ h => h.2) Tryd.underlying37 rfl sizeCm) ⟨rowAt Za, rowAt Zb⟩ ?_
          try simp only [Act.put, List.getElem_toArray, List.getElem_cons_zero, List.getElem_cons_succ, List.setIfInBounds_toArray, List.set_cons_zero, List.set_cons_succ]
          refine wpAnyH_ready (rs := [1]) (by kernel_rfl) (by simp) ?_
          refine AllReadyH.cons rfl (fun K hK => ?_) AllReadyH.nil
          rw [if_pos (by rfl)]
          go_simp
          go_wp2_with (go_at_call 29; refine (HPa.out z6 ee).mono ?_; rintro e z7 ⟨vx, rfl, gx, t⟩)
          have Za := hpB Za t
          have Zb := hpB Zb t
          have ee := ee.trans (t.mono ee.size)
          clear t
          refine hK.out _ _ ⟨rowAt Za, rowAt Zb⟩ (fun hH => ?_)
          clear hK K hH
          try simp only [Act.put, List.getElem_toArray, List.getElem_cons_zero, List.getElem_cons_succ, List.setIfInBounds_toArray, List.set_cons_zero, List.set_cons_succ]
          refine wpAnyH_ready (rs := [3]) (by kernel_rfl) (by simp) ?_
          refine AllReadyH.cons rfl (fun K hK => ?_) AllReadyH.nil
          rw [if_pos (by rfl)]
          go_simp
          go_wp2_with (go_at_call 29; refine (HPb.out z7 ee).mono ?_; rintro e z8 ⟨vy, rfl, gy, t⟩)
          have Za := hpB Za t
          have Zb := hpB Zb t
          have ee := ee.trans (t.mono ee.size)
          have gx := gx.belowM t (Nat.le_refl _)
          have sgx := t.size
          clear t
          refine hK.out _ _ ⟨rowAt Za, rowAt Zb⟩ (fun hH => ?_)
          clear hK K hH
          try simp only [Act.put, List.getElem_toArray, List.getElem_cons_zero, List.getElem_cons_succ, List.setIfInBounds_toArray, List.set_cons_zero, List.set_cons_succ]
          refine wpAnyH_take (i := 4) (v := vx) rfl (by kernel_rfl) (by kernel_rfl) (by kernel_rfl) (fun _ _ _ h => h) (Or.inl ⟨by rfl, fun w_ hS_ => by (first | (go_simp; done) | (go_simp; rfl))⟩) ⟨rowAt Za, rowAt Zb⟩ ?_
          try simp only [Act.put, List.getElem_toArray, List.getElem_cons_zero, List.getElem_cons_succ, List.setIfInBounds_toArray, List.set_cons_zero, List.set_cons_succ]
          refine wpAnyH_take (i := 5) (v := vy) rfl (by kernel_rfl) (by kernel_rfl) (by kernel_rfl) (fun _ _ _ h => h) (Or.inl ⟨by rfl, fun w_ hS_ => by (first | (go_simp; done) | (go_simp; rfl))⟩) ⟨rowAt Za, rowAt Zb⟩ ?_
          try simp only [Act.put, List.getElem_toArray, List.getElem_cons_zero, List.getElem_cons_succ, List.setIfInBounds_toArray, List.set_cons_zero, List.set_cons_succ]
          refine wpAnyH_done (by kernel_rfl) ?_ _
          have hx0 := cput_ne HFA.out.symm
          have hy0 := cput_ne HFB.out.symm
          have HSE := Lib.hid (cput_same HFA.out.symm HFB.out.symm FA.out FB.out)
          have HPX : Hid ((cput [] a).length < (cput [] b).length → ((cput [] b)).take (cput [] a).length ≠ (cput [] a)) := fun h => cput_prefix HFA.out.symm HFB.out.symm FA.out FB.out h
          have lx := cput_len a
          have ly := cput_len b
          generalize cput [] a = X at *
          generalize cput [] b = Y at *
          clear HFA HFB FA FB HPa HPb
          have hxl : X.length ≠ 0 := fun h => hx0 (List.eq_nil_of_length_eq_zero h)
          have hyl : Y.length ≠ 0 := fun h => hy0 (List.eq_nil_of_length_eq_zero h)
          clear hx0 hy0
          have gx0 := Lib.hid gx
          have gy0 := Lib.hid gy
          obtain ⟨xA, xc, rfl, hxc, hxm, hxA, hxr⟩ := gx
          obtain ⟨yA, yc, rfl, hyc, hym, hyA, hyr⟩ := gy
          obtain ⟨nx, hnx⟩ : ∃ n, n = X.length := ⟨_, rfl⟩
          obtain ⟨ny, hny⟩ : ∃ n, n = Y.length := ⟨_, rfl⟩
          have HNX := Lib.hid hnx
          have HNY := Lib.hid hny
          rw [← hnx] at hxl hxc lx
          rw [← hny] at hyl hyc ly
          have b1 : ((nx : Int) == 0) = false := by rw [beq_eq_false_iff_ne]; omega
          have b2 : ((ny : Int) == 0) = false := by rw [beq_eq_false_iff_ne]; omega
          have hsm := samed_s gx0.out gy0.out (by omega) (by omega)
          clear hsm
          have HS1 : Hid (∀ z, Below z8.heap.size z8 z → Calls Tryd.prog 30 #[.slice xA nx xc, .slice yA ny yc] z fun e w' => e = .returned (.bool (SameC a b)) ∧ Below z.heap.size z w') := fun z hz => by
            have := samed_s (gx0.out.belowM hz sgx) (gy0.out.belowM hz (Nat.le_refl _)) (by omega) (by omega)
            rw [HSE.out, ← hnx, ← hny] at this
            exact this
          rw [← hnx] at gx0
          rw [← hny] at gy0
          rw [← hnx, ← hny]
          clear hnx hny
          generalize SameC a b = sc at HS1 HSM HSE
          have e9 : Below z8.heap.size z8 z8 := Below.refl _ _
          clear b1 b2
          have b1 : ((nx : Int) == 0) = false := by rw [beq_eq_false_iff_ne]; omega
          have b2 : ((ny : Int) == 0) = false := by rw [beq_eq_false_iff_ne]; omega
          go_upto_region 4 with fail
          have Za : z8.drew.heap[w.heap.size]? = some (.cells a.cells.toArray 37) := Za
          have Zb : z8.drew.heap[w.heap.size + 1]? = some (.cells b.cells.toArray 37) := Zb
          have ee := belowDrewS ee
          have e9 := belowDrewS e9
          refine wp_region_held_drew (S := fun z' => z'.rangeAt w.heap.size 0 a.cells ∧ z'.rangeAt (w.heap.size + 1) 0 b.cells) (by kernel_rfl) ⟨rowAt Za, rowAt Zb⟩ (fun hH => ?_)
          clear hH
          generalize z8.drew = z9 at Za Zb  ee e9 ⊢
          refine wpAnyH_take (i := 0) (v := .slice xA nx xc) rfl (by kernel_rfl) (by kernel_rfl) (by kernel_rfl) (fun _ _ _ h => h) (Or.inl ⟨by rfl, fun w_ hS_ => by (first | (go_simp; done) | (go_simp; rfl))⟩) ⟨rowAt Za, rowAt Zb⟩ ?_
          try simp only [Act.put, List.getElem_toArray, List.getElem_cons_zero, List.getElem_cons_succ, List.setIfInBounds_toArray, List.set_cons_zero, List.set_cons_succ]
          refine wpAnyH_take (i := 1) (v := .int .i64 (nx : Int)) rfl (by kernel_rfl) (by kernel_rfl) (by kernel_rfl) (fun _ _ _ h => h) (Or.inl ⟨by rfl, fun w_ hS_ => by (first | (go_simp; done) | (go_simp; rfl))⟩) ⟨rowAt Za, rowAt Zb⟩ ?_
          try simp only [Act.put, List.getElem_toArray, List.getElem_cons_zero, List.getElem_cons_succ, List.setIfInBounds_toArray, List.set_cons_zero, List.set_cons_succ]
          refine wpAnyH_take (i := 2) (v := .bool false) rfl (by kernel_rfl) (by kernel_rfl) (by kernel_rfl) (fun _ _ _ h => h) (Or.inl ⟨by rfl, fun w_ hS_ => by (go_simp; first | done | rfl | simp [b1, b2])⟩) ⟨rowAt Za, rowAt Zb⟩ ?_
          try simp only [Act.put, List.getElem_toArray, List.getElem_cons_zero, List.getElem_cons_succ, List.setIfInBounds_toArray, List.set_cons_zero, List.set_cons_succ]
          refine wpAnyH_take (i := 3) (v := .bool false) rfl (by kernel_rfl) (by kernel_rfl) (by kernel_rfl) (fun _ _ _ h => h) (Or.inl ⟨by rfl, fun w_ hS_ => by (first | (go_simp; done) | (go_simp; rfl))⟩) ⟨rowAt Za, rowAt Zb⟩ ?_
          try simp only [Act.put, List.getElem_toArray, List.getElem_cons_zero, List.getElem_cons_succ, List.setIfInBounds_toArray, List.set_cons_zero, List.set_cons_succ]
          refine wpAnyH_take (i := 4) (v := .slice yA ny yc) rfl (by kernel_rfl) (by kernel_rfl) (by kernel_rfl) (fun _ _ _ h => h) (Or.inl ⟨by rfl, fun w_ hS_ => by (first | (go_simp; done) | (go_simp; rfl))⟩) ⟨rowAt Za, rowAt Zb⟩ ?_
          try simp only [Act.put, List.getElem_toArray, List.getElem_cons_zero, List.getElem_cons_succ, List.setIfInBounds_toArray, List.set_cons_zero, List.set_cons_succ]
          refine wpAnyH_take (i := 5) (v := .int .i64 (ny : Int)) rfl (by kernel_rfl) (by kernel_rfl) (by kernel_rfl) (fun _ _ _ h => h) (Or.inl ⟨by rfl, fun w_ hS_ => by (first | (go_simp; done) | (go_simp; rfl))⟩) ⟨rowAt Za, rowAt Zb⟩ ?_
          try simp only [Act.put, List.getElem_toArray, List.getElem_cons_zero, List.getElem_cons_succ, List.setIfInBounds_toArray, List.set_cons_zero, List.set_cons_succ]
          refine wpAnyH_take (i := 6) (v := .bool false) rfl (by kernel_rfl) (by kernel_rfl) (by kernel_rfl) (fun _ _ _ h => h) (Or.inl ⟨by rfl, fun w_ hS_ => by (go_simp; first | done | rfl | simp [b1, b2])⟩) ⟨rowAt Za, rowAt Zb⟩ ?_
          try simp only [Act.put, List.getElem_toArray, List.getElem_cons_zero, List.getElem_cons_succ, List.setIfInBounds_toArray, List.set_cons_zero, List.set_cons_succ]
          refine wpAnyH_take (i := 7) (v := .bool false) rfl (by kernel_rfl) (by kernel_rfl) (by kernel_rfl) (fun _ _ _ h => h) (Or.inl ⟨by rfl, fun w_ hS_ => by (first | (go_simp; done) | (go_simp; rfl))⟩) ⟨rowAt Za, rowAt Zb⟩ ?_
          try simp only [Act.put, List.getElem_toArray, List.getElem_cons_zero, List.getElem_cons_succ, List.setIfInBounds_toArray, List.set_cons_zero, List.set_cons_succ]
          refine wpAnyH_take (i := 8) (v := .bool false) rfl (by kernel_rfl) (by kernel_rfl) (by kernel_rfl) (fun _ _ _ h => h) (Or.inl ⟨by rfl, fun w_ hS_ => by (first | (go_simp; done) | (go_simp; rfl))⟩) ⟨rowAt Za, rowAt Zb⟩ ?_
          try simp only [Act.put, List.getElem_toArray, List.getElem_cons_zero, List.getElem_cons_succ, List.setIfInBounds_toArray, List.set_cons_zero, List.set_cons_succ]
          refine wpAnyH_take (i := 9) (v := .slice xA nx xc) rfl (by kernel_rfl) (by kernel_rfl) (by kernel_rfl) (fun _ _ _ h => h) (Or.inl ⟨by rfl, fun w_ hS_ => by (first | (go_simp; done) | (go_simp; rfl))⟩) ⟨rowAt Za, rowAt Zb⟩ ?_
          try simp only [Act.put, List.getElem_toArray, List.getElem_cons_zero, List.getElem_cons_succ, List.setIfInBounds_toArray, List.set_cons_zero, List.set_cons_succ]
          refine wpAnyH_take (i := 10) (v := .slice yA ny yc) rfl (by kernel_rfl) (by kernel_rfl) (by kernel_rfl) (fun _ _ _ h => h) (Or.inl ⟨by rfl, fun w_ hS_ => by (first | (go_simp; done) | (go_simp; rfl))⟩) ⟨rowAt Za, rowAt Zb⟩ ?_
          try simp only [Act.put, List.getElem_toArray, List.getElem_cons_zero, List.getElem_cons_succ, List.setIfInBounds_toArray, List.set_cons_zero, List.set_cons_succ]
          refine wpAnyH_take (i := 12) (v := .agg (a.cells).toArray) rfl (by kernel_rfl) (by kernel_rfl) (by kernel_rfl) (fun _ _ _ h => h) (yieldsIf_load_mid (by rfl) 37 _ rfl (w.heap.size) 0 rfl (a.cells) _ (fun _ h => h.1) Tryd.underlying37 rfl sizeCm) ⟨rowAt Za, rowAt Zb⟩ ?_
          try simp only [Act.put, List.getElem_toArray, List.getElem_cons_zero, List.getElem_cons_succ, List.setIfInBounds_toArray, List.set_cons_zero, List.set_cons_succ]
          refine wpAnyH_take (i := 13) (v := .agg (b.cells).toArray) rfl (by kernel_rfl) (by kernel_rfl) (by kernel_rfl) (fun _ _ _ h => h) (yieldsIf_load_mid (by rfl) 37 _ rfl (w.heap.size + 1) 0 rfl (b.cells) _ (fun _ h => h.2) Tryd.underlying37 rfl sizeCm) ⟨rowAt Za, rowAt Zb⟩ ?_
          try simp only [Act.put, List.getElem_toArray, List.getElem_cons_zero, List.getElem_cons_succ, List.setIfInBounds_toArray, List.set_cons_zero, List.set_cons_succ]
          refine wpAnyH_ready (rs := [11]) (by kernel_rfl) (by simp) ?_
          refine AllReadyH.cons rfl (fun K hK => ?_) AllReadyH.nil
          rw [if_pos (by rfl)]
          go_simp
          go_wp2_with (go_at_call 30; refine (HS1.out z9 e9).mono ?_; rintro e z10 ⟨rfl, t⟩)
          have Za := hpB Za t
          have Zb := hpB Zb t
          have ee := ee.trans (t.mono ee.size)
          have e9 := e9.trans (t.mono e9.size)
          clear t
          refine hK.out _ _ ⟨rowAt Za, rowAt Zb⟩ (fun hH => ?_)
          clear hK K hH
          try simp only [Act.put, List.getElem_toArray, List.getElem_cons_zero, List.getElem_cons_succ, List.setIfInBounds_toArray, List.set_cons_zero, List.set_cons_succ]
          refine wpAnyH_ready (rs := [14]) (by kernel_rfl) (by simp) ?_
          refine AllReadyH.cons rfl (fun K hK => ?_) AllReadyH.nil
          rw [if_pos (by rfl)]
          go_simp
          go_wp2_with (go_at_call 31; refine (HSM.out z10 ee).mono ?_; rintro e z11 ⟨rfl, t⟩)
          have Za := hpB Za t
          have Zb := hpB Zb t
          have ee := ee.trans (t.mono ee.size)
          have e9 := e9.trans (t.mono e9.size)
          clear t
          refine hK.out _ _ ⟨rowAt Za, rowAt Zb⟩ (fun hH => ?_)
          clear hK K hH
          try simp only [Act.put, List.getElem_toArray, List.getElem_cons_zero, List.getElem_cons_succ, List.setIfInBounds_toArray, List.set_cons_zero, List.set_cons_succ]
          refine wpAnyH_take (i := 15) (v := .bool false) rfl (by kernel_rfl) (by kernel_rfl) (by kernel_rfl) (fun _ _ _ h => h) (Or.inl ⟨by rfl, fun w_ hS_ => by (go_simp; first | done | rfl | simp [b1, b2])⟩) ⟨rowAt Za, rowAt Zb⟩ ?_
          try simp only [Act.put, List.getElem_toArray, List.getElem_cons_zero, List.getElem_cons_succ, List.setIfInBounds_toArray, List.set_cons_zero, List.set_cons_succ]
          refine wpAnyH_take (i := 16) (v := .bool false) rfl (by kernel_rfl) (by kernel_rfl) (by kernel_rfl) (fun _ _ _ h => h) (Or.inl ⟨by rfl, fun w_ hS_ => by (first | (go_simp; done) | (go_simp; rfl))⟩) ⟨rowAt Za, rowAt Zb⟩ ?_
          try simp only [Act.put, List.getElem_toArray, List.getElem_cons_zero, List.getElem_cons_succ, List.setIfInBounds_toArray, List.set_cons_zero, List.set_cons_succ]
          refine wpAnyH_done (by kernel_rfl) ?_ _
          clear HSM HS1 b1 b2
          by_cases hlt : nx < ny
          · have f1 : decide ((ny : Int) ≤ (nx : Int)) = false := by simp; omega
            have HQ : Hid (∀ z, Below z8.heap.size z8 z → Calls Tryd.prog 30 #[.slice xA nx xc, .slice yA nx yc] z fun e w' => e = .returned (.bool false) ∧ Below z.heap.size z w') := fun z hz => by
              have hne : X ≠ Y.take nx := fun e => HPX.out (by rw [← HNX.out, ← HNY.out]; exact hlt) (by rw [← HNX.out]; exact e.symm)
              have ht : (Y.take nx).length = nx := by rw [List.length_take, ← HNY.out]; omega
              have := samed_any xA yA xc yc X (Y.take nx) z _ _ (by rw [← HNX.out]; omega) (by rw [ht]; omega) (hxr.belowM hz sgx) (by rw [← bc_take]; exact (hyr.below hz).take nx) (by rw [← HNX.out]; exact hxc) (by rw [ht]; omega)
              rw [ht, ← HNX.out, decide_eq_false hne] at this
              exact this
            go_wp2_with fail
            refine (HQ.out z11 e9).mono ?_
            rintro e y1 ⟨rfl, t⟩
            go_wp2_with fail
            go_ret
            exact ⟨rfl, ee.trans (t.mono ee.size)⟩
          · have f1 : decide ((ny : Int) ≤ (nx : Int)) = true := by simp; omega
            go_wp2_with fail
            go_ret
            exact ⟨rfl, ee⟩
theorem commandOne_walk (W : World) (hT : Tabs W) (v0 v1 : Value) (h0 : Arg W 37 v0) (h1 : Arg W 37 v1) :
    Calls Tryd.prog 7 #[v0, v1] W fun e W' => e = .returned (.bool true) ∧ Below W.heap.size W W' := by
  obtain ⟨a, rfl, ha⟩ := h0.cm
  obtain ⟨b, rfl, hb⟩ := h1.cm
  exact one_mid a b W ha hb hT
end Go.Proofs.YtkfnepmiigkdfaaDoor
