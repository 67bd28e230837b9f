/- message.Formed. Conditions: what lies, lies below. (Printed by gen_msg.py.) -/
import Derived.Test.YtjofjpmhokjhnaaDoorMbM21
namespace Go.Proofs.YtjofjpmhokjhnaaDoor
set_option maxRecDepth 20000
open Go.RowKit T
set_option linter.unusedSimpArgs false
set_option linter.unusedVariables false

set_option maxHeartbeats 25600000 in
theorem mformed_yes (m : Ms) (w : World) (B0 : Nat) (hB : B0 ≤ w.heap.size) (ok : MsOk w B0 m) (hT : Tabs w) (hfit : m.fit = true) :
  Calls Tryd.prog 13 #[.agg m.cells.toArray] w fun e w' => e = .returned (.bool m.formed) ∧ Below w.heap.size w w' := by
 have HFL := Lib.hid (fun z => fields_any m.kd z)
 have HON := Lib.hid (fun z => only_any m z)
 have HSA := Lib.hid (fun z (hz : Below w.heap.size w z) => msame_any m.only m z B0 (Nat.le_trans hB hz.size) ((onlyOk ok).below hz hB) (ok.below hz hB))
 have HOK := Lib.hid ok
 have HT := Lib.hid hT
 have HFM : Hid (m.formed = (m.fit && m.sound)) := rfl
 have HFT := Lib.hid hfit
 clear hfit
 obtain ⟨R, hR⟩ : ∃ R, R = m.formed := ⟨_, rfl⟩
 rw [← hR] at HFM ⊢
 clear hR
 unfold Ms.fit at HFM HFT
 generalize m.only.same m = e1 at HSA HFM HFT
 generalize hso : m.sound = so at HFM
 have HSO := Lib.hid hso
 obtain ⟨fs, hfs⟩ : ∃ fs, fs = fieldsOf m.kd := ⟨_, rfl⟩
 have HFS := Lib.hid hfs
 rw [← hfs] at HFL HFM HFT
 generalize hd0 : decide (fs = []) = d0 at HFM HFT
 have h0 : (fs == []) = d0 := by rw [← hd0]; cases fs <;> rfl
 generalize h2 : decide (m.sl < 0) = d2 at HFM HFT
 generalize h3 : decide (1000000 < m.sl) = d3 at HFM HFT
 generalize h4 : decide (m.nu < 0) = d4 at HFM HFT
 generalize h5 : decide (2147483647 < m.nu) = d5 at HFM HFT
 generalize h6 : decide (m.g < 0) = d6 at HFM HFT
 generalize h7 : decide (4 ≤ m.g) = d7 at HFM HFT
 generalize h8 : decide (m.er < 0) = d8 at HFM HFT
 generalize h9 : decide (11 < m.er) = d9 at HFM HFT
 generalize h10 : decide (59900 < (m.dt.length : Int)) = d10 at HFM HFT
 clear hd0 hfs hso ok hT
 obtain ⟨d1, hd1⟩ : ∃ d1, d1 = e1 := ⟨_, rfl⟩
 rw [← hd1] at HSA HFM HFT
 clear hd1
 obtain ⟨w0, hw0⟩ : ∃ w0, w0 = w.alloc (.cells m.cells.toArray 39) := ⟨_, rfl⟩
 have ee : Below w.heap.size w w0 := by rw [hw0]; exact (Below.refl _ _).alloc (Nat.le_refl _) _
 have Zm : w0.heap[w.heap.size]? = some (.cells m.cells.toArray 39) := by rw [hw0]; exact hpN _ _ rfl
 go_enter Tryd.func13, Tryd.ntmps13
 go_upto_region 1 with fail
 change Code.wp _ _ _ _ (w.alloc (.cells m.cells.toArray 39))
 rw [← hw0]
 clear hw0
 have c0 := rowCell Zm 0 (v := .int .i64 m.kd) rfl
 refine wp_region_lit ?_
 go_wp2_with fail
 refine (HFL.out w0).mono ?_
 rintro e z1 ⟨rfl, hw_⟩
 rw [← hw_]
 clear hw_ z1
 try dsimp only
 rename_i hK
 refine hK _ _ ?_
 clear hK
 clear c0 HFL
 iterate 3 go_step
 have s2_ := ee.size
 have lZm := (Array.getElem?_eq_some_iff.1 Zm).1
 have sz_ := ee.size
 have Zm := hpA Zm (.cells #[.string ⟨#[]⟩] 9)
 have ee := ee.alloc ee.size (.cells #[.string ⟨#[]⟩] 9)
 have Zf := hpN w0 (.cells #[.string ⟨#[]⟩] 9) rfl
 generalize w0.alloc (.cells #[.string ⟨#[]⟩] 9) = z2 at Zm Zf ee ⊢
 obtain ⟨gf, hg_gf⟩ : ∃ g_, g_ = w0.heap.size := ⟨_, rfl⟩
 have hgf : w.heap.size < gf := by omega
 rw [← hg_gf] at Zf ⊢
 clear hg_gf
 iterate 40 (first | with_reducible refine isStore (ty := 9) rfl ?_ | go_step)
 have f_ : z2.frozen? ⟨gf, 0, none⟩ = false := freeAt Zf (0)
 have c_ := rowCell Zf (0) rfl
 iterate 3 go_step
 clear f_ c_
 have N_ : (z2.setCells (gf) (0) ([.string ⟨fs.toArray⟩])).heap[gf]? = some (.cells ([.string ⟨fs.toArray⟩]).toArray 9) := hpC ([.string ⟨fs.toArray⟩]) (0) _ z2 Zf
 have ee := belowC (g := gf) (by omega) ([.string ⟨fs.toArray⟩]) (0) z2 ee
 have Zm := hpCo (g' := gf) (by omega) ([.string ⟨fs.toArray⟩]) (0) z2 Zm
 clear Zf
 have Zf := N_
 clear N_
 change wpList _ _ _ _ _ (z2.setCells (gf) (0) ([.string ⟨fs.toArray⟩]))
 generalize z2.setCells (gf) (0) ([.string ⟨fs.toArray⟩]) = z3 at Zm Zf ee ⊢
 go_upto_region 2 with fail
 cases d0 with
 | true =>
 exact absurd HFT.out (by simp)
 | false =>
 cases d1 with
 | false =>
  exact absurd HFT.out (by simp)
 | true =>
  cases d2 with
  | true =>
  exact absurd HFT.out (by simp)
  | false =>
  cases d3 with
  | true =>
   exact absurd HFT.out (by simp)
  | false =>
   cases d4 with
   | true =>
   exact absurd HFT.out (by simp)
   | false =>
   cases d5 with
   | true =>
    exact absurd HFT.out (by simp)
   | false =>
    cases d6 with
    | true =>
    exact absurd HFT.out (by simp)
    | false =>
    cases d7 with
    | true =>
     exact absurd HFT.out (by simp)
    | false =>
     cases d8 with
     | true =>
     exact absurd HFT.out (by simp)
     | false =>
     cases d9 with
     | true =>
      exact absurd HFT.out (by simp)
     | false =>
      cases d10 with
      | true =>
      exact absurd HFT.out (by simp)
      | false =>
      have Zm : z3.drew.heap[w.heap.size]? = some (.cells m.cells.toArray 39) := Zm
      have Zf : z3.drew.heap[gf]? = some (.cells ([.string ⟨fs.toArray⟩]).toArray 9) := Zf
      have ee := belowDrewS ee
      refine wp_region_held_drew (S := fun z' => z'.cell? ⟨gf, 0, none⟩ = some (.string ⟨fs.toArray⟩) ∧ z'.rangeAt w.heap.size (0) m.cells ∧ z'.cell? ⟨w.heap.size, 3, none⟩ = some (.int .i64 m.sl) ∧ z'.cell? ⟨w.heap.size, 26, none⟩ = some (.int .i64 m.nu) ∧ z'.cell? ⟨w.heap.size, 23, none⟩ = some (.int .i64 m.g) ∧ z'.cell? ⟨w.heap.size, 32, none⟩ = some (.int .i64 m.er) ∧ z'.cell? ⟨w.heap.size, 33, none⟩ = some (.slice m.D m.dt.length m.dc)) (by kernel_rfl) ⟨(rowCell Zf (0) rfl), (rowAt Zm), (rowCell Zm (3) rfl), (rowCell Zm (26) rfl), (rowCell Zm (23) rfl), (rowCell Zm (32) rfl), (rowCell Zm (33) rfl)⟩ (fun hH => ?_)
      clear hH
      generalize z3.drew = z4 at Zm Zf ee ⊢
      refine wpAnyH_take (i := 0) (v := .string ⟨fs.toArray⟩) rfl (by kernel_rfl) (by kernel_rfl) (by kernel_rfl) (fun _ _ _ h => h) (Or.inl ⟨by rfl, fun w_ hS_ => by (have c_ := hS_.1; first | (go_simp; done) | (go_simp; rfl))⟩) ⟨(rowCell Zf (0) rfl), (rowAt Zm), (rowCell Zm (3) rfl), (rowCell Zm (26) rfl), (rowCell Zm (23) rfl), (rowCell Zm (32) rfl), (rowCell Zm (33) rfl)⟩ ?_
      try simp only [nP, nN, nA, n0, nS, nG, List.getElem_cons_zero, List.getElem_cons_succ]
      refine wpAnyH_take (i := 1) (v := .bool false) rfl (by kernel_rfl) (by kernel_rfl) (by kernel_rfl) (fun _ _ _ h => h) (Or.inl ⟨by rfl, fun w_ hS_ => by (first | (go_simp; done) | (go_simp; rfl))⟩) ⟨(rowCell Zf (0) rfl), (rowAt Zm), (rowCell Zm (3) rfl), (rowCell Zm (26) rfl), (rowCell Zm (23) rfl), (rowCell Zm (32) rfl), (rowCell Zm (33) rfl)⟩ ?_
      try simp only [nP, nN, nA, n0, nS, nG, List.getElem_cons_zero, List.getElem_cons_succ]
      refine wpAnyH_take (i := 2) (v := .bool false) rfl (by kernel_rfl) (by kernel_rfl) (by kernel_rfl) (fun _ _ _ h => h) (Or.inl ⟨by rfl, fun w_ hS_ => by (first | (go_simp; done) | (go_simp; rfl))⟩) ⟨(rowCell Zf (0) rfl), (rowAt Zm), (rowCell Zm (3) rfl), (rowCell Zm (26) rfl), (rowCell Zm (23) rfl), (rowCell Zm (32) rfl), (rowCell Zm (33) rfl)⟩ ?_
      try simp only [nP, nN, nA, n0, nS, nG, List.getElem_cons_zero, List.getElem_cons_succ]
      refine wpAnyH_take (i := 3) (v := .agg (m.cells).toArray) rfl (by kernel_rfl) (by kernel_rfl) (by kernel_rfl) (fun _ _ _ h => h) (yieldsIf_load_mid (by rfl) 39 _ rfl (w.heap.size) (0) rfl (m.cells) _ (fun _ h => h.2.1) Tryd.underlying39 rfl sizeMs) ⟨(rowCell Zf (0) rfl), (rowAt Zm), (rowCell Zm (3) rfl), (rowCell Zm (26) rfl), (rowCell Zm (23) rfl), (rowCell Zm (32) rfl), (rowCell Zm (33) rfl)⟩ ?_
      try simp only [nP, nN, nA, n0, nS, nG, List.getElem_cons_zero, List.getElem_cons_succ]
      refine wpAnyH_take (i := 5) (v := .agg (m.cells).toArray) rfl (by kernel_rfl) (by kernel_rfl) (by kernel_rfl) (fun _ _ _ h => h) (yieldsIf_load_mid (by rfl) 39 _ rfl (w.heap.size) (0) rfl (m.cells) _ (fun _ h => h.2.1) Tryd.underlying39 rfl sizeMs) ⟨(rowCell Zf (0) rfl), (rowAt Zm), (rowCell Zm (3) rfl), (rowCell Zm (26) rfl), (rowCell Zm (23) rfl), (rowCell Zm (32) rfl), (rowCell Zm (33) rfl)⟩ ?_
      try simp only [nP, nN, nA, n0, nS, nG, List.getElem_cons_zero, List.getElem_cons_succ]
      refine wpAnyH_ready (rs := [4]) (by kernel_rfl) (by simp) ?_
      refine AllReadyH.cons rfl (fun K hK => ?_) AllReadyH.nil
      rw [if_pos (by rfl)]
      go_simp
      go_wp2_with (go_at_call 41; refine (HON.out z4).mono ?_; rintro e z5 ⟨rfl, t⟩)
      have Zm := hpB Zm t
      have Zf := hpB Zf t
      have ee := ee.trans (t.mono ee.size)
      clear t
      refine hK.out _ _ ⟨(rowCell Zf (0) rfl), (rowAt Zm), (rowCell Zm (3) rfl), (rowCell Zm (26) rfl), (rowCell Zm (23) rfl), (rowCell Zm (32) rfl), (rowCell Zm (33) rfl)⟩ (fun hH => ?_)
      clear hK K hH
      try simp only [nP, nN, nA, n0, nS, nG, List.getElem_cons_zero, List.getElem_cons_succ]
      refine wpAnyH_ready (rs := [6]) (by kernel_rfl) (by simp) ?_
      refine AllReadyH.cons rfl (fun K hK => ?_) AllReadyH.nil
      rw [if_pos (by rfl)]
      go_simp
      go_wp2_with (go_at_call 18; refine (HSA.out z5 ee).mono ?_; rintro e z6 ⟨rfl, t⟩)
      have Zm := hpB Zm t
      have Zf := hpB Zf t
      have ee := ee.trans (t.mono ee.size)
      clear t
      refine hK.out _ _ ⟨(rowCell Zf (0) rfl), (rowAt Zm), (rowCell Zm (3) rfl), (rowCell Zm (26) rfl), (rowCell Zm (23) rfl), (rowCell Zm (32) rfl), (rowCell Zm (33) rfl)⟩ (fun hH => ?_)
      clear hK K hH
      try simp only [nP, nN, nA, n0, nS, nG, List.getElem_cons_zero, List.getElem_cons_succ]
      refine wpAnyH_take (i := 7) (v := .bool false) rfl (by kernel_rfl) (by kernel_rfl) (by kernel_rfl) (fun _ _ _ h => h) (Or.inl ⟨by rfl, fun w_ hS_ => by (first | (go_simp; done) | (go_simp; rfl))⟩) ⟨(rowCell Zf (0) rfl), (rowAt Zm), (rowCell Zm (3) rfl), (rowCell Zm (26) rfl), (rowCell Zm (23) rfl), (rowCell Zm (32) rfl), (rowCell Zm (33) rfl)⟩ ?_
      try simp only [nP, nN, nA, n0, nS, nG, List.getElem_cons_zero, List.getElem_cons_succ]
      refine wpAnyH_take (i := 8) (v := .bool false) rfl (by kernel_rfl) (by kernel_rfl) (by kernel_rfl) (fun _ _ _ h => h) (Or.inl ⟨by rfl, fun w_ hS_ => by (first | (go_simp; done) | (go_simp; rfl))⟩) ⟨(rowCell Zf (0) rfl), (rowAt Zm), (rowCell Zm (3) rfl), (rowCell Zm (26) rfl), (rowCell Zm (23) rfl), (rowCell Zm (32) rfl), (rowCell Zm (33) rfl)⟩ ?_
      try simp only [nP, nN, nA, n0, nS, nG, List.getElem_cons_zero, List.getElem_cons_succ]
      refine wpAnyH_take (i := 9) (v := .bool false) rfl (by kernel_rfl) (by kernel_rfl) (by kernel_rfl) (fun _ _ _ h => h) (Or.inl ⟨by rfl, fun w_ hS_ => by (first | (go_simp; done) | (go_simp; rfl))⟩) ⟨(rowCell Zf (0) rfl), (rowAt Zm), (rowCell Zm (3) rfl), (rowCell Zm (26) rfl), (rowCell Zm (23) rfl), (rowCell Zm (32) rfl), (rowCell Zm (33) rfl)⟩ ?_
      try simp only [nP, nN, nA, n0, nS, nG, List.getElem_cons_zero, List.getElem_cons_succ]
      refine wpAnyH_take (i := 10) (v := .pointer (some ⟨w.heap.size, 3, none⟩)) rfl (by kernel_rfl) (by kernel_rfl) (by kernel_rfl) (fun _ _ _ h => h) (Or.inl ⟨by rfl, fun w_ hS_ => by (first | (go_simp; done) | (go_simp; rfl))⟩) ⟨(rowCell Zf (0) rfl), (rowAt Zm), (rowCell Zm (3) rfl), (rowCell Zm (26) rfl), (rowCell Zm (23) rfl), (rowCell Zm (32) rfl), (rowCell Zm (33) rfl)⟩ ?_
      try simp only [nP, nN, nA, n0, nS, nG, List.getElem_cons_zero, List.getElem_cons_succ]
      refine wpAnyH_take (i := 11) (v := .int .i64 m.sl) rfl (by kernel_rfl) (by kernel_rfl) (by kernel_rfl) (fun _ _ _ h => h) (Or.inl ⟨by rfl, fun w_ hS_ => by (have c_ := hS_.2.2.1; first | (go_simp; done) | (go_simp; rfl))⟩) ⟨(rowCell Zf (0) rfl), (rowAt Zm), (rowCell Zm (3) rfl), (rowCell Zm (26) rfl), (rowCell Zm (23) rfl), (rowCell Zm (32) rfl), (rowCell Zm (33) rfl)⟩ ?_
      try simp only [nP, nN, nA, n0, nS, nG, List.getElem_cons_zero, List.getElem_cons_succ]
      refine wpAnyH_take (i := 12) (v := .bool false) rfl (by kernel_rfl) (by kernel_rfl) (by kernel_rfl) (fun _ _ _ h => h) (Or.inl ⟨by rfl, fun w_ hS_ => by (first | (go_simp; done) | (go_simp; rfl))⟩) ⟨(rowCell Zf (0) rfl), (rowAt Zm), (rowCell Zm (3) rfl), (rowCell Zm (26) rfl), (rowCell Zm (23) rfl), (rowCell Zm (32) rfl), (rowCell Zm (33) rfl)⟩ ?_
      try simp only [nP, nN, nA, n0, nS, nG, List.getElem_cons_zero, List.getElem_cons_succ]
      refine wpAnyH_take (i := 13) (v := .bool false) rfl (by kernel_rfl) (by kernel_rfl) (by kernel_rfl) (fun _ _ _ h => h) (Or.inl ⟨by rfl, fun w_ hS_ => by (first | (go_simp; done) | (go_simp; rfl))⟩) ⟨(rowCell Zf (0) rfl), (rowAt Zm), (rowCell Zm (3) rfl), (rowCell Zm (26) rfl), (rowCell Zm (23) rfl), (rowCell Zm (32) rfl), (rowCell Zm (33) rfl)⟩ ?_
      try simp only [nP, nN, nA, n0, nS, nG, List.getElem_cons_zero, List.getElem_cons_succ]
      refine wpAnyH_take (i := 14) (v := .bool false) rfl (by kernel_rfl) (by kernel_rfl) (by kernel_rfl) (fun _ _ _ h => h) (Or.inl ⟨by rfl, fun w_ hS_ => by (first | (go_simp; done) | (go_simp; rfl))⟩) ⟨(rowCell Zf (0) rfl), (rowAt Zm), (rowCell Zm (3) rfl), (rowCell Zm (26) rfl), (rowCell Zm (23) rfl), (rowCell Zm (32) rfl), (rowCell Zm (33) rfl)⟩ ?_
      try simp only [nP, nN, nA, n0, nS, nG, List.getElem_cons_zero, List.getElem_cons_succ]
      refine wpAnyH_take (i := 15) (v := .pointer (some ⟨w.heap.size, 3, none⟩)) rfl (by kernel_rfl) (by kernel_rfl) (by kernel_rfl) (fun _ _ _ h => h) (Or.inl ⟨by rfl, fun w_ hS_ => by (first | (go_simp; done) | (go_simp; rfl))⟩) ⟨(rowCell Zf (0) rfl), (rowAt Zm), (rowCell Zm (3) rfl), (rowCell Zm (26) rfl), (rowCell Zm (23) rfl), (rowCell Zm (32) rfl), (rowCell Zm (33) rfl)⟩ ?_
      try simp only [nP, nN, nA, n0, nS, nG, List.getElem_cons_zero, List.getElem_cons_succ]
      refine wpAnyH_take (i := 16) (v := .int .i64 m.sl) rfl (by kernel_rfl) (by kernel_rfl) (by kernel_rfl) (fun _ _ _ h => h) (Or.inl ⟨by rfl, fun w_ hS_ => by (have c_ := hS_.2.2.1; first | (go_simp; done) | (go_simp; rfl))⟩) ⟨(rowCell Zf (0) rfl), (rowAt Zm), (rowCell Zm (3) rfl), (rowCell Zm (26) rfl), (rowCell Zm (23) rfl), (rowCell Zm (32) rfl), (rowCell Zm (33) rfl)⟩ ?_
      try simp only [nP, nN, nA, n0, nS, nG, List.getElem_cons_zero, List.getElem_cons_succ]
      refine wpAnyH_take (i := 17) (v := .bool false) rfl (by kernel_rfl) (by kernel_rfl) (by kernel_rfl) (fun _ _ _ h => h) (Or.inl ⟨by rfl, fun w_ hS_ => by (first | (go_simp; done) | (go_simp; rfl))⟩) ⟨(rowCell Zf (0) rfl), (rowAt Zm), (rowCell Zm (3) rfl), (rowCell Zm (26) rfl), (rowCell Zm (23) rfl), (rowCell Zm (32) rfl), (rowCell Zm (33) rfl)⟩ ?_
      try simp only [nP, nN, nA, n0, nS, nG, List.getElem_cons_zero, List.getElem_cons_succ]
      refine wpAnyH_take (i := 18) (v := .bool false) rfl (by kernel_rfl) (by kernel_rfl) (by kernel_rfl) (fun _ _ _ h => h) (Or.inl ⟨by rfl, fun w_ hS_ => by (first | (go_simp; done) | (go_simp; rfl))⟩) ⟨(rowCell Zf (0) rfl), (rowAt Zm), (rowCell Zm (3) rfl), (rowCell Zm (26) rfl), (rowCell Zm (23) rfl), (rowCell Zm (32) rfl), (rowCell Zm (33) rfl)⟩ ?_
      try simp only [nP, nN, nA, n0, nS, nG, List.getElem_cons_zero, List.getElem_cons_succ]
      refine wpAnyH_take (i := 19) (v := .bool false) rfl (by kernel_rfl) (by kernel_rfl) (by kernel_rfl) (fun _ _ _ h => h) (Or.inl ⟨by rfl, fun w_ hS_ => by (first | (go_simp; done) | (go_simp; rfl))⟩) ⟨(rowCell Zf (0) rfl), (rowAt Zm), (rowCell Zm (3) rfl), (rowCell Zm (26) rfl), (rowCell Zm (23) rfl), (rowCell Zm (32) rfl), (rowCell Zm (33) rfl)⟩ ?_
      try simp only [nP, nN, nA, n0, nS, nG, List.getElem_cons_zero, List.getElem_cons_succ]
      refine wpAnyH_take (i := 20) (v := .pointer (some ⟨w.heap.size, 26, none⟩)) rfl (by kernel_rfl) (by kernel_rfl) (by kernel_rfl) (fun _ _ _ h => h) (Or.inl ⟨by rfl, fun w_ hS_ => by (first | (go_simp; done) | (go_simp; rfl))⟩) ⟨(rowCell Zf (0) rfl), (rowAt Zm), (rowCell Zm (3) rfl), (rowCell Zm (26) rfl), (rowCell Zm (23) rfl), (rowCell Zm (32) rfl), (rowCell Zm (33) rfl)⟩ ?_
      try simp only [nP, nN, nA, n0, nS, nG, List.getElem_cons_zero, List.getElem_cons_succ]
      refine wpAnyH_take (i := 21) (v := .int .i64 m.nu) rfl (by kernel_rfl) (by kernel_rfl) (by kernel_rfl) (fun _ _ _ h => h) (Or.inl ⟨by rfl, fun w_ hS_ => by (have c_ := hS_.2.2.2.1; first | (go_simp; done) | (go_simp; rfl))⟩) ⟨(rowCell Zf (0) rfl), (rowAt Zm), (rowCell Zm (3) rfl), (rowCell Zm (26) rfl), (rowCell Zm (23) rfl), (rowCell Zm (32) rfl), (rowCell Zm (33) rfl)⟩ ?_
      try simp only [nP, nN, nA, n0, nS, nG, List.getElem_cons_zero, List.getElem_cons_succ]
      refine wpAnyH_take (i := 22) (v := .bool false) rfl (by kernel_rfl) (by kernel_rfl) (by kernel_rfl) (fun _ _ _ h => h) (Or.inl ⟨by rfl, fun w_ hS_ => by (first | (go_simp; done) | (go_simp; rfl))⟩) ⟨(rowCell Zf (0) rfl), (rowAt Zm), (rowCell Zm (3) rfl), (rowCell Zm (26) rfl), (rowCell Zm (23) rfl), (rowCell Zm (32) rfl), (rowCell Zm (33) rfl)⟩ ?_
      try simp only [nP, nN, nA, n0, nS, nG, List.getElem_cons_zero, List.getElem_cons_succ]
      refine wpAnyH_take (i := 23) (v := .bool false) rfl (by kernel_rfl) (by kernel_rfl) (by kernel_rfl) (fun _ _ _ h => h) (Or.inl ⟨by rfl, fun w_ hS_ => by (first | (go_simp; done) | (go_simp; rfl))⟩) ⟨(rowCell Zf (0) rfl), (rowAt Zm), (rowCell Zm (3) rfl), (rowCell Zm (26) rfl), (rowCell Zm (23) rfl), (rowCell Zm (32) rfl), (rowCell Zm (33) rfl)⟩ ?_
      try simp only [nP, nN, nA, n0, nS, nG, List.getElem_cons_zero, List.getElem_cons_succ]
      refine wpAnyH_take (i := 24) (v := .bool false) rfl (by kernel_rfl) (by kernel_rfl) (by kernel_rfl) (fun _ _ _ h => h) (Or.inl ⟨by rfl, fun w_ hS_ => by (first | (go_simp; done) | (go_simp; rfl))⟩) ⟨(rowCell Zf (0) rfl), (rowAt Zm), (rowCell Zm (3) rfl), (rowCell Zm (26) rfl), (rowCell Zm (23) rfl), (rowCell Zm (32) rfl), (rowCell Zm (33) rfl)⟩ ?_
      try simp only [nP, nN, nA, n0, nS, nG, List.getElem_cons_zero, List.getElem_cons_succ]
      refine wpAnyH_take (i := 25) (v := .pointer (some ⟨w.heap.size, 26, none⟩)) rfl (by kernel_rfl) (by kernel_rfl) (by kernel_rfl) (fun _ _ _ h => h) (Or.inl ⟨by rfl, fun w_ hS_ => by (first | (go_simp; done) | (go_simp; rfl))⟩) ⟨(rowCell Zf (0) rfl), (rowAt Zm), (rowCell Zm (3) rfl), (rowCell Zm (26) rfl), (rowCell Zm (23) rfl), (rowCell Zm (32) rfl), (rowCell Zm (33) rfl)⟩ ?_
      try simp only [nP, nN, nA, n0, nS, nG, List.getElem_cons_zero, List.getElem_cons_succ]
      refine wpAnyH_take (i := 26) (v := .int .i64 m.nu) rfl (by kernel_rfl) (by kernel_rfl) (by kernel_rfl) (fun _ _ _ h => h) (Or.inl ⟨by rfl, fun w_ hS_ => by (have c_ := hS_.2.2.2.1; first | (go_simp; done) | (go_simp; rfl))⟩) ⟨(rowCell Zf (0) rfl), (rowAt Zm), (rowCell Zm (3) rfl), (rowCell Zm (26) rfl), (rowCell Zm (23) rfl), (rowCell Zm (32) rfl), (rowCell Zm (33) rfl)⟩ ?_
      try simp only [nP, nN, nA, n0, nS, nG, List.getElem_cons_zero, List.getElem_cons_succ]
      refine wpAnyH_take (i := 27) (v := .bool false) rfl (by kernel_rfl) (by kernel_rfl) (by kernel_rfl) (fun _ _ _ h => h) (Or.inl ⟨by rfl, fun w_ hS_ => by (first | (go_simp; done) | (go_simp; rfl))⟩) ⟨(rowCell Zf (0) rfl), (rowAt Zm), (rowCell Zm (3) rfl), (rowCell Zm (26) rfl), (rowCell Zm (23) rfl), (rowCell Zm (32) rfl), (rowCell Zm (33) rfl)⟩ ?_
      try simp only [nP, nN, nA, n0, nS, nG, List.getElem_cons_zero, List.getElem_cons_succ]
      refine wpAnyH_take (i := 28) (v := .bool false) rfl (by kernel_rfl) (by kernel_rfl) (by kernel_rfl) (fun _ _ _ h => h) (Or.inl ⟨by rfl, fun w_ hS_ => by (first | (go_simp; done) | (go_simp; rfl))⟩) ⟨(rowCell Zf (0) rfl), (rowAt Zm), (rowCell Zm (3) rfl), (rowCell Zm (26) rfl), (rowCell Zm (23) rfl), (rowCell Zm (32) rfl), (rowCell Zm (33) rfl)⟩ ?_
      try simp only [nP, nN, nA, n0, nS, nG, List.getElem_cons_zero, List.getElem_cons_succ]
      refine wpAnyH_take (i := 29) (v := .bool false) rfl (by kernel_rfl) (by kernel_rfl) (by kernel_rfl) (fun _ _ _ h => h) (Or.inl ⟨by rfl, fun w_ hS_ => by (first | (go_simp; done) | (go_simp; rfl))⟩) ⟨(rowCell Zf (0) rfl), (rowAt Zm), (rowCell Zm (3) rfl), (rowCell Zm (26) rfl), (rowCell Zm (23) rfl), (rowCell Zm (32) rfl), (rowCell Zm (33) rfl)⟩ ?_
      try simp only [nP, nN, nA, n0, nS, nG, List.getElem_cons_zero, List.getElem_cons_succ]
      refine wpAnyH_take (i := 30) (v := .pointer (some ⟨w.heap.size, 23, none⟩)) rfl (by kernel_rfl) (by kernel_rfl) (by kernel_rfl) (fun _ _ _ h => h) (Or.inl ⟨by rfl, fun w_ hS_ => by (first | (go_simp; done) | (go_simp; rfl))⟩) ⟨(rowCell Zf (0) rfl), (rowAt Zm), (rowCell Zm (3) rfl), (rowCell Zm (26) rfl), (rowCell Zm (23) rfl), (rowCell Zm (32) rfl), (rowCell Zm (33) rfl)⟩ ?_
      try simp only [nP, nN, nA, n0, nS, nG, List.getElem_cons_zero, List.getElem_cons_succ]
      refine wpAnyH_take (i := 31) (v := .int .i64 m.g) rfl (by kernel_rfl) (by kernel_rfl) (by kernel_rfl) (fun _ _ _ h => h) (Or.inl ⟨by rfl, fun w_ hS_ => by (have c_ := hS_.2.2.2.2.1; first | (go_simp; done) | (go_simp; rfl))⟩) ⟨(rowCell Zf (0) rfl), (rowAt Zm), (rowCell Zm (3) rfl), (rowCell Zm (26) rfl), (rowCell Zm (23) rfl), (rowCell Zm (32) rfl), (rowCell Zm (33) rfl)⟩ ?_
      try simp only [nP, nN, nA, n0, nS, nG, List.getElem_cons_zero, List.getElem_cons_succ]
      refine wpAnyH_take (i := 32) (v := .bool false) rfl (by kernel_rfl) (by kernel_rfl) (by kernel_rfl) (fun _ _ _ h => h) (Or.inl ⟨by rfl, fun w_ hS_ => by (first | (go_simp; done) | (go_simp; rfl))⟩) ⟨(rowCell Zf (0) rfl), (rowAt Zm), (rowCell Zm (3) rfl), (rowCell Zm (26) rfl), (rowCell Zm (23) rfl), (rowCell Zm (32) rfl), (rowCell Zm (33) rfl)⟩ ?_
      try simp only [nP, nN, nA, n0, nS, nG, List.getElem_cons_zero, List.getElem_cons_succ]
      refine wpAnyH_take (i := 33) (v := .bool false) rfl (by kernel_rfl) (by kernel_rfl) (by kernel_rfl) (fun _ _ _ h => h) (Or.inl ⟨by rfl, fun w_ hS_ => by (first | (go_simp; done) | (go_simp; rfl))⟩) ⟨(rowCell Zf (0) rfl), (rowAt Zm), (rowCell Zm (3) rfl), (rowCell Zm (26) rfl), (rowCell Zm (23) rfl), (rowCell Zm (32) rfl), (rowCell Zm (33) rfl)⟩ ?_
      try simp only [nP, nN, nA, n0, nS, nG, List.getElem_cons_zero, List.getElem_cons_succ]
      refine wpAnyH_take (i := 34) (v := .bool false) rfl (by kernel_rfl) (by kernel_rfl) (by kernel_rfl) (fun _ _ _ h => h) (Or.inl ⟨by rfl, fun w_ hS_ => by (first | (go_simp; done) | (go_simp; rfl))⟩) ⟨(rowCell Zf (0) rfl), (rowAt Zm), (rowCell Zm (3) rfl), (rowCell Zm (26) rfl), (rowCell Zm (23) rfl), (rowCell Zm (32) rfl), (rowCell Zm (33) rfl)⟩ ?_
      try simp only [nP, nN, nA, n0, nS, nG, List.getElem_cons_zero, List.getElem_cons_succ]
      refine wpAnyH_take (i := 35) (v := .pointer (some ⟨w.heap.size, 23, none⟩)) rfl (by kernel_rfl) (by kernel_rfl) (by kernel_rfl) (fun _ _ _ h => h) (Or.inl ⟨by rfl, fun w_ hS_ => by (first | (go_simp; done) | (go_simp; rfl))⟩) ⟨(rowCell Zf (0) rfl), (rowAt Zm), (rowCell Zm (3) rfl), (rowCell Zm (26) rfl), (rowCell Zm (23) rfl), (rowCell Zm (32) rfl), (rowCell Zm (33) rfl)⟩ ?_
      try simp only [nP, nN, nA, n0, nS, nG, List.getElem_cons_zero, List.getElem_cons_succ]
      refine wpAnyH_take (i := 36) (v := .int .i64 m.g) rfl (by kernel_rfl) (by kernel_rfl) (by kernel_rfl) (fun _ _ _ h => h) (Or.inl ⟨by rfl, fun w_ hS_ => by (have c_ := hS_.2.2.2.2.1; first | (go_simp; done) | (go_simp; rfl))⟩) ⟨(rowCell Zf (0) rfl), (rowAt Zm), (rowCell Zm (3) rfl), (rowCell Zm (26) rfl), (rowCell Zm (23) rfl), (rowCell Zm (32) rfl), (rowCell Zm (33) rfl)⟩ ?_
      try simp only [nP, nN, nA, n0, nS, nG, List.getElem_cons_zero, List.getElem_cons_succ]
      refine wpAnyH_take (i := 37) (v := .bool false) rfl (by kernel_rfl) (by kernel_rfl) (by kernel_rfl) (fun _ _ _ h => h) (Or.inl ⟨by rfl, fun w_ hS_ => by (first | (go_simp; done) | (go_simp; rfl))⟩) ⟨(rowCell Zf (0) rfl), (rowAt Zm), (rowCell Zm (3) rfl), (rowCell Zm (26) rfl), (rowCell Zm (23) rfl), (rowCell Zm (32) rfl), (rowCell Zm (33) rfl)⟩ ?_
      try simp only [nP, nN, nA, n0, nS, nG, List.getElem_cons_zero, List.getElem_cons_succ]
      refine wpAnyH_take (i := 38) (v := .bool false) rfl (by kernel_rfl) (by kernel_rfl) (by kernel_rfl) (fun _ _ _ h => h) (Or.inl ⟨by rfl, fun w_ hS_ => by (first | (go_simp; done) | (go_simp; rfl))⟩) ⟨(rowCell Zf (0) rfl), (rowAt Zm), (rowCell Zm (3) rfl), (rowCell Zm (26) rfl), (rowCell Zm (23) rfl), (rowCell Zm (32) rfl), (rowCell Zm (33) rfl)⟩ ?_
      try simp only [nP, nN, nA, n0, nS, nG, List.getElem_cons_zero, List.getElem_cons_succ]
      refine wpAnyH_take (i := 39) (v := .bool false) rfl (by kernel_rfl) (by kernel_rfl) (by kernel_rfl) (fun _ _ _ h => h) (Or.inl ⟨by rfl, fun w_ hS_ => by (first | (go_simp; done) | (go_simp; rfl))⟩) ⟨(rowCell Zf (0) rfl), (rowAt Zm), (rowCell Zm (3) rfl), (rowCell Zm (26) rfl), (rowCell Zm (23) rfl), (rowCell Zm (32) rfl), (rowCell Zm (33) rfl)⟩ ?_
      try simp only [nP, nN, nA, n0, nS, nG, List.getElem_cons_zero, List.getElem_cons_succ]
      refine wpAnyH_take (i := 40) (v := .pointer (some ⟨w.heap.size, 32, none⟩)) rfl (by kernel_rfl) (by kernel_rfl) (by kernel_rfl) (fun _ _ _ h => h) (Or.inl ⟨by rfl, fun w_ hS_ => by (first | (go_simp; done) | (go_simp; rfl))⟩) ⟨(rowCell Zf (0) rfl), (rowAt Zm), (rowCell Zm (3) rfl), (rowCell Zm (26) rfl), (rowCell Zm (23) rfl), (rowCell Zm (32) rfl), (rowCell Zm (33) rfl)⟩ ?_
      try simp only [nP, nN, nA, n0, nS, nG, List.getElem_cons_zero, List.getElem_cons_succ]
      refine wpAnyH_take (i := 41) (v := .int .i64 m.er) rfl (by kernel_rfl) (by kernel_rfl) (by kernel_rfl) (fun _ _ _ h => h) (Or.inl ⟨by rfl, fun w_ hS_ => by (have c_ := hS_.2.2.2.2.2.1; first | (go_simp; done) | (go_simp; rfl))⟩) ⟨(rowCell Zf (0) rfl), (rowAt Zm), (rowCell Zm (3) rfl), (rowCell Zm (26) rfl), (rowCell Zm (23) rfl), (rowCell Zm (32) rfl), (rowCell Zm (33) rfl)⟩ ?_
      try simp only [nP, nN, nA, n0, nS, nG, List.getElem_cons_zero, List.getElem_cons_succ]
      refine wpAnyH_take (i := 42) (v := .bool false) rfl (by kernel_rfl) (by kernel_rfl) (by kernel_rfl) (fun _ _ _ h => h) (Or.inl ⟨by rfl, fun w_ hS_ => by (first | (go_simp; done) | (go_simp; rfl))⟩) ⟨(rowCell Zf (0) rfl), (rowAt Zm), (rowCell Zm (3) rfl), (rowCell Zm (26) rfl), (rowCell Zm (23) rfl), (rowCell Zm (32) rfl), (rowCell Zm (33) rfl)⟩ ?_
      try simp only [nP, nN, nA, n0, nS, nG, List.getElem_cons_zero, List.getElem_cons_succ]
      refine wpAnyH_take (i := 43) (v := .bool false) rfl (by kernel_rfl) (by kernel_rfl) (by kernel_rfl) (fun _ _ _ h => h) (Or.inl ⟨by rfl, fun w_ hS_ => by (first | (go_simp; done) | (go_simp; rfl))⟩) ⟨(rowCell Zf (0) rfl), (rowAt Zm), (rowCell Zm (3) rfl), (rowCell Zm (26) rfl), (rowCell Zm (23) rfl), (rowCell Zm (32) rfl), (rowCell Zm (33) rfl)⟩ ?_
      try simp only [nP, nN, nA, n0, nS, nG, List.getElem_cons_zero, List.getElem_cons_succ]
      refine wpAnyH_take (i := 44) (v := .bool false) rfl (by kernel_rfl) (by kernel_rfl) (by kernel_rfl) (fun _ _ _ h => h) (Or.inl ⟨by rfl, fun w_ hS_ => by (first | (go_simp; done) | (go_simp; rfl))⟩) ⟨(rowCell Zf (0) rfl), (rowAt Zm), (rowCell Zm (3) rfl), (rowCell Zm (26) rfl), (rowCell Zm (23) rfl), (rowCell Zm (32) rfl), (rowCell Zm (33) rfl)⟩ ?_
      try simp only [nP, nN, nA, n0, nS, nG, List.getElem_cons_zero, List.getElem_cons_succ]
      refine wpAnyH_take (i := 45) (v := .pointer (some ⟨w.heap.size, 32, none⟩)) rfl (by kernel_rfl) (by kernel_rfl) (by kernel_rfl) (fun _ _ _ h => h) (Or.inl ⟨by rfl, fun w_ hS_ => by (first | (go_simp; done) | (go_simp; rfl))⟩) ⟨(rowCell Zf (0) rfl), (rowAt Zm), (rowCell Zm (3) rfl), (rowCell Zm (26) rfl), (rowCell Zm (23) rfl), (rowCell Zm (32) rfl), (rowCell Zm (33) rfl)⟩ ?_
      try simp only [nP, nN, nA, n0, nS, nG, List.getElem_cons_zero, List.getElem_cons_succ]
      refine wpAnyH_take (i := 46) (v := .int .i64 m.er) rfl (by kernel_rfl) (by kernel_rfl) (by kernel_rfl) (fun _ _ _ h => h) (Or.inl ⟨by rfl, fun w_ hS_ => by (have c_ := hS_.2.2.2.2.2.1; first | (go_simp; done) | (go_simp; rfl))⟩) ⟨(rowCell Zf (0) rfl), (rowAt Zm), (rowCell Zm (3) rfl), (rowCell Zm (26) rfl), (rowCell Zm (23) rfl), (rowCell Zm (32) rfl), (rowCell Zm (33) rfl)⟩ ?_
      try simp only [nP, nN, nA, n0, nS, nG, List.getElem_cons_zero, List.getElem_cons_succ]
      refine wpAnyH_take (i := 47) (v := .bool false) rfl (by kernel_rfl) (by kernel_rfl) (by kernel_rfl) (fun _ _ _ h => h) (Or.inl ⟨by rfl, fun w_ hS_ => by (first | (go_simp; done) | (go_simp; rfl))⟩) ⟨(rowCell Zf (0) rfl), (rowAt Zm), (rowCell Zm (3) rfl), (rowCell Zm (26) rfl), (rowCell Zm (23) rfl), (rowCell Zm (32) rfl), (rowCell Zm (33) rfl)⟩ ?_
      try simp only [nP, nN, nA, n0, nS, nG, List.getElem_cons_zero, List.getElem_cons_succ]
      refine wpAnyH_take (i := 48) (v := .bool false) rfl (by kernel_rfl) (by kernel_rfl) (by kernel_rfl) (fun _ _ _ h => h) (Or.inl ⟨by rfl, fun w_ hS_ => by (first | (go_simp; done) | (go_simp; rfl))⟩) ⟨(rowCell Zf (0) rfl), (rowAt Zm), (rowCell Zm (3) rfl), (rowCell Zm (26) rfl), (rowCell Zm (23) rfl), (rowCell Zm (32) rfl), (rowCell Zm (33) rfl)⟩ ?_
      try simp only [nP, nN, nA, n0, nS, nG, List.getElem_cons_zero, List.getElem_cons_succ]
      refine wpAnyH_take (i := 49) (v := .bool false) rfl (by kernel_rfl) (by kernel_rfl) (by kernel_rfl) (fun _ _ _ h => h) (Or.inl ⟨by rfl, fun w_ hS_ => by (first | (go_simp; done) | (go_simp; rfl))⟩) ⟨(rowCell Zf (0) rfl), (rowAt Zm), (rowCell Zm (3) rfl), (rowCell Zm (26) rfl), (rowCell Zm (23) rfl), (rowCell Zm (32) rfl), (rowCell Zm (33) rfl)⟩ ?_
      try simp only [nP, nN, nA, n0, nS, nG, List.getElem_cons_zero, List.getElem_cons_succ]
      refine wpAnyH_take (i := 50) (v := .pointer (some ⟨w.heap.size, 33, none⟩)) rfl (by kernel_rfl) (by kernel_rfl) (by kernel_rfl) (fun _ _ _ h => h) (Or.inl ⟨by rfl, fun w_ hS_ => by (first | (go_simp; done) | (go_simp; rfl))⟩) ⟨(rowCell Zf (0) rfl), (rowAt Zm), (rowCell Zm (3) rfl), (rowCell Zm (26) rfl), (rowCell Zm (23) rfl), (rowCell Zm (32) rfl), (rowCell Zm (33) rfl)⟩ ?_
      try simp only [nP, nN, nA, n0, nS, nG, List.getElem_cons_zero, List.getElem_cons_succ]
      refine wpAnyH_take (i := 51) (v := .slice m.D m.dt.length m.dc) rfl (by kernel_rfl) (by kernel_rfl) (by kernel_rfl) (fun _ _ _ h => h) (Or.inl ⟨by rfl, fun w_ hS_ => by (have c_ := hS_.2.2.2.2.2.2; first | (go_simp; done) | (go_simp; rfl))⟩) ⟨(rowCell Zf (0) rfl), (rowAt Zm), (rowCell Zm (3) rfl), (rowCell Zm (26) rfl), (rowCell Zm (23) rfl), (rowCell Zm (32) rfl), (rowCell Zm (33) rfl)⟩ ?_
      try simp only [nP, nN, nA, n0, nS, nG, List.getElem_cons_zero, List.getElem_cons_succ]
      refine wpAnyH_take (i := 52) (v := .int .i64 ((m.dt.length : Int))) rfl (by kernel_rfl) (by kernel_rfl) (by kernel_rfl) (fun _ _ _ h => h) (Or.inl ⟨by rfl, fun w_ hS_ => by (first | (go_simp; done) | (go_simp; rfl))⟩) ⟨(rowCell Zf (0) rfl), (rowAt Zm), (rowCell Zm (3) rfl), (rowCell Zm (26) rfl), (rowCell Zm (23) rfl), (rowCell Zm (32) rfl), (rowCell Zm (33) rfl)⟩ ?_
      try simp only [nP, nN, nA, n0, nS, nG, List.getElem_cons_zero, List.getElem_cons_succ]
      refine wpAnyH_take (i := 53) (v := .bool false) rfl (by kernel_rfl) (by kernel_rfl) (by kernel_rfl) (fun _ _ _ h => h) (Or.inl ⟨by rfl, fun w_ hS_ => by (first | (go_simp; done) | (go_simp; rfl))⟩) ⟨(rowCell Zf (0) rfl), (rowAt Zm), (rowCell Zm (3) rfl), (rowCell Zm (26) rfl), (rowCell Zm (23) rfl), (rowCell Zm (32) rfl), (rowCell Zm (33) rfl)⟩ ?_
      try simp only [nP, nN, nA, n0, nS, nG, List.getElem_cons_zero, List.getElem_cons_succ]
      refine wpAnyH_take (i := 54) (v := .bool false) rfl (by kernel_rfl) (by kernel_rfl) (by kernel_rfl) (fun _ _ _ h => h) (Or.inl ⟨by rfl, fun w_ hS_ => by (first | (go_simp; done) | (go_simp; rfl))⟩) ⟨(rowCell Zf (0) rfl), (rowAt Zm), (rowCell Zm (3) rfl), (rowCell Zm (26) rfl), (rowCell Zm (23) rfl), (rowCell Zm (32) rfl), (rowCell Zm (33) rfl)⟩ ?_
      try simp only [nP, nN, nA, n0, nS, nG, List.getElem_cons_zero, List.getElem_cons_succ]
      refine wpAnyH_done (by kernel_rfl) ?_ _
      obtain rfl : R = so := by rw [HFM.out]; simp
      clear HON HSA h0 h2 h3 h4 h5 h6 h7 h8 h9 h10
      unfold Ms.sound at HSO
      rw [← HFS.out] at HSO
      have HB1 := Lib.hid (fun z => bformed_any m.br m.bn z)
      have HB2 := Lib.hid (fun z => bformed_any m.vr m.vn z)
      have HCF := Lib.hid (fun z (hz : Below w.heap.size w z) => (cformed_any m.c.k m.c.s m.c.q m.c.rs m.c.ws m.c.A1 m.c.c1 m.c.A2 m.c.c2 m.c.i m.c.j m.c.g m.c.st m.c.y z B0 (Nat.le_trans hB hz.size) (HOK.out.c.below hz hB) (HT.out.below hz) : Calls Tryd.prog 45 #[.agg #[.int .i64 m.c.k, .int .i64 m.c.s, .int .i64 m.c.q, .slice m.c.A1 m.c.rs.length m.c.c1, .slice m.c.A2 m.c.ws.length m.c.c2, .int .i64 m.c.i, .int .i64 m.c.j, .int .i64 m.c.g, .int .u64 (m.c.st : Int), .bool m.c.y]] z fun e w' => e = .returned (.bool m.c.formed) ∧ Below z.heap.size z w'))
      have HTF := Lib.hid (fun z (hz : Below w.heap.size w z) => tformed_any m.t.s m.t.q m.t.rs m.t.ws m.t.A1 m.t.c1 m.t.A2 m.t.c2 z B0 (Nat.le_trans hB hz.size) (HOK.out.t.below hz hB) (HT.out.below hz))
      have HID := Lib.hid (fun z => tid_any m.ii m.ij z)
      have HVF := Lib.hid (fun z (hz : Below w.heap.size w z) => formed_any m.vk m.vb m.vt z (HT.out.below hz))
      have HKY := Lib.hid (fun z => key_any m.ky z HOK.out.ks)
      have HH66 := Lib.hid (fun z hz => has_any 66 fs gf z hz)
      have HH67 := Lib.hid (fun z hz => has_any 67 fs gf z hz)
      have HH84 := Lib.hid (fun z hz => has_any 84 fs gf z hz)
      have HH73 := Lib.hid (fun z hz => has_any 73 fs gf z hz)
      have HH75 := Lib.hid (fun z hz => has_any 75 fs gf z hz)
      generalize decide ((66 : UInt8) ∈ fs) = p66 at HH66 HSO
      generalize decide ((67 : UInt8) ∈ fs) = p67 at HH67 HSO
      generalize decide ((84 : UInt8) ∈ fs) = p84 at HH84 HSO
      generalize decide ((73 : UInt8) ∈ fs) = p73 at HH73 HSO
      generalize decide ((75 : UInt8) ∈ fs) = p75 at HH75 HSO
      generalize B.formed m.bn = b1 at HB1 HSO
      generalize B.formed m.vn = b2 at HB2 HSO
      generalize hb3 : m.c.formed = b3 at HSO
      have hb4 : T.cformed m.c.k m.c.s m.c.q m.c.rs m.c.ws m.c.i m.c.j m.c.g m.c.st m.c.y = b3 := hb3
      generalize T.formed m.t.s m.t.q m.t.rs m.t.ws = b4 at HTF HSO
      generalize T.idb m.ii m.ij = b5 at HID HSO
      generalize V.formed m.vk m.vb m.vt.data.toList = b6 at HVF HSO
      generalize V.key m.ky.data.toList = b7 at HKY HSO
      generalize hkz : decide (m.ky.data.toList = []) = kz at HSO
      generalize hk13 : decide (m.kd = 13) = k13 at HSO
      have hk1 : (m.ky.data.toList == []) = kz := by rw [← hkz]; cases m.ky.data.toList <;> rfl
      have hk2 : (m.ky.data.toList != []) = !kz := by rw [← hkz]; cases m.ky.data.toList <;> rfl
      have hk3 : (m.ky.toList == []) = kz := by rw [Lib.toList_data]; exact hk1
      have hk4 : (m.ky.toList != []) = !kz := by rw [Lib.toList_data]; exact hk2
      have hk5 : (m.kd != 13) = !k13 := by rw [← hk13]; by_cases q : m.kd = 13 <;> simp [q]
      clear HFM HFS hkz hk13
      go_upto_region 5 with fail
      go_cut [64] (fun u64 wx => u64 = .bool (p66 && !b1) ∧ Hid (wx.heap[w.heap.size]? = some (.cells m.cells.toArray 39 (0, 0))) ∧ Hid (wx.heap[gf]? = some (.cells [.string ⟨fs.toArray⟩].toArray 9 (0, 0))) ∧ Hid (Below w.heap.size w wx))
      case first =>
       go_wp2_with fail
       refine (HH66.out z6 Zf).mono ?_
       rintro e z7 ⟨rfl, hw_⟩
       rw [← hw_]
       clear hw_ z7
       try dsimp only
       rename_i hK
       refine hK _ _ ?_
       clear hK
       have a1 := rowCell Zm 1 (v := .int .u32 (m.br : Int)) rfl
       have a2 := rowCell Zm 2 (v := .int .i64 m.bn) rfl
       cases p66 with
       | true =>
        go_wp2_with fail
        refine (HB1.out z6).mono ?_
        rintro e z8 ⟨rfl, t⟩
        have Zm := hpB Zm t
        have Zf := hpB Zf t
        have ee := ee.trans (t.mono ee.size)
        clear t
        try dsimp only
        rename_i hK
        refine hK _ _ ?_
        clear hK
        go_wp2_with fail
        go_meet
        exact ⟨by first | rfl | (simp [*]; done), Zm, Zf, ee⟩
       | false =>
        go_wp2_with fail
        go_meet
        exact ⟨by first | rfl | (simp [*]; done), Zm, Zf, ee⟩
      case rest =>
       obtain ⟨rfl, Zm, Zf, ee⟩ := hcut
       have Zm := Zm.out
       have Zf := Zf.out
       have ee := ee.out
       generalize hq : (p66 && !b1) = q at HSO ⊢
       clear hq
       cases q with
       | true =>
        first | obtain rfl : R = false := (by rw [← HSO.out]; simp) | obtain rfl : so = false := (by rw [← HSO.out]; simp)
        go_wp2_with fail
        go_ret
        exact ⟨rfl, ee⟩
       | false =>
        go_upto_region 6 with fail
        go_cut [64] (fun u64 wx => u64 = .bool (m.ha && !b2) ∧ Hid (wx.heap[w.heap.size]? = some (.cells m.cells.toArray 39 (0, 0))) ∧ Hid (wx.heap[gf]? = some (.cells [.string ⟨fs.toArray⟩].toArray 9 (0, 0))) ∧ Hid (Below w.heap.size w wx))
        case first =>
         have a4 := rowCell Zm 4 (v := .bool m.ha) rfl
         have a5 := rowCell Zm 5 (v := .int .u32 (m.vr : Int)) rfl
         have a6 := rowCell Zm 6 (v := .int .i64 m.vn) rfl
         cases hb : m.ha with
         | true =>
          rw [hb] at a4
          go_wp2_with fail
          refine (HB2.out _).mono ?_
          rintro e z7 ⟨rfl, t⟩
          have Zm := hpB Zm t
          have Zf := hpB Zf t
          have ee := ee.trans (t.mono ee.size)
          clear t
          try dsimp only
          rename_i hK
          refine hK _ _ ?_
          clear hK
          go_wp2_with fail
          go_meet
          exact ⟨by first | rfl | (simp [*]; done), Zm, Zf, ee⟩
         | false =>
          rw [hb] at a4
          go_wp2_with fail
          go_meet
          exact ⟨by first | rfl | (simp [*]; done), Zm, Zf, ee⟩
        case rest =>
         obtain ⟨rfl, Zm, Zf, ee⟩ := hcut
         have Zm := Zm.out
         have Zf := Zf.out
         have ee := ee.out
         generalize hq : (m.ha && !b2) = q at HSO ⊢
         clear hq
         cases q with
         | true =>
          first | obtain rfl : R = false := (by rw [← HSO.out]; simp) | obtain rfl : so = false := (by rw [← HSO.out]; simp)
          go_wp2_with fail
          go_ret
          exact ⟨rfl, ee⟩
         | false =>
          go_upto_region 7 with fail
          go_cut [64] (fun u64 wx => u64 = .bool ((p67 || m.ha) && !b3) ∧ Hid (wx.heap[w.heap.size]? = some (.cells m.cells.toArray 39 (0, 0))) ∧ Hid (wx.heap[gf]? = some (.cells [.string ⟨fs.toArray⟩].toArray 9 (0, 0))) ∧ Hid (Below w.heap.size w wx))
          case first =>
           go_wp2_with fail
           refine (HH67.out _ Zf).mono ?_
           rintro e z7 ⟨rfl, hw_⟩
           rw [← hw_]
           clear hw_ z7
           try dsimp only
           rename_i hK
           refine hK _ _ ?_
           clear hK
           have a4 := rowCell Zm 4 (v := .bool m.ha) rfl
           have a7 := rowCell Zm 7 (v := .int .i64 m.c.k) rfl
           have a8 := rowCell Zm 8 (v := .int .i64 m.c.s) rfl
           have a9 := rowCell Zm 9 (v := .int .i64 m.c.q) rfl
           have a10 := rowCell Zm 10 (v := .slice m.c.A1 m.c.rs.length m.c.c1) rfl
           have a11 := rowCell Zm 11 (v := .slice m.c.A2 m.c.ws.length m.c.c2) rfl
           have a12 := rowCell Zm 12 (v := .int .i64 m.c.i) rfl
           have a13 := rowCell Zm 13 (v := .int .i64 m.c.j) rfl
           have a14 := rowCell Zm 14 (v := .int .i64 m.c.g) rfl
           have a15 := rowCell Zm 15 (v := .int .u64 (m.c.st : Int)) rfl
           have a16 := rowCell Zm 16 (v := .bool m.c.y) rfl
           cases p67 with
           | true =>
            go_wp2_with fail
            refine (HCF.out _ ee).mono ?_
            rintro e z8 ⟨rfl, t⟩
            have Zm := hpB Zm t
            have Zf := hpB Zf t
            have ee := ee.trans (t.mono ee.size)
            clear t
            try dsimp only
            rename_i hK
            refine hK _ _ ?_
            clear hK
            go_wp2_with fail
            go_meet
            exact ⟨by first | rfl | (simp [*]; done), Zm, Zf, ee⟩
           | false =>
            cases hb : m.ha with
            | true =>
             rw [hb] at a4
             go_wp2_with fail
             refine (HCF.out _ ee).mono ?_
             rintro e z8 ⟨rfl, t⟩
             have Zm := hpB Zm t
             have Zf := hpB Zf t
             have ee := ee.trans (t.mono ee.size)
             clear t
             try dsimp only
             rename_i hK
             refine hK _ _ ?_
             clear hK
             go_wp2_with fail
             go_meet
             exact ⟨by first | rfl | (simp [*]; done), Zm, Zf, ee⟩
            | false =>
             rw [hb] at a4
             go_wp2_with fail
             go_meet
             exact ⟨by first | rfl | (simp [*]; done), Zm, Zf, ee⟩
          case rest =>
           obtain ⟨rfl, Zm, Zf, ee⟩ := hcut
           have Zm := Zm.out
           have Zf := Zf.out
           have ee := ee.out
           generalize hq : ((p67 || m.ha) && !b3) = q at HSO ⊢
           clear hq
           cases q with
           | true =>
            first | obtain rfl : R = false := (by rw [← HSO.out]; simp) | obtain rfl : so = false := (by rw [← HSO.out]; simp)
            go_wp2_with fail
            go_ret
            exact ⟨rfl, ee⟩
           | false =>
            go_upto_region 9 with fail
            go_cut [93] (fun u64 wx => u64 = .bool (p84 && !b4) ∧ Hid (wx.heap[w.heap.size]? = some (.cells m.cells.toArray 39 (0, 0))) ∧ Hid (wx.heap[gf]? = some (.cells [.string ⟨fs.toArray⟩].toArray 9 (0, 0))) ∧ Hid (Below w.heap.size w wx))
            case first =>
             go_wp2_with fail
             refine (HH84.out _ Zf).mono ?_
             rintro e z7 ⟨rfl, hw_⟩
             rw [← hw_]
             clear hw_ z7
             try dsimp only
             rename_i hK
             refine hK _ _ ?_
             clear hK
             have a17 := rowCell Zm 17 (v := .int .i64 m.t.s) rfl
             have a18 := rowCell Zm 18 (v := .int .i64 m.t.q) rfl
             have a19 := rowCell Zm 19 (v := .slice m.t.A1 m.t.rs.length m.t.c1) rfl
             have a20 := rowCell Zm 20 (v := .slice m.t.A2 m.t.ws.length m.t.c2) rfl
             cases p84 with
             | true =>
              go_wp2_with fail
              refine (HTF.out _ ee).mono ?_
              rintro e z8 ⟨rfl, t⟩
              have Zm := hpB Zm t
              have Zf := hpB Zf t
              have ee := ee.trans (t.mono ee.size)
              clear t
              try dsimp only
              rename_i hK
              refine hK _ _ ?_
              clear hK
              go_wp2_with fail
              go_meet
              exact ⟨by first | rfl | (simp [*]; done), Zm, Zf, ee⟩
             | false =>
              go_wp2_with fail
              go_meet
              exact ⟨by first | rfl | (simp [*]; done), Zm, Zf, ee⟩
            case rest =>
             obtain ⟨rfl, Zm, Zf, ee⟩ := hcut
             have Zm := Zm.out
             have Zf := Zf.out
             have ee := ee.out
             generalize hq : (p84 && !b4) = q at HSO ⊢
             clear hq
             cases q with
             | true =>
              first | obtain rfl : R = false := (by rw [← HSO.out]; simp) | obtain rfl : so = false := (by rw [← HSO.out]; simp)
              go_wp2_with fail
              go_ret
              exact ⟨rfl, ee⟩
             | false =>
              go_upto_region 10 with fail
              go_cut [93] (fun u64 wx => u64 = .bool (p73 && !b5) ∧ Hid (wx.heap[w.heap.size]? = some (.cells m.cells.toArray 39 (0, 0))) ∧ Hid (wx.heap[gf]? = some (.cells [.string ⟨fs.toArray⟩].toArray 9 (0, 0))) ∧ Hid (Below w.heap.size w wx))
              case first =>
               go_wp2_with fail
               refine (HH73.out _ Zf).mono ?_
               rintro e z7 ⟨rfl, hw_⟩
               rw [← hw_]
               clear hw_ z7
               try dsimp only
               rename_i hK
               refine hK _ _ ?_
               clear hK
               have a21 := rowCell Zm 21 (v := .int .i64 m.ii) rfl
               have a22 := rowCell Zm 22 (v := .int .i64 m.ij) rfl
               cases p73 with
               | true =>
                go_wp2_with fail
                refine (HID.out _).mono ?_
                rintro e z8 ⟨rfl, t⟩
                have Zm := hpB Zm t
                have Zf := hpB Zf t
                have ee := ee.trans (t.mono ee.size)
                clear t
                try dsimp only
                rename_i hK
                refine hK _ _ ?_
                clear hK
                go_wp2_with fail
                go_meet
                exact ⟨by first | rfl | (simp [*]; done), Zm, Zf, ee⟩
               | false =>
                go_wp2_with fail
                go_meet
                exact ⟨by first | rfl | (simp [*]; done), Zm, Zf, ee⟩
              case rest =>
               obtain ⟨rfl, Zm, Zf, ee⟩ := hcut
               have Zm := Zm.out
               have Zf := Zf.out
               have ee := ee.out
               generalize hq : (p73 && !b5) = q at HSO ⊢
               clear hq
               cases q with
               | true =>
                first | obtain rfl : R = false := (by rw [← HSO.out]; simp) | obtain rfl : so = false := (by rw [← HSO.out]; simp)
                go_wp2_with fail
                go_ret
                exact ⟨rfl, ee⟩
               | false =>
                go_upto_region 11 with fail
                have a29 := rowCell Zm 29 (v := .int .i64 m.vk) rfl
                have a30 := rowCell Zm 30 (v := .int .u64 (m.vb : Int)) rfl
                have a31 := rowCell Zm 31 (v := .string m.vt) rfl
                go_wp2_with fail
                refine (HVF.out _ ee).mono ?_
                rintro e z7 ⟨rfl, t⟩
                have Zm := hpB Zm t
                have Zf := hpB Zf t
                have ee := ee.trans (t.mono ee.size)
                clear t
                try dsimp only
                rename_i hK
                refine hK _ _ ?_
                clear hK
                cases b6 with
                | false =>
                 first | obtain rfl : R = false := (by rw [← HSO.out]; simp) | obtain rfl : so = false := (by rw [← HSO.out]; simp)
                 go_wp2_with fail
                 go_ret
                 exact ⟨rfl, ee⟩
                | true =>
                 go_upto_region 13 with fail
                 go_cut [114] (fun u64 wx => u64 = .bool (p75 && !b7 && (!kz || !k13)) ∧ Hid (wx.heap[w.heap.size]? = some (.cells m.cells.toArray 39 (0, 0))) ∧ Hid (wx.heap[gf]? = some (.cells [.string ⟨fs.toArray⟩].toArray 9 (0, 0))) ∧ Hid (Below w.heap.size w wx))
                 case first =>
                  go_wp2_with fail
                  refine (HH75.out z7 Zf).mono ?_
                  rintro e z8 ⟨rfl, hw_⟩
                  rw [← hw_]
                  clear hw_ z8
                  try dsimp only
                  rename_i hK
                  refine hK _ _ ?_
                  clear hK
                  have a27 := rowCell Zm 27 (v := .string m.ky) rfl
                  have a0 := rowCell Zm 0 (v := .int .i64 m.kd) rfl
                  cases p75 with
                  | true =>
                   go_wp2_with fail
                   refine (HKY.out z7).mono ?_
                   rintro e z9 ⟨rfl, t⟩
                   have Zm := hpB Zm t
                   have Zf := hpB Zf t
                   have ee := ee.trans (t.mono ee.size)
                   clear t
                   try dsimp only
                   rename_i hK
                   refine hK _ _ ?_
                   clear hK
                   have a27 := rowCell Zm 27 (v := .string m.ky) rfl
                   have a0 := rowCell Zm 0 (v := .int .i64 m.kd) rfl
                   cases b7 with
                   | true =>
                    go_wp2_with fail
                    go_meet
                    exact ⟨by first | rfl | (simp [*]; done), Zm, Zf, ee⟩
                   | false =>
                    cases kz with
                    | true =>
                     go_wp2_with fail
                     go_meet
                     exact ⟨by first | rfl | (simp [*]; done), Zm, Zf, ee⟩
                    | false =>
                     go_wp2_with fail
                     go_meet
                     exact ⟨by first | rfl | (simp [*]; done), Zm, Zf, ee⟩
                  | false =>
                   go_wp2_with fail
                   go_meet
                   exact ⟨by first | rfl | (simp [*]; done), Zm, Zf, ee⟩
                 case rest =>
                  obtain ⟨rfl, Zm, Zf, ee⟩ := hcut
                  have Zm := Zm.out
                  have Zf := Zf.out
                  have ee := ee.out
                  generalize hq : (p75 && !b7 && (!kz || !k13)) = q at HSO ⊢
                  clear hq
                  cases q with
                  | true =>
                   first | obtain rfl : R = false := (by rw [← HSO.out]; simp) | obtain rfl : so = false := (by rw [← HSO.out]; simp)
                   go_wp2_with fail
                   go_ret
                   exact ⟨rfl, ee⟩
                  | false =>
                   first | obtain rfl : R = true := (by rw [← HSO.out]; simp) | obtain rfl : so = true := (by rw [← HSO.out]; simp)
                   go_wp2_with fail
                   go_ret
                   exact ⟨rfl, ee⟩
theorem mformed_any (m : Ms) (w : World) (B0 : Nat) (hB : B0 ≤ w.heap.size) (ok : MsOk w B0 m) (hT : Tabs w) :
  Calls Tryd.prog 13 #[.agg m.cells.toArray] w fun e w' => e = .returned (.bool m.formed) ∧ Below w.heap.size w w' := by
 cases h : m.fit with
 | false => exact mformed_no m w B0 hB ok hT h
 | true => exact mformed_yes m w B0 hB ok hT h
end Go.Proofs.YtjofjpmhokjhnaaDoor
