/- message.Formed. Conditions: what lies, lies below. (Printed by gen_msg.py.) -/
import Derived.Test.YtjofjpmhokjhnaaDoorMbM15
import Derived.Test.YtjofjpmhokjhnaaDoorMbM20
import Derived.Deep.QuietTactic
namespace Go.Proofs.YtjofjpmhokjhnaaDoor
set_option maxRecDepth 20000
open Go.RowKit T
set_option linter.unusedSimpArgs false
set_option linter.unusedVariables false

set_option maxHeartbeats 25600000 in
theorem mformed_no (m : Ms) (w : World) (B0 : Nat) (hB : B0 ≤ w.heap.size) (ok : MsOk w B0 m) (hT : Tabs w) (hfit : m.fit = false) :
  Calls Tryd.prog 13 #[.agg m.cells.toArray] w fun e w' => e = .returned (.bool m.formed) ∧ Below w.heap.size w w' := by
 have HFL := Lib.hid (fun z => fields_any m.kd z)
 have HON := Lib.hid (fun z => only_any m z)
 have HSA := Lib.hid (fun z (hz : Below w.heap.size w z) => msame_any m.only m z B0 (Nat.le_trans hB hz.size) ((onlyOk ok).below hz hB) (ok.below hz hB))
 have HOK := Lib.hid ok
 have HT := Lib.hid hT
 have HFM : Hid (m.formed = (m.fit && m.sound)) := rfl
 have HFT := Lib.hid hfit
 clear hfit
 obtain ⟨R, hR⟩ : ∃ R, R = m.formed := ⟨_, rfl⟩
 rw [← hR] at HFM ⊢
 clear hR
 unfold Ms.fit at HFM HFT
 generalize m.only.same m = e1 at HSA HFM HFT
 generalize hso : m.sound = so at HFM
 have HSO := Lib.hid hso
 obtain ⟨fs, hfs⟩ : ∃ fs, fs = fieldsOf m.kd := ⟨_, rfl⟩
 have HFS := Lib.hid hfs
 rw [← hfs] at HFL HFM HFT
 generalize hd0 : decide (fs = []) = d0 at HFM HFT
 have h0 : (fs == []) = d0 := by rw [← hd0]; cases fs <;> rfl
 generalize h2 : decide (m.sl < 0) = d2 at HFM HFT
 generalize h3 : decide (1000000 < m.sl) = d3 at HFM HFT
 generalize h4 : decide (m.nu < 0) = d4 at HFM HFT
 generalize h5 : decide (2147483647 < m.nu) = d5 at HFM HFT
 generalize h6 : decide (m.g < 0) = d6 at HFM HFT
 generalize h7 : decide (4 ≤ m.g) = d7 at HFM HFT
 generalize h8 : decide (m.er < 0) = d8 at HFM HFT
 generalize h9 : decide (11 < m.er) = d9 at HFM HFT
 generalize h10 : decide (59900 < (m.dt.length : Int)) = d10 at HFM HFT
 clear hd0 hfs hso ok hT
 obtain ⟨d1, hd1⟩ : ∃ d1, d1 = e1 := ⟨_, rfl⟩
 rw [← hd1] at HSA HFM HFT
 clear hd1
 obtain ⟨w0, hw0⟩ : ∃ w0, w0 = w.alloc (.cells m.cells.toArray 39) := ⟨_, rfl⟩
 have ee : Below w.heap.size w w0 := by rw [hw0]; exact (Below.refl _ _).alloc (Nat.le_refl _) _
 have Zm : w0.heap[w.heap.size]? = some (.cells m.cells.toArray 39) := by rw [hw0]; exact hpN _ _ rfl
 go_enter Tryd.func13, Tryd.ntmps13
 go_upto_region 1 with fail
 change Code.wp _ _ _ _ (w.alloc (.cells m.cells.toArray 39))
 rw [← hw0]
 clear hw0
 have c0 := rowCell Zm 0 (v := .int .i64 m.kd) rfl
 refine wp_region_lit ?_
 go_wp2_with fail
 refine (HFL.out w0).mono ?_
 rintro e z1 ⟨rfl, hw_⟩
 rw [← hw_]
 clear hw_ z1
 try dsimp only
 rename_i hK
 refine hK _ _ ?_
 clear hK
 clear c0 HFL
 iterate 3 go_step
 have s2_ := ee.size
 have lZm := (Array.getElem?_eq_some_iff.1 Zm).1
 have sz_ := ee.size
 have Zm := hpA Zm (.cells #[.string ⟨#[]⟩] 9)
 have ee := ee.alloc ee.size (.cells #[.string ⟨#[]⟩] 9)
 have Zf := hpN w0 (.cells #[.string ⟨#[]⟩] 9) rfl
 generalize w0.alloc (.cells #[.string ⟨#[]⟩] 9) = z2 at Zm Zf ee ⊢
 obtain ⟨gf, hg_gf⟩ : ∃ g_, g_ = w0.heap.size := ⟨_, rfl⟩
 have hgf : w.heap.size < gf := by omega
 rw [← hg_gf] at Zf ⊢
 clear hg_gf
 iterate 40 (first | with_reducible refine isStore (ty := 9) rfl ?_ | go_step)
 have f_ : z2.frozen? ⟨gf, 0, none⟩ = false := freeAt Zf (0)
 have c_ := rowCell Zf (0) rfl
 iterate 3 go_step
 clear f_ c_
 have N_ : (z2.setCells (gf) (0) ([.string ⟨fs.toArray⟩])).heap[gf]? = some (.cells ([.string ⟨fs.toArray⟩]).toArray 9) := hpC ([.string ⟨fs.toArray⟩]) (0) _ z2 Zf
 have ee := belowC (g := gf) (by omega) ([.string ⟨fs.toArray⟩]) (0) z2 ee
 have Zm := hpCo (g' := gf) (by omega) ([.string ⟨fs.toArray⟩]) (0) z2 Zm
 clear Zf
 have Zf := N_
 clear N_
 change wpList _ _ _ _ _ (z2.setCells (gf) (0) ([.string ⟨fs.toArray⟩]))
 generalize z2.setCells (gf) (0) ([.string ⟨fs.toArray⟩]) = z3 at Zm Zf ee ⊢
 go_upto_region 2 with fail
 cases d0 with
 | true =>
 have Zm : z3.drew.heap[w.heap.size]? = some (.cells m.cells.toArray 39) := Zm
 have Zf : z3.drew.heap[gf]? = some (.cells ([.string ⟨fs.toArray⟩]).toArray 9) := Zf
 have ee := belowDrewS ee
 refine wp_region_held_drew (S := fun z' => z'.cell? ⟨gf, 0, none⟩ = some (.string ⟨fs.toArray⟩)) (by kernel_rfl) (rowCell Zf (0) rfl) (fun hH => ?_)
 clear hH
 generalize z3.drew = z4 at Zm Zf ee ⊢
 refine wpAnyH_take (i := 0) (v := .string ⟨fs.toArray⟩) rfl (by kernel_rfl) (by kernel_rfl) (by kernel_rfl) (fun _ _ _ h => h) (Or.inl ⟨by rfl, fun w_ hS_ => by (have c_ := hS_; first | (go_simp; done) | (go_simp; rfl))⟩) (rowCell Zf (0) rfl) ?_
 try simp only [nP, nN, nA, n0, nS, nG, List.getElem_cons_zero, List.getElem_cons_succ]
 refine wpAnyH_take (i := 1) (v := .bool true) rfl (by kernel_rfl) (by kernel_rfl) (by kernel_rfl) (fun _ _ _ h => h) (Or.inl ⟨by rfl, fun w_ hS_ => by (first | (go_simp; done) | (go_simp; rfl))⟩) (rowCell Zf (0) rfl) ?_
 try simp only [nP, nN, nA, n0, nS, nG, List.getElem_cons_zero, List.getElem_cons_succ]
 refine wpAnyH_take (i := 2) (v := .bool true) rfl (by kernel_rfl) (by kernel_rfl) (by kernel_rfl) (fun _ _ _ h => h) (Or.inl ⟨by rfl, fun w_ hS_ => by (first | (go_simp; done) | (go_simp; rfl))⟩) (rowCell Zf (0) rfl) ?_
 try simp only [nP, nN, nA, n0, nS, nG, List.getElem_cons_zero, List.getElem_cons_succ]
 refine wpAnyH_take (i := 3) (v := undef) rfl (by kernel_rfl) (by kernel_rfl) (by kernel_rfl) (fun _ _ _ h => h) (Or.inr ⟨by rfl, rfl⟩) (rowCell Zf (0) rfl) ?_
 try simp only [nP, nN, nA, n0, nS, nG, List.getElem_cons_zero, List.getElem_cons_succ]
 refine wpAnyH_take (i := 4) (v := undef) rfl (by kernel_rfl) (by kernel_rfl) (by kernel_rfl) (fun _ _ _ h => h) (Or.inr ⟨by rfl, rfl⟩) (rowCell Zf (0) rfl) ?_
 try simp only [nP, nN, nA, n0, nS, nG, List.getElem_cons_zero, List.getElem_cons_succ]
 refine wpAnyH_take (i := 5) (v := undef) rfl (by kernel_rfl) (by kernel_rfl) (by kernel_rfl) (fun _ _ _ h => h) (Or.inr ⟨by rfl, rfl⟩) (rowCell Zf (0) rfl) ?_
 try simp only [nP, nN, nA, n0, nS, nG, List.getElem_cons_zero, List.getElem_cons_succ]
 refine wpAnyH_take (i := 6) (v := undef) rfl (by kernel_rfl) (by kernel_rfl) (by kernel_rfl) (fun _ _ _ h => h) (Or.inr ⟨by rfl, rfl⟩) (rowCell Zf (0) rfl) ?_
 try simp only [nP, nN, nA, n0, nS, nG, List.getElem_cons_zero, List.getElem_cons_succ]
 refine wpAnyH_take (i := 7) (v := undef) rfl (by kernel_rfl) (by kernel_rfl) (by kernel_rfl) (fun _ _ _ h => h) (Or.inr ⟨by rfl, rfl⟩) (rowCell Zf (0) rfl) ?_
 try simp only [nP, nN, nA, n0, nS, nG, List.getElem_cons_zero, List.getElem_cons_succ]
 refine wpAnyH_take (i := 8) (v := .bool true) rfl (by kernel_rfl) (by kernel_rfl) (by kernel_rfl) (fun _ _ _ h => h) (Or.inl ⟨by rfl, fun w_ hS_ => by (first | (go_simp; done) | (go_simp; rfl))⟩) (rowCell Zf (0) rfl) ?_
 try simp only [nP, nN, nA, n0, nS, nG, List.getElem_cons_zero, List.getElem_cons_succ]
 refine wpAnyH_take (i := 9) (v := .bool true) rfl (by kernel_rfl) (by kernel_rfl) (by kernel_rfl) (fun _ _ _ h => h) (Or.inl ⟨by rfl, fun w_ hS_ => by (first | (go_simp; done) | (go_simp; rfl))⟩) (rowCell Zf (0) rfl) ?_
 try simp only [nP, nN, nA, n0, nS, nG, List.getElem_cons_zero, List.getElem_cons_succ]
 refine wpAnyH_take (i := 10) (v := undef) rfl (by kernel_rfl) (by kernel_rfl) (by kernel_rfl) (fun _ _ _ h => h) (Or.inr ⟨by rfl, rfl⟩) (rowCell Zf (0) rfl) ?_
 try simp only [nP, nN, nA, n0, nS, nG, List.getElem_cons_zero, List.getElem_cons_succ]
 refine wpAnyH_take (i := 11) (v := undef) rfl (by kernel_rfl) (by kernel_rfl) (by kernel_rfl) (fun _ _ _ h => h) (Or.inr ⟨by rfl, rfl⟩) (rowCell Zf (0) rfl) ?_
 try simp only [nP, nN, nA, n0, nS, nG, List.getElem_cons_zero, List.getElem_cons_succ]
 refine wpAnyH_take (i := 12) (v := undef) rfl (by kernel_rfl) (by kernel_rfl) (by kernel_rfl) (fun _ _ _ h => h) (Or.inr ⟨by rfl, rfl⟩) (rowCell Zf (0) rfl) ?_
 try simp only [nP, nN, nA, n0, nS, nG, List.getElem_cons_zero, List.getElem_cons_succ]
 refine wpAnyH_take (i := 13) (v := .bool true) rfl (by kernel_rfl) (by kernel_rfl) (by kernel_rfl) (fun _ _ _ h => h) (Or.inl ⟨by rfl, fun w_ hS_ => by (first | (go_simp; done) | (go_simp; rfl))⟩) (rowCell Zf (0) rfl) ?_
 try simp only [nP, nN, nA, n0, nS, nG, List.getElem_cons_zero, List.getElem_cons_succ]
 refine wpAnyH_take (i := 14) (v := .bool true) rfl (by kernel_rfl) (by kernel_rfl) (by kernel_rfl) (fun _ _ _ h => h) (Or.inl ⟨by rfl, fun w_ hS_ => by (first | (go_simp; done) | (go_simp; rfl))⟩) (rowCell Zf (0) rfl) ?_
 try simp only [nP, nN, nA, n0, nS, nG, List.getElem_cons_zero, List.getElem_cons_succ]
 refine wpAnyH_take (i := 15) (v := undef) rfl (by kernel_rfl) (by kernel_rfl) (by kernel_rfl) (fun _ _ _ h => h) (Or.inr ⟨by rfl, rfl⟩) (rowCell Zf (0) rfl) ?_
 try simp only [nP, nN, nA, n0, nS, nG, List.getElem_cons_zero, List.getElem_cons_succ]
 refine wpAnyH_take (i := 16) (v := undef) rfl (by kernel_rfl) (by kernel_rfl) (by kernel_rfl) (fun _ _ _ h => h) (Or.inr ⟨by rfl, rfl⟩) (rowCell Zf (0) rfl) ?_
 try simp only [nP, nN, nA, n0, nS, nG, List.getElem_cons_zero, List.getElem_cons_succ]
 refine wpAnyH_take (i := 17) (v := undef) rfl (by kernel_rfl) (by kernel_rfl) (by kernel_rfl) (fun _ _ _ h => h) (Or.inr ⟨by rfl, rfl⟩) (rowCell Zf (0) rfl) ?_
 try simp only [nP, nN, nA, n0, nS, nG, List.getElem_cons_zero, List.getElem_cons_succ]
 refine wpAnyH_take (i := 18) (v := .bool true) rfl (by kernel_rfl) (by kernel_rfl) (by kernel_rfl) (fun _ _ _ h => h) (Or.inl ⟨by rfl, fun w_ hS_ => by (first | (go_simp; done) | (go_simp; rfl))⟩) (rowCell Zf (0) rfl) ?_
 try simp only [nP, nN, nA, n0, nS, nG, List.getElem_cons_zero, List.getElem_cons_succ]
 refine wpAnyH_take (i := 19) (v := .bool true) rfl (by kernel_rfl) (by kernel_rfl) (by kernel_rfl) (fun _ _ _ h => h) (Or.inl ⟨by rfl, fun w_ hS_ => by (first | (go_simp; done) | (go_simp; rfl))⟩) (rowCell Zf (0) rfl) ?_
 try simp only [nP, nN, nA, n0, nS, nG, List.getElem_cons_zero, List.getElem_cons_succ]
 refine wpAnyH_take (i := 20) (v := undef) rfl (by kernel_rfl) (by kernel_rfl) (by kernel_rfl) (fun _ _ _ h => h) (Or.inr ⟨by rfl, rfl⟩) (rowCell Zf (0) rfl) ?_
 try simp only [nP, nN, nA, n0, nS, nG, List.getElem_cons_zero, List.getElem_cons_succ]
 refine wpAnyH_take (i := 21) (v := undef) rfl (by kernel_rfl) (by kernel_rfl) (by kernel_rfl) (fun _ _ _ h => h) (Or.inr ⟨by rfl, rfl⟩) (rowCell Zf (0) rfl) ?_
 try simp only [nP, nN, nA, n0, nS, nG, List.getElem_cons_zero, List.getElem_cons_succ]
 refine wpAnyH_take (i := 22) (v := undef) rfl (by kernel_rfl) (by kernel_rfl) (by kernel_rfl) (fun _ _ _ h => h) (Or.inr ⟨by rfl, rfl⟩) (rowCell Zf (0) rfl) ?_
 try simp only [nP, nN, nA, n0, nS, nG, List.getElem_cons_zero, List.getElem_cons_succ]
 refine wpAnyH_take (i := 23) (v := .bool true) rfl (by kernel_rfl) (by kernel_rfl) (by kernel_rfl) (fun _ _ _ h => h) (Or.inl ⟨by rfl, fun w_ hS_ => by (first | (go_simp; done) | (go_simp; rfl))⟩) (rowCell Zf (0) rfl) ?_
 try simp only [nP, nN, nA, n0, nS, nG, List.getElem_cons_zero, List.getElem_cons_succ]
 refine wpAnyH_take (i := 24) (v := .bool true) rfl (by kernel_rfl) (by kernel_rfl) (by kernel_rfl) (fun _ _ _ h => h) (Or.inl ⟨by rfl, fun w_ hS_ => by (first | (go_simp; done) | (go_simp; rfl))⟩) (rowCell Zf (0) rfl) ?_
 try simp only [nP, nN, nA, n0, nS, nG, List.getElem_cons_zero, List.getElem_cons_succ]
 refine wpAnyH_take (i := 25) (v := undef) rfl (by kernel_rfl) (by kernel_rfl) (by kernel_rfl) (fun _ _ _ h => h) (Or.inr ⟨by rfl, rfl⟩) (rowCell Zf (0) rfl) ?_
 try simp only [nP, nN, nA, n0, nS, nG, List.getElem_cons_zero, List.getElem_cons_succ]
 refine wpAnyH_take (i := 26) (v := undef) rfl (by kernel_rfl) (by kernel_rfl) (by kernel_rfl) (fun _ _ _ h => h) (Or.inr ⟨by rfl, rfl⟩) (rowCell Zf (0) rfl) ?_
 try simp only [nP, nN, nA, n0, nS, nG, List.getElem_cons_zero, List.getElem_cons_succ]
 refine wpAnyH_take (i := 27) (v := undef) rfl (by kernel_rfl) (by kernel_rfl) (by kernel_rfl) (fun _ _ _ h => h) (Or.inr ⟨by rfl, rfl⟩) (rowCell Zf (0) rfl) ?_
 try simp only [nP, nN, nA, n0, nS, nG, List.getElem_cons_zero, List.getElem_cons_succ]
 refine wpAnyH_take (i := 28) (v := .bool true) rfl (by kernel_rfl) (by kernel_rfl) (by kernel_rfl) (fun _ _ _ h => h) (Or.inl ⟨by rfl, fun w_ hS_ => by (first | (go_simp; done) | (go_simp; rfl))⟩) (rowCell Zf (0) rfl) ?_
 try simp only [nP, nN, nA, n0, nS, nG, List.getElem_cons_zero, List.getElem_cons_succ]
 refine wpAnyH_take (i := 29) (v := .bool true) rfl (by kernel_rfl) (by kernel_rfl) (by kernel_rfl) (fun _ _ _ h => h) (Or.inl ⟨by rfl, fun w_ hS_ => by (first | (go_simp; done) | (go_simp; rfl))⟩) (rowCell Zf (0) rfl) ?_
 try simp only [nP, nN, nA, n0, nS, nG, List.getElem_cons_zero, List.getElem_cons_succ]
 refine wpAnyH_take (i := 30) (v := undef) rfl (by kernel_rfl) (by kernel_rfl) (by kernel_rfl) (fun _ _ _ h => h) (Or.inr ⟨by rfl, rfl⟩) (rowCell Zf (0) rfl) ?_
 try simp only [nP, nN, nA, n0, nS, nG, List.getElem_cons_zero, List.getElem_cons_succ]
 refine wpAnyH_take (i := 31) (v := undef) rfl (by kernel_rfl) (by kernel_rfl) (by kernel_rfl) (fun _ _ _ h => h) (Or.inr ⟨by rfl, rfl⟩) (rowCell Zf (0) rfl) ?_
 try simp only [nP, nN, nA, n0, nS, nG, List.getElem_cons_zero, List.getElem_cons_succ]
 refine wpAnyH_take (i := 32) (v := undef) rfl (by kernel_rfl) (by kernel_rfl) (by kernel_rfl) (fun _ _ _ h => h) (Or.inr ⟨by rfl, rfl⟩) (rowCell Zf (0) rfl) ?_
 try simp only [nP, nN, nA, n0, nS, nG, List.getElem_cons_zero, List.getElem_cons_succ]
 refine wpAnyH_take (i := 33) (v := .bool true) rfl (by kernel_rfl) (by kernel_rfl) (by kernel_rfl) (fun _ _ _ h => h) (Or.inl ⟨by rfl, fun w_ hS_ => by (first | (go_simp; done) | (go_simp; rfl))⟩) (rowCell Zf (0) rfl) ?_
 try simp only [nP, nN, nA, n0, nS, nG, List.getElem_cons_zero, List.getElem_cons_succ]
 refine wpAnyH_take (i := 34) (v := .bool true) rfl (by kernel_rfl) (by kernel_rfl) (by kernel_rfl) (fun _ _ _ h => h) (Or.inl ⟨by rfl, fun w_ hS_ => by (first | (go_simp; done) | (go_simp; rfl))⟩) (rowCell Zf (0) rfl) ?_
 try simp only [nP, nN, nA, n0, nS, nG, List.getElem_cons_zero, List.getElem_cons_succ]
 refine wpAnyH_take (i := 35) (v := undef) rfl (by kernel_rfl) (by kernel_rfl) (by kernel_rfl) (fun _ _ _ h => h) (Or.inr ⟨by rfl, rfl⟩) (rowCell Zf (0) rfl) ?_
 try simp only [nP, nN, nA, n0, nS, nG, List.getElem_cons_zero, List.getElem_cons_succ]
 refine wpAnyH_take (i := 36) (v := undef) rfl (by kernel_rfl) (by kernel_rfl) (by kernel_rfl) (fun _ _ _ h => h) (Or.inr ⟨by rfl, rfl⟩) (rowCell Zf (0) rfl) ?_
 try simp only [nP, nN, nA, n0, nS, nG, List.getElem_cons_zero, List.getElem_cons_succ]
 refine wpAnyH_take (i := 37) (v := undef) rfl (by kernel_rfl) (by kernel_rfl) (by kernel_rfl) (fun _ _ _ h => h) (Or.inr ⟨by rfl, rfl⟩) (rowCell Zf (0) rfl) ?_
 try simp only [nP, nN, nA, n0, nS, nG, List.getElem_cons_zero, List.getElem_cons_succ]
 refine wpAnyH_take (i := 38) (v := .bool true) rfl (by kernel_rfl) (by kernel_rfl) (by kernel_rfl) (fun _ _ _ h => h) (Or.inl ⟨by rfl, fun w_ hS_ => by (first | (go_simp; done) | (go_simp; rfl))⟩) (rowCell Zf (0) rfl) ?_
 try simp only [nP, nN, nA, n0, nS, nG, List.getElem_cons_zero, List.getElem_cons_succ]
 refine wpAnyH_take (i := 39) (v := .bool true) rfl (by kernel_rfl) (by kernel_rfl) (by kernel_rfl) (fun _ _ _ h => h) (Or.inl ⟨by rfl, fun w_ hS_ => by (first | (go_simp; done) | (go_simp; rfl))⟩) (rowCell Zf (0) rfl) ?_
 try simp only [nP, nN, nA, n0, nS, nG, List.getElem_cons_zero, List.getElem_cons_succ]
 refine wpAnyH_take (i := 40) (v := undef) rfl (by kernel_rfl) (by kernel_rfl) (by kernel_rfl) (fun _ _ _ h => h) (Or.inr ⟨by rfl, rfl⟩) (rowCell Zf (0) rfl) ?_
 try simp only [nP, nN, nA, n0, nS, nG, List.getElem_cons_zero, List.getElem_cons_succ]
 refine wpAnyH_take (i := 41) (v := undef) rfl (by kernel_rfl) (by kernel_rfl) (by kernel_rfl) (fun _ _ _ h => h) (Or.inr ⟨by rfl, rfl⟩) (rowCell Zf (0) rfl) ?_
 try simp only [nP, nN, nA, n0, nS, nG, List.getElem_cons_zero, List.getElem_cons_succ]
 refine wpAnyH_take (i := 42) (v := undef) rfl (by kernel_rfl) (by kernel_rfl) (by kernel_rfl) (fun _ _ _ h => h) (Or.inr ⟨by rfl, rfl⟩) (rowCell Zf (0) rfl) ?_
 try simp only [nP, nN, nA, n0, nS, nG, List.getElem_cons_zero, List.getElem_cons_succ]
 refine wpAnyH_take (i := 43) (v := .bool true) rfl (by kernel_rfl) (by kernel_rfl) (by kernel_rfl) (fun _ _ _ h => h) (Or.inl ⟨by rfl, fun w_ hS_ => by (first | (go_simp; done) | (go_simp; rfl))⟩) (rowCell Zf (0) rfl) ?_
 try simp only [nP, nN, nA, n0, nS, nG, List.getElem_cons_zero, List.getElem_cons_succ]
 refine wpAnyH_take (i := 44) (v := .bool true) rfl (by kernel_rfl) (by kernel_rfl) (by kernel_rfl) (fun _ _ _ h => h) (Or.inl ⟨by rfl, fun w_ hS_ => by (first | (go_simp; done) | (go_simp; rfl))⟩) (rowCell Zf (0) rfl) ?_
 try simp only [nP, nN, nA, n0, nS, nG, List.getElem_cons_zero, List.getElem_cons_succ]
 refine wpAnyH_take (i := 45) (v := undef) rfl (by kernel_rfl) (by kernel_rfl) (by kernel_rfl) (fun _ _ _ h => h) (Or.inr ⟨by rfl, rfl⟩) (rowCell Zf (0) rfl) ?_
 try simp only [nP, nN, nA, n0, nS, nG, List.getElem_cons_zero, List.getElem_cons_succ]
 refine wpAnyH_take (i := 46) (v := undef) rfl (by kernel_rfl) (by kernel_rfl) (by kernel_rfl) (fun _ _ _ h => h) (Or.inr ⟨by rfl, rfl⟩) (rowCell Zf (0) rfl) ?_
 try simp only [nP, nN, nA, n0, nS, nG, List.getElem_cons_zero, List.getElem_cons_succ]
 refine wpAnyH_take (i := 47) (v := undef) rfl (by kernel_rfl) (by kernel_rfl) (by kernel_rfl) (fun _ _ _ h => h) (Or.inr ⟨by rfl, rfl⟩) (rowCell Zf (0) rfl) ?_
 try simp only [nP, nN, nA, n0, nS, nG, List.getElem_cons_zero, List.getElem_cons_succ]
 refine wpAnyH_take (i := 48) (v := .bool true) rfl (by kernel_rfl) (by kernel_rfl) (by kernel_rfl) (fun _ _ _ h => h) (Or.inl ⟨by rfl, fun w_ hS_ => by (first | (go_simp; done) | (go_simp; rfl))⟩) (rowCell Zf (0) rfl) ?_
 try simp only [nP, nN, nA, n0, nS, nG, List.getElem_cons_zero, List.getElem_cons_succ]
 refine wpAnyH_take (i := 49) (v := .bool true) rfl (by kernel_rfl) (by kernel_rfl) (by kernel_rfl) (fun _ _ _ h => h) (Or.inl ⟨by rfl, fun w_ hS_ => by (first | (go_simp; done) | (go_simp; rfl))⟩) (rowCell Zf (0) rfl) ?_
 try simp only [nP, nN, nA, n0, nS, nG, List.getElem_cons_zero, List.getElem_cons_succ]
 refine wpAnyH_take (i := 50) (v := undef) rfl (by kernel_rfl) (by kernel_rfl) (by kernel_rfl) (fun _ _ _ h => h) (Or.inr ⟨by rfl, rfl⟩) (rowCell Zf (0) rfl) ?_
 try simp only [nP, nN, nA, n0, nS, nG, List.getElem_cons_zero, List.getElem_cons_succ]
 refine wpAnyH_take (i := 51) (v := undef) rfl (by kernel_rfl) (by kernel_rfl) (by kernel_rfl) (fun _ _ _ h => h) (Or.inr ⟨by rfl, rfl⟩) (rowCell Zf (0) rfl) ?_
 try simp only [nP, nN, nA, n0, nS, nG, List.getElem_cons_zero, List.getElem_cons_succ]
 refine wpAnyH_take (i := 52) (v := undef) rfl (by kernel_rfl) (by kernel_rfl) (by kernel_rfl) (fun _ _ _ h => h) (Or.inr ⟨by rfl, rfl⟩) (rowCell Zf (0) rfl) ?_
 try simp only [nP, nN, nA, n0, nS, nG, List.getElem_cons_zero, List.getElem_cons_succ]
 refine wpAnyH_take (i := 53) (v := undef) rfl (by kernel_rfl) (by kernel_rfl) (by kernel_rfl) (fun _ _ _ h => h) (Or.inr ⟨by rfl, rfl⟩) (rowCell Zf (0) rfl) ?_
 try simp only [nP, nN, nA, n0, nS, nG, List.getElem_cons_zero, List.getElem_cons_succ]
 refine wpAnyH_take (i := 54) (v := .bool true) rfl (by kernel_rfl) (by kernel_rfl) (by kernel_rfl) (fun _ _ _ h => h) (Or.inl ⟨by rfl, fun w_ hS_ => by (first | (go_simp; done) | (go_simp; rfl))⟩) (rowCell Zf (0) rfl) ?_
 try simp only [nP, nN, nA, n0, nS, nG, List.getElem_cons_zero, List.getElem_cons_succ]
 refine wpAnyH_done (by kernel_rfl) ?_ _
 obtain rfl : R = false := by rw [HFM.out]; simp
 clear HON HSA h0 h2 h3 h4 h5 h6 h7 h8 h9 h10
 go_wp2_with fail
 go_ret
 exact ⟨rfl, ee⟩
 | false =>
 cases d1 with
 | false =>
  have Zm : z3.drew.heap[w.heap.size]? = some (.cells m.cells.toArray 39) := Zm
  have Zf : z3.drew.heap[gf]? = some (.cells ([.string ⟨fs.toArray⟩]).toArray 9) := Zf
  have ee := belowDrewS ee
  refine wp_region_held_drew (S := fun z' => z'.cell? ⟨gf, 0, none⟩ = some (.string ⟨fs.toArray⟩) ∧ z'.rangeAt w.heap.size (0) m.cells) (by kernel_rfl) ⟨(rowCell Zf (0) rfl), (rowAt Zm)⟩ (fun hH => ?_)
  clear hH
  generalize z3.drew = z4 at Zm Zf ee ⊢
  refine wpAnyH_take (i := 0) (v := .string ⟨fs.toArray⟩) rfl (by kernel_rfl) (by kernel_rfl) (by kernel_rfl) (fun _ _ _ h => h) (Or.inl ⟨by rfl, fun w_ hS_ => by (have c_ := hS_.1; first | (go_simp; done) | (go_simp; rfl))⟩) ⟨(rowCell Zf (0) rfl), (rowAt Zm)⟩ ?_
  try simp only [nP, nN, nA, n0, nS, nG, List.getElem_cons_zero, List.getElem_cons_succ]
  refine wpAnyH_take (i := 1) (v := .bool false) rfl (by kernel_rfl) (by kernel_rfl) (by kernel_rfl) (fun _ _ _ h => h) (Or.inl ⟨by rfl, fun w_ hS_ => by (first | (go_simp; done) | (go_simp; rfl))⟩) ⟨(rowCell Zf (0) rfl), (rowAt Zm)⟩ ?_
  try simp only [nP, nN, nA, n0, nS, nG, List.getElem_cons_zero, List.getElem_cons_succ]
  refine wpAnyH_take (i := 2) (v := .bool false) rfl (by kernel_rfl) (by kernel_rfl) (by kernel_rfl) (fun _ _ _ h => h) (Or.inl ⟨by rfl, fun w_ hS_ => by (first | (go_simp; done) | (go_simp; rfl))⟩) ⟨(rowCell Zf (0) rfl), (rowAt Zm)⟩ ?_
  try simp only [nP, nN, nA, n0, nS, nG, List.getElem_cons_zero, List.getElem_cons_succ]
  refine wpAnyH_take (i := 3) (v := .agg (m.cells).toArray) rfl (by kernel_rfl) (by kernel_rfl) (by kernel_rfl) (fun _ _ _ h => h) (yieldsIf_load_mid (by rfl) 39 _ rfl (w.heap.size) (0) rfl (m.cells) _ (fun _ h => h.2) Tryd.underlying39 rfl sizeMs) ⟨(rowCell Zf (0) rfl), (rowAt Zm)⟩ ?_
  try simp only [nP, nN, nA, n0, nS, nG, List.getElem_cons_zero, List.getElem_cons_succ]
  refine wpAnyH_take (i := 5) (v := .agg (m.cells).toArray) rfl (by kernel_rfl) (by kernel_rfl) (by kernel_rfl) (fun _ _ _ h => h) (yieldsIf_load_mid (by rfl) 39 _ rfl (w.heap.size) (0) rfl (m.cells) _ (fun _ h => h.2) Tryd.underlying39 rfl sizeMs) ⟨(rowCell Zf (0) rfl), (rowAt Zm)⟩ ?_
  try simp only [nP, nN, nA, n0, nS, nG, List.getElem_cons_zero, List.getElem_cons_succ]
  refine wpAnyH_ready (rs := [4]) (by kernel_rfl) (by simp) ?_
  refine AllReadyH.cons rfl (fun K hK => ?_) AllReadyH.nil
  rw [if_pos (by rfl)]
  go_simp
  go_wp2_with (go_at_call 41; refine (HON.out z4).mono ?_; rintro e z5 ⟨rfl, t⟩)
  have Zm := hpB Zm t
  have Zf := hpB Zf t
  have ee := ee.trans (t.mono ee.size)
  clear t
  refine hK.out _ _ ⟨(rowCell Zf (0) rfl), (rowAt Zm)⟩ (fun hH => ?_)
  clear hK K hH
  try simp only [nP, nN, nA, n0, nS, nG, List.getElem_cons_zero, List.getElem_cons_succ]
  refine wpAnyH_ready (rs := [6]) (by kernel_rfl) (by simp) ?_
  refine AllReadyH.cons rfl (fun K hK => ?_) AllReadyH.nil
  rw [if_pos (by rfl)]
  go_simp
  go_wp2_with (go_at_call 18; refine (HSA.out z5 ee).mono ?_; rintro e z6 ⟨rfl, t⟩)
  have Zm := hpB Zm t
  have Zf := hpB Zf t
  have ee := ee.trans (t.mono ee.size)
  clear t
  refine hK.out _ _ ⟨(rowCell Zf (0) rfl), (rowAt Zm)⟩ (fun hH => ?_)
  clear hK K hH
  try simp only [nP, nN, nA, n0, nS, nG, List.getElem_cons_zero, List.getElem_cons_succ]
  refine wpAnyH_take (i := 7) (v := .bool true) rfl (by kernel_rfl) (by kernel_rfl) (by kernel_rfl) (fun _ _ _ h => h) (Or.inl ⟨by rfl, fun w_ hS_ => by (first | (go_simp; done) | (go_simp; rfl))⟩) ⟨(rowCell Zf (0) rfl), (rowAt Zm)⟩ ?_
  try simp only [nP, nN, nA, n0, nS, nG, List.getElem_cons_zero, List.getElem_cons_succ]
  refine wpAnyH_take (i := 8) (v := .bool true) rfl (by kernel_rfl) (by kernel_rfl) (by kernel_rfl) (fun _ _ _ h => h) (Or.inl ⟨by rfl, fun w_ hS_ => by (first | (go_simp; done) | (go_simp; rfl))⟩) ⟨(rowCell Zf (0) rfl), (rowAt Zm)⟩ ?_
  try simp only [nP, nN, nA, n0, nS, nG, List.getElem_cons_zero, List.getElem_cons_succ]
  refine wpAnyH_take (i := 9) (v := .bool true) rfl (by kernel_rfl) (by kernel_rfl) (by kernel_rfl) (fun _ _ _ h => h) (Or.inl ⟨by rfl, fun w_ hS_ => by (first | (go_simp; done) | (go_simp; rfl))⟩) ⟨(rowCell Zf (0) rfl), (rowAt Zm)⟩ ?_
  try simp only [nP, nN, nA, n0, nS, nG, List.getElem_cons_zero, List.getElem_cons_succ]
  refine wpAnyH_take (i := 10) (v := undef) rfl (by kernel_rfl) (by kernel_rfl) (by kernel_rfl) (fun _ _ _ h => h) (Or.inr ⟨by rfl, rfl⟩) ⟨(rowCell Zf (0) rfl), (rowAt Zm)⟩ ?_
  try simp only [nP, nN, nA, n0, nS, nG, List.getElem_cons_zero, List.getElem_cons_succ]
  refine wpAnyH_take (i := 11) (v := undef) rfl (by kernel_rfl) (by kernel_rfl) (by kernel_rfl) (fun _ _ _ h => h) (Or.inr ⟨by rfl, rfl⟩) ⟨(rowCell Zf (0) rfl), (rowAt Zm)⟩ ?_
  try simp only [nP, nN, nA, n0, nS, nG, List.getElem_cons_zero, List.getElem_cons_succ]
  refine wpAnyH_take (i := 12) (v := undef) rfl (by kernel_rfl) (by kernel_rfl) (by kernel_rfl) (fun _ _ _ h => h) (Or.inr ⟨by rfl, rfl⟩) ⟨(rowCell Zf (0) rfl), (rowAt Zm)⟩ ?_
  try simp only [nP, nN, nA, n0, nS, nG, List.getElem_cons_zero, List.getElem_cons_succ]
  refine wpAnyH_take (i := 13) (v := .bool true) rfl (by kernel_rfl) (by kernel_rfl) (by kernel_rfl) (fun _ _ _ h => h) (Or.inl ⟨by rfl, fun w_ hS_ => by (first | (go_simp; done) | (go_simp; rfl))⟩) ⟨(rowCell Zf (0) rfl), (rowAt Zm)⟩ ?_
  try simp only [nP, nN, nA, n0, nS, nG, List.getElem_cons_zero, List.getElem_cons_succ]
  refine wpAnyH_take (i := 14) (v := .bool true) rfl (by kernel_rfl) (by kernel_rfl) (by kernel_rfl) (fun _ _ _ h => h) (Or.inl ⟨by rfl, fun w_ hS_ => by (first | (go_simp; done) | (go_simp; rfl))⟩) ⟨(rowCell Zf (0) rfl), (rowAt Zm)⟩ ?_
  try simp only [nP, nN, nA, n0, nS, nG, List.getElem_cons_zero, List.getElem_cons_succ]
  refine wpAnyH_take (i := 15) (v := undef) rfl (by kernel_rfl) (by kernel_rfl) (by kernel_rfl) (fun _ _ _ h => h) (Or.inr ⟨by rfl, rfl⟩) ⟨(rowCell Zf (0) rfl), (rowAt Zm)⟩ ?_
  try simp only [nP, nN, nA, n0, nS, nG, List.getElem_cons_zero, List.getElem_cons_succ]
  refine wpAnyH_take (i := 16) (v := undef) rfl (by kernel_rfl) (by kernel_rfl) (by kernel_rfl) (fun _ _ _ h => h) (Or.inr ⟨by rfl, rfl⟩) ⟨(rowCell Zf (0) rfl), (rowAt Zm)⟩ ?_
  try simp only [nP, nN, nA, n0, nS, nG, List.getElem_cons_zero, List.getElem_cons_succ]
  refine wpAnyH_take (i := 17) (v := undef) rfl (by kernel_rfl) (by kernel_rfl) (by kernel_rfl) (fun _ _ _ h => h) (Or.inr ⟨by rfl, rfl⟩) ⟨(rowCell Zf (0) rfl), (rowAt Zm)⟩ ?_
  try simp only [nP, nN, nA, n0, nS, nG, List.getElem_cons_zero, List.getElem_cons_succ]
  refine wpAnyH_take (i := 18) (v := .bool true) rfl (by kernel_rfl) (by kernel_rfl) (by kernel_rfl) (fun _ _ _ h => h) (Or.inl ⟨by rfl, fun w_ hS_ => by (first | (go_simp; done) | (go_simp; rfl))⟩) ⟨(rowCell Zf (0) rfl), (rowAt Zm)⟩ ?_
  try simp only [nP, nN, nA, n0, nS, nG, List.getElem_cons_zero, List.getElem_cons_succ]
  refine wpAnyH_take (i := 19) (v := .bool true) rfl (by kernel_rfl) (by kernel_rfl) (by kernel_rfl) (fun _ _ _ h => h) (Or.inl ⟨by rfl, fun w_ hS_ => by (first | (go_simp; done) | (go_simp; rfl))⟩) ⟨(rowCell Zf (0) rfl), (rowAt Zm)⟩ ?_
  try simp only [nP, nN, nA, n0, nS, nG, List.getElem_cons_zero, List.getElem_cons_succ]
  refine wpAnyH_take (i := 20) (v := undef) rfl (by kernel_rfl) (by kernel_rfl) (by kernel_rfl) (fun _ _ _ h => h) (Or.inr ⟨by rfl, rfl⟩) ⟨(rowCell Zf (0) rfl), (rowAt Zm)⟩ ?_
  try simp only [nP, nN, nA, n0, nS, nG, List.getElem_cons_zero, List.getElem_cons_succ]
  refine wpAnyH_take (i := 21) (v := undef) rfl (by kernel_rfl) (by kernel_rfl) (by kernel_rfl) (fun _ _ _ h => h) (Or.inr ⟨by rfl, rfl⟩) ⟨(rowCell Zf (0) rfl), (rowAt Zm)⟩ ?_
  try simp only [nP, nN, nA, n0, nS, nG, List.getElem_cons_zero, List.getElem_cons_succ]
  refine wpAnyH_take (i := 22) (v := undef) rfl (by kernel_rfl) (by kernel_rfl) (by kernel_rfl) (fun _ _ _ h => h) (Or.inr ⟨by rfl, rfl⟩) ⟨(rowCell Zf (0) rfl), (rowAt Zm)⟩ ?_
  try simp only [nP, nN, nA, n0, nS, nG, List.getElem_cons_zero, List.getElem_cons_succ]
  refine wpAnyH_take (i := 23) (v := .bool true) rfl (by kernel_rfl) (by kernel_rfl) (by kernel_rfl) (fun _ _ _ h => h) (Or.inl ⟨by rfl, fun w_ hS_ => by (first | (go_simp; done) | (go_simp; rfl))⟩) ⟨(rowCell Zf (0) rfl), (rowAt Zm)⟩ ?_
  try simp only [nP, nN, nA, n0, nS, nG, List.getElem_cons_zero, List.getElem_cons_succ]
  refine wpAnyH_take (i := 24) (v := .bool true) rfl (by kernel_rfl) (by kernel_rfl) (by kernel_rfl) (fun _ _ _ h => h) (Or.inl ⟨by rfl, fun w_ hS_ => by (first | (go_simp; done) | (go_simp; rfl))⟩) ⟨(rowCell Zf (0) rfl), (rowAt Zm)⟩ ?_
  try simp only [nP, nN, nA, n0, nS, nG, List.getElem_cons_zero, List.getElem_cons_succ]
  refine wpAnyH_take (i := 25) (v := undef) rfl (by kernel_rfl) (by kernel_rfl) (by kernel_rfl) (fun _ _ _ h => h) (Or.inr ⟨by rfl, rfl⟩) ⟨(rowCell Zf (0) rfl), (rowAt Zm)⟩ ?_
  try simp only [nP, nN, nA, n0, nS, nG, List.getElem_cons_zero, List.getElem_cons_succ]
  refine wpAnyH_take (i := 26) (v := undef) rfl (by kernel_rfl) (by kernel_rfl) (by kernel_rfl) (fun _ _ _ h => h) (Or.inr ⟨by rfl, rfl⟩) ⟨(rowCell Zf (0) rfl), (rowAt Zm)⟩ ?_
  try simp only [nP, nN, nA, n0, nS, nG, List.getElem_cons_zero, List.getElem_cons_succ]
  refine wpAnyH_take (i := 27) (v := undef) rfl (by kernel_rfl) (by kernel_rfl) (by kernel_rfl) (fun _ _ _ h => h) (Or.inr ⟨by rfl, rfl⟩) ⟨(rowCell Zf (0) rfl), (rowAt Zm)⟩ ?_
  try simp only [nP, nN, nA, n0, nS, nG, List.getElem_cons_zero, List.getElem_cons_succ]
  refine wpAnyH_take (i := 28) (v := .bool true) rfl (by kernel_rfl) (by kernel_rfl) (by kernel_rfl) (fun _ _ _ h => h) (Or.inl ⟨by rfl, fun w_ hS_ => by (first | (go_simp; done) | (go_simp; rfl))⟩) ⟨(rowCell Zf (0) rfl), (rowAt Zm)⟩ ?_
  try simp only [nP, nN, nA, n0, nS, nG, List.getElem_cons_zero, List.getElem_cons_succ]
  refine wpAnyH_take (i := 29) (v := .bool true) rfl (by kernel_rfl) (by kernel_rfl) (by kernel_rfl) (fun _ _ _ h => h) (Or.inl ⟨by rfl, fun w_ hS_ => by (first | (go_simp; done) | (go_simp; rfl))⟩) ⟨(rowCell Zf (0) rfl), (rowAt Zm)⟩ ?_
  try simp only [nP, nN, nA, n0, nS, nG, List.getElem_cons_zero, List.getElem_cons_succ]
  refine wpAnyH_take (i := 30) (v := undef) rfl (by kernel_rfl) (by kernel_rfl) (by kernel_rfl) (fun _ _ _ h => h) (Or.inr ⟨by rfl, rfl⟩) ⟨(rowCell Zf (0) rfl), (rowAt Zm)⟩ ?_
  try simp only [nP, nN, nA, n0, nS, nG, List.getElem_cons_zero, List.getElem_cons_succ]
  refine wpAnyH_take (i := 31) (v := undef) rfl (by kernel_rfl) (by kernel_rfl) (by kernel_rfl) (fun _ _ _ h => h) (Or.inr ⟨by rfl, rfl⟩) ⟨(rowCell Zf (0) rfl), (rowAt Zm)⟩ ?_
  try simp only [nP, nN, nA, n0, nS, nG, List.getElem_cons_zero, List.getElem_cons_succ]
  refine wpAnyH_take (i := 32) (v := undef) rfl (by kernel_rfl) (by kernel_rfl) (by kernel_rfl) (fun _ _ _ h => h) (Or.inr ⟨by rfl, rfl⟩) ⟨(rowCell Zf (0) rfl), (rowAt Zm)⟩ ?_
  try simp only [nP, nN, nA, n0, nS, nG, List.getElem_cons_zero, List.getElem_cons_succ]
  refine wpAnyH_take (i := 33) (v := .bool true) rfl (by kernel_rfl) (by kernel_rfl) (by kernel_rfl) (fun _ _ _ h => h) (Or.inl ⟨by rfl, fun w_ hS_ => by (first | (go_simp; done) | (go_simp; rfl))⟩) ⟨(rowCell Zf (0) rfl), (rowAt Zm)⟩ ?_
  try simp only [nP, nN, nA, n0, nS, nG, List.getElem_cons_zero, List.getElem_cons_succ]
  refine wpAnyH_take (i := 34) (v := .bool true) rfl (by kernel_rfl) (by kernel_rfl) (by kernel_rfl) (fun _ _ _ h => h) (Or.inl ⟨by rfl, fun w_ hS_ => by (first | (go_simp; done) | (go_simp; rfl))⟩) ⟨(rowCell Zf (0) rfl), (rowAt Zm)⟩ ?_
  try simp only [nP, nN, nA, n0, nS, nG, List.getElem_cons_zero, List.getElem_cons_succ]
  refine wpAnyH_take (i := 35) (v := undef) rfl (by kernel_rfl) (by kernel_rfl) (by kernel_rfl) (fun _ _ _ h => h) (Or.inr ⟨by rfl, rfl⟩) ⟨(rowCell Zf (0) rfl), (rowAt Zm)⟩ ?_
  try simp only [nP, nN, nA, n0, nS, nG, List.getElem_cons_zero, List.getElem_cons_succ]
  refine wpAnyH_take (i := 36) (v := undef) rfl (by kernel_rfl) (by kernel_rfl) (by kernel_rfl) (fun _ _ _ h => h) (Or.inr ⟨by rfl, rfl⟩) ⟨(rowCell Zf (0) rfl), (rowAt Zm)⟩ ?_
  try simp only [nP, nN, nA, n0, nS, nG, List.getElem_cons_zero, List.getElem_cons_succ]
  refine wpAnyH_take (i := 37) (v := undef) rfl (by kernel_rfl) (by kernel_rfl) (by kernel_rfl) (fun _ _ _ h => h) (Or.inr ⟨by rfl, rfl⟩) ⟨(rowCell Zf (0) rfl), (rowAt Zm)⟩ ?_
  try simp only [nP, nN, nA, n0, nS, nG, List.getElem_cons_zero, List.getElem_cons_succ]
  refine wpAnyH_take (i := 38) (v := .bool true) rfl (by kernel_rfl) (by kernel_rfl) (by kernel_rfl) (fun _ _ _ h => h) (Or.inl ⟨by rfl, fun w_ hS_ => by (first | (go_simp; done) | (go_simp; rfl))⟩) ⟨(rowCell Zf (0) rfl), (rowAt Zm)⟩ ?_
  try simp only [nP, nN, nA, n0, nS, nG, List.getElem_cons_zero, List.getElem_cons_succ]
  refine wpAnyH_take (i := 39) (v := .bool true) rfl (by kernel_rfl) (by kernel_rfl) (by kernel_rfl) (fun _ _ _ h => h) (Or.inl ⟨by rfl, fun w_ hS_ => by (first | (go_simp; done) | (go_simp; rfl))⟩) ⟨(rowCell Zf (0) rfl), (rowAt Zm)⟩ ?_
  try simp only [nP, nN, nA, n0, nS, nG, List.getElem_cons_zero, List.getElem_cons_succ]
  refine wpAnyH_take (i := 40) (v := undef) rfl (by kernel_rfl) (by kernel_rfl) (by kernel_rfl) (fun _ _ _ h => h) (Or.inr ⟨by rfl, rfl⟩) ⟨(rowCell Zf (0) rfl), (rowAt Zm)⟩ ?_
  try simp only [nP, nN, nA, n0, nS, nG, List.getElem_cons_zero, List.getElem_cons_succ]
  refine wpAnyH_take (i := 41) (v := undef) rfl (by kernel_rfl) (by kernel_rfl) (by kernel_rfl) (fun _ _ _ h => h) (Or.inr ⟨by rfl, rfl⟩) ⟨(rowCell Zf (0) rfl), (rowAt Zm)⟩ ?_
  try simp only [nP, nN, nA, n0, nS, nG, List.getElem_cons_zero, List.getElem_cons_succ]
  refine wpAnyH_take (i := 42) (v := undef) rfl (by kernel_rfl) (by kernel_rfl) (by kernel_rfl) (fun _ _ _ h => h) (Or.inr ⟨by rfl, rfl⟩) ⟨(rowCell Zf (0) rfl), (rowAt Zm)⟩ ?_
  try simp only [nP, nN, nA, n0, nS, nG, List.getElem_cons_zero, List.getElem_cons_succ]
  refine wpAnyH_take (i := 43) (v := .bool true) rfl (by kernel_rfl) (by kernel_rfl) (by kernel_rfl) (fun _ _ _ h => h) (Or.inl ⟨by rfl, fun w_ hS_ => by (first | (go_simp; done) | (go_simp; rfl))⟩) ⟨(rowCell Zf (0) rfl), (rowAt Zm)⟩ ?_
  try simp only [nP, nN, nA, n0, nS, nG, List.getElem_cons_zero, List.getElem_cons_succ]
  refine wpAnyH_take (i := 44) (v := .bool true) rfl (by kernel_rfl) (by kernel_rfl) (by kernel_rfl) (fun _ _ _ h => h) (Or.inl ⟨by rfl, fun w_ hS_ => by (first | (go_simp; done) | (go_simp; rfl))⟩) ⟨(rowCell Zf (0) rfl), (rowAt Zm)⟩ ?_
  try simp only [nP, nN, nA, n0, nS, nG, List.getElem_cons_zero, List.getElem_cons_succ]
  refine wpAnyH_take (i := 45) (v := undef) rfl (by kernel_rfl) (by kernel_rfl) (by kernel_rfl) (fun _ _ _ h => h) (Or.inr ⟨by rfl, rfl⟩) ⟨(rowCell Zf (0) rfl), (rowAt Zm)⟩ ?_
  try simp only [nP, nN, nA, n0, nS, nG, List.getElem_cons_zero, List.getElem_cons_succ]
  refine wpAnyH_take (i := 46) (v := undef) rfl (by kernel_rfl) (by kernel_rfl) (by kernel_rfl) (fun _ _ _ h => h) (Or.inr ⟨by rfl, rfl⟩) ⟨(rowCell Zf (0) rfl), (rowAt Zm)⟩ ?_
  try simp only [nP, nN, nA, n0, nS, nG, List.getElem_cons_zero, List.getElem_cons_succ]
  refine wpAnyH_take (i := 47) (v := undef) rfl (by kernel_rfl) (by kernel_rfl) (by kernel_rfl) (fun _ _ _ h => h) (Or.inr ⟨by rfl, rfl⟩) ⟨(rowCell Zf (0) rfl), (rowAt Zm)⟩ ?_
  try simp only [nP, nN, nA, n0, nS, nG, List.getElem_cons_zero, List.getElem_cons_succ]
  refine wpAnyH_take (i := 48) (v := .bool true) rfl (by kernel_rfl) (by kernel_rfl) (by kernel_rfl) (fun _ _ _ h => h) (Or.inl ⟨by rfl, fun w_ hS_ => by (first | (go_simp; done) | (go_simp; rfl))⟩) ⟨(rowCell Zf (0) rfl), (rowAt Zm)⟩ ?_
  try simp only [nP, nN, nA, n0, nS, nG, List.getElem_cons_zero, List.getElem_cons_succ]
  refine wpAnyH_take (i := 49) (v := .bool true) rfl (by kernel_rfl) (by kernel_rfl) (by kernel_rfl) (fun _ _ _ h => h) (Or.inl ⟨by rfl, fun w_ hS_ => by (first | (go_simp; done) | (go_simp; rfl))⟩) ⟨(rowCell Zf (0) rfl), (rowAt Zm)⟩ ?_
  try simp only [nP, nN, nA, n0, nS, nG, List.getElem_cons_zero, List.getElem_cons_succ]
  refine wpAnyH_take (i := 50) (v := undef) rfl (by kernel_rfl) (by kernel_rfl) (by kernel_rfl) (fun _ _ _ h => h) (Or.inr ⟨by rfl, rfl⟩) ⟨(rowCell Zf (0) rfl), (rowAt Zm)⟩ ?_
  try simp only [nP, nN, nA, n0, nS, nG, List.getElem_cons_zero, List.getElem_cons_succ]
  refine wpAnyH_take (i := 51) (v := undef) rfl (by kernel_rfl) (by kernel_rfl) (by kernel_rfl) (fun _ _ _ h => h) (Or.inr ⟨by rfl, rfl⟩) ⟨(rowCell Zf (0) rfl), (rowAt Zm)⟩ ?_
  try simp only [nP, nN, nA, n0, nS, nG, List.getElem_cons_zero, List.getElem_cons_succ]
  refine wpAnyH_take (i := 52) (v := undef) rfl (by kernel_rfl) (by kernel_rfl) (by kernel_rfl) (fun _ _ _ h => h) (Or.inr ⟨by rfl, rfl⟩) ⟨(rowCell Zf (0) rfl), (rowAt Zm)⟩ ?_
  try simp only [nP, nN, nA, n0, nS, nG, List.getElem_cons_zero, List.getElem_cons_succ]
  refine wpAnyH_take (i := 53) (v := undef) rfl (by kernel_rfl) (by kernel_rfl) (by kernel_rfl) (fun _ _ _ h => h) (Or.inr ⟨by rfl, rfl⟩) ⟨(rowCell Zf (0) rfl), (rowAt Zm)⟩ ?_
  try simp only [nP, nN, nA, n0, nS, nG, List.getElem_cons_zero, List.getElem_cons_succ]
  refine wpAnyH_take (i := 54) (v := .bool true) rfl (by kernel_rfl) (by kernel_rfl) (by kernel_rfl) (fun _ _ _ h => h) (Or.inl ⟨by rfl, fun w_ hS_ => by (first | (go_simp; done) | (go_simp; rfl))⟩) ⟨(rowCell Zf (0) rfl), (rowAt Zm)⟩ ?_
  try simp only [nP, nN, nA, n0, nS, nG, List.getElem_cons_zero, List.getElem_cons_succ]
  refine wpAnyH_done (by kernel_rfl) ?_ _
  obtain rfl : R = false := by rw [HFM.out]; simp
  clear HON HSA h0 h2 h3 h4 h5 h6 h7 h8 h9 h10
  go_wp2_with fail
  go_ret
  exact ⟨rfl, ee⟩
 | true =>
  cases d2 with
  | true =>
  have Zm : z3.drew.heap[w.heap.size]? = some (.cells m.cells.toArray 39) := Zm
  have Zf : z3.drew.heap[gf]? = some (.cells ([.string ⟨fs.toArray⟩]).toArray 9) := Zf
  have ee := belowDrewS ee
  refine wp_region_held_drew (S := fun z' => z'.cell? ⟨gf, 0, none⟩ = some (.string ⟨fs.toArray⟩) ∧ z'.rangeAt w.heap.size (0) m.cells ∧ z'.cell? ⟨w.heap.size, 3, none⟩ = some (.int .i64 m.sl)) (by kernel_rfl) ⟨(rowCell Zf (0) rfl), (rowAt Zm), (rowCell Zm (3) rfl)⟩ (fun hH => ?_)
  clear hH
  generalize z3.drew = z4 at Zm Zf ee ⊢
  refine wpAnyH_take (i := 0) (v := .string ⟨fs.toArray⟩) rfl (by kernel_rfl) (by kernel_rfl) (by kernel_rfl) (fun _ _ _ h => h) (Or.inl ⟨by rfl, fun w_ hS_ => by (have c_ := hS_.1; first | (go_simp; done) | (go_simp; rfl))⟩) ⟨(rowCell Zf (0) rfl), (rowAt Zm), (rowCell Zm (3) rfl)⟩ ?_
  try simp only [nP, nN, nA, n0, nS, nG, List.getElem_cons_zero, List.getElem_cons_succ]
  refine wpAnyH_take (i := 1) (v := .bool false) rfl (by kernel_rfl) (by kernel_rfl) (by kernel_rfl) (fun _ _ _ h => h) (Or.inl ⟨by rfl, fun w_ hS_ => by (first | (go_simp; done) | (go_simp; rfl))⟩) ⟨(rowCell Zf (0) rfl), (rowAt Zm), (rowCell Zm (3) rfl)⟩ ?_
  try simp only [nP, nN, nA, n0, nS, nG, List.getElem_cons_zero, List.getElem_cons_succ]
  refine wpAnyH_take (i := 2) (v := .bool false) rfl (by kernel_rfl) (by kernel_rfl) (by kernel_rfl) (fun _ _ _ h => h) (Or.inl ⟨by rfl, fun w_ hS_ => by (first | (go_simp; done) | (go_simp; rfl))⟩) ⟨(rowCell Zf (0) rfl), (rowAt Zm), (rowCell Zm (3) rfl)⟩ ?_
  try simp only [nP, nN, nA, n0, nS, nG, List.getElem_cons_zero, List.getElem_cons_succ]
  refine wpAnyH_take (i := 3) (v := .agg (m.cells).toArray) rfl (by kernel_rfl) (by kernel_rfl) (by kernel_rfl) (fun _ _ _ h => h) (yieldsIf_load_mid (by rfl) 39 _ rfl (w.heap.size) (0) rfl (m.cells) _ (fun _ h => h.2.1) Tryd.underlying39 rfl sizeMs) ⟨(rowCell Zf (0) rfl), (rowAt Zm), (rowCell Zm (3) rfl)⟩ ?_
  try simp only [nP, nN, nA, n0, nS, nG, List.getElem_cons_zero, List.getElem_cons_succ]
  refine wpAnyH_take (i := 5) (v := .agg (m.cells).toArray) rfl (by kernel_rfl) (by kernel_rfl) (by kernel_rfl) (fun _ _ _ h => h) (yieldsIf_load_mid (by rfl) 39 _ rfl (w.heap.size) (0) rfl (m.cells) _ (fun _ h => h.2.1) Tryd.underlying39 rfl sizeMs) ⟨(rowCell Zf (0) rfl), (rowAt Zm), (rowCell Zm (3) rfl)⟩ ?_
  try simp only [nP, nN, nA, n0, nS, nG, List.getElem_cons_zero, List.getElem_cons_succ]
  refine wpAnyH_ready (rs := [4]) (by kernel_rfl) (by simp) ?_
  refine AllReadyH.cons rfl (fun K hK => ?_) AllReadyH.nil
  rw [if_pos (by rfl)]
  go_simp
  go_wp2_with (go_at_call 41; refine (HON.out z4).mono ?_; rintro e z5 ⟨rfl, t⟩)
  have Zm := hpB Zm t
  have Zf := hpB Zf t
  have ee := ee.trans (t.mono ee.size)
  clear t
  refine hK.out _ _ ⟨(rowCell Zf (0) rfl), (rowAt Zm), (rowCell Zm (3) rfl)⟩ (fun hH => ?_)
  clear hK K hH
  try simp only [nP, nN, nA, n0, nS, nG, List.getElem_cons_zero, List.getElem_cons_succ]
  refine wpAnyH_ready (rs := [6]) (by kernel_rfl) (by simp) ?_
  refine AllReadyH.cons rfl (fun K hK => ?_) AllReadyH.nil
  rw [if_pos (by rfl)]
  go_simp
  go_wp2_with (go_at_call 18; refine (HSA.out z5 ee).mono ?_; rintro e z6 ⟨rfl, t⟩)
  have Zm := hpB Zm t
  have Zf := hpB Zf t
  have ee := ee.trans (t.mono ee.size)
  clear t
  refine hK.out _ _ ⟨(rowCell Zf (0) rfl), (rowAt Zm), (rowCell Zm (3) rfl)⟩ (fun hH => ?_)
  clear hK K hH
  try simp only [nP, nN, nA, n0, nS, nG, List.getElem_cons_zero, List.getElem_cons_succ]
  refine wpAnyH_take (i := 7) (v := .bool false) rfl (by kernel_rfl) (by kernel_rfl) (by kernel_rfl) (fun _ _ _ h => h) (Or.inl ⟨by rfl, fun w_ hS_ => by (first | (go_simp; done) | (go_simp; rfl))⟩) ⟨(rowCell Zf (0) rfl), (rowAt Zm), (rowCell Zm (3) rfl)⟩ ?_
  try simp only [nP, nN, nA, n0, nS, nG, List.getElem_cons_zero, List.getElem_cons_succ]
  refine wpAnyH_take (i := 8) (v := .bool false) rfl (by kernel_rfl) (by kernel_rfl) (by kernel_rfl) (fun _ _ _ h => h) (Or.inl ⟨by rfl, fun w_ hS_ => by (first | (go_simp; done) | (go_simp; rfl))⟩) ⟨(rowCell Zf (0) rfl), (rowAt Zm), (rowCell Zm (3) rfl)⟩ ?_
  try simp only [nP, nN, nA, n0, nS, nG, List.getElem_cons_zero, List.getElem_cons_succ]
  refine wpAnyH_take (i := 9) (v := .bool false) rfl (by kernel_rfl) (by kernel_rfl) (by kernel_rfl) (fun _ _ _ h => h) (Or.inl ⟨by rfl, fun w_ hS_ => by (first | (go_simp; done) | (go_simp; rfl))⟩) ⟨(rowCell Zf (0) rfl), (rowAt Zm), (rowCell Zm (3) rfl)⟩ ?_
  try simp only [nP, nN, nA, n0, nS, nG, List.getElem_cons_zero, List.getElem_cons_succ]
  refine wpAnyH_take (i := 10) (v := .pointer (some ⟨w.heap.size, 3, none⟩)) rfl (by kernel_rfl) (by kernel_rfl) (by kernel_rfl) (fun _ _ _ h => h) (Or.inl ⟨by rfl, fun w_ hS_ => by (first | (go_simp; done) | (go_simp; rfl))⟩) ⟨(rowCell Zf (0) rfl), (rowAt Zm), (rowCell Zm (3) rfl)⟩ ?_
  try simp only [nP, nN, nA, n0, nS, nG, List.getElem_cons_zero, List.getElem_cons_succ]
  refine wpAnyH_take (i := 11) (v := .int .i64 m.sl) rfl (by kernel_rfl) (by kernel_rfl) (by kernel_rfl) (fun _ _ _ h => h) (Or.inl ⟨by rfl, fun w_ hS_ => by (have c_ := hS_.2.2; first | (go_simp; done) | (go_simp; rfl))⟩) ⟨(rowCell Zf (0) rfl), (rowAt Zm), (rowCell Zm (3) rfl)⟩ ?_
  try simp only [nP, nN, nA, n0, nS, nG, List.getElem_cons_zero, List.getElem_cons_succ]
  refine wpAnyH_take (i := 12) (v := .bool true) rfl (by kernel_rfl) (by kernel_rfl) (by kernel_rfl) (fun _ _ _ h => h) (Or.inl ⟨by rfl, fun w_ hS_ => by (first | (go_simp; done) | (go_simp; rfl))⟩) ⟨(rowCell Zf (0) rfl), (rowAt Zm), (rowCell Zm (3) rfl)⟩ ?_
  try simp only [nP, nN, nA, n0, nS, nG, List.getElem_cons_zero, List.getElem_cons_succ]
  refine wpAnyH_take (i := 13) (v := .bool true) rfl (by kernel_rfl) (by kernel_rfl) (by kernel_rfl) (fun _ _ _ h => h) (Or.inl ⟨by rfl, fun w_ hS_ => by (first | (go_simp; done) | (go_simp; rfl))⟩) ⟨(rowCell Zf (0) rfl), (rowAt Zm), (rowCell Zm (3) rfl)⟩ ?_
  try simp only [nP, nN, nA, n0, nS, nG, List.getElem_cons_zero, List.getElem_cons_succ]
  refine wpAnyH_take (i := 14) (v := .bool true) rfl (by kernel_rfl) (by kernel_rfl) (by kernel_rfl) (fun _ _ _ h => h) (Or.inl ⟨by rfl, fun w_ hS_ => by (first | (go_simp; done) | (go_simp; rfl))⟩) ⟨(rowCell Zf (0) rfl), (rowAt Zm), (rowCell Zm (3) rfl)⟩ ?_
  try simp only [nP, nN, nA, n0, nS, nG, List.getElem_cons_zero, List.getElem_cons_succ]
  refine wpAnyH_take (i := 15) (v := undef) rfl (by kernel_rfl) (by kernel_rfl) (by kernel_rfl) (fun _ _ _ h => h) (Or.inr ⟨by rfl, rfl⟩) ⟨(rowCell Zf (0) rfl), (rowAt Zm), (rowCell Zm (3) rfl)⟩ ?_
  try simp only [nP, nN, nA, n0, nS, nG, List.getElem_cons_zero, List.getElem_cons_succ]
  refine wpAnyH_take (i := 16) (v := undef) rfl (by kernel_rfl) (by kernel_rfl) (by kernel_rfl) (fun _ _ _ h => h) (Or.inr ⟨by rfl, rfl⟩) ⟨(rowCell Zf (0) rfl), (rowAt Zm), (rowCell Zm (3) rfl)⟩ ?_
  try simp only [nP, nN, nA, n0, nS, nG, List.getElem_cons_zero, List.getElem_cons_succ]
  refine wpAnyH_take (i := 17) (v := undef) rfl (by kernel_rfl) (by kernel_rfl) (by kernel_rfl) (fun _ _ _ h => h) (Or.inr ⟨by rfl, rfl⟩) ⟨(rowCell Zf (0) rfl), (rowAt Zm), (rowCell Zm (3) rfl)⟩ ?_
  try simp only [nP, nN, nA, n0, nS, nG, List.getElem_cons_zero, List.getElem_cons_succ]
  refine wpAnyH_take (i := 18) (v := .bool true) rfl (by kernel_rfl) (by kernel_rfl) (by kernel_rfl) (fun _ _ _ h => h) (Or.inl ⟨by rfl, fun w_ hS_ => by (first | (go_simp; done) | (go_simp; rfl))⟩) ⟨(rowCell Zf (0) rfl), (rowAt Zm), (rowCell Zm (3) rfl)⟩ ?_
  try simp only [nP, nN, nA, n0, nS, nG, List.getElem_cons_zero, List.getElem_cons_succ]
  refine wpAnyH_take (i := 19) (v := .bool true) rfl (by kernel_rfl) (by kernel_rfl) (by kernel_rfl) (fun _ _ _ h => h) (Or.inl ⟨by rfl, fun w_ hS_ => by (first | (go_simp; done) | (go_simp; rfl))⟩) ⟨(rowCell Zf (0) rfl), (rowAt Zm), (rowCell Zm (3) rfl)⟩ ?_
  try simp only [nP, nN, nA, n0, nS, nG, List.getElem_cons_zero, List.getElem_cons_succ]
  refine wpAnyH_take (i := 20) (v := undef) rfl (by kernel_rfl) (by kernel_rfl) (by kernel_rfl) (fun _ _ _ h => h) (Or.inr ⟨by rfl, rfl⟩) ⟨(rowCell Zf (0) rfl), (rowAt Zm), (rowCell Zm (3) rfl)⟩ ?_
  try simp only [nP, nN, nA, n0, nS, nG, List.getElem_cons_zero, List.getElem_cons_succ]
  refine wpAnyH_take (i := 21) (v := undef) rfl (by kernel_rfl) (by kernel_rfl) (by kernel_rfl) (fun _ _ _ h => h) (Or.inr ⟨by rfl, rfl⟩) ⟨(rowCell Zf (0) rfl), (rowAt Zm), (rowCell Zm (3) rfl)⟩ ?_
  try simp only [nP, nN, nA, n0, nS, nG, List.getElem_cons_zero, List.getElem_cons_succ]
  refine wpAnyH_take (i := 22) (v := undef) rfl (by kernel_rfl) (by kernel_rfl) (by kernel_rfl) (fun _ _ _ h => h) (Or.inr ⟨by rfl, rfl⟩) ⟨(rowCell Zf (0) rfl), (rowAt Zm), (rowCell Zm (3) rfl)⟩ ?_
  try simp only [nP, nN, nA, n0, nS, nG, List.getElem_cons_zero, List.getElem_cons_succ]
  refine wpAnyH_take (i := 23) (v := .bool true) rfl (by kernel_rfl) (by kernel_rfl) (by kernel_rfl) (fun _ _ _ h => h) (Or.inl ⟨by rfl, fun w_ hS_ => by (first | (go_simp; done) | (go_simp; rfl))⟩) ⟨(rowCell Zf (0) rfl), (rowAt Zm), (rowCell Zm (3) rfl)⟩ ?_
  try simp only [nP, nN, nA, n0, nS, nG, List.getElem_cons_zero, List.getElem_cons_succ]
  refine wpAnyH_take (i := 24) (v := .bool true) rfl (by kernel_rfl) (by kernel_rfl) (by kernel_rfl) (fun _ _ _ h => h) (Or.inl ⟨by rfl, fun w_ hS_ => by (first | (go_simp; done) | (go_simp; rfl))⟩) ⟨(rowCell Zf (0) rfl), (rowAt Zm), (rowCell Zm (3) rfl)⟩ ?_
  try simp only [nP, nN, nA, n0, nS, nG, List.getElem_cons_zero, List.getElem_cons_succ]
  refine wpAnyH_take (i := 25) (v := undef) rfl (by kernel_rfl) (by kernel_rfl) (by kernel_rfl) (fun _ _ _ h => h) (Or.inr ⟨by rfl, rfl⟩) ⟨(rowCell Zf (0) rfl), (rowAt Zm), (rowCell Zm (3) rfl)⟩ ?_
  try simp only [nP, nN, nA, n0, nS, nG, List.getElem_cons_zero, List.getElem_cons_succ]
  refine wpAnyH_take (i := 26) (v := undef) rfl (by kernel_rfl) (by kernel_rfl) (by kernel_rfl) (fun _ _ _ h => h) (Or.inr ⟨by rfl, rfl⟩) ⟨(rowCell Zf (0) rfl), (rowAt Zm), (rowCell Zm (3) rfl)⟩ ?_
  try simp only [nP, nN, nA, n0, nS, nG, List.getElem_cons_zero, List.getElem_cons_succ]
  refine wpAnyH_take (i := 27) (v := undef) rfl (by kernel_rfl) (by kernel_rfl) (by kernel_rfl) (fun _ _ _ h => h) (Or.inr ⟨by rfl, rfl⟩) ⟨(rowCell Zf (0) rfl), (rowAt Zm), (rowCell Zm (3) rfl)⟩ ?_
  try simp only [nP, nN, nA, n0, nS, nG, List.getElem_cons_zero, List.getElem_cons_succ]
  refine wpAnyH_take (i := 28) (v := .bool true) rfl (by kernel_rfl) (by kernel_rfl) (by kernel_rfl) (fun _ _ _ h => h) (Or.inl ⟨by rfl, fun w_ hS_ => by (first | (go_simp; done) | (go_simp; rfl))⟩) ⟨(rowCell Zf (0) rfl), (rowAt Zm), (rowCell Zm (3) rfl)⟩ ?_
  try simp only [nP, nN, nA, n0, nS, nG, List.getElem_cons_zero, List.getElem_cons_succ]
  refine wpAnyH_take (i := 29) (v := .bool true) rfl (by kernel_rfl) (by kernel_rfl) (by kernel_rfl) (fun _ _ _ h => h) (Or.inl ⟨by rfl, fun w_ hS_ => by (first | (go_simp; done) | (go_simp; rfl))⟩) ⟨(rowCell Zf (0) rfl), (rowAt Zm), (rowCell Zm (3) rfl)⟩ ?_
  try simp only [nP, nN, nA, n0, nS, nG, List.getElem_cons_zero, List.getElem_cons_succ]
  refine wpAnyH_take (i := 30) (v := undef) rfl (by kernel_rfl) (by kernel_rfl) (by kernel_rfl) (fun _ _ _ h => h) (Or.inr ⟨by rfl, rfl⟩) ⟨(rowCell Zf (0) rfl), (rowAt Zm), (rowCell Zm (3) rfl)⟩ ?_
  try simp only [nP, nN, nA, n0, nS, nG, List.getElem_cons_zero, List.getElem_cons_succ]
  refine wpAnyH_take (i := 31) (v := undef) rfl (by kernel_rfl) (by kernel_rfl) (by kernel_rfl) (fun _ _ _ h => h) (Or.inr ⟨by rfl, rfl⟩) ⟨(rowCell Zf (0) rfl), (rowAt Zm), (rowCell Zm (3) rfl)⟩ ?_
  try simp only [nP, nN, nA, n0, nS, nG, List.getElem_cons_zero, List.getElem_cons_succ]
  refine wpAnyH_take (i := 32) (v := undef) rfl (by kernel_rfl) (by kernel_rfl) (by kernel_rfl) (fun _ _ _ h => h) (Or.inr ⟨by rfl, rfl⟩) ⟨(rowCell Zf (0) rfl), (rowAt Zm), (rowCell Zm (3) rfl)⟩ ?_
  try simp only [nP, nN, nA, n0, nS, nG, List.getElem_cons_zero, List.getElem_cons_succ]
  refine wpAnyH_take (i := 33) (v := .bool true) rfl (by kernel_rfl) (by kernel_rfl) (by kernel_rfl) (fun _ _ _ h => h) (Or.inl ⟨by rfl, fun w_ hS_ => by (first | (go_simp; done) | (go_simp; rfl))⟩) ⟨(rowCell Zf (0) rfl), (rowAt Zm), (rowCell Zm (3) rfl)⟩ ?_
  try simp only [nP, nN, nA, n0, nS, nG, List.getElem_cons_zero, List.getElem_cons_succ]
  refine wpAnyH_take (i := 34) (v := .bool true) rfl (by kernel_rfl) (by kernel_rfl) (by kernel_rfl) (fun _ _ _ h => h) (Or.inl ⟨by rfl, fun w_ hS_ => by (first | (go_simp; done) | (go_simp; rfl))⟩) ⟨(rowCell Zf (0) rfl), (rowAt Zm), (rowCell Zm (3) rfl)⟩ ?_
  try simp only [nP, nN, nA, n0, nS, nG, List.getElem_cons_zero, List.getElem_cons_succ]
  refine wpAnyH_take (i := 35) (v := undef) rfl (by kernel_rfl) (by kernel_rfl) (by kernel_rfl) (fun _ _ _ h => h) (Or.inr ⟨by rfl, rfl⟩) ⟨(rowCell Zf (0) rfl), (rowAt Zm), (rowCell Zm (3) rfl)⟩ ?_
  try simp only [nP, nN, nA, n0, nS, nG, List.getElem_cons_zero, List.getElem_cons_succ]
  refine wpAnyH_take (i := 36) (v := undef) rfl (by kernel_rfl) (by kernel_rfl) (by kernel_rfl) (fun _ _ _ h => h) (Or.inr ⟨by rfl, rfl⟩) ⟨(rowCell Zf (0) rfl), (rowAt Zm), (rowCell Zm (3) rfl)⟩ ?_
  try simp only [nP, nN, nA, n0, nS, nG, List.getElem_cons_zero, List.getElem_cons_succ]
  refine wpAnyH_take (i := 37) (v := undef) rfl (by kernel_rfl) (by kernel_rfl) (by kernel_rfl) (fun _ _ _ h => h) (Or.inr ⟨by rfl, rfl⟩) ⟨(rowCell Zf (0) rfl), (rowAt Zm), (rowCell Zm (3) rfl)⟩ ?_
  try simp only [nP, nN, nA, n0, nS, nG, List.getElem_cons_zero, List.getElem_cons_succ]
  refine wpAnyH_take (i := 38) (v := .bool true) rfl (by kernel_rfl) (by kernel_rfl) (by kernel_rfl) (fun _ _ _ h => h) (Or.inl ⟨by rfl, fun w_ hS_ => by (first | (go_simp; done) | (go_simp; rfl))⟩) ⟨(rowCell Zf (0) rfl), (rowAt Zm), (rowCell Zm (3) rfl)⟩ ?_
  try simp only [nP, nN, nA, n0, nS, nG, List.getElem_cons_zero, List.getElem_cons_succ]
  refine wpAnyH_take (i := 39) (v := .bool true) rfl (by kernel_rfl) (by kernel_rfl) (by kernel_rfl) (fun _ _ _ h => h) (Or.inl ⟨by rfl, fun w_ hS_ => by (first | (go_simp; done) | (go_simp; rfl))⟩) ⟨(rowCell Zf (0) rfl), (rowAt Zm), (rowCell Zm (3) rfl)⟩ ?_
  try simp only [nP, nN, nA, n0, nS, nG, List.getElem_cons_zero, List.getElem_cons_succ]
  refine wpAnyH_take (i := 40) (v := undef) rfl (by kernel_rfl) (by kernel_rfl) (by kernel_rfl) (fun _ _ _ h => h) (Or.inr ⟨by rfl, rfl⟩) ⟨(rowCell Zf (0) rfl), (rowAt Zm), (rowCell Zm (3) rfl)⟩ ?_
  try simp only [nP, nN, nA, n0, nS, nG, List.getElem_cons_zero, List.getElem_cons_succ]
  refine wpAnyH_take (i := 41) (v := undef) rfl (by kernel_rfl) (by kernel_rfl) (by kernel_rfl) (fun _ _ _ h => h) (Or.inr ⟨by rfl, rfl⟩) ⟨(rowCell Zf (0) rfl), (rowAt Zm), (rowCell Zm (3) rfl)⟩ ?_
  try simp only [nP, nN, nA, n0, nS, nG, List.getElem_cons_zero, List.getElem_cons_succ]
  refine wpAnyH_take (i := 42) (v := undef) rfl (by kernel_rfl) (by kernel_rfl) (by kernel_rfl) (fun _ _ _ h => h) (Or.inr ⟨by rfl, rfl⟩) ⟨(rowCell Zf (0) rfl), (rowAt Zm), (rowCell Zm (3) rfl)⟩ ?_
  try simp only [nP, nN, nA, n0, nS, nG, List.getElem_cons_zero, List.getElem_cons_succ]
  refine wpAnyH_take (i := 43) (v := .bool true) rfl (by kernel_rfl) (by kernel_rfl) (by kernel_rfl) (fun _ _ _ h => h) (Or.inl ⟨by rfl, fun w_ hS_ => by (first | (go_simp; done) | (go_simp; rfl))⟩) ⟨(rowCell Zf (0) rfl), (rowAt Zm), (rowCell Zm (3) rfl)⟩ ?_
  try simp only [nP, nN, nA, n0, nS, nG, List.getElem_cons_zero, List.getElem_cons_succ]
  refine wpAnyH_take (i := 44) (v := .bool true) rfl (by kernel_rfl) (by kernel_rfl) (by kernel_rfl) (fun _ _ _ h => h) (Or.inl ⟨by rfl, fun w_ hS_ => by (first | (go_simp; done) | (go_simp; rfl))⟩) ⟨(rowCell Zf (0) rfl), (rowAt Zm), (rowCell Zm (3) rfl)⟩ ?_
  try simp only [nP, nN, nA, n0, nS, nG, List.getElem_cons_zero, List.getElem_cons_succ]
  refine wpAnyH_take (i := 45) (v := undef) rfl (by kernel_rfl) (by kernel_rfl) (by kernel_rfl) (fun _ _ _ h => h) (Or.inr ⟨by rfl, rfl⟩) ⟨(rowCell Zf (0) rfl), (rowAt Zm), (rowCell Zm (3) rfl)⟩ ?_
  try simp only [nP, nN, nA, n0, nS, nG, List.getElem_cons_zero, List.getElem_cons_succ]
  refine wpAnyH_take (i := 46) (v := undef) rfl (by kernel_rfl) (by kernel_rfl) (by kernel_rfl) (fun _ _ _ h => h) (Or.inr ⟨by rfl, rfl⟩) ⟨(rowCell Zf (0) rfl), (rowAt Zm), (rowCell Zm (3) rfl)⟩ ?_
  try simp only [nP, nN, nA, n0, nS, nG, List.getElem_cons_zero, List.getElem_cons_succ]
  refine wpAnyH_take (i := 47) (v := undef) rfl (by kernel_rfl) (by kernel_rfl) (by kernel_rfl) (fun _ _ _ h => h) (Or.inr ⟨by rfl, rfl⟩) ⟨(rowCell Zf (0) rfl), (rowAt Zm), (rowCell Zm (3) rfl)⟩ ?_
  try simp only [nP, nN, nA, n0, nS, nG, List.getElem_cons_zero, List.getElem_cons_succ]
  refine wpAnyH_take (i := 48) (v := .bool true) rfl (by kernel_rfl) (by kernel_rfl) (by kernel_rfl) (fun _ _ _ h => h) (Or.inl ⟨by rfl, fun w_ hS_ => by (first | (go_simp; done) | (go_simp; rfl))⟩) ⟨(rowCell Zf (0) rfl), (rowAt Zm), (rowCell Zm (3) rfl)⟩ ?_
  try simp only [nP, nN, nA, n0, nS, nG, List.getElem_cons_zero, List.getElem_cons_succ]
  refine wpAnyH_take (i := 49) (v := .bool true) rfl (by kernel_rfl) (by kernel_rfl) (by kernel_rfl) (fun _ _ _ h => h) (Or.inl ⟨by rfl, fun w_ hS_ => by (first | (go_simp; done) | (go_simp; rfl))⟩) ⟨(rowCell Zf (0) rfl), (rowAt Zm), (rowCell Zm (3) rfl)⟩ ?_
  try simp only [nP, nN, nA, n0, nS, nG, List.getElem_cons_zero, List.getElem_cons_succ]
  refine wpAnyH_take (i := 50) (v := undef) rfl (by kernel_rfl) (by kernel_rfl) (by kernel_rfl) (fun _ _ _ h => h) (Or.inr ⟨by rfl, rfl⟩) ⟨(rowCell Zf (0) rfl), (rowAt Zm), (rowCell Zm (3) rfl)⟩ ?_
  try simp only [nP, nN, nA, n0, nS, nG, List.getElem_cons_zero, List.getElem_cons_succ]
  refine wpAnyH_take (i := 51) (v := undef) rfl (by kernel_rfl) (by kernel_rfl) (by kernel_rfl) (fun _ _ _ h => h) (Or.inr ⟨by rfl, rfl⟩) ⟨(rowCell Zf (0) rfl), (rowAt Zm), (rowCell Zm (3) rfl)⟩ ?_
  try simp only [nP, nN, nA, n0, nS, nG, List.getElem_cons_zero, List.getElem_cons_succ]
  refine wpAnyH_take (i := 52) (v := undef) rfl (by kernel_rfl) (by kernel_rfl) (by kernel_rfl) (fun _ _ _ h => h) (Or.inr ⟨by rfl, rfl⟩) ⟨(rowCell Zf (0) rfl), (rowAt Zm), (rowCell Zm (3) rfl)⟩ ?_
  try simp only [nP, nN, nA, n0, nS, nG, List.getElem_cons_zero, List.getElem_cons_succ]
  refine wpAnyH_take (i := 53) (v := undef) rfl (by kernel_rfl) (by kernel_rfl) (by kernel_rfl) (fun _ _ _ h => h) (Or.inr ⟨by rfl, rfl⟩) ⟨(rowCell Zf (0) rfl), (rowAt Zm), (rowCell Zm (3) rfl)⟩ ?_
  try simp only [nP, nN, nA, n0, nS, nG, List.getElem_cons_zero, List.getElem_cons_succ]
  refine wpAnyH_take (i := 54) (v := .bool true) rfl (by kernel_rfl) (by kernel_rfl) (by kernel_rfl) (fun _ _ _ h => h) (Or.inl ⟨by rfl, fun w_ hS_ => by (first | (go_simp; done) | (go_simp; rfl))⟩) ⟨(rowCell Zf (0) rfl), (rowAt Zm), (rowCell Zm (3) rfl)⟩ ?_
  try simp only [nP, nN, nA, n0, nS, nG, List.getElem_cons_zero, List.getElem_cons_succ]
  refine wpAnyH_done (by kernel_rfl) ?_ _
  obtain rfl : R = false := by rw [HFM.out]; simp
  clear HON HSA h0 h2 h3 h4 h5 h6 h7 h8 h9 h10
  go_wp2_with fail
  go_ret
  exact ⟨rfl, ee⟩
  | false =>
  cases d3 with
  | true =>
   have Zm : z3.drew.heap[w.heap.size]? = some (.cells m.cells.toArray 39) := Zm
   have Zf : z3.drew.heap[gf]? = some (.cells ([.string ⟨fs.toArray⟩]).toArray 9) := Zf
   have ee := belowDrewS ee
   refine wp_region_held_drew (S := fun z' => z'.cell? ⟨gf, 0, none⟩ = some (.string ⟨fs.toArray⟩) ∧ z'.rangeAt w.heap.size (0) m.cells ∧ z'.cell? ⟨w.heap.size, 3, none⟩ = some (.int .i64 m.sl)) (by kernel_rfl) ⟨(rowCell Zf (0) rfl), (rowAt Zm), (rowCell Zm (3) rfl)⟩ (fun hH => ?_)
   clear hH
   generalize z3.drew = z4 at Zm Zf ee ⊢
   refine wpAnyH_take (i := 0) (v := .string ⟨fs.toArray⟩) rfl (by kernel_rfl) (by kernel_rfl) (by kernel_rfl) (fun _ _ _ h => h) (Or.inl ⟨by rfl, fun w_ hS_ => by (have c_ := hS_.1; first | (go_simp; done) | (go_simp; rfl))⟩) ⟨(rowCell Zf (0) rfl), (rowAt Zm), (rowCell Zm (3) rfl)⟩ ?_
   try simp only [nP, nN, nA, n0, nS, nG, List.getElem_cons_zero, List.getElem_cons_succ]
   refine wpAnyH_take (i := 1) (v := .bool false) rfl (by kernel_rfl) (by kernel_rfl) (by kernel_rfl) (fun _ _ _ h => h) (Or.inl ⟨by rfl, fun w_ hS_ => by (first | (go_simp; done) | (go_simp; rfl))⟩) ⟨(rowCell Zf (0) rfl), (rowAt Zm), (rowCell Zm (3) rfl)⟩ ?_
   try simp only [nP, nN, nA, n0, nS, nG, List.getElem_cons_zero, List.getElem_cons_succ]
   refine wpAnyH_take (i := 2) (v := .bool false) rfl (by kernel_rfl) (by kernel_rfl) (by kernel_rfl) (fun _ _ _ h => h) (Or.inl ⟨by rfl, fun w_ hS_ => by (first | (go_simp; done) | (go_simp; rfl))⟩) ⟨(rowCell Zf (0) rfl), (rowAt Zm), (rowCell Zm (3) rfl)⟩ ?_
   try simp only [nP, nN, nA, n0, nS, nG, List.getElem_cons_zero, List.getElem_cons_succ]
   refine wpAnyH_take (i := 3) (v := .agg (m.cells).toArray) rfl (by kernel_rfl) (by kernel_rfl) (by kernel_rfl) (fun _ _ _ h => h) (yieldsIf_load_mid (by rfl) 39 _ rfl (w.heap.size) (0) rfl (m.cells) _ (fun _ h => h.2.1) Tryd.underlying39 rfl sizeMs) ⟨(rowCell Zf (0) rfl), (rowAt Zm), (rowCell Zm (3) rfl)⟩ ?_
   try simp only [nP, nN, nA, n0, nS, nG, List.getElem_cons_zero, List.getElem_cons_succ]
   refine wpAnyH_take (i := 5) (v := .agg (m.cells).toArray) rfl (by kernel_rfl) (by kernel_rfl) (by kernel_rfl) (fun _ _ _ h => h) (yieldsIf_load_mid (by rfl) 39 _ rfl (w.heap.size) (0) rfl (m.cells) _ (fun _ h => h.2.1) Tryd.underlying39 rfl sizeMs) ⟨(rowCell Zf (0) rfl), (rowAt Zm), (rowCell Zm (3) rfl)⟩ ?_
   try simp only [nP, nN, nA, n0, nS, nG, List.getElem_cons_zero, List.getElem_cons_succ]
   refine wpAnyH_ready (rs := [4]) (by kernel_rfl) (by simp) ?_
   refine AllReadyH.cons rfl (fun K hK => ?_) AllReadyH.nil
   rw [if_pos (by rfl)]
   go_simp
   go_wp2_with (go_at_call 41; refine (HON.out z4).mono ?_; rintro e z5 ⟨rfl, t⟩)
   have Zm := hpB Zm t
   have Zf := hpB Zf t
   have ee := ee.trans (t.mono ee.size)
   clear t
   refine hK.out _ _ ⟨(rowCell Zf (0) rfl), (rowAt Zm), (rowCell Zm (3) rfl)⟩ (fun hH => ?_)
   clear hK K hH
   try simp only [nP, nN, nA, n0, nS, nG, List.getElem_cons_zero, List.getElem_cons_succ]
   refine wpAnyH_ready (rs := [6]) (by kernel_rfl) (by simp) ?_
   refine AllReadyH.cons rfl (fun K hK => ?_) AllReadyH.nil
   rw [if_pos (by rfl)]
   go_simp
   go_wp2_with (go_at_call 18; refine (HSA.out z5 ee).mono ?_; rintro e z6 ⟨rfl, t⟩)
   have Zm := hpB Zm t
   have Zf := hpB Zf t
   have ee := ee.trans (t.mono ee.size)
   clear t
   refine hK.out _ _ ⟨(rowCell Zf (0) rfl), (rowAt Zm), (rowCell Zm (3) rfl)⟩ (fun hH => ?_)
   clear hK K hH
   try simp only [nP, nN, nA, n0, nS, nG, List.getElem_cons_zero, List.getElem_cons_succ]
   refine wpAnyH_take (i := 7) (v := .bool false) rfl (by kernel_rfl) (by kernel_rfl) (by kernel_rfl) (fun _ _ _ h => h) (Or.inl ⟨by rfl, fun w_ hS_ => by (first | (go_simp; done) | (go_simp; rfl))⟩) ⟨(rowCell Zf (0) rfl), (rowAt Zm), (rowCell Zm (3) rfl)⟩ ?_
   try simp only [nP, nN, nA, n0, nS, nG, List.getElem_cons_zero, List.getElem_cons_succ]
   refine wpAnyH_take (i := 8) (v := .bool false) rfl (by kernel_rfl) (by kernel_rfl) (by kernel_rfl) (fun _ _ _ h => h) (Or.inl ⟨by rfl, fun w_ hS_ => by (first | (go_simp; done) | (go_simp; rfl))⟩) ⟨(rowCell Zf (0) rfl), (rowAt Zm), (rowCell Zm (3) rfl)⟩ ?_
   try simp only [nP, nN, nA, n0, nS, nG, List.getElem_cons_zero, List.getElem_cons_succ]
   refine wpAnyH_take (i := 9) (v := .bool false) rfl (by kernel_rfl) (by kernel_rfl) (by kernel_rfl) (fun _ _ _ h => h) (Or.inl ⟨by rfl, fun w_ hS_ => by (first | (go_simp; done) | (go_simp; rfl))⟩) ⟨(rowCell Zf (0) rfl), (rowAt Zm), (rowCell Zm (3) rfl)⟩ ?_
   try simp only [nP, nN, nA, n0, nS, nG, List.getElem_cons_zero, List.getElem_cons_succ]
   refine wpAnyH_take (i := 10) (v := .pointer (some ⟨w.heap.size, 3, none⟩)) rfl (by kernel_rfl) (by kernel_rfl) (by kernel_rfl) (fun _ _ _ h => h) (Or.inl ⟨by rfl, fun w_ hS_ => by (first | (go_simp; done) | (go_simp; rfl))⟩) ⟨(rowCell Zf (0) rfl), (rowAt Zm), (rowCell Zm (3) rfl)⟩ ?_
   try simp only [nP, nN, nA, n0, nS, nG, List.getElem_cons_zero, List.getElem_cons_succ]
   refine wpAnyH_take (i := 11) (v := .int .i64 m.sl) rfl (by kernel_rfl) (by kernel_rfl) (by kernel_rfl) (fun _ _ _ h => h) (Or.inl ⟨by rfl, fun w_ hS_ => by (have c_ := hS_.2.2; first | (go_simp; done) | (go_simp; rfl))⟩) ⟨(rowCell Zf (0) rfl), (rowAt Zm), (rowCell Zm (3) rfl)⟩ ?_
   try simp only [nP, nN, nA, n0, nS, nG, List.getElem_cons_zero, List.getElem_cons_succ]
   refine wpAnyH_take (i := 12) (v := .bool false) rfl (by kernel_rfl) (by kernel_rfl) (by kernel_rfl) (fun _ _ _ h => h) (Or.inl ⟨by rfl, fun w_ hS_ => by (first | (go_simp; done) | (go_simp; rfl))⟩) ⟨(rowCell Zf (0) rfl), (rowAt Zm), (rowCell Zm (3) rfl)⟩ ?_
   try simp only [nP, nN, nA, n0, nS, nG, List.getElem_cons_zero, List.getElem_cons_succ]
   refine wpAnyH_take (i := 13) (v := .bool false) rfl (by kernel_rfl) (by kernel_rfl) (by kernel_rfl) (fun _ _ _ h => h) (Or.inl ⟨by rfl, fun w_ hS_ => by (first | (go_simp; done) | (go_simp; rfl))⟩) ⟨(rowCell Zf (0) rfl), (rowAt Zm), (rowCell Zm (3) rfl)⟩ ?_
   try simp only [nP, nN, nA, n0, nS, nG, List.getElem_cons_zero, List.getElem_cons_succ]
   refine wpAnyH_take (i := 14) (v := .bool false) rfl (by kernel_rfl) (by kernel_rfl) (by kernel_rfl) (fun _ _ _ h => h) (Or.inl ⟨by rfl, fun w_ hS_ => by (first | (go_simp; done) | (go_simp; rfl))⟩) ⟨(rowCell Zf (0) rfl), (rowAt Zm), (rowCell Zm (3) rfl)⟩ ?_
   try simp only [nP, nN, nA, n0, nS, nG, List.getElem_cons_zero, List.getElem_cons_succ]
   refine wpAnyH_take (i := 15) (v := .pointer (some ⟨w.heap.size, 3, none⟩)) rfl (by kernel_rfl) (by kernel_rfl) (by kernel_rfl) (fun _ _ _ h => h) (Or.inl ⟨by rfl, fun w_ hS_ => by (first | (go_simp; done) | (go_simp; rfl))⟩) ⟨(rowCell Zf (0) rfl), (rowAt Zm), (rowCell Zm (3) rfl)⟩ ?_
   try simp only [nP, nN, nA, n0, nS, nG, List.getElem_cons_zero, List.getElem_cons_succ]
   refine wpAnyH_take (i := 16) (v := .int .i64 m.sl) rfl (by kernel_rfl) (by kernel_rfl) (by kernel_rfl) (fun _ _ _ h => h) (Or.inl ⟨by rfl, fun w_ hS_ => by (have c_ := hS_.2.2; first | (go_simp; done) | (go_simp; rfl))⟩) ⟨(rowCell Zf (0) rfl), (rowAt Zm), (rowCell Zm (3) rfl)⟩ ?_
   try simp only [nP, nN, nA, n0, nS, nG, List.getElem_cons_zero, List.getElem_cons_succ]
   refine wpAnyH_take (i := 17) (v := .bool true) rfl (by kernel_rfl) (by kernel_rfl) (by kernel_rfl) (fun _ _ _ h => h) (Or.inl ⟨by rfl, fun w_ hS_ => by (first | (go_simp; done) | (go_simp; rfl))⟩) ⟨(rowCell Zf (0) rfl), (rowAt Zm), (rowCell Zm (3) rfl)⟩ ?_
   try simp only [nP, nN, nA, n0, nS, nG, List.getElem_cons_zero, List.getElem_cons_succ]
   refine wpAnyH_take (i := 18) (v := .bool true) rfl (by kernel_rfl) (by kernel_rfl) (by kernel_rfl) (fun _ _ _ h => h) (Or.inl ⟨by rfl, fun w_ hS_ => by (first | (go_simp; done) | (go_simp; rfl))⟩) ⟨(rowCell Zf (0) rfl), (rowAt Zm), (rowCell Zm (3) rfl)⟩ ?_
   try simp only [nP, nN, nA, n0, nS, nG, List.getElem_cons_zero, List.getElem_cons_succ]
   refine wpAnyH_take (i := 19) (v := .bool true) rfl (by kernel_rfl) (by kernel_rfl) (by kernel_rfl) (fun _ _ _ h => h) (Or.inl ⟨by rfl, fun w_ hS_ => by (first | (go_simp; done) | (go_simp; rfl))⟩) ⟨(rowCell Zf (0) rfl), (rowAt Zm), (rowCell Zm (3) rfl)⟩ ?_
   try simp only [nP, nN, nA, n0, nS, nG, List.getElem_cons_zero, List.getElem_cons_succ]
   refine wpAnyH_take (i := 20) (v := undef) rfl (by kernel_rfl) (by kernel_rfl) (by kernel_rfl) (fun _ _ _ h => h) (Or.inr ⟨by rfl, rfl⟩) ⟨(rowCell Zf (0) rfl), (rowAt Zm), (rowCell Zm (3) rfl)⟩ ?_
   try simp only [nP, nN, nA, n0, nS, nG, List.getElem_cons_zero, List.getElem_cons_succ]
   refine wpAnyH_take (i := 21) (v := undef) rfl (by kernel_rfl) (by kernel_rfl) (by kernel_rfl) (fun _ _ _ h => h) (Or.inr ⟨by rfl, rfl⟩) ⟨(rowCell Zf (0) rfl), (rowAt Zm), (rowCell Zm (3) rfl)⟩ ?_
   try simp only [nP, nN, nA, n0, nS, nG, List.getElem_cons_zero, List.getElem_cons_succ]
   refine wpAnyH_take (i := 22) (v := undef) rfl (by kernel_rfl) (by kernel_rfl) (by kernel_rfl) (fun _ _ _ h => h) (Or.inr ⟨by rfl, rfl⟩) ⟨(rowCell Zf (0) rfl), (rowAt Zm), (rowCell Zm (3) rfl)⟩ ?_
   try simp only [nP, nN, nA, n0, nS, nG, List.getElem_cons_zero, List.getElem_cons_succ]
   refine wpAnyH_take (i := 23) (v := .bool true) rfl (by kernel_rfl) (by kernel_rfl) (by kernel_rfl) (fun _ _ _ h => h) (Or.inl ⟨by rfl, fun w_ hS_ => by (first | (go_simp; done) | (go_simp; rfl))⟩) ⟨(rowCell Zf (0) rfl), (rowAt Zm), (rowCell Zm (3) rfl)⟩ ?_
   try simp only [nP, nN, nA, n0, nS, nG, List.getElem_cons_zero, List.getElem_cons_succ]
   refine wpAnyH_take (i := 24) (v := .bool true) rfl (by kernel_rfl) (by kernel_rfl) (by kernel_rfl) (fun _ _ _ h => h) (Or.inl ⟨by rfl, fun w_ hS_ => by (first | (go_simp; done) | (go_simp; rfl))⟩) ⟨(rowCell Zf (0) rfl), (rowAt Zm), (rowCell Zm (3) rfl)⟩ ?_
   try simp only [nP, nN, nA, n0, nS, nG, List.getElem_cons_zero, List.getElem_cons_succ]
   refine wpAnyH_take (i := 25) (v := undef) rfl (by kernel_rfl) (by kernel_rfl) (by kernel_rfl) (fun _ _ _ h => h) (Or.inr ⟨by rfl, rfl⟩) ⟨(rowCell Zf (0) rfl), (rowAt Zm), (rowCell Zm (3) rfl)⟩ ?_
   try simp only [nP, nN, nA, n0, nS, nG, List.getElem_cons_zero, List.getElem_cons_succ]
   refine wpAnyH_take (i := 26) (v := undef) rfl (by kernel_rfl) (by kernel_rfl) (by kernel_rfl) (fun _ _ _ h => h) (Or.inr ⟨by rfl, rfl⟩) ⟨(rowCell Zf (0) rfl), (rowAt Zm), (rowCell Zm (3) rfl)⟩ ?_
   try simp only [nP, nN, nA, n0, nS, nG, List.getElem_cons_zero, List.getElem_cons_succ]
   refine wpAnyH_take (i := 27) (v := undef) rfl (by kernel_rfl) (by kernel_rfl) (by kernel_rfl) (fun _ _ _ h => h) (Or.inr ⟨by rfl, rfl⟩) ⟨(rowCell Zf (0) rfl), (rowAt Zm), (rowCell Zm (3) rfl)⟩ ?_
   try simp only [nP, nN, nA, n0, nS, nG, List.getElem_cons_zero, List.getElem_cons_succ]
   refine wpAnyH_take (i := 28) (v := .bool true) rfl (by kernel_rfl) (by kernel_rfl) (by kernel_rfl) (fun _ _ _ h => h) (Or.inl ⟨by rfl, fun w_ hS_ => by (first | (go_simp; done) | (go_simp; rfl))⟩) ⟨(rowCell Zf (0) rfl), (rowAt Zm), (rowCell Zm (3) rfl)⟩ ?_
   try simp only [nP, nN, nA, n0, nS, nG, List.getElem_cons_zero, List.getElem_cons_succ]
   refine wpAnyH_take (i := 29) (v := .bool true) rfl (by kernel_rfl) (by kernel_rfl) (by kernel_rfl) (fun _ _ _ h => h) (Or.inl ⟨by rfl, fun w_ hS_ => by (first | (go_simp; done) | (go_simp; rfl))⟩) ⟨(rowCell Zf (0) rfl), (rowAt Zm), (rowCell Zm (3) rfl)⟩ ?_
   try simp only [nP, nN, nA, n0, nS, nG, List.getElem_cons_zero, List.getElem_cons_succ]
   refine wpAnyH_take (i := 30) (v := undef) rfl (by kernel_rfl) (by kernel_rfl) (by kernel_rfl) (fun _ _ _ h => h) (Or.inr ⟨by rfl, rfl⟩) ⟨(rowCell Zf (0) rfl), (rowAt Zm), (rowCell Zm (3) rfl)⟩ ?_
   try simp only [nP, nN, nA, n0, nS, nG, List.getElem_cons_zero, List.getElem_cons_succ]
   refine wpAnyH_take (i := 31) (v := undef) rfl (by kernel_rfl) (by kernel_rfl) (by kernel_rfl) (fun _ _ _ h => h) (Or.inr ⟨by rfl, rfl⟩) ⟨(rowCell Zf (0) rfl), (rowAt Zm), (rowCell Zm (3) rfl)⟩ ?_
   try simp only [nP, nN, nA, n0, nS, nG, List.getElem_cons_zero, List.getElem_cons_succ]
   refine wpAnyH_take (i := 32) (v := undef) rfl (by kernel_rfl) (by kernel_rfl) (by kernel_rfl) (fun _ _ _ h => h) (Or.inr ⟨by rfl, rfl⟩) ⟨(rowCell Zf (0) rfl), (rowAt Zm), (rowCell Zm (3) rfl)⟩ ?_
   try simp only [nP, nN, nA, n0, nS, nG, List.getElem_cons_zero, List.getElem_cons_succ]
   refine wpAnyH_take (i := 33) (v := .bool true) rfl (by kernel_rfl) (by kernel_rfl) (by kernel_rfl) (fun _ _ _ h => h) (Or.inl ⟨by rfl, fun w_ hS_ => by (first | (go_simp; done) | (go_simp; rfl))⟩) ⟨(rowCell Zf (0) rfl), (rowAt Zm), (rowCell Zm (3) rfl)⟩ ?_
   try simp only [nP, nN, nA, n0, nS, nG, List.getElem_cons_zero, List.getElem_cons_succ]
   refine wpAnyH_take (i := 34) (v := .bool true) rfl (by kernel_rfl) (by kernel_rfl) (by kernel_rfl) (fun _ _ _ h => h) (Or.inl ⟨by rfl, fun w_ hS_ => by (first | (go_simp; done) | (go_simp; rfl))⟩) ⟨(rowCell Zf (0) rfl), (rowAt Zm), (rowCell Zm (3) rfl)⟩ ?_
   try simp only [nP, nN, nA, n0, nS, nG, List.getElem_cons_zero, List.getElem_cons_succ]
   refine wpAnyH_take (i := 35) (v := undef) rfl (by kernel_rfl) (by kernel_rfl) (by kernel_rfl) (fun _ _ _ h => h) (Or.inr ⟨by rfl, rfl⟩) ⟨(rowCell Zf (0) rfl), (rowAt Zm), (rowCell Zm (3) rfl)⟩ ?_
   try simp only [nP, nN, nA, n0, nS, nG, List.getElem_cons_zero, List.getElem_cons_succ]
   refine wpAnyH_take (i := 36) (v := undef) rfl (by kernel_rfl) (by kernel_rfl) (by kernel_rfl) (fun _ _ _ h => h) (Or.inr ⟨by rfl, rfl⟩) ⟨(rowCell Zf (0) rfl), (rowAt Zm), (rowCell Zm (3) rfl)⟩ ?_
   try simp only [nP, nN, nA, n0, nS, nG, List.getElem_cons_zero, List.getElem_cons_succ]
   refine wpAnyH_take (i := 37) (v := undef) rfl (by kernel_rfl) (by kernel_rfl) (by kernel_rfl) (fun _ _ _ h => h) (Or.inr ⟨by rfl, rfl⟩) ⟨(rowCell Zf (0) rfl), (rowAt Zm), (rowCell Zm (3) rfl)⟩ ?_
   try simp only [nP, nN, nA, n0, nS, nG, List.getElem_cons_zero, List.getElem_cons_succ]
   refine wpAnyH_take (i := 38) (v := .bool true) rfl (by kernel_rfl) (by kernel_rfl) (by kernel_rfl) (fun _ _ _ h => h) (Or.inl ⟨by rfl, fun w_ hS_ => by (first | (go_simp; done) | (go_simp; rfl))⟩) ⟨(rowCell Zf (0) rfl), (rowAt Zm), (rowCell Zm (3) rfl)⟩ ?_
   try simp only [nP, nN, nA, n0, nS, nG, List.getElem_cons_zero, List.getElem_cons_succ]
   refine wpAnyH_take (i := 39) (v := .bool true) rfl (by kernel_rfl) (by kernel_rfl) (by kernel_rfl) (fun _ _ _ h => h) (Or.inl ⟨by rfl, fun w_ hS_ => by (first | (go_simp; done) | (go_simp; rfl))⟩) ⟨(rowCell Zf (0) rfl), (rowAt Zm), (rowCell Zm (3) rfl)⟩ ?_
   try simp only [nP, nN, nA, n0, nS, nG, List.getElem_cons_zero, List.getElem_cons_succ]
   refine wpAnyH_take (i := 40) (v := undef) rfl (by kernel_rfl) (by kernel_rfl) (by kernel_rfl) (fun _ _ _ h => h) (Or.inr ⟨by rfl, rfl⟩) ⟨(rowCell Zf (0) rfl), (rowAt Zm), (rowCell Zm (3) rfl)⟩ ?_
   try simp only [nP, nN, nA, n0, nS, nG, List.getElem_cons_zero, List.getElem_cons_succ]
   refine wpAnyH_take (i := 41) (v := undef) rfl (by kernel_rfl) (by kernel_rfl) (by kernel_rfl) (fun _ _ _ h => h) (Or.inr ⟨by rfl, rfl⟩) ⟨(rowCell Zf (0) rfl), (rowAt Zm), (rowCell Zm (3) rfl)⟩ ?_
   try simp only [nP, nN, nA, n0, nS, nG, List.getElem_cons_zero, List.getElem_cons_succ]
   refine wpAnyH_take (i := 42) (v := undef) rfl (by kernel_rfl) (by kernel_rfl) (by kernel_rfl) (fun _ _ _ h => h) (Or.inr ⟨by rfl, rfl⟩) ⟨(rowCell Zf (0) rfl), (rowAt Zm), (rowCell Zm (3) rfl)⟩ ?_
   try simp only [nP, nN, nA, n0, nS, nG, List.getElem_cons_zero, List.getElem_cons_succ]
   refine wpAnyH_take (i := 43) (v := .bool true) rfl (by kernel_rfl) (by kernel_rfl) (by kernel_rfl) (fun _ _ _ h => h) (Or.inl ⟨by rfl, fun w_ hS_ => by (first | (go_simp; done) | (go_simp; rfl))⟩) ⟨(rowCell Zf (0) rfl), (rowAt Zm), (rowCell Zm (3) rfl)⟩ ?_
   try simp only [nP, nN, nA, n0, nS, nG, List.getElem_cons_zero, List.getElem_cons_succ]
   refine wpAnyH_take (i := 44) (v := .bool true) rfl (by kernel_rfl) (by kernel_rfl) (by kernel_rfl) (fun _ _ _ h => h) (Or.inl ⟨by rfl, fun w_ hS_ => by (first | (go_simp; done) | (go_simp; rfl))⟩) ⟨(rowCell Zf (0) rfl), (rowAt Zm), (rowCell Zm (3) rfl)⟩ ?_
   try simp only [nP, nN, nA, n0, nS, nG, List.getElem_cons_zero, List.getElem_cons_succ]
   refine wpAnyH_take (i := 45) (v := undef) rfl (by kernel_rfl) (by kernel_rfl) (by kernel_rfl) (fun _ _ _ h => h) (Or.inr ⟨by rfl, rfl⟩) ⟨(rowCell Zf (0) rfl), (rowAt Zm), (rowCell Zm (3) rfl)⟩ ?_
   try simp only [nP, nN, nA, n0, nS, nG, List.getElem_cons_zero, List.getElem_cons_succ]
   refine wpAnyH_take (i := 46) (v := undef) rfl (by kernel_rfl) (by kernel_rfl) (by kernel_rfl) (fun _ _ _ h => h) (Or.inr ⟨by rfl, rfl⟩) ⟨(rowCell Zf (0) rfl), (rowAt Zm), (rowCell Zm (3) rfl)⟩ ?_
   try simp only [nP, nN, nA, n0, nS, nG, List.getElem_cons_zero, List.getElem_cons_succ]
   refine wpAnyH_take (i := 47) (v := undef) rfl (by kernel_rfl) (by kernel_rfl) (by kernel_rfl) (fun _ _ _ h => h) (Or.inr ⟨by rfl, rfl⟩) ⟨(rowCell Zf (0) rfl), (rowAt Zm), (rowCell Zm (3) rfl)⟩ ?_
   try simp only [nP, nN, nA, n0, nS, nG, List.getElem_cons_zero, List.getElem_cons_succ]
   refine wpAnyH_take (i := 48) (v := .bool true) rfl (by kernel_rfl) (by kernel_rfl) (by kernel_rfl) (fun _ _ _ h => h) (Or.inl ⟨by rfl, fun w_ hS_ => by (first | (go_simp; done) | (go_simp; rfl))⟩) ⟨(rowCell Zf (0) rfl), (rowAt Zm), (rowCell Zm (3) rfl)⟩ ?_
   try simp only [nP, nN, nA, n0, nS, nG, List.getElem_cons_zero, List.getElem_cons_succ]
   refine wpAnyH_take (i := 49) (v := .bool true) rfl (by kernel_rfl) (by kernel_rfl) (by kernel_rfl) (fun _ _ _ h => h) (Or.inl ⟨by rfl, fun w_ hS_ => by (first | (go_simp; done) | (go_simp; rfl))⟩) ⟨(rowCell Zf (0) rfl), (rowAt Zm), (rowCell Zm (3) rfl)⟩ ?_
   try simp only [nP, nN, nA, n0, nS, nG, List.getElem_cons_zero, List.getElem_cons_succ]
   refine wpAnyH_take (i := 50) (v := undef) rfl (by kernel_rfl) (by kernel_rfl) (by kernel_rfl) (fun _ _ _ h => h) (Or.inr ⟨by rfl, rfl⟩) ⟨(rowCell Zf (0) rfl), (rowAt Zm), (rowCell Zm (3) rfl)⟩ ?_
   try simp only [nP, nN, nA, n0, nS, nG, List.getElem_cons_zero, List.getElem_cons_succ]
   refine wpAnyH_take (i := 51) (v := undef) rfl (by kernel_rfl) (by kernel_rfl) (by kernel_rfl) (fun _ _ _ h => h) (Or.inr ⟨by rfl, rfl⟩) ⟨(rowCell Zf (0) rfl), (rowAt Zm), (rowCell Zm (3) rfl)⟩ ?_
   try simp only [nP, nN, nA, n0, nS, nG, List.getElem_cons_zero, List.getElem_cons_succ]
   refine wpAnyH_take (i := 52) (v := undef) rfl (by kernel_rfl) (by kernel_rfl) (by kernel_rfl) (fun _ _ _ h => h) (Or.inr ⟨by rfl, rfl⟩) ⟨(rowCell Zf (0) rfl), (rowAt Zm), (rowCell Zm (3) rfl)⟩ ?_
   try simp only [nP, nN, nA, n0, nS, nG, List.getElem_cons_zero, List.getElem_cons_succ]
   refine wpAnyH_take (i := 53) (v := undef) rfl (by kernel_rfl) (by kernel_rfl) (by kernel_rfl) (fun _ _ _ h => h) (Or.inr ⟨by rfl, rfl⟩) ⟨(rowCell Zf (0) rfl), (rowAt Zm), (rowCell Zm (3) rfl)⟩ ?_
   try simp only [nP, nN, nA, n0, nS, nG, List.getElem_cons_zero, List.getElem_cons_succ]
   refine wpAnyH_take (i := 54) (v := .bool true) rfl (by kernel_rfl) (by kernel_rfl) (by kernel_rfl) (fun _ _ _ h => h) (Or.inl ⟨by rfl, fun w_ hS_ => by (first | (go_simp; done) | (go_simp; rfl))⟩) ⟨(rowCell Zf (0) rfl), (rowAt Zm), (rowCell Zm (3) rfl)⟩ ?_
   try simp only [nP, nN, nA, n0, nS, nG, List.getElem_cons_zero, List.getElem_cons_succ]
   refine wpAnyH_done (by kernel_rfl) ?_ _
   obtain rfl : R = false := by rw [HFM.out]; simp
   clear HON HSA h0 h2 h3 h4 h5 h6 h7 h8 h9 h10
   go_wp2_with fail
   go_ret
   exact ⟨rfl, ee⟩
  | false =>
   cases d4 with
   | true =>
   have Zm : z3.drew.heap[w.heap.size]? = some (.cells m.cells.toArray 39) := Zm
   have Zf : z3.drew.heap[gf]? = some (.cells ([.string ⟨fs.toArray⟩]).toArray 9) := Zf
   have ee := belowDrewS ee
   refine wp_region_held_drew (S := fun z' => z'.cell? ⟨gf, 0, none⟩ = some (.string ⟨fs.toArray⟩) ∧ z'.rangeAt w.heap.size (0) m.cells ∧ z'.cell? ⟨w.heap.size, 3, none⟩ = some (.int .i64 m.sl) ∧ z'.cell? ⟨w.heap.size, 26, none⟩ = some (.int .i64 m.nu)) (by kernel_rfl) ⟨(rowCell Zf (0) rfl), (rowAt Zm), (rowCell Zm (3) rfl), (rowCell Zm (26) rfl)⟩ (fun hH => ?_)
   clear hH
   generalize z3.drew = z4 at Zm Zf ee ⊢
   refine wpAnyH_take (i := 0) (v := .string ⟨fs.toArray⟩) rfl (by kernel_rfl) (by kernel_rfl) (by kernel_rfl) (fun _ _ _ h => h) (Or.inl ⟨by rfl, fun w_ hS_ => by (have c_ := hS_.1; first | (go_simp; done) | (go_simp; rfl))⟩) ⟨(rowCell Zf (0) rfl), (rowAt Zm), (rowCell Zm (3) rfl), (rowCell Zm (26) rfl)⟩ ?_
   try simp only [nP, nN, nA, n0, nS, nG, List.getElem_cons_zero, List.getElem_cons_succ]
   refine wpAnyH_take (i := 1) (v := .bool false) rfl (by kernel_rfl) (by kernel_rfl) (by kernel_rfl) (fun _ _ _ h => h) (Or.inl ⟨by rfl, fun w_ hS_ => by (first | (go_simp; done) | (go_simp; rfl))⟩) ⟨(rowCell Zf (0) rfl), (rowAt Zm), (rowCell Zm (3) rfl), (rowCell Zm (26) rfl)⟩ ?_
   try simp only [nP, nN, nA, n0, nS, nG, List.getElem_cons_zero, List.getElem_cons_succ]
   refine wpAnyH_take (i := 2) (v := .bool false) rfl (by kernel_rfl) (by kernel_rfl) (by kernel_rfl) (fun _ _ _ h => h) (Or.inl ⟨by rfl, fun w_ hS_ => by (first | (go_simp; done) | (go_simp; rfl))⟩) ⟨(rowCell Zf (0) rfl), (rowAt Zm), (rowCell Zm (3) rfl), (rowCell Zm (26) rfl)⟩ ?_
   try simp only [nP, nN, nA, n0, nS, nG, List.getElem_cons_zero, List.getElem_cons_succ]
   refine wpAnyH_take (i := 3) (v := .agg (m.cells).toArray) rfl (by kernel_rfl) (by kernel_rfl) (by kernel_rfl) (fun _ _ _ h => h) (yieldsIf_load_mid (by rfl) 39 _ rfl (w.heap.size) (0) rfl (m.cells) _ (fun _ h => h.2.1) Tryd.underlying39 rfl sizeMs) ⟨(rowCell Zf (0) rfl), (rowAt Zm), (rowCell Zm (3) rfl), (rowCell Zm (26) rfl)⟩ ?_
   try simp only [nP, nN, nA, n0, nS, nG, List.getElem_cons_zero, List.getElem_cons_succ]
   refine wpAnyH_take (i := 5) (v := .agg (m.cells).toArray) rfl (by kernel_rfl) (by kernel_rfl) (by kernel_rfl) (fun _ _ _ h => h) (yieldsIf_load_mid (by rfl) 39 _ rfl (w.heap.size) (0) rfl (m.cells) _ (fun _ h => h.2.1) Tryd.underlying39 rfl sizeMs) ⟨(rowCell Zf (0) rfl), (rowAt Zm), (rowCell Zm (3) rfl), (rowCell Zm (26) rfl)⟩ ?_
   try simp only [nP, nN, nA, n0, nS, nG, List.getElem_cons_zero, List.getElem_cons_succ]
   refine wpAnyH_ready (rs := [4]) (by kernel_rfl) (by simp) ?_
   refine AllReadyH.cons rfl (fun K hK => ?_) AllReadyH.nil
   rw [if_pos (by rfl)]
   go_simp
   go_wp2_with (go_at_call 41; refine (HON.out z4).mono ?_; rintro e z5 ⟨rfl, t⟩)
   have Zm := hpB Zm t
   have Zf := hpB Zf t
   have ee := ee.trans (t.mono ee.size)
   clear t
   refine hK.out _ _ ⟨(rowCell Zf (0) rfl), (rowAt Zm), (rowCell Zm (3) rfl), (rowCell Zm (26) rfl)⟩ (fun hH => ?_)
   clear hK K hH
   try simp only [nP, nN, nA, n0, nS, nG, List.getElem_cons_zero, List.getElem_cons_succ]
   refine wpAnyH_ready (rs := [6]) (by kernel_rfl) (by simp) ?_
   refine AllReadyH.cons rfl (fun K hK => ?_) AllReadyH.nil
   rw [if_pos (by rfl)]
   go_simp
   go_wp2_with (go_at_call 18; refine (HSA.out z5 ee).mono ?_; rintro e z6 ⟨rfl, t⟩)
   have Zm := hpB Zm t
   have Zf := hpB Zf t
   have ee := ee.trans (t.mono ee.size)
   clear t
   refine hK.out _ _ ⟨(rowCell Zf (0) rfl), (rowAt Zm), (rowCell Zm (3) rfl), (rowCell Zm (26) rfl)⟩ (fun hH => ?_)
   clear hK K hH
   try simp only [nP, nN, nA, n0, nS, nG, List.getElem_cons_zero, List.getElem_cons_succ]
   refine wpAnyH_take (i := 7) (v := .bool false) rfl (by kernel_rfl) (by kernel_rfl) (by kernel_rfl) (fun _ _ _ h => h) (Or.inl ⟨by rfl, fun w_ hS_ => by (first | (go_simp; done) | (go_simp; rfl))⟩) ⟨(rowCell Zf (0) rfl), (rowAt Zm), (rowCell Zm (3) rfl), (rowCell Zm (26) rfl)⟩ ?_
   try simp only [nP, nN, nA, n0, nS, nG, List.getElem_cons_zero, List.getElem_cons_succ]
   refine wpAnyH_take (i := 8) (v := .bool false) rfl (by kernel_rfl) (by kernel_rfl) (by kernel_rfl) (fun _ _ _ h => h) (Or.inl ⟨by rfl, fun w_ hS_ => by (first | (go_simp; done) | (go_simp; rfl))⟩) ⟨(rowCell Zf (0) rfl), (rowAt Zm), (rowCell Zm (3) rfl), (rowCell Zm (26) rfl)⟩ ?_
   try simp only [nP, nN, nA, n0, nS, nG, List.getElem_cons_zero, List.getElem_cons_succ]
   refine wpAnyH_take (i := 9) (v := .bool false) rfl (by kernel_rfl) (by kernel_rfl) (by kernel_rfl) (fun _ _ _ h => h) (Or.inl ⟨by rfl, fun w_ hS_ => by (first | (go_simp; done) | (go_simp; rfl))⟩) ⟨(rowCell Zf (0) rfl), (rowAt Zm), (rowCell Zm (3) rfl), (rowCell Zm (26) rfl)⟩ ?_
   try simp only [nP, nN, nA, n0, nS, nG, List.getElem_cons_zero, List.getElem_cons_succ]
   refine wpAnyH_take (i := 10) (v := .pointer (some ⟨w.heap.size, 3, none⟩)) rfl (by kernel_rfl) (by kernel_rfl) (by kernel_rfl) (fun _ _ _ h => h) (Or.inl ⟨by rfl, fun w_ hS_ => by (first | (go_simp; done) | (go_simp; rfl))⟩) ⟨(rowCell Zf (0) rfl), (rowAt Zm), (rowCell Zm (3) rfl), (rowCell Zm (26) rfl)⟩ ?_
   try simp only [nP, nN, nA, n0, nS, nG, List.getElem_cons_zero, List.getElem_cons_succ]
   refine wpAnyH_take (i := 11) (v := .int .i64 m.sl) rfl (by kernel_rfl) (by kernel_rfl) (by kernel_rfl) (fun _ _ _ h => h) (Or.inl ⟨by rfl, fun w_ hS_ => by (have c_ := hS_.2.2.1; first | (go_simp; done) | (go_simp; rfl))⟩) ⟨(rowCell Zf (0) rfl), (rowAt Zm), (rowCell Zm (3) rfl), (rowCell Zm (26) rfl)⟩ ?_
   try simp only [nP, nN, nA, n0, nS, nG, List.getElem_cons_zero, List.getElem_cons_succ]
   refine wpAnyH_take (i := 12) (v := .bool false) rfl (by kernel_rfl) (by kernel_rfl) (by kernel_rfl) (fun _ _ _ h => h) (Or.inl ⟨by rfl, fun w_ hS_ => by (first | (go_simp; done) | (go_simp; rfl))⟩) ⟨(rowCell Zf (0) rfl), (rowAt Zm), (rowCell Zm (3) rfl), (rowCell Zm (26) rfl)⟩ ?_
   try simp only [nP, nN, nA, n0, nS, nG, List.getElem_cons_zero, List.getElem_cons_succ]
   refine wpAnyH_take (i := 13) (v := .bool false) rfl (by kernel_rfl) (by kernel_rfl) (by kernel_rfl) (fun _ _ _ h => h) (Or.inl ⟨by rfl, fun w_ hS_ => by (first | (go_simp; done) | (go_simp; rfl))⟩) ⟨(rowCell Zf (0) rfl), (rowAt Zm), (rowCell Zm (3) rfl), (rowCell Zm (26) rfl)⟩ ?_
   try simp only [nP, nN, nA, n0, nS, nG, List.getElem_cons_zero, List.getElem_cons_succ]
   refine wpAnyH_take (i := 14) (v := .bool false) rfl (by kernel_rfl) (by kernel_rfl) (by kernel_rfl) (fun _ _ _ h => h) (Or.inl ⟨by rfl, fun w_ hS_ => by (first | (go_simp; done) | (go_simp; rfl))⟩) ⟨(rowCell Zf (0) rfl), (rowAt Zm), (rowCell Zm (3) rfl), (rowCell Zm (26) rfl)⟩ ?_
   try simp only [nP, nN, nA, n0, nS, nG, List.getElem_cons_zero, List.getElem_cons_succ]
   refine wpAnyH_take (i := 15) (v := .pointer (some ⟨w.heap.size, 3, none⟩)) rfl (by kernel_rfl) (by kernel_rfl) (by kernel_rfl) (fun _ _ _ h => h) (Or.inl ⟨by rfl, fun w_ hS_ => by (first | (go_simp; done) | (go_simp; rfl))⟩) ⟨(rowCell Zf (0) rfl), (rowAt Zm), (rowCell Zm (3) rfl), (rowCell Zm (26) rfl)⟩ ?_
   try simp only [nP, nN, nA, n0, nS, nG, List.getElem_cons_zero, List.getElem_cons_succ]
   refine wpAnyH_take (i := 16) (v := .int .i64 m.sl) rfl (by kernel_rfl) (by kernel_rfl) (by kernel_rfl) (fun _ _ _ h => h) (Or.inl ⟨by rfl, fun w_ hS_ => by (have c_ := hS_.2.2.1; first | (go_simp; done) | (go_simp; rfl))⟩) ⟨(rowCell Zf (0) rfl), (rowAt Zm), (rowCell Zm (3) rfl), (rowCell Zm (26) rfl)⟩ ?_
   try simp only [nP, nN, nA, n0, nS, nG, List.getElem_cons_zero, List.getElem_cons_succ]
   refine wpAnyH_take (i := 17) (v := .bool false) rfl (by kernel_rfl) (by kernel_rfl) (by kernel_rfl) (fun _ _ _ h => h) (Or.inl ⟨by rfl, fun w_ hS_ => by (first | (go_simp; done) | (go_simp; rfl))⟩) ⟨(rowCell Zf (0) rfl), (rowAt Zm), (rowCell Zm (3) rfl), (rowCell Zm (26) rfl)⟩ ?_
   try simp only [nP, nN, nA, n0, nS, nG, List.getElem_cons_zero, List.getElem_cons_succ]
   refine wpAnyH_take (i := 18) (v := .bool false) rfl (by kernel_rfl) (by kernel_rfl) (by kernel_rfl) (fun _ _ _ h => h) (Or.inl ⟨by rfl, fun w_ hS_ => by (first | (go_simp; done) | (go_simp; rfl))⟩) ⟨(rowCell Zf (0) rfl), (rowAt Zm), (rowCell Zm (3) rfl), (rowCell Zm (26) rfl)⟩ ?_
   try simp only [nP, nN, nA, n0, nS, nG, List.getElem_cons_zero, List.getElem_cons_succ]
   refine wpAnyH_take (i := 19) (v := .bool false) rfl (by kernel_rfl) (by kernel_rfl) (by kernel_rfl) (fun _ _ _ h => h) (Or.inl ⟨by rfl, fun w_ hS_ => by (first | (go_simp; done) | (go_simp; rfl))⟩) ⟨(rowCell Zf (0) rfl), (rowAt Zm), (rowCell Zm (3) rfl), (rowCell Zm (26) rfl)⟩ ?_
   try simp only [nP, nN, nA, n0, nS, nG, List.getElem_cons_zero, List.getElem_cons_succ]
   refine wpAnyH_take (i := 20) (v := .pointer (some ⟨w.heap.size, 26, none⟩)) rfl (by kernel_rfl) (by kernel_rfl) (by kernel_rfl) (fun _ _ _ h => h) (Or.inl ⟨by rfl, fun w_ hS_ => by (first | (go_simp; done) | (go_simp; rfl))⟩) ⟨(rowCell Zf (0) rfl), (rowAt Zm), (rowCell Zm (3) rfl), (rowCell Zm (26) rfl)⟩ ?_
   try simp only [nP, nN, nA, n0, nS, nG, List.getElem_cons_zero, List.getElem_cons_succ]
   refine wpAnyH_take (i := 21) (v := .int .i64 m.nu) rfl (by kernel_rfl) (by kernel_rfl) (by kernel_rfl) (fun _ _ _ h => h) (Or.inl ⟨by rfl, fun w_ hS_ => by (have c_ := hS_.2.2.2; first | (go_simp; done) | (go_simp; rfl))⟩) ⟨(rowCell Zf (0) rfl), (rowAt Zm), (rowCell Zm (3) rfl), (rowCell Zm (26) rfl)⟩ ?_
   try simp only [nP, nN, nA, n0, nS, nG, List.getElem_cons_zero, List.getElem_cons_succ]
   refine wpAnyH_take (i := 22) (v := .bool true) rfl (by kernel_rfl) (by kernel_rfl) (by kernel_rfl) (fun _ _ _ h => h) (Or.inl ⟨by rfl, fun w_ hS_ => by (first | (go_simp; done) | (go_simp; rfl))⟩) ⟨(rowCell Zf (0) rfl), (rowAt Zm), (rowCell Zm (3) rfl), (rowCell Zm (26) rfl)⟩ ?_
   try simp only [nP, nN, nA, n0, nS, nG, List.getElem_cons_zero, List.getElem_cons_succ]
   refine wpAnyH_take (i := 23) (v := .bool true) rfl (by kernel_rfl) (by kernel_rfl) (by kernel_rfl) (fun _ _ _ h => h) (Or.inl ⟨by rfl, fun w_ hS_ => by (first | (go_simp; done) | (go_simp; rfl))⟩) ⟨(rowCell Zf (0) rfl), (rowAt Zm), (rowCell Zm (3) rfl), (rowCell Zm (26) rfl)⟩ ?_
   try simp only [nP, nN, nA, n0, nS, nG, List.getElem_cons_zero, List.getElem_cons_succ]
   refine wpAnyH_take (i := 24) (v := .bool true) rfl (by kernel_rfl) (by kernel_rfl) (by kernel_rfl) (fun _ _ _ h => h) (Or.inl ⟨by rfl, fun w_ hS_ => by (first | (go_simp; done) | (go_simp; rfl))⟩) ⟨(rowCell Zf (0) rfl), (rowAt Zm), (rowCell Zm (3) rfl), (rowCell Zm (26) rfl)⟩ ?_
   try simp only [nP, nN, nA, n0, nS, nG, List.getElem_cons_zero, List.getElem_cons_succ]
   refine wpAnyH_take (i := 25) (v := undef) rfl (by kernel_rfl) (by kernel_rfl) (by kernel_rfl) (fun _ _ _ h => h) (Or.inr ⟨by rfl, rfl⟩) ⟨(rowCell Zf (0) rfl), (rowAt Zm), (rowCell Zm (3) rfl), (rowCell Zm (26) rfl)⟩ ?_
   try simp only [nP, nN, nA, n0, nS, nG, List.getElem_cons_zero, List.getElem_cons_succ]
   refine wpAnyH_take (i := 26) (v := undef) rfl (by kernel_rfl) (by kernel_rfl) (by kernel_rfl) (fun _ _ _ h => h) (Or.inr ⟨by rfl, rfl⟩) ⟨(rowCell Zf (0) rfl), (rowAt Zm), (rowCell Zm (3) rfl), (rowCell Zm (26) rfl)⟩ ?_
   try simp only [nP, nN, nA, n0, nS, nG, List.getElem_cons_zero, List.getElem_cons_succ]
   refine wpAnyH_take (i := 27) (v := undef) rfl (by kernel_rfl) (by kernel_rfl) (by kernel_rfl) (fun _ _ _ h => h) (Or.inr ⟨by rfl, rfl⟩) ⟨(rowCell Zf (0) rfl), (rowAt Zm), (rowCell Zm (3) rfl), (rowCell Zm (26) rfl)⟩ ?_
   try simp only [nP, nN, nA, n0, nS, nG, List.getElem_cons_zero, List.getElem_cons_succ]
   refine wpAnyH_take (i := 28) (v := .bool true) rfl (by kernel_rfl) (by kernel_rfl) (by kernel_rfl) (fun _ _ _ h => h) (Or.inl ⟨by rfl, fun w_ hS_ => by (first | (go_simp; done) | (go_simp; rfl))⟩) ⟨(rowCell Zf (0) rfl), (rowAt Zm), (rowCell Zm (3) rfl), (rowCell Zm (26) rfl)⟩ ?_
   try simp only [nP, nN, nA, n0, nS, nG, List.getElem_cons_zero, List.getElem_cons_succ]
   refine wpAnyH_take (i := 29) (v := .bool true) rfl (by kernel_rfl) (by kernel_rfl) (by kernel_rfl) (fun _ _ _ h => h) (Or.inl ⟨by rfl, fun w_ hS_ => by (first | (go_simp; done) | (go_simp; rfl))⟩) ⟨(rowCell Zf (0) rfl), (rowAt Zm), (rowCell Zm (3) rfl), (rowCell Zm (26) rfl)⟩ ?_
   try simp only [nP, nN, nA, n0, nS, nG, List.getElem_cons_zero, List.getElem_cons_succ]
   refine wpAnyH_take (i := 30) (v := undef) rfl (by kernel_rfl) (by kernel_rfl) (by kernel_rfl) (fun _ _ _ h => h) (Or.inr ⟨by rfl, rfl⟩) ⟨(rowCell Zf (0) rfl), (rowAt Zm), (rowCell Zm (3) rfl), (rowCell Zm (26) rfl)⟩ ?_
   try simp only [nP, nN, nA, n0, nS, nG, List.getElem_cons_zero, List.getElem_cons_succ]
   refine wpAnyH_take (i := 31) (v := undef) rfl (by kernel_rfl) (by kernel_rfl) (by kernel_rfl) (fun _ _ _ h => h) (Or.inr ⟨by rfl, rfl⟩) ⟨(rowCell Zf (0) rfl), (rowAt Zm), (rowCell Zm (3) rfl), (rowCell Zm (26) rfl)⟩ ?_
   try simp only [nP, nN, nA, n0, nS, nG, List.getElem_cons_zero, List.getElem_cons_succ]
   refine wpAnyH_take (i := 32) (v := undef) rfl (by kernel_rfl) (by kernel_rfl) (by kernel_rfl) (fun _ _ _ h => h) (Or.inr ⟨by rfl, rfl⟩) ⟨(rowCell Zf (0) rfl), (rowAt Zm), (rowCell Zm (3) rfl), (rowCell Zm (26) rfl)⟩ ?_
   try simp only [nP, nN, nA, n0, nS, nG, List.getElem_cons_zero, List.getElem_cons_succ]
   refine wpAnyH_take (i := 33) (v := .bool true) rfl (by kernel_rfl) (by kernel_rfl) (by kernel_rfl) (fun _ _ _ h => h) (Or.inl ⟨by rfl, fun w_ hS_ => by (first | (go_simp; done) | (go_simp; rfl))⟩) ⟨(rowCell Zf (0) rfl), (rowAt Zm), (rowCell Zm (3) rfl), (rowCell Zm (26) rfl)⟩ ?_
   try simp only [nP, nN, nA, n0, nS, nG, List.getElem_cons_zero, List.getElem_cons_succ]
   refine wpAnyH_take (i := 34) (v := .bool true) rfl (by kernel_rfl) (by kernel_rfl) (by kernel_rfl) (fun _ _ _ h => h) (Or.inl ⟨by rfl, fun w_ hS_ => by (first | (go_simp; done) | (go_simp; rfl))⟩) ⟨(rowCell Zf (0) rfl), (rowAt Zm), (rowCell Zm (3) rfl), (rowCell Zm (26) rfl)⟩ ?_
   try simp only [nP, nN, nA, n0, nS, nG, List.getElem_cons_zero, List.getElem_cons_succ]
   refine wpAnyH_take (i := 35) (v := undef) rfl (by kernel_rfl) (by kernel_rfl) (by kernel_rfl) (fun _ _ _ h => h) (Or.inr ⟨by rfl, rfl⟩) ⟨(rowCell Zf (0) rfl), (rowAt Zm), (rowCell Zm (3) rfl), (rowCell Zm (26) rfl)⟩ ?_
   try simp only [nP, nN, nA, n0, nS, nG, List.getElem_cons_zero, List.getElem_cons_succ]
   refine wpAnyH_take (i := 36) (v := undef) rfl (by kernel_rfl) (by kernel_rfl) (by kernel_rfl) (fun _ _ _ h => h) (Or.inr ⟨by rfl, rfl⟩) ⟨(rowCell Zf (0) rfl), (rowAt Zm), (rowCell Zm (3) rfl), (rowCell Zm (26) rfl)⟩ ?_
   try simp only [nP, nN, nA, n0, nS, nG, List.getElem_cons_zero, List.getElem_cons_succ]
   refine wpAnyH_take (i := 37) (v := undef) rfl (by kernel_rfl) (by kernel_rfl) (by kernel_rfl) (fun _ _ _ h => h) (Or.inr ⟨by rfl, rfl⟩) ⟨(rowCell Zf (0) rfl), (rowAt Zm), (rowCell Zm (3) rfl), (rowCell Zm (26) rfl)⟩ ?_
   try simp only [nP, nN, nA, n0, nS, nG, List.getElem_cons_zero, List.getElem_cons_succ]
   refine wpAnyH_take (i := 38) (v := .bool true) rfl (by kernel_rfl) (by kernel_rfl) (by kernel_rfl) (fun _ _ _ h => h) (Or.inl ⟨by rfl, fun w_ hS_ => by (first | (go_simp; done) | (go_simp; rfl))⟩) ⟨(rowCell Zf (0) rfl), (rowAt Zm), (rowCell Zm (3) rfl), (rowCell Zm (26) rfl)⟩ ?_
   try simp only [nP, nN, nA, n0, nS, nG, List.getElem_cons_zero, List.getElem_cons_succ]
   refine wpAnyH_take (i := 39) (v := .bool true) rfl (by kernel_rfl) (by kernel_rfl) (by kernel_rfl) (fun _ _ _ h => h) (Or.inl ⟨by rfl, fun w_ hS_ => by (first | (go_simp; done) | (go_simp; rfl))⟩) ⟨(rowCell Zf (0) rfl), (rowAt Zm), (rowCell Zm (3) rfl), (rowCell Zm (26) rfl)⟩ ?_
   try simp only [nP, nN, nA, n0, nS, nG, List.getElem_cons_zero, List.getElem_cons_succ]
   refine wpAnyH_take (i := 40) (v := undef) rfl (by kernel_rfl) (by kernel_rfl) (by kernel_rfl) (fun _ _ _ h => h) (Or.inr ⟨by rfl, rfl⟩) ⟨(rowCell Zf (0) rfl), (rowAt Zm), (rowCell Zm (3) rfl), (rowCell Zm (26) rfl)⟩ ?_
   try simp only [nP, nN, nA, n0, nS, nG, List.getElem_cons_zero, List.getElem_cons_succ]
   refine wpAnyH_take (i := 41) (v := undef) rfl (by kernel_rfl) (by kernel_rfl) (by kernel_rfl) (fun _ _ _ h => h) (Or.inr ⟨by rfl, rfl⟩) ⟨(rowCell Zf (0) rfl), (rowAt Zm), (rowCell Zm (3) rfl), (rowCell Zm (26) rfl)⟩ ?_
   try simp only [nP, nN, nA, n0, nS, nG, List.getElem_cons_zero, List.getElem_cons_succ]
   refine wpAnyH_take (i := 42) (v := undef) rfl (by kernel_rfl) (by kernel_rfl) (by kernel_rfl) (fun _ _ _ h => h) (Or.inr ⟨by rfl, rfl⟩) ⟨(rowCell Zf (0) rfl), (rowAt Zm), (rowCell Zm (3) rfl), (rowCell Zm (26) rfl)⟩ ?_
   try simp only [nP, nN, nA, n0, nS, nG, List.getElem_cons_zero, List.getElem_cons_succ]
   refine wpAnyH_take (i := 43) (v := .bool true) rfl (by kernel_rfl) (by kernel_rfl) (by kernel_rfl) (fun _ _ _ h => h) (Or.inl ⟨by rfl, fun w_ hS_ => by (first | (go_simp; done) | (go_simp; rfl))⟩) ⟨(rowCell Zf (0) rfl), (rowAt Zm), (rowCell Zm (3) rfl), (rowCell Zm (26) rfl)⟩ ?_
   try simp only [nP, nN, nA, n0, nS, nG, List.getElem_cons_zero, List.getElem_cons_succ]
   refine wpAnyH_take (i := 44) (v := .bool true) rfl (by kernel_rfl) (by kernel_rfl) (by kernel_rfl) (fun _ _ _ h => h) (Or.inl ⟨by rfl, fun w_ hS_ => by (first | (go_simp; done) | (go_simp; rfl))⟩) ⟨(rowCell Zf (0) rfl), (rowAt Zm), (rowCell Zm (3) rfl), (rowCell Zm (26) rfl)⟩ ?_
   try simp only [nP, nN, nA, n0, nS, nG, List.getElem_cons_zero, List.getElem_cons_succ]
   refine wpAnyH_take (i := 45) (v := undef) rfl (by kernel_rfl) (by kernel_rfl) (by kernel_rfl) (fun _ _ _ h => h) (Or.inr ⟨by rfl, rfl⟩) ⟨(rowCell Zf (0) rfl), (rowAt Zm), (rowCell Zm (3) rfl), (rowCell Zm (26) rfl)⟩ ?_
   try simp only [nP, nN, nA, n0, nS, nG, List.getElem_cons_zero, List.getElem_cons_succ]
   refine wpAnyH_take (i := 46) (v := undef) rfl (by kernel_rfl) (by kernel_rfl) (by kernel_rfl) (fun _ _ _ h => h) (Or.inr ⟨by rfl, rfl⟩) ⟨(rowCell Zf (0) rfl), (rowAt Zm), (rowCell Zm (3) rfl), (rowCell Zm (26) rfl)⟩ ?_
   try simp only [nP, nN, nA, n0, nS, nG, List.getElem_cons_zero, List.getElem_cons_succ]
   refine wpAnyH_take (i := 47) (v := undef) rfl (by kernel_rfl) (by kernel_rfl) (by kernel_rfl) (fun _ _ _ h => h) (Or.inr ⟨by rfl, rfl⟩) ⟨(rowCell Zf (0) rfl), (rowAt Zm), (rowCell Zm (3) rfl), (rowCell Zm (26) rfl)⟩ ?_
   try simp only [nP, nN, nA, n0, nS, nG, List.getElem_cons_zero, List.getElem_cons_succ]
   refine wpAnyH_take (i := 48) (v := .bool true) rfl (by kernel_rfl) (by kernel_rfl) (by kernel_rfl) (fun _ _ _ h => h) (Or.inl ⟨by rfl, fun w_ hS_ => by (first | (go_simp; done) | (go_simp; rfl))⟩) ⟨(rowCell Zf (0) rfl), (rowAt Zm), (rowCell Zm (3) rfl), (rowCell Zm (26) rfl)⟩ ?_
   try simp only [nP, nN, nA, n0, nS, nG, List.getElem_cons_zero, List.getElem_cons_succ]
   refine wpAnyH_take (i := 49) (v := .bool true) rfl (by kernel_rfl) (by kernel_rfl) (by kernel_rfl) (fun _ _ _ h => h) (Or.inl ⟨by rfl, fun w_ hS_ => by (first | (go_simp; done) | (go_simp; rfl))⟩) ⟨(rowCell Zf (0) rfl), (rowAt Zm), (rowCell Zm (3) rfl), (rowCell Zm (26) rfl)⟩ ?_
   try simp only [nP, nN, nA, n0, nS, nG, List.getElem_cons_zero, List.getElem_cons_succ]
   refine wpAnyH_take (i := 50) (v := undef) rfl (by kernel_rfl) (by kernel_rfl) (by kernel_rfl) (fun _ _ _ h => h) (Or.inr ⟨by rfl, rfl⟩) ⟨(rowCell Zf (0) rfl), (rowAt Zm), (rowCell Zm (3) rfl), (rowCell Zm (26) rfl)⟩ ?_
   try simp only [nP, nN, nA, n0, nS, nG, List.getElem_cons_zero, List.getElem_cons_succ]
   refine wpAnyH_take (i := 51) (v := undef) rfl (by kernel_rfl) (by kernel_rfl) (by kernel_rfl) (fun _ _ _ h => h) (Or.inr ⟨by rfl, rfl⟩) ⟨(rowCell Zf (0) rfl), (rowAt Zm), (rowCell Zm (3) rfl), (rowCell Zm (26) rfl)⟩ ?_
   try simp only [nP, nN, nA, n0, nS, nG, List.getElem_cons_zero, List.getElem_cons_succ]
   refine wpAnyH_take (i := 52) (v := undef) rfl (by kernel_rfl) (by kernel_rfl) (by kernel_rfl) (fun _ _ _ h => h) (Or.inr ⟨by rfl, rfl⟩) ⟨(rowCell Zf (0) rfl), (rowAt Zm), (rowCell Zm (3) rfl), (rowCell Zm (26) rfl)⟩ ?_
   try simp only [nP, nN, nA, n0, nS, nG, List.getElem_cons_zero, List.getElem_cons_succ]
   refine wpAnyH_take (i := 53) (v := undef) rfl (by kernel_rfl) (by kernel_rfl) (by kernel_rfl) (fun _ _ _ h => h) (Or.inr ⟨by rfl, rfl⟩) ⟨(rowCell Zf (0) rfl), (rowAt Zm), (rowCell Zm (3) rfl), (rowCell Zm (26) rfl)⟩ ?_
   try simp only [nP, nN, nA, n0, nS, nG, List.getElem_cons_zero, List.getElem_cons_succ]
   refine wpAnyH_take (i := 54) (v := .bool true) rfl (by kernel_rfl) (by kernel_rfl) (by kernel_rfl) (fun _ _ _ h => h) (Or.inl ⟨by rfl, fun w_ hS_ => by (first | (go_simp; done) | (go_simp; rfl))⟩) ⟨(rowCell Zf (0) rfl), (rowAt Zm), (rowCell Zm (3) rfl), (rowCell Zm (26) rfl)⟩ ?_
   try simp only [nP, nN, nA, n0, nS, nG, List.getElem_cons_zero, List.getElem_cons_succ]
   refine wpAnyH_done (by kernel_rfl) ?_ _
   obtain rfl : R = false := by rw [HFM.out]; simp
   clear HON HSA h0 h2 h3 h4 h5 h6 h7 h8 h9 h10
   go_wp2_with fail
   go_ret
   exact ⟨rfl, ee⟩
   | false =>
   cases d5 with
   | true =>
    have Zm : z3.drew.heap[w.heap.size]? = some (.cells m.cells.toArray 39) := Zm
    have Zf : z3.drew.heap[gf]? = some (.cells ([.string ⟨fs.toArray⟩]).toArray 9) := Zf
    have ee := belowDrewS ee
    refine wp_region_held_drew (S := fun z' => z'.cell? ⟨gf, 0, none⟩ = some (.string ⟨fs.toArray⟩) ∧ z'.rangeAt w.heap.size (0) m.cells ∧ z'.cell? ⟨w.heap.size, 3, none⟩ = some (.int .i64 m.sl) ∧ z'.cell? ⟨w.heap.size, 26, none⟩ = some (.int .i64 m.nu)) (by kernel_rfl) ⟨(rowCell Zf (0) rfl), (rowAt Zm), (rowCell Zm (3) rfl), (rowCell Zm (26) rfl)⟩ (fun hH => ?_)
    clear hH
    generalize z3.drew = z4 at Zm Zf ee ⊢
    refine wpAnyH_take (i := 0) (v := .string ⟨fs.toArray⟩) rfl (by kernel_rfl) (by kernel_rfl) (by kernel_rfl) (fun _ _ _ h => h) (Or.inl ⟨by rfl, fun w_ hS_ => by (have c_ := hS_.1; first | (go_simp; done) | (go_simp; rfl))⟩) ⟨(rowCell Zf (0) rfl), (rowAt Zm), (rowCell Zm (3) rfl), (rowCell Zm (26) rfl)⟩ ?_
    try simp only [nP, nN, nA, n0, nS, nG, List.getElem_cons_zero, List.getElem_cons_succ]
    refine wpAnyH_take (i := 1) (v := .bool false) rfl (by kernel_rfl) (by kernel_rfl) (by kernel_rfl) (fun _ _ _ h => h) (Or.inl ⟨by rfl, fun w_ hS_ => by (first | (go_simp; done) | (go_simp; rfl))⟩) ⟨(rowCell Zf (0) rfl), (rowAt Zm), (rowCell Zm (3) rfl), (rowCell Zm (26) rfl)⟩ ?_
    try simp only [nP, nN, nA, n0, nS, nG, List.getElem_cons_zero, List.getElem_cons_succ]
    refine wpAnyH_take (i := 2) (v := .bool false) rfl (by kernel_rfl) (by kernel_rfl) (by kernel_rfl) (fun _ _ _ h => h) (Or.inl ⟨by rfl, fun w_ hS_ => by (first | (go_simp; done) | (go_simp; rfl))⟩) ⟨(rowCell Zf (0) rfl), (rowAt Zm), (rowCell Zm (3) rfl), (rowCell Zm (26) rfl)⟩ ?_
    try simp only [nP, nN, nA, n0, nS, nG, List.getElem_cons_zero, List.getElem_cons_succ]
    refine wpAnyH_take (i := 3) (v := .agg (m.cells).toArray) rfl (by kernel_rfl) (by kernel_rfl) (by kernel_rfl) (fun _ _ _ h => h) (yieldsIf_load_mid (by rfl) 39 _ rfl (w.heap.size) (0) rfl (m.cells) _ (fun _ h => h.2.1) Tryd.underlying39 rfl sizeMs) ⟨(rowCell Zf (0) rfl), (rowAt Zm), (rowCell Zm (3) rfl), (rowCell Zm (26) rfl)⟩ ?_
    try simp only [nP, nN, nA, n0, nS, nG, List.getElem_cons_zero, List.getElem_cons_succ]
    refine wpAnyH_take (i := 5) (v := .agg (m.cells).toArray) rfl (by kernel_rfl) (by kernel_rfl) (by kernel_rfl) (fun _ _ _ h => h) (yieldsIf_load_mid (by rfl) 39 _ rfl (w.heap.size) (0) rfl (m.cells) _ (fun _ h => h.2.1) Tryd.underlying39 rfl sizeMs) ⟨(rowCell Zf (0) rfl), (rowAt Zm), (rowCell Zm (3) rfl), (rowCell Zm (26) rfl)⟩ ?_
    try simp only [nP, nN, nA, n0, nS, nG, List.getElem_cons_zero, List.getElem_cons_succ]
    refine wpAnyH_ready (rs := [4]) (by kernel_rfl) (by simp) ?_
    refine AllReadyH.cons rfl (fun K hK => ?_) AllReadyH.nil
    rw [if_pos (by rfl)]
    go_simp
    go_wp2_with (go_at_call 41; refine (HON.out z4).mono ?_; rintro e z5 ⟨rfl, t⟩)
    have Zm := hpB Zm t
    have Zf := hpB Zf t
    have ee := ee.trans (t.mono ee.size)
    clear t
    refine hK.out _ _ ⟨(rowCell Zf (0) rfl), (rowAt Zm), (rowCell Zm (3) rfl), (rowCell Zm (26) rfl)⟩ (fun hH => ?_)
    clear hK K hH
    try simp only [nP, nN, nA, n0, nS, nG, List.getElem_cons_zero, List.getElem_cons_succ]
    refine wpAnyH_ready (rs := [6]) (by kernel_rfl) (by simp) ?_
    refine AllReadyH.cons rfl (fun K hK => ?_) AllReadyH.nil
    rw [if_pos (by rfl)]
    go_simp
    go_wp2_with (go_at_call 18; refine (HSA.out z5 ee).mono ?_; rintro e z6 ⟨rfl, t⟩)
    have Zm := hpB Zm t
    have Zf := hpB Zf t
    have ee := ee.trans (t.mono ee.size)
    clear t
    refine hK.out _ _ ⟨(rowCell Zf (0) rfl), (rowAt Zm), (rowCell Zm (3) rfl), (rowCell Zm (26) rfl)⟩ (fun hH => ?_)
    clear hK K hH
    try simp only [nP, nN, nA, n0, nS, nG, List.getElem_cons_zero, List.getElem_cons_succ]
    refine wpAnyH_take (i := 7) (v := .bool false) rfl (by kernel_rfl) (by kernel_rfl) (by kernel_rfl) (fun _ _ _ h => h) (Or.inl ⟨by rfl, fun w_ hS_ => by (first | (go_simp; done) | (go_simp; rfl))⟩) ⟨(rowCell Zf (0) rfl), (rowAt Zm), (rowCell Zm (3) rfl), (rowCell Zm (26) rfl)⟩ ?_
    try simp only [nP, nN, nA, n0, nS, nG, List.getElem_cons_zero, List.getElem_cons_succ]
    refine wpAnyH_take (i := 8) (v := .bool false) rfl (by kernel_rfl) (by kernel_rfl) (by kernel_rfl) (fun _ _ _ h => h) (Or.inl ⟨by rfl, fun w_ hS_ => by (first | (go_simp; done) | (go_simp; rfl))⟩) ⟨(rowCell Zf (0) rfl), (rowAt Zm), (rowCell Zm (3) rfl), (rowCell Zm (26) rfl)⟩ ?_
    try simp only [nP, nN, nA, n0, nS, nG, List.getElem_cons_zero, List.getElem_cons_succ]
    refine wpAnyH_take (i := 9) (v := .bool false) rfl (by kernel_rfl) (by kernel_rfl) (by kernel_rfl) (fun _ _ _ h => h) (Or.inl ⟨by rfl, fun w_ hS_ => by (first | (go_simp; done) | (go_simp; rfl))⟩) ⟨(rowCell Zf (0) rfl), (rowAt Zm), (rowCell Zm (3) rfl), (rowCell Zm (26) rfl)⟩ ?_
    try simp only [nP, nN, nA, n0, nS, nG, List.getElem_cons_zero, List.getElem_cons_succ]
    refine wpAnyH_take (i := 10) (v := .pointer (some ⟨w.heap.size, 3, none⟩)) rfl (by kernel_rfl) (by kernel_rfl) (by kernel_rfl) (fun _ _ _ h => h) (Or.inl ⟨by rfl, fun w_ hS_ => by (first | (go_simp; done) | (go_simp; rfl))⟩) ⟨(rowCell Zf (0) rfl), (rowAt Zm), (rowCell Zm (3) rfl), (rowCell Zm (26) rfl)⟩ ?_
    try simp only [nP, nN, nA, n0, nS, nG, List.getElem_cons_zero, List.getElem_cons_succ]
    refine wpAnyH_take (i := 11) (v := .int .i64 m.sl) rfl (by kernel_rfl) (by kernel_rfl) (by kernel_rfl) (fun _ _ _ h => h) (Or.inl ⟨by rfl, fun w_ hS_ => by (have c_ := hS_.2.2.1; first | (go_simp; done) | (go_simp; rfl))⟩) ⟨(rowCell Zf (0) rfl), (rowAt Zm), (rowCell Zm (3) rfl), (rowCell Zm (26) rfl)⟩ ?_
    try simp only [nP, nN, nA, n0, nS, nG, List.getElem_cons_zero, List.getElem_cons_succ]
    refine wpAnyH_take (i := 12) (v := .bool false) rfl (by kernel_rfl) (by kernel_rfl) (by kernel_rfl) (fun _ _ _ h => h) (Or.inl ⟨by rfl, fun w_ hS_ => by (first | (go_simp; done) | (go_simp; rfl))⟩) ⟨(rowCell Zf (0) rfl), (rowAt Zm), (rowCell Zm (3) rfl), (rowCell Zm (26) rfl)⟩ ?_
    try simp only [nP, nN, nA, n0, nS, nG, List.getElem_cons_zero, List.getElem_cons_succ]
    refine wpAnyH_take (i := 13) (v := .bool false) rfl (by kernel_rfl) (by kernel_rfl) (by kernel_rfl) (fun _ _ _ h => h) (Or.inl ⟨by rfl, fun w_ hS_ => by (first | (go_simp; done) | (go_simp; rfl))⟩) ⟨(rowCell Zf (0) rfl), (rowAt Zm), (rowCell Zm (3) rfl), (rowCell Zm (26) rfl)⟩ ?_
    try simp only [nP, nN, nA, n0, nS, nG, List.getElem_cons_zero, List.getElem_cons_succ]
    refine wpAnyH_take (i := 14) (v := .bool false) rfl (by kernel_rfl) (by kernel_rfl) (by kernel_rfl) (fun _ _ _ h => h) (Or.inl ⟨by rfl, fun w_ hS_ => by (first | (go_simp; done) | (go_simp; rfl))⟩) ⟨(rowCell Zf (0) rfl), (rowAt Zm), (rowCell Zm (3) rfl), (rowCell Zm (26) rfl)⟩ ?_
    try simp only [nP, nN, nA, n0, nS, nG, List.getElem_cons_zero, List.getElem_cons_succ]
    refine wpAnyH_take (i := 15) (v := .pointer (some ⟨w.heap.size, 3, none⟩)) rfl (by kernel_rfl) (by kernel_rfl) (by kernel_rfl) (fun _ _ _ h => h) (Or.inl ⟨by rfl, fun w_ hS_ => by (first | (go_simp; done) | (go_simp; rfl))⟩) ⟨(rowCell Zf (0) rfl), (rowAt Zm), (rowCell Zm (3) rfl), (rowCell Zm (26) rfl)⟩ ?_
    try simp only [nP, nN, nA, n0, nS, nG, List.getElem_cons_zero, List.getElem_cons_succ]
    refine wpAnyH_take (i := 16) (v := .int .i64 m.sl) rfl (by kernel_rfl) (by kernel_rfl) (by kernel_rfl) (fun _ _ _ h => h) (Or.inl ⟨by rfl, fun w_ hS_ => by (have c_ := hS_.2.2.1; first | (go_simp; done) | (go_simp; rfl))⟩) ⟨(rowCell Zf (0) rfl), (rowAt Zm), (rowCell Zm (3) rfl), (rowCell Zm (26) rfl)⟩ ?_
    try simp only [nP, nN, nA, n0, nS, nG, List.getElem_cons_zero, List.getElem_cons_succ]
    refine wpAnyH_take (i := 17) (v := .bool false) rfl (by kernel_rfl) (by kernel_rfl) (by kernel_rfl) (fun _ _ _ h => h) (Or.inl ⟨by rfl, fun w_ hS_ => by (first | (go_simp; done) | (go_simp; rfl))⟩) ⟨(rowCell Zf (0) rfl), (rowAt Zm), (rowCell Zm (3) rfl), (rowCell Zm (26) rfl)⟩ ?_
    try simp only [nP, nN, nA, n0, nS, nG, List.getElem_cons_zero, List.getElem_cons_succ]
    refine wpAnyH_take (i := 18) (v := .bool false) rfl (by kernel_rfl) (by kernel_rfl) (by kernel_rfl) (fun _ _ _ h => h) (Or.inl ⟨by rfl, fun w_ hS_ => by (first | (go_simp; done) | (go_simp; rfl))⟩) ⟨(rowCell Zf (0) rfl), (rowAt Zm), (rowCell Zm (3) rfl), (rowCell Zm (26) rfl)⟩ ?_
    try simp only [nP, nN, nA, n0, nS, nG, List.getElem_cons_zero, List.getElem_cons_succ]
    refine wpAnyH_take (i := 19) (v := .bool false) rfl (by kernel_rfl) (by kernel_rfl) (by kernel_rfl) (fun _ _ _ h => h) (Or.inl ⟨by rfl, fun w_ hS_ => by (first | (go_simp; done) | (go_simp; rfl))⟩) ⟨(rowCell Zf (0) rfl), (rowAt Zm), (rowCell Zm (3) rfl), (rowCell Zm (26) rfl)⟩ ?_
    try simp only [nP, nN, nA, n0, nS, nG, List.getElem_cons_zero, List.getElem_cons_succ]
    refine wpAnyH_take (i := 20) (v := .pointer (some ⟨w.heap.size, 26, none⟩)) rfl (by kernel_rfl) (by kernel_rfl) (by kernel_rfl) (fun _ _ _ h => h) (Or.inl ⟨by rfl, fun w_ hS_ => by (first | (go_simp; done) | (go_simp; rfl))⟩) ⟨(rowCell Zf (0) rfl), (rowAt Zm), (rowCell Zm (3) rfl), (rowCell Zm (26) rfl)⟩ ?_
    try simp only [nP, nN, nA, n0, nS, nG, List.getElem_cons_zero, List.getElem_cons_succ]
    refine wpAnyH_take (i := 21) (v := .int .i64 m.nu) rfl (by kernel_rfl) (by kernel_rfl) (by kernel_rfl) (fun _ _ _ h => h) (Or.inl ⟨by rfl, fun w_ hS_ => by (have c_ := hS_.2.2.2; first | (go_simp; done) | (go_simp; rfl))⟩) ⟨(rowCell Zf (0) rfl), (rowAt Zm), (rowCell Zm (3) rfl), (rowCell Zm (26) rfl)⟩ ?_
    try simp only [nP, nN, nA, n0, nS, nG, List.getElem_cons_zero, List.getElem_cons_succ]
    refine wpAnyH_take (i := 22) (v := .bool false) rfl (by kernel_rfl) (by kernel_rfl) (by kernel_rfl) (fun _ _ _ h => h) (Or.inl ⟨by rfl, fun w_ hS_ => by (first | (go_simp; done) | (go_simp; rfl))⟩) ⟨(rowCell Zf (0) rfl), (rowAt Zm), (rowCell Zm (3) rfl), (rowCell Zm (26) rfl)⟩ ?_
    try simp only [nP, nN, nA, n0, nS, nG, List.getElem_cons_zero, List.getElem_cons_succ]
    refine wpAnyH_take (i := 23) (v := .bool false) rfl (by kernel_rfl) (by kernel_rfl) (by kernel_rfl) (fun _ _ _ h => h) (Or.inl ⟨by rfl, fun w_ hS_ => by (first | (go_simp; done) | (go_simp; rfl))⟩) ⟨(rowCell Zf (0) rfl), (rowAt Zm), (rowCell Zm (3) rfl), (rowCell Zm (26) rfl)⟩ ?_
    try simp only [nP, nN, nA, n0, nS, nG, List.getElem_cons_zero, List.getElem_cons_succ]
    refine wpAnyH_take (i := 24) (v := .bool false) rfl (by kernel_rfl) (by kernel_rfl) (by kernel_rfl) (fun _ _ _ h => h) (Or.inl ⟨by rfl, fun w_ hS_ => by (first | (go_simp; done) | (go_simp; rfl))⟩) ⟨(rowCell Zf (0) rfl), (rowAt Zm), (rowCell Zm (3) rfl), (rowCell Zm (26) rfl)⟩ ?_
    try simp only [nP, nN, nA, n0, nS, nG, List.getElem_cons_zero, List.getElem_cons_succ]
    refine wpAnyH_take (i := 25) (v := .pointer (some ⟨w.heap.size, 26, none⟩)) rfl (by kernel_rfl) (by kernel_rfl) (by kernel_rfl) (fun _ _ _ h => h) (Or.inl ⟨by rfl, fun w_ hS_ => by (first | (go_simp; done) | (go_simp; rfl))⟩) ⟨(rowCell Zf (0) rfl), (rowAt Zm), (rowCell Zm (3) rfl), (rowCell Zm (26) rfl)⟩ ?_
    try simp only [nP, nN, nA, n0, nS, nG, List.getElem_cons_zero, List.getElem_cons_succ]
    refine wpAnyH_take (i := 26) (v := .int .i64 m.nu) rfl (by kernel_rfl) (by kernel_rfl) (by kernel_rfl) (fun _ _ _ h => h) (Or.inl ⟨by rfl, fun w_ hS_ => by (have c_ := hS_.2.2.2; first | (go_simp; done) | (go_simp; rfl))⟩) ⟨(rowCell Zf (0) rfl), (rowAt Zm), (rowCell Zm (3) rfl), (rowCell Zm (26) rfl)⟩ ?_
    try simp only [nP, nN, nA, n0, nS, nG, List.getElem_cons_zero, List.getElem_cons_succ]
    refine wpAnyH_take (i := 27) (v := .bool true) rfl (by kernel_rfl) (by kernel_rfl) (by kernel_rfl) (fun _ _ _ h => h) (Or.inl ⟨by rfl, fun w_ hS_ => by (first | (go_simp; done) | (go_simp; rfl))⟩) ⟨(rowCell Zf (0) rfl), (rowAt Zm), (rowCell Zm (3) rfl), (rowCell Zm (26) rfl)⟩ ?_
    try simp only [nP, nN, nA, n0, nS, nG, List.getElem_cons_zero, List.getElem_cons_succ]
    refine wpAnyH_take (i := 28) (v := .bool true) rfl (by kernel_rfl) (by kernel_rfl) (by kernel_rfl) (fun _ _ _ h => h) (Or.inl ⟨by rfl, fun w_ hS_ => by (first | (go_simp; done) | (go_simp; rfl))⟩) ⟨(rowCell Zf (0) rfl), (rowAt Zm), (rowCell Zm (3) rfl), (rowCell Zm (26) rfl)⟩ ?_
    try simp only [nP, nN, nA, n0, nS, nG, List.getElem_cons_zero, List.getElem_cons_succ]
    refine wpAnyH_take (i := 29) (v := .bool true) rfl (by kernel_rfl) (by kernel_rfl) (by kernel_rfl) (fun _ _ _ h => h) (Or.inl ⟨by rfl, fun w_ hS_ => by (first | (go_simp; done) | (go_simp; rfl))⟩) ⟨(rowCell Zf (0) rfl), (rowAt Zm), (rowCell Zm (3) rfl), (rowCell Zm (26) rfl)⟩ ?_
    try simp only [nP, nN, nA, n0, nS, nG, List.getElem_cons_zero, List.getElem_cons_succ]
    refine wpAnyH_take (i := 30) (v := undef) rfl (by kernel_rfl) (by kernel_rfl) (by kernel_rfl) (fun _ _ _ h => h) (Or.inr ⟨by rfl, rfl⟩) ⟨(rowCell Zf (0) rfl), (rowAt Zm), (rowCell Zm (3) rfl), (rowCell Zm (26) rfl)⟩ ?_
    try simp only [nP, nN, nA, n0, nS, nG, List.getElem_cons_zero, List.getElem_cons_succ]
    refine wpAnyH_take (i := 31) (v := undef) rfl (by kernel_rfl) (by kernel_rfl) (by kernel_rfl) (fun _ _ _ h => h) (Or.inr ⟨by rfl, rfl⟩) ⟨(rowCell Zf (0) rfl), (rowAt Zm), (rowCell Zm (3) rfl), (rowCell Zm (26) rfl)⟩ ?_
    try simp only [nP, nN, nA, n0, nS, nG, List.getElem_cons_zero, List.getElem_cons_succ]
    refine wpAnyH_take (i := 32) (v := undef) rfl (by kernel_rfl) (by kernel_rfl) (by kernel_rfl) (fun _ _ _ h => h) (Or.inr ⟨by rfl, rfl⟩) ⟨(rowCell Zf (0) rfl), (rowAt Zm), (rowCell Zm (3) rfl), (rowCell Zm (26) rfl)⟩ ?_
    try simp only [nP, nN, nA, n0, nS, nG, List.getElem_cons_zero, List.getElem_cons_succ]
    refine wpAnyH_take (i := 33) (v := .bool true) rfl (by kernel_rfl) (by kernel_rfl) (by kernel_rfl) (fun _ _ _ h => h) (Or.inl ⟨by rfl, fun w_ hS_ => by (first | (go_simp; done) | (go_simp; rfl))⟩) ⟨(rowCell Zf (0) rfl), (rowAt Zm), (rowCell Zm (3) rfl), (rowCell Zm (26) rfl)⟩ ?_
    try simp only [nP, nN, nA, n0, nS, nG, List.getElem_cons_zero, List.getElem_cons_succ]
    refine wpAnyH_take (i := 34) (v := .bool true) rfl (by kernel_rfl) (by kernel_rfl) (by kernel_rfl) (fun _ _ _ h => h) (Or.inl ⟨by rfl, fun w_ hS_ => by (first | (go_simp; done) | (go_simp; rfl))⟩) ⟨(rowCell Zf (0) rfl), (rowAt Zm), (rowCell Zm (3) rfl), (rowCell Zm (26) rfl)⟩ ?_
    try simp only [nP, nN, nA, n0, nS, nG, List.getElem_cons_zero, List.getElem_cons_succ]
    refine wpAnyH_take (i := 35) (v := undef) rfl (by kernel_rfl) (by kernel_rfl) (by kernel_rfl) (fun _ _ _ h => h) (Or.inr ⟨by rfl, rfl⟩) ⟨(rowCell Zf (0) rfl), (rowAt Zm), (rowCell Zm (3) rfl), (rowCell Zm (26) rfl)⟩ ?_
    try simp only [nP, nN, nA, n0, nS, nG, List.getElem_cons_zero, List.getElem_cons_succ]
    refine wpAnyH_take (i := 36) (v := undef) rfl (by kernel_rfl) (by kernel_rfl) (by kernel_rfl) (fun _ _ _ h => h) (Or.inr ⟨by rfl, rfl⟩) ⟨(rowCell Zf (0) rfl), (rowAt Zm), (rowCell Zm (3) rfl), (rowCell Zm (26) rfl)⟩ ?_
    try simp only [nP, nN, nA, n0, nS, nG, List.getElem_cons_zero, List.getElem_cons_succ]
    refine wpAnyH_take (i := 37) (v := undef) rfl (by kernel_rfl) (by kernel_rfl) (by kernel_rfl) (fun _ _ _ h => h) (Or.inr ⟨by rfl, rfl⟩) ⟨(rowCell Zf (0) rfl), (rowAt Zm), (rowCell Zm (3) rfl), (rowCell Zm (26) rfl)⟩ ?_
    try simp only [nP, nN, nA, n0, nS, nG, List.getElem_cons_zero, List.getElem_cons_succ]
    refine wpAnyH_take (i := 38) (v := .bool true) rfl (by kernel_rfl) (by kernel_rfl) (by kernel_rfl) (fun _ _ _ h => h) (Or.inl ⟨by rfl, fun w_ hS_ => by (first | (go_simp; done) | (go_simp; rfl))⟩) ⟨(rowCell Zf (0) rfl), (rowAt Zm), (rowCell Zm (3) rfl), (rowCell Zm (26) rfl)⟩ ?_
    try simp only [nP, nN, nA, n0, nS, nG, List.getElem_cons_zero, List.getElem_cons_succ]
    refine wpAnyH_take (i := 39) (v := .bool true) rfl (by kernel_rfl) (by kernel_rfl) (by kernel_rfl) (fun _ _ _ h => h) (Or.inl ⟨by rfl, fun w_ hS_ => by (first | (go_simp; done) | (go_simp; rfl))⟩) ⟨(rowCell Zf (0) rfl), (rowAt Zm), (rowCell Zm (3) rfl), (rowCell Zm (26) rfl)⟩ ?_
    try simp only [nP, nN, nA, n0, nS, nG, List.getElem_cons_zero, List.getElem_cons_succ]
    refine wpAnyH_take (i := 40) (v := undef) rfl (by kernel_rfl) (by kernel_rfl) (by kernel_rfl) (fun _ _ _ h => h) (Or.inr ⟨by rfl, rfl⟩) ⟨(rowCell Zf (0) rfl), (rowAt Zm), (rowCell Zm (3) rfl), (rowCell Zm (26) rfl)⟩ ?_
    try simp only [nP, nN, nA, n0, nS, nG, List.getElem_cons_zero, List.getElem_cons_succ]
    refine wpAnyH_take (i := 41) (v := undef) rfl (by kernel_rfl) (by kernel_rfl) (by kernel_rfl) (fun _ _ _ h => h) (Or.inr ⟨by rfl, rfl⟩) ⟨(rowCell Zf (0) rfl), (rowAt Zm), (rowCell Zm (3) rfl), (rowCell Zm (26) rfl)⟩ ?_
    try simp only [nP, nN, nA, n0, nS, nG, List.getElem_cons_zero, List.getElem_cons_succ]
    refine wpAnyH_take (i := 42) (v := undef) rfl (by kernel_rfl) (by kernel_rfl) (by kernel_rfl) (fun _ _ _ h => h) (Or.inr ⟨by rfl, rfl⟩) ⟨(rowCell Zf (0) rfl), (rowAt Zm), (rowCell Zm (3) rfl), (rowCell Zm (26) rfl)⟩ ?_
    try simp only [nP, nN, nA, n0, nS, nG, List.getElem_cons_zero, List.getElem_cons_succ]
    refine wpAnyH_take (i := 43) (v := .bool true) rfl (by kernel_rfl) (by kernel_rfl) (by kernel_rfl) (fun _ _ _ h => h) (Or.inl ⟨by rfl, fun w_ hS_ => by (first | (go_simp; done) | (go_simp; rfl))⟩) ⟨(rowCell Zf (0) rfl), (rowAt Zm), (rowCell Zm (3) rfl), (rowCell Zm (26) rfl)⟩ ?_
    try simp only [nP, nN, nA, n0, nS, nG, List.getElem_cons_zero, List.getElem_cons_succ]
    refine wpAnyH_take (i := 44) (v := .bool true) rfl (by kernel_rfl) (by kernel_rfl) (by kernel_rfl) (fun _ _ _ h => h) (Or.inl ⟨by rfl, fun w_ hS_ => by (first | (go_simp; done) | (go_simp; rfl))⟩) ⟨(rowCell Zf (0) rfl), (rowAt Zm), (rowCell Zm (3) rfl), (rowCell Zm (26) rfl)⟩ ?_
    try simp only [nP, nN, nA, n0, nS, nG, List.getElem_cons_zero, List.getElem_cons_succ]
    refine wpAnyH_take (i := 45) (v := undef) rfl (by kernel_rfl) (by kernel_rfl) (by kernel_rfl) (fun _ _ _ h => h) (Or.inr ⟨by rfl, rfl⟩) ⟨(rowCell Zf (0) rfl), (rowAt Zm), (rowCell Zm (3) rfl), (rowCell Zm (26) rfl)⟩ ?_
    try simp only [nP, nN, nA, n0, nS, nG, List.getElem_cons_zero, List.getElem_cons_succ]
    refine wpAnyH_take (i := 46) (v := undef) rfl (by kernel_rfl) (by kernel_rfl) (by kernel_rfl) (fun _ _ _ h => h) (Or.inr ⟨by rfl, rfl⟩) ⟨(rowCell Zf (0) rfl), (rowAt Zm), (rowCell Zm (3) rfl), (rowCell Zm (26) rfl)⟩ ?_
    try simp only [nP, nN, nA, n0, nS, nG, List.getElem_cons_zero, List.getElem_cons_succ]
    refine wpAnyH_take (i := 47) (v := undef) rfl (by kernel_rfl) (by kernel_rfl) (by kernel_rfl) (fun _ _ _ h => h) (Or.inr ⟨by rfl, rfl⟩) ⟨(rowCell Zf (0) rfl), (rowAt Zm), (rowCell Zm (3) rfl), (rowCell Zm (26) rfl)⟩ ?_
    try simp only [nP, nN, nA, n0, nS, nG, List.getElem_cons_zero, List.getElem_cons_succ]
    refine wpAnyH_take (i := 48) (v := .bool true) rfl (by kernel_rfl) (by kernel_rfl) (by kernel_rfl) (fun _ _ _ h => h) (Or.inl ⟨by rfl, fun w_ hS_ => by (first | (go_simp; done) | (go_simp; rfl))⟩) ⟨(rowCell Zf (0) rfl), (rowAt Zm), (rowCell Zm (3) rfl), (rowCell Zm (26) rfl)⟩ ?_
    try simp only [nP, nN, nA, n0, nS, nG, List.getElem_cons_zero, List.getElem_cons_succ]
    refine wpAnyH_take (i := 49) (v := .bool true) rfl (by kernel_rfl) (by kernel_rfl) (by kernel_rfl) (fun _ _ _ h => h) (Or.inl ⟨by rfl, fun w_ hS_ => by (first | (go_simp; done) | (go_simp; rfl))⟩) ⟨(rowCell Zf (0) rfl), (rowAt Zm), (rowCell Zm (3) rfl), (rowCell Zm (26) rfl)⟩ ?_
    try simp only [nP, nN, nA, n0, nS, nG, List.getElem_cons_zero, List.getElem_cons_succ]
    refine wpAnyH_take (i := 50) (v := undef) rfl (by kernel_rfl) (by kernel_rfl) (by kernel_rfl) (fun _ _ _ h => h) (Or.inr ⟨by rfl, rfl⟩) ⟨(rowCell Zf (0) rfl), (rowAt Zm), (rowCell Zm (3) rfl), (rowCell Zm (26) rfl)⟩ ?_
    try simp only [nP, nN, nA, n0, nS, nG, List.getElem_cons_zero, List.getElem_cons_succ]
    refine wpAnyH_take (i := 51) (v := undef) rfl (by kernel_rfl) (by kernel_rfl) (by kernel_rfl) (fun _ _ _ h => h) (Or.inr ⟨by rfl, rfl⟩) ⟨(rowCell Zf (0) rfl), (rowAt Zm), (rowCell Zm (3) rfl), (rowCell Zm (26) rfl)⟩ ?_
    try simp only [nP, nN, nA, n0, nS, nG, List.getElem_cons_zero, List.getElem_cons_succ]
    refine wpAnyH_take (i := 52) (v := undef) rfl (by kernel_rfl) (by kernel_rfl) (by kernel_rfl) (fun _ _ _ h => h) (Or.inr ⟨by rfl, rfl⟩) ⟨(rowCell Zf (0) rfl), (rowAt Zm), (rowCell Zm (3) rfl), (rowCell Zm (26) rfl)⟩ ?_
    try simp only [nP, nN, nA, n0, nS, nG, List.getElem_cons_zero, List.getElem_cons_succ]
    refine wpAnyH_take (i := 53) (v := undef) rfl (by kernel_rfl) (by kernel_rfl) (by kernel_rfl) (fun _ _ _ h => h) (Or.inr ⟨by rfl, rfl⟩) ⟨(rowCell Zf (0) rfl), (rowAt Zm), (rowCell Zm (3) rfl), (rowCell Zm (26) rfl)⟩ ?_
    try simp only [nP, nN, nA, n0, nS, nG, List.getElem_cons_zero, List.getElem_cons_succ]
    refine wpAnyH_take (i := 54) (v := .bool true) rfl (by kernel_rfl) (by kernel_rfl) (by kernel_rfl) (fun _ _ _ h => h) (Or.inl ⟨by rfl, fun w_ hS_ => by (first | (go_simp; done) | (go_simp; rfl))⟩) ⟨(rowCell Zf (0) rfl), (rowAt Zm), (rowCell Zm (3) rfl), (rowCell Zm (26) rfl)⟩ ?_
    try simp only [nP, nN, nA, n0, nS, nG, List.getElem_cons_zero, List.getElem_cons_succ]
    refine wpAnyH_done (by kernel_rfl) ?_ _
    obtain rfl : R = false := by rw [HFM.out]; simp
    clear HON HSA h0 h2 h3 h4 h5 h6 h7 h8 h9 h10
    go_wp2_with fail
    go_ret
    exact ⟨rfl, ee⟩
   | false =>
    cases d6 with
    | true =>
    have Zm : z3.drew.heap[w.heap.size]? = some (.cells m.cells.toArray 39) := Zm
    have Zf : z3.drew.heap[gf]? = some (.cells ([.string ⟨fs.toArray⟩]).toArray 9) := Zf
    have ee := belowDrewS ee
    refine wp_region_held_drew (S := fun z' => z'.cell? ⟨gf, 0, none⟩ = some (.string ⟨fs.toArray⟩) ∧ z'.rangeAt w.heap.size (0) m.cells ∧ z'.cell? ⟨w.heap.size, 3, none⟩ = some (.int .i64 m.sl) ∧ z'.cell? ⟨w.heap.size, 26, none⟩ = some (.int .i64 m.nu) ∧ z'.cell? ⟨w.heap.size, 23, none⟩ = some (.int .i64 m.g)) (by kernel_rfl) ⟨(rowCell Zf (0) rfl), (rowAt Zm), (rowCell Zm (3) rfl), (rowCell Zm (26) rfl), (rowCell Zm (23) rfl)⟩ (fun hH => ?_)
    clear hH
    generalize z3.drew = z4 at Zm Zf ee ⊢
    refine wpAnyH_take (i := 0) (v := .string ⟨fs.toArray⟩) rfl (by kernel_rfl) (by kernel_rfl) (by kernel_rfl) (fun _ _ _ h => h) (Or.inl ⟨by rfl, fun w_ hS_ => by (have c_ := hS_.1; first | (go_simp; done) | (go_simp; rfl))⟩) ⟨(rowCell Zf (0) rfl), (rowAt Zm), (rowCell Zm (3) rfl), (rowCell Zm (26) rfl), (rowCell Zm (23) rfl)⟩ ?_
    try simp only [nP, nN, nA, n0, nS, nG, List.getElem_cons_zero, List.getElem_cons_succ]
    refine wpAnyH_take (i := 1) (v := .bool false) rfl (by kernel_rfl) (by kernel_rfl) (by kernel_rfl) (fun _ _ _ h => h) (Or.inl ⟨by rfl, fun w_ hS_ => by (first | (go_simp; done) | (go_simp; rfl))⟩) ⟨(rowCell Zf (0) rfl), (rowAt Zm), (rowCell Zm (3) rfl), (rowCell Zm (26) rfl), (rowCell Zm (23) rfl)⟩ ?_
    try simp only [nP, nN, nA, n0, nS, nG, List.getElem_cons_zero, List.getElem_cons_succ]
    refine wpAnyH_take (i := 2) (v := .bool false) rfl (by kernel_rfl) (by kernel_rfl) (by kernel_rfl) (fun _ _ _ h => h) (Or.inl ⟨by rfl, fun w_ hS_ => by (first | (go_simp; done) | (go_simp; rfl))⟩) ⟨(rowCell Zf (0) rfl), (rowAt Zm), (rowCell Zm (3) rfl), (rowCell Zm (26) rfl), (rowCell Zm (23) rfl)⟩ ?_
    try simp only [nP, nN, nA, n0, nS, nG, List.getElem_cons_zero, List.getElem_cons_succ]
    refine wpAnyH_take (i := 3) (v := .agg (m.cells).toArray) rfl (by kernel_rfl) (by kernel_rfl) (by kernel_rfl) (fun _ _ _ h => h) (yieldsIf_load_mid (by rfl) 39 _ rfl (w.heap.size) (0) rfl (m.cells) _ (fun _ h => h.2.1) Tryd.underlying39 rfl sizeMs) ⟨(rowCell Zf (0) rfl), (rowAt Zm), (rowCell Zm (3) rfl), (rowCell Zm (26) rfl), (rowCell Zm (23) rfl)⟩ ?_
    try simp only [nP, nN, nA, n0, nS, nG, List.getElem_cons_zero, List.getElem_cons_succ]
    refine wpAnyH_take (i := 5) (v := .agg (m.cells).toArray) rfl (by kernel_rfl) (by kernel_rfl) (by kernel_rfl) (fun _ _ _ h => h) (yieldsIf_load_mid (by rfl) 39 _ rfl (w.heap.size) (0) rfl (m.cells) _ (fun _ h => h.2.1) Tryd.underlying39 rfl sizeMs) ⟨(rowCell Zf (0) rfl), (rowAt Zm), (rowCell Zm (3) rfl), (rowCell Zm (26) rfl), (rowCell Zm (23) rfl)⟩ ?_
    try simp only [nP, nN, nA, n0, nS, nG, List.getElem_cons_zero, List.getElem_cons_succ]
    refine wpAnyH_ready (rs := [4]) (by kernel_rfl) (by simp) ?_
    refine AllReadyH.cons rfl (fun K hK => ?_) AllReadyH.nil
    rw [if_pos (by rfl)]
    go_simp
    go_wp2_with (go_at_call 41; refine (HON.out z4).mono ?_; rintro e z5 ⟨rfl, t⟩)
    have Zm := hpB Zm t
    have Zf := hpB Zf t
    have ee := ee.trans (t.mono ee.size)
    clear t
    refine hK.out _ _ ⟨(rowCell Zf (0) rfl), (rowAt Zm), (rowCell Zm (3) rfl), (rowCell Zm (26) rfl), (rowCell Zm (23) rfl)⟩ (fun hH => ?_)
    clear hK K hH
    try simp only [nP, nN, nA, n0, nS, nG, List.getElem_cons_zero, List.getElem_cons_succ]
    refine wpAnyH_ready (rs := [6]) (by kernel_rfl) (by simp) ?_
    refine AllReadyH.cons rfl (fun K hK => ?_) AllReadyH.nil
    rw [if_pos (by rfl)]
    go_simp
    go_wp2_with (go_at_call 18; refine (HSA.out z5 ee).mono ?_; rintro e z6 ⟨rfl, t⟩)
    have Zm := hpB Zm t
    have Zf := hpB Zf t
    have ee := ee.trans (t.mono ee.size)
    clear t
    refine hK.out _ _ ⟨(rowCell Zf (0) rfl), (rowAt Zm), (rowCell Zm (3) rfl), (rowCell Zm (26) rfl), (rowCell Zm (23) rfl)⟩ (fun hH => ?_)
    clear hK K hH
    try simp only [nP, nN, nA, n0, nS, nG, List.getElem_cons_zero, List.getElem_cons_succ]
    refine wpAnyH_take (i := 7) (v := .bool false) rfl (by kernel_rfl) (by kernel_rfl) (by kernel_rfl) (fun _ _ _ h => h) (Or.inl ⟨by rfl, fun w_ hS_ => by (first | (go_simp; done) | (go_simp; rfl))⟩) ⟨(rowCell Zf (0) rfl), (rowAt Zm), (rowCell Zm (3) rfl), (rowCell Zm (26) rfl), (rowCell Zm (23) rfl)⟩ ?_
    try simp only [nP, nN, nA, n0, nS, nG, List.getElem_cons_zero, List.getElem_cons_succ]
    refine wpAnyH_take (i := 8) (v := .bool false) rfl (by kernel_rfl) (by kernel_rfl) (by kernel_rfl) (fun _ _ _ h => h) (Or.inl ⟨by rfl, fun w_ hS_ => by (first | (go_simp; done) | (go_simp; rfl))⟩) ⟨(rowCell Zf (0) rfl), (rowAt Zm), (rowCell Zm (3) rfl), (rowCell Zm (26) rfl), (rowCell Zm (23) rfl)⟩ ?_
    try simp only [nP, nN, nA, n0, nS, nG, List.getElem_cons_zero, List.getElem_cons_succ]
    refine wpAnyH_take (i := 9) (v := .bool false) rfl (by kernel_rfl) (by kernel_rfl) (by kernel_rfl) (fun _ _ _ h => h) (Or.inl ⟨by rfl, fun w_ hS_ => by (first | (go_simp; done) | (go_simp; rfl))⟩) ⟨(rowCell Zf (0) rfl), (rowAt Zm), (rowCell Zm (3) rfl), (rowCell Zm (26) rfl), (rowCell Zm (23) rfl)⟩ ?_
    try simp only [nP, nN, nA, n0, nS, nG, List.getElem_cons_zero, List.getElem_cons_succ]
    refine wpAnyH_take (i := 10) (v := .pointer (some ⟨w.heap.size, 3, none⟩)) rfl (by kernel_rfl) (by kernel_rfl) (by kernel_rfl) (fun _ _ _ h => h) (Or.inl ⟨by rfl, fun w_ hS_ => by (first | (go_simp; done) | (go_simp; rfl))⟩) ⟨(rowCell Zf (0) rfl), (rowAt Zm), (rowCell Zm (3) rfl), (rowCell Zm (26) rfl), (rowCell Zm (23) rfl)⟩ ?_
    try simp only [nP, nN, nA, n0, nS, nG, List.getElem_cons_zero, List.getElem_cons_succ]
    refine wpAnyH_take (i := 11) (v := .int .i64 m.sl) rfl (by kernel_rfl) (by kernel_rfl) (by kernel_rfl) (fun _ _ _ h => h) (Or.inl ⟨by rfl, fun w_ hS_ => by (have c_ := hS_.2.2.1; first | (go_simp; done) | (go_simp; rfl))⟩) ⟨(rowCell Zf (0) rfl), (rowAt Zm), (rowCell Zm (3) rfl), (rowCell Zm (26) rfl), (rowCell Zm (23) rfl)⟩ ?_
    try simp only [nP, nN, nA, n0, nS, nG, List.getElem_cons_zero, List.getElem_cons_succ]
    refine wpAnyH_take (i := 12) (v := .bool false) rfl (by kernel_rfl) (by kernel_rfl) (by kernel_rfl) (fun _ _ _ h => h) (Or.inl ⟨by rfl, fun w_ hS_ => by (first | (go_simp; done) | (go_simp; rfl))⟩) ⟨(rowCell Zf (0) rfl), (rowAt Zm), (rowCell Zm (3) rfl), (rowCell Zm (26) rfl), (rowCell Zm (23) rfl)⟩ ?_
    try simp only [nP, nN, nA, n0, nS, nG, List.getElem_cons_zero, List.getElem_cons_succ]
    refine wpAnyH_take (i := 13) (v := .bool false) rfl (by kernel_rfl) (by kernel_rfl) (by kernel_rfl) (fun _ _ _ h => h) (Or.inl ⟨by rfl, fun w_ hS_ => by (first | (go_simp; done) | (go_simp; rfl))⟩) ⟨(rowCell Zf (0) rfl), (rowAt Zm), (rowCell Zm (3) rfl), (rowCell Zm (26) rfl), (rowCell Zm (23) rfl)⟩ ?_
    try simp only [nP, nN, nA, n0, nS, nG, List.getElem_cons_zero, List.getElem_cons_succ]
    refine wpAnyH_take (i := 14) (v := .bool false) rfl (by kernel_rfl) (by kernel_rfl) (by kernel_rfl) (fun _ _ _ h => h) (Or.inl ⟨by rfl, fun w_ hS_ => by (first | (go_simp; done) | (go_simp; rfl))⟩) ⟨(rowCell Zf (0) rfl), (rowAt Zm), (rowCell Zm (3) rfl), (rowCell Zm (26) rfl), (rowCell Zm (23) rfl)⟩ ?_
    try simp only [nP, nN, nA, n0, nS, nG, List.getElem_cons_zero, List.getElem_cons_succ]
    refine wpAnyH_take (i := 15) (v := .pointer (some ⟨w.heap.size, 3, none⟩)) rfl (by kernel_rfl) (by kernel_rfl) (by kernel_rfl) (fun _ _ _ h => h) (Or.inl ⟨by rfl, fun w_ hS_ => by (first | (go_simp; done) | (go_simp; rfl))⟩) ⟨(rowCell Zf (0) rfl), (rowAt Zm), (rowCell Zm (3) rfl), (rowCell Zm (26) rfl), (rowCell Zm (23) rfl)⟩ ?_
    try simp only [nP, nN, nA, n0, nS, nG, List.getElem_cons_zero, List.getElem_cons_succ]
    refine wpAnyH_take (i := 16) (v := .int .i64 m.sl) rfl (by kernel_rfl) (by kernel_rfl) (by kernel_rfl) (fun _ _ _ h => h) (Or.inl ⟨by rfl, fun w_ hS_ => by (have c_ := hS_.2.2.1; first | (go_simp; done) | (go_simp; rfl))⟩) ⟨(rowCell Zf (0) rfl), (rowAt Zm), (rowCell Zm (3) rfl), (rowCell Zm (26) rfl), (rowCell Zm (23) rfl)⟩ ?_
    try simp only [nP, nN, nA, n0, nS, nG, List.getElem_cons_zero, List.getElem_cons_succ]
    refine wpAnyH_take (i := 17) (v := .bool false) rfl (by kernel_rfl) (by kernel_rfl) (by kernel_rfl) (fun _ _ _ h => h) (Or.inl ⟨by rfl, fun w_ hS_ => by (first | (go_simp; done) | (go_simp; rfl))⟩) ⟨(rowCell Zf (0) rfl), (rowAt Zm), (rowCell Zm (3) rfl), (rowCell Zm (26) rfl), (rowCell Zm (23) rfl)⟩ ?_
    try simp only [nP, nN, nA, n0, nS, nG, List.getElem_cons_zero, List.getElem_cons_succ]
    refine wpAnyH_take (i := 18) (v := .bool false) rfl (by kernel_rfl) (by kernel_rfl) (by kernel_rfl) (fun _ _ _ h => h) (Or.inl ⟨by rfl, fun w_ hS_ => by (first | (go_simp; done) | (go_simp; rfl))⟩) ⟨(rowCell Zf (0) rfl), (rowAt Zm), (rowCell Zm (3) rfl), (rowCell Zm (26) rfl), (rowCell Zm (23) rfl)⟩ ?_
    try simp only [nP, nN, nA, n0, nS, nG, List.getElem_cons_zero, List.getElem_cons_succ]
    refine wpAnyH_take (i := 19) (v := .bool false) rfl (by kernel_rfl) (by kernel_rfl) (by kernel_rfl) (fun _ _ _ h => h) (Or.inl ⟨by rfl, fun w_ hS_ => by (first | (go_simp; done) | (go_simp; rfl))⟩) ⟨(rowCell Zf (0) rfl), (rowAt Zm), (rowCell Zm (3) rfl), (rowCell Zm (26) rfl), (rowCell Zm (23) rfl)⟩ ?_
    try simp only [nP, nN, nA, n0, nS, nG, List.getElem_cons_zero, List.getElem_cons_succ]
    refine wpAnyH_take (i := 20) (v := .pointer (some ⟨w.heap.size, 26, none⟩)) rfl (by kernel_rfl) (by kernel_rfl) (by kernel_rfl) (fun _ _ _ h => h) (Or.inl ⟨by rfl, fun w_ hS_ => by (first | (go_simp; done) | (go_simp; rfl))⟩) ⟨(rowCell Zf (0) rfl), (rowAt Zm), (rowCell Zm (3) rfl), (rowCell Zm (26) rfl), (rowCell Zm (23) rfl)⟩ ?_
    try simp only [nP, nN, nA, n0, nS, nG, List.getElem_cons_zero, List.getElem_cons_succ]
    refine wpAnyH_take (i := 21) (v := .int .i64 m.nu) rfl (by kernel_rfl) (by kernel_rfl) (by kernel_rfl) (fun _ _ _ h => h) (Or.inl ⟨by rfl, fun w_ hS_ => by (have c_ := hS_.2.2.2.1; first | (go_simp; done) | (go_simp; rfl))⟩) ⟨(rowCell Zf (0) rfl), (rowAt Zm), (rowCell Zm (3) rfl), (rowCell Zm (26) rfl), (rowCell Zm (23) rfl)⟩ ?_
    try simp only [nP, nN, nA, n0, nS, nG, List.getElem_cons_zero, List.getElem_cons_succ]
    refine wpAnyH_take (i := 22) (v := .bool false) rfl (by kernel_rfl) (by kernel_rfl) (by kernel_rfl) (fun _ _ _ h => h) (Or.inl ⟨by rfl, fun w_ hS_ => by (first | (go_simp; done) | (go_simp; rfl))⟩) ⟨(rowCell Zf (0) rfl), (rowAt Zm), (rowCell Zm (3) rfl), (rowCell Zm (26) rfl), (rowCell Zm (23) rfl)⟩ ?_
    try simp only [nP, nN, nA, n0, nS, nG, List.getElem_cons_zero, List.getElem_cons_succ]
    refine wpAnyH_take (i := 23) (v := .bool false) rfl (by kernel_rfl) (by kernel_rfl) (by kernel_rfl) (fun _ _ _ h => h) (Or.inl ⟨by rfl, fun w_ hS_ => by (first | (go_simp; done) | (go_simp; rfl))⟩) ⟨(rowCell Zf (0) rfl), (rowAt Zm), (rowCell Zm (3) rfl), (rowCell Zm (26) rfl), (rowCell Zm (23) rfl)⟩ ?_
    try simp only [nP, nN, nA, n0, nS, nG, List.getElem_cons_zero, List.getElem_cons_succ]
    refine wpAnyH_take (i := 24) (v := .bool false) rfl (by kernel_rfl) (by kernel_rfl) (by kernel_rfl) (fun _ _ _ h => h) (Or.inl ⟨by rfl, fun w_ hS_ => by (first | (go_simp; done) | (go_simp; rfl))⟩) ⟨(rowCell Zf (0) rfl), (rowAt Zm), (rowCell Zm (3) rfl), (rowCell Zm (26) rfl), (rowCell Zm (23) rfl)⟩ ?_
    try simp only [nP, nN, nA, n0, nS, nG, List.getElem_cons_zero, List.getElem_cons_succ]
    refine wpAnyH_take (i := 25) (v := .pointer (some ⟨w.heap.size, 26, none⟩)) rfl (by kernel_rfl) (by kernel_rfl) (by kernel_rfl) (fun _ _ _ h => h) (Or.inl ⟨by rfl, fun w_ hS_ => by (first | (go_simp; done) | (go_simp; rfl))⟩) ⟨(rowCell Zf (0) rfl), (rowAt Zm), (rowCell Zm (3) rfl), (rowCell Zm (26) rfl), (rowCell Zm (23) rfl)⟩ ?_
    try simp only [nP, nN, nA, n0, nS, nG, List.getElem_cons_zero, List.getElem_cons_succ]
    refine wpAnyH_take (i := 26) (v := .int .i64 m.nu) rfl (by kernel_rfl) (by kernel_rfl) (by kernel_rfl) (fun _ _ _ h => h) (Or.inl ⟨by rfl, fun w_ hS_ => by (have c_ := hS_.2.2.2.1; first | (go_simp; done) | (go_simp; rfl))⟩) ⟨(rowCell Zf (0) rfl), (rowAt Zm), (rowCell Zm (3) rfl), (rowCell Zm (26) rfl), (rowCell Zm (23) rfl)⟩ ?_
    try simp only [nP, nN, nA, n0, nS, nG, List.getElem_cons_zero, List.getElem_cons_succ]
    refine wpAnyH_take (i := 27) (v := .bool false) rfl (by kernel_rfl) (by kernel_rfl) (by kernel_rfl) (fun _ _ _ h => h) (Or.inl ⟨by rfl, fun w_ hS_ => by (first | (go_simp; done) | (go_simp; rfl))⟩) ⟨(rowCell Zf (0) rfl), (rowAt Zm), (rowCell Zm (3) rfl), (rowCell Zm (26) rfl), (rowCell Zm (23) rfl)⟩ ?_
    try simp only [nP, nN, nA, n0, nS, nG, List.getElem_cons_zero, List.getElem_cons_succ]
    refine wpAnyH_take (i := 28) (v := .bool false) rfl (by kernel_rfl) (by kernel_rfl) (by kernel_rfl) (fun _ _ _ h => h) (Or.inl ⟨by rfl, fun w_ hS_ => by (first | (go_simp; done) | (go_simp; rfl))⟩) ⟨(rowCell Zf (0) rfl), (rowAt Zm), (rowCell Zm (3) rfl), (rowCell Zm (26) rfl), (rowCell Zm (23) rfl)⟩ ?_
    try simp only [nP, nN, nA, n0, nS, nG, List.getElem_cons_zero, List.getElem_cons_succ]
    refine wpAnyH_take (i := 29) (v := .bool false) rfl (by kernel_rfl) (by kernel_rfl) (by kernel_rfl) (fun _ _ _ h => h) (Or.inl ⟨by rfl, fun w_ hS_ => by (first | (go_simp; done) | (go_simp; rfl))⟩) ⟨(rowCell Zf (0) rfl), (rowAt Zm), (rowCell Zm (3) rfl), (rowCell Zm (26) rfl), (rowCell Zm (23) rfl)⟩ ?_
    try simp only [nP, nN, nA, n0, nS, nG, List.getElem_cons_zero, List.getElem_cons_succ]
    refine wpAnyH_take (i := 30) (v := .pointer (some ⟨w.heap.size, 23, none⟩)) rfl (by kernel_rfl) (by kernel_rfl) (by kernel_rfl) (fun _ _ _ h => h) (Or.inl ⟨by rfl, fun w_ hS_ => by (first | (go_simp; done) | (go_simp; rfl))⟩) ⟨(rowCell Zf (0) rfl), (rowAt Zm), (rowCell Zm (3) rfl), (rowCell Zm (26) rfl), (rowCell Zm (23) rfl)⟩ ?_
    try simp only [nP, nN, nA, n0, nS, nG, List.getElem_cons_zero, List.getElem_cons_succ]
    refine wpAnyH_take (i := 31) (v := .int .i64 m.g) rfl (by kernel_rfl) (by kernel_rfl) (by kernel_rfl) (fun _ _ _ h => h) (Or.inl ⟨by rfl, fun w_ hS_ => by (have c_ := hS_.2.2.2.2; first | (go_simp; done) | (go_simp; rfl))⟩) ⟨(rowCell Zf (0) rfl), (rowAt Zm), (rowCell Zm (3) rfl), (rowCell Zm (26) rfl), (rowCell Zm (23) rfl)⟩ ?_
    try simp only [nP, nN, nA, n0, nS, nG, List.getElem_cons_zero, List.getElem_cons_succ]
    refine wpAnyH_take (i := 32) (v := .bool true) rfl (by kernel_rfl) (by kernel_rfl) (by kernel_rfl) (fun _ _ _ h => h) (Or.inl ⟨by rfl, fun w_ hS_ => by (first | (go_simp; done) | (go_simp; rfl))⟩) ⟨(rowCell Zf (0) rfl), (rowAt Zm), (rowCell Zm (3) rfl), (rowCell Zm (26) rfl), (rowCell Zm (23) rfl)⟩ ?_
    try simp only [nP, nN, nA, n0, nS, nG, List.getElem_cons_zero, List.getElem_cons_succ]
    refine wpAnyH_take (i := 33) (v := .bool true) rfl (by kernel_rfl) (by kernel_rfl) (by kernel_rfl) (fun _ _ _ h => h) (Or.inl ⟨by rfl, fun w_ hS_ => by (first | (go_simp; done) | (go_simp; rfl))⟩) ⟨(rowCell Zf (0) rfl), (rowAt Zm), (rowCell Zm (3) rfl), (rowCell Zm (26) rfl), (rowCell Zm (23) rfl)⟩ ?_
    try simp only [nP, nN, nA, n0, nS, nG, List.getElem_cons_zero, List.getElem_cons_succ]
    refine wpAnyH_take (i := 34) (v := .bool true) rfl (by kernel_rfl) (by kernel_rfl) (by kernel_rfl) (fun _ _ _ h => h) (Or.inl ⟨by rfl, fun w_ hS_ => by (first | (go_simp; done) | (go_simp; rfl))⟩) ⟨(rowCell Zf (0) rfl), (rowAt Zm), (rowCell Zm (3) rfl), (rowCell Zm (26) rfl), (rowCell Zm (23) rfl)⟩ ?_
    try simp only [nP, nN, nA, n0, nS, nG, List.getElem_cons_zero, List.getElem_cons_succ]
    refine wpAnyH_take (i := 35) (v := undef) rfl (by kernel_rfl) (by kernel_rfl) (by kernel_rfl) (fun _ _ _ h => h) (Or.inr ⟨by rfl, rfl⟩) ⟨(rowCell Zf (0) rfl), (rowAt Zm), (rowCell Zm (3) rfl), (rowCell Zm (26) rfl), (rowCell Zm (23) rfl)⟩ ?_
    try simp only [nP, nN, nA, n0, nS, nG, List.getElem_cons_zero, List.getElem_cons_succ]
    refine wpAnyH_take (i := 36) (v := undef) rfl (by kernel_rfl) (by kernel_rfl) (by kernel_rfl) (fun _ _ _ h => h) (Or.inr ⟨by rfl, rfl⟩) ⟨(rowCell Zf (0) rfl), (rowAt Zm), (rowCell Zm (3) rfl), (rowCell Zm (26) rfl), (rowCell Zm (23) rfl)⟩ ?_
    try simp only [nP, nN, nA, n0, nS, nG, List.getElem_cons_zero, List.getElem_cons_succ]
    refine wpAnyH_take (i := 37) (v := undef) rfl (by kernel_rfl) (by kernel_rfl) (by kernel_rfl) (fun _ _ _ h => h) (Or.inr ⟨by rfl, rfl⟩) ⟨(rowCell Zf (0) rfl), (rowAt Zm), (rowCell Zm (3) rfl), (rowCell Zm (26) rfl), (rowCell Zm (23) rfl)⟩ ?_
    try simp only [nP, nN, nA, n0, nS, nG, List.getElem_cons_zero, List.getElem_cons_succ]
    refine wpAnyH_take (i := 38) (v := .bool true) rfl (by kernel_rfl) (by kernel_rfl) (by kernel_rfl) (fun _ _ _ h => h) (Or.inl ⟨by rfl, fun w_ hS_ => by (first | (go_simp; done) | (go_simp; rfl))⟩) ⟨(rowCell Zf (0) rfl), (rowAt Zm), (rowCell Zm (3) rfl), (rowCell Zm (26) rfl), (rowCell Zm (23) rfl)⟩ ?_
    try simp only [nP, nN, nA, n0, nS, nG, List.getElem_cons_zero, List.getElem_cons_succ]
    refine wpAnyH_take (i := 39) (v := .bool true) rfl (by kernel_rfl) (by kernel_rfl) (by kernel_rfl) (fun _ _ _ h => h) (Or.inl ⟨by rfl, fun w_ hS_ => by (first | (go_simp; done) | (go_simp; rfl))⟩) ⟨(rowCell Zf (0) rfl), (rowAt Zm), (rowCell Zm (3) rfl), (rowCell Zm (26) rfl), (rowCell Zm (23) rfl)⟩ ?_
    try simp only [nP, nN, nA, n0, nS, nG, List.getElem_cons_zero, List.getElem_cons_succ]
    refine wpAnyH_take (i := 40) (v := undef) rfl (by kernel_rfl) (by kernel_rfl) (by kernel_rfl) (fun _ _ _ h => h) (Or.inr ⟨by rfl, rfl⟩) ⟨(rowCell Zf (0) rfl), (rowAt Zm), (rowCell Zm (3) rfl), (rowCell Zm (26) rfl), (rowCell Zm (23) rfl)⟩ ?_
    try simp only [nP, nN, nA, n0, nS, nG, List.getElem_cons_zero, List.getElem_cons_succ]
    refine wpAnyH_take (i := 41) (v := undef) rfl (by kernel_rfl) (by kernel_rfl) (by kernel_rfl) (fun _ _ _ h => h) (Or.inr ⟨by rfl, rfl⟩) ⟨(rowCell Zf (0) rfl), (rowAt Zm), (rowCell Zm (3) rfl), (rowCell Zm (26) rfl), (rowCell Zm (23) rfl)⟩ ?_
    try simp only [nP, nN, nA, n0, nS, nG, List.getElem_cons_zero, List.getElem_cons_succ]
    refine wpAnyH_take (i := 42) (v := undef) rfl (by kernel_rfl) (by kernel_rfl) (by kernel_rfl) (fun _ _ _ h => h) (Or.inr ⟨by rfl, rfl⟩) ⟨(rowCell Zf (0) rfl), (rowAt Zm), (rowCell Zm (3) rfl), (rowCell Zm (26) rfl), (rowCell Zm (23) rfl)⟩ ?_
    try simp only [nP, nN, nA, n0, nS, nG, List.getElem_cons_zero, List.getElem_cons_succ]
    refine wpAnyH_take (i := 43) (v := .bool true) rfl (by kernel_rfl) (by kernel_rfl) (by kernel_rfl) (fun _ _ _ h => h) (Or.inl ⟨by rfl, fun w_ hS_ => by (first | (go_simp; done) | (go_simp; rfl))⟩) ⟨(rowCell Zf (0) rfl), (rowAt Zm), (rowCell Zm (3) rfl), (rowCell Zm (26) rfl), (rowCell Zm (23) rfl)⟩ ?_
    try simp only [nP, nN, nA, n0, nS, nG, List.getElem_cons_zero, List.getElem_cons_succ]
    refine wpAnyH_take (i := 44) (v := .bool true) rfl (by kernel_rfl) (by kernel_rfl) (by kernel_rfl) (fun _ _ _ h => h) (Or.inl ⟨by rfl, fun w_ hS_ => by (first | (go_simp; done) | (go_simp; rfl))⟩) ⟨(rowCell Zf (0) rfl), (rowAt Zm), (rowCell Zm (3) rfl), (rowCell Zm (26) rfl), (rowCell Zm (23) rfl)⟩ ?_
    try simp only [nP, nN, nA, n0, nS, nG, List.getElem_cons_zero, List.getElem_cons_succ]
    refine wpAnyH_take (i := 45) (v := undef) rfl (by kernel_rfl) (by kernel_rfl) (by kernel_rfl) (fun _ _ _ h => h) (Or.inr ⟨by rfl, rfl⟩) ⟨(rowCell Zf (0) rfl), (rowAt Zm), (rowCell Zm (3) rfl), (rowCell Zm (26) rfl), (rowCell Zm (23) rfl)⟩ ?_
    try simp only [nP, nN, nA, n0, nS, nG, List.getElem_cons_zero, List.getElem_cons_succ]
    refine wpAnyH_take (i := 46) (v := undef) rfl (by kernel_rfl) (by kernel_rfl) (by kernel_rfl) (fun _ _ _ h => h) (Or.inr ⟨by rfl, rfl⟩) ⟨(rowCell Zf (0) rfl), (rowAt Zm), (rowCell Zm (3) rfl), (rowCell Zm (26) rfl), (rowCell Zm (23) rfl)⟩ ?_
    try simp only [nP, nN, nA, n0, nS, nG, List.getElem_cons_zero, List.getElem_cons_succ]
    refine wpAnyH_take (i := 47) (v := undef) rfl (by kernel_rfl) (by kernel_rfl) (by kernel_rfl) (fun _ _ _ h => h) (Or.inr ⟨by rfl, rfl⟩) ⟨(rowCell Zf (0) rfl), (rowAt Zm), (rowCell Zm (3) rfl), (rowCell Zm (26) rfl), (rowCell Zm (23) rfl)⟩ ?_
    try simp only [nP, nN, nA, n0, nS, nG, List.getElem_cons_zero, List.getElem_cons_succ]
    refine wpAnyH_take (i := 48) (v := .bool true) rfl (by kernel_rfl) (by kernel_rfl) (by kernel_rfl) (fun _ _ _ h => h) (Or.inl ⟨by rfl, fun w_ hS_ => by (first | (go_simp; done) | (go_simp; rfl))⟩) ⟨(rowCell Zf (0) rfl), (rowAt Zm), (rowCell Zm (3) rfl), (rowCell Zm (26) rfl), (rowCell Zm (23) rfl)⟩ ?_
    try simp only [nP, nN, nA, n0, nS, nG, List.getElem_cons_zero, List.getElem_cons_succ]
    refine wpAnyH_take (i := 49) (v := .bool true) rfl (by kernel_rfl) (by kernel_rfl) (by kernel_rfl) (fun _ _ _ h => h) (Or.inl ⟨by rfl, fun w_ hS_ => by (first | (go_simp; done) | (go_simp; rfl))⟩) ⟨(rowCell Zf (0) rfl), (rowAt Zm), (rowCell Zm (3) rfl), (rowCell Zm (26) rfl), (rowCell Zm (23) rfl)⟩ ?_
    try simp only [nP, nN, nA, n0, nS, nG, List.getElem_cons_zero, List.getElem_cons_succ]
    refine wpAnyH_take (i := 50) (v := undef) rfl (by kernel_rfl) (by kernel_rfl) (by kernel_rfl) (fun _ _ _ h => h) (Or.inr ⟨by rfl, rfl⟩) ⟨(rowCell Zf (0) rfl), (rowAt Zm), (rowCell Zm (3) rfl), (rowCell Zm (26) rfl), (rowCell Zm (23) rfl)⟩ ?_
    try simp only [nP, nN, nA, n0, nS, nG, List.getElem_cons_zero, List.getElem_cons_succ]
    refine wpAnyH_take (i := 51) (v := undef) rfl (by kernel_rfl) (by kernel_rfl) (by kernel_rfl) (fun _ _ _ h => h) (Or.inr ⟨by rfl, rfl⟩) ⟨(rowCell Zf (0) rfl), (rowAt Zm), (rowCell Zm (3) rfl), (rowCell Zm (26) rfl), (rowCell Zm (23) rfl)⟩ ?_
    try simp only [nP, nN, nA, n0, nS, nG, List.getElem_cons_zero, List.getElem_cons_succ]
    refine wpAnyH_take (i := 52) (v := undef) rfl (by kernel_rfl) (by kernel_rfl) (by kernel_rfl) (fun _ _ _ h => h) (Or.inr ⟨by rfl, rfl⟩) ⟨(rowCell Zf (0) rfl), (rowAt Zm), (rowCell Zm (3) rfl), (rowCell Zm (26) rfl), (rowCell Zm (23) rfl)⟩ ?_
    try simp only [nP, nN, nA, n0, nS, nG, List.getElem_cons_zero, List.getElem_cons_succ]
    refine wpAnyH_take (i := 53) (v := undef) rfl (by kernel_rfl) (by kernel_rfl) (by kernel_rfl) (fun _ _ _ h => h) (Or.inr ⟨by rfl, rfl⟩) ⟨(rowCell Zf (0) rfl), (rowAt Zm), (rowCell Zm (3) rfl), (rowCell Zm (26) rfl), (rowCell Zm (23) rfl)⟩ ?_
    try simp only [nP, nN, nA, n0, nS, nG, List.getElem_cons_zero, List.getElem_cons_succ]
    refine wpAnyH_take (i := 54) (v := .bool true) rfl (by kernel_rfl) (by kernel_rfl) (by kernel_rfl) (fun _ _ _ h => h) (Or.inl ⟨by rfl, fun w_ hS_ => by (first | (go_simp; done) | (go_simp; rfl))⟩) ⟨(rowCell Zf (0) rfl), (rowAt Zm), (rowCell Zm (3) rfl), (rowCell Zm (26) rfl), (rowCell Zm (23) rfl)⟩ ?_
    try simp only [nP, nN, nA, n0, nS, nG, List.getElem_cons_zero, List.getElem_cons_succ]
    refine wpAnyH_done (by kernel_rfl) ?_ _
    obtain rfl : R = false := by rw [HFM.out]; simp
    clear HON HSA h0 h2 h3 h4 h5 h6 h7 h8 h9 h10
    go_wp2_with fail
    go_ret
    exact ⟨rfl, ee⟩
    | false =>
    cases d7 with
    | true =>
     have Zm : z3.drew.heap[w.heap.size]? = some (.cells m.cells.toArray 39) := Zm
     have Zf : z3.drew.heap[gf]? = some (.cells ([.string ⟨fs.toArray⟩]).toArray 9) := Zf
     have ee := belowDrewS ee
     refine wp_region_held_drew (S := fun z' => z'.cell? ⟨gf, 0, none⟩ = some (.string ⟨fs.toArray⟩) ∧ z'.rangeAt w.heap.size (0) m.cells ∧ z'.cell? ⟨w.heap.size, 3, none⟩ = some (.int .i64 m.sl) ∧ z'.cell? ⟨w.heap.size, 26, none⟩ = some (.int .i64 m.nu) ∧ z'.cell? ⟨w.heap.size, 23, none⟩ = some (.int .i64 m.g)) (by kernel_rfl) ⟨(rowCell Zf (0) rfl), (rowAt Zm), (rowCell Zm (3) rfl), (rowCell Zm (26) rfl), (rowCell Zm (23) rfl)⟩ (fun hH => ?_)
     clear hH
     generalize z3.drew = z4 at Zm Zf ee ⊢
     refine wpAnyH_take (i := 0) (v := .string ⟨fs.toArray⟩) rfl (by kernel_rfl) (by kernel_rfl) (by kernel_rfl) (fun _ _ _ h => h) (Or.inl ⟨by rfl, fun w_ hS_ => by (have c_ := hS_.1; first | (go_simp; done) | (go_simp; rfl))⟩) ⟨(rowCell Zf (0) rfl), (rowAt Zm), (rowCell Zm (3) rfl), (rowCell Zm (26) rfl), (rowCell Zm (23) rfl)⟩ ?_
     try simp only [nP, nN, nA, n0, nS, nG, List.getElem_cons_zero, List.getElem_cons_succ]
     refine wpAnyH_take (i := 1) (v := .bool false) rfl (by kernel_rfl) (by kernel_rfl) (by kernel_rfl) (fun _ _ _ h => h) (Or.inl ⟨by rfl, fun w_ hS_ => by (first | (go_simp; done) | (go_simp; rfl))⟩) ⟨(rowCell Zf (0) rfl), (rowAt Zm), (rowCell Zm (3) rfl), (rowCell Zm (26) rfl), (rowCell Zm (23) rfl)⟩ ?_
     try simp only [nP, nN, nA, n0, nS, nG, List.getElem_cons_zero, List.getElem_cons_succ]
     refine wpAnyH_take (i := 2) (v := .bool false) rfl (by kernel_rfl) (by kernel_rfl) (by kernel_rfl) (fun _ _ _ h => h) (Or.inl ⟨by rfl, fun w_ hS_ => by (first | (go_simp; done) | (go_simp; rfl))⟩) ⟨(rowCell Zf (0) rfl), (rowAt Zm), (rowCell Zm (3) rfl), (rowCell Zm (26) rfl), (rowCell Zm (23) rfl)⟩ ?_
     try simp only [nP, nN, nA, n0, nS, nG, List.getElem_cons_zero, List.getElem_cons_succ]
     refine wpAnyH_take (i := 3) (v := .agg (m.cells).toArray) rfl (by kernel_rfl) (by kernel_rfl) (by kernel_rfl) (fun _ _ _ h => h) (yieldsIf_load_mid (by rfl) 39 _ rfl (w.heap.size) (0) rfl (m.cells) _ (fun _ h => h.2.1) Tryd.underlying39 rfl sizeMs) ⟨(rowCell Zf (0) rfl), (rowAt Zm), (rowCell Zm (3) rfl), (rowCell Zm (26) rfl), (rowCell Zm (23) rfl)⟩ ?_
     try simp only [nP, nN, nA, n0, nS, nG, List.getElem_cons_zero, List.getElem_cons_succ]
     refine wpAnyH_take (i := 5) (v := .agg (m.cells).toArray) rfl (by kernel_rfl) (by kernel_rfl) (by kernel_rfl) (fun _ _ _ h => h) (yieldsIf_load_mid (by rfl) 39 _ rfl (w.heap.size) (0) rfl (m.cells) _ (fun _ h => h.2.1) Tryd.underlying39 rfl sizeMs) ⟨(rowCell Zf (0) rfl), (rowAt Zm), (rowCell Zm (3) rfl), (rowCell Zm (26) rfl), (rowCell Zm (23) rfl)⟩ ?_
     try simp only [nP, nN, nA, n0, nS, nG, List.getElem_cons_zero, List.getElem_cons_succ]
     refine wpAnyH_ready (rs := [4]) (by kernel_rfl) (by simp) ?_
     refine AllReadyH.cons rfl (fun K hK => ?_) AllReadyH.nil
     rw [if_pos (by rfl)]
     go_simp
     go_wp2_with (go_at_call 41; refine (HON.out z4).mono ?_; rintro e z5 ⟨rfl, t⟩)
     have Zm := hpB Zm t
     have Zf := hpB Zf t
     have ee := ee.trans (t.mono ee.size)
     clear t
     refine hK.out _ _ ⟨(rowCell Zf (0) rfl), (rowAt Zm), (rowCell Zm (3) rfl), (rowCell Zm (26) rfl), (rowCell Zm (23) rfl)⟩ (fun hH => ?_)
     clear hK K hH
     try simp only [nP, nN, nA, n0, nS, nG, List.getElem_cons_zero, List.getElem_cons_succ]
     refine wpAnyH_ready (rs := [6]) (by kernel_rfl) (by simp) ?_
     refine AllReadyH.cons rfl (fun K hK => ?_) AllReadyH.nil
     rw [if_pos (by rfl)]
     go_simp
     go_wp2_with (go_at_call 18; refine (HSA.out z5 ee).mono ?_; rintro e z6 ⟨rfl, t⟩)
     have Zm := hpB Zm t
     have Zf := hpB Zf t
     have ee := ee.trans (t.mono ee.size)
     clear t
     refine hK.out _ _ ⟨(rowCell Zf (0) rfl), (rowAt Zm), (rowCell Zm (3) rfl), (rowCell Zm (26) rfl), (rowCell Zm (23) rfl)⟩ (fun hH => ?_)
     clear hK K hH
     try simp only [nP, nN, nA, n0, nS, nG, List.getElem_cons_zero, List.getElem_cons_succ]
     refine wpAnyH_take (i := 7) (v := .bool false) rfl (by kernel_rfl) (by kernel_rfl) (by kernel_rfl) (fun _ _ _ h => h) (Or.inl ⟨by rfl, fun w_ hS_ => by (first | (go_simp; done) | (go_simp; rfl))⟩) ⟨(rowCell Zf (0) rfl), (rowAt Zm), (rowCell Zm (3) rfl), (rowCell Zm (26) rfl), (rowCell Zm (23) rfl)⟩ ?_
     try simp only [nP, nN, nA, n0, nS, nG, List.getElem_cons_zero, List.getElem_cons_succ]
     refine wpAnyH_take (i := 8) (v := .bool false) rfl (by kernel_rfl) (by kernel_rfl) (by kernel_rfl) (fun _ _ _ h => h) (Or.inl ⟨by rfl, fun w_ hS_ => by (first | (go_simp; done) | (go_simp; rfl))⟩) ⟨(rowCell Zf (0) rfl), (rowAt Zm), (rowCell Zm (3) rfl), (rowCell Zm (26) rfl), (rowCell Zm (23) rfl)⟩ ?_
     try simp only [nP, nN, nA, n0, nS, nG, List.getElem_cons_zero, List.getElem_cons_succ]
     refine wpAnyH_take (i := 9) (v := .bool false) rfl (by kernel_rfl) (by kernel_rfl) (by kernel_rfl) (fun _ _ _ h => h) (Or.inl ⟨by rfl, fun w_ hS_ => by (first | (go_simp; done) | (go_simp; rfl))⟩) ⟨(rowCell Zf (0) rfl), (rowAt Zm), (rowCell Zm (3) rfl), (rowCell Zm (26) rfl), (rowCell Zm (23) rfl)⟩ ?_
     try simp only [nP, nN, nA, n0, nS, nG, List.getElem_cons_zero, List.getElem_cons_succ]
     refine wpAnyH_take (i := 10) (v := .pointer (some ⟨w.heap.size, 3, none⟩)) rfl (by kernel_rfl) (by kernel_rfl) (by kernel_rfl) (fun _ _ _ h => h) (Or.inl ⟨by rfl, fun w_ hS_ => by (first | (go_simp; done) | (go_simp; rfl))⟩) ⟨(rowCell Zf (0) rfl), (rowAt Zm), (rowCell Zm (3) rfl), (rowCell Zm (26) rfl), (rowCell Zm (23) rfl)⟩ ?_
     try simp only [nP, nN, nA, n0, nS, nG, List.getElem_cons_zero, List.getElem_cons_succ]
     refine wpAnyH_take (i := 11) (v := .int .i64 m.sl) rfl (by kernel_rfl) (by kernel_rfl) (by kernel_rfl) (fun _ _ _ h => h) (Or.inl ⟨by rfl, fun w_ hS_ => by (have c_ := hS_.2.2.1; first | (go_simp; done) | (go_simp; rfl))⟩) ⟨(rowCell Zf (0) rfl), (rowAt Zm), (rowCell Zm (3) rfl), (rowCell Zm (26) rfl), (rowCell Zm (23) rfl)⟩ ?_
     try simp only [nP, nN, nA, n0, nS, nG, List.getElem_cons_zero, List.getElem_cons_succ]
     refine wpAnyH_take (i := 12) (v := .bool false) rfl (by kernel_rfl) (by kernel_rfl) (by kernel_rfl) (fun _ _ _ h => h) (Or.inl ⟨by rfl, fun w_ hS_ => by (first | (go_simp; done) | (go_simp; rfl))⟩) ⟨(rowCell Zf (0) rfl), (rowAt Zm), (rowCell Zm (3) rfl), (rowCell Zm (26) rfl), (rowCell Zm (23) rfl)⟩ ?_
     try simp only [nP, nN, nA, n0, nS, nG, List.getElem_cons_zero, List.getElem_cons_succ]
     refine wpAnyH_take (i := 13) (v := .bool false) rfl (by kernel_rfl) (by kernel_rfl) (by kernel_rfl) (fun _ _ _ h => h) (Or.inl ⟨by rfl, fun w_ hS_ => by (first | (go_simp; done) | (go_simp; rfl))⟩) ⟨(rowCell Zf (0) rfl), (rowAt Zm), (rowCell Zm (3) rfl), (rowCell Zm (26) rfl), (rowCell Zm (23) rfl)⟩ ?_
     try simp only [nP, nN, nA, n0, nS, nG, List.getElem_cons_zero, List.getElem_cons_succ]
     refine wpAnyH_take (i := 14) (v := .bool false) rfl (by kernel_rfl) (by kernel_rfl) (by kernel_rfl) (fun _ _ _ h => h) (Or.inl ⟨by rfl, fun w_ hS_ => by (first | (go_simp; done) | (go_simp; rfl))⟩) ⟨(rowCell Zf (0) rfl), (rowAt Zm), (rowCell Zm (3) rfl), (rowCell Zm (26) rfl), (rowCell Zm (23) rfl)⟩ ?_
     try simp only [nP, nN, nA, n0, nS, nG, List.getElem_cons_zero, List.getElem_cons_succ]
     refine wpAnyH_take (i := 15) (v := .pointer (some ⟨w.heap.size, 3, none⟩)) rfl (by kernel_rfl) (by kernel_rfl) (by kernel_rfl) (fun _ _ _ h => h) (Or.inl ⟨by rfl, fun w_ hS_ => by (first | (go_simp; done) | (go_simp; rfl))⟩) ⟨(rowCell Zf (0) rfl), (rowAt Zm), (rowCell Zm (3) rfl), (rowCell Zm (26) rfl), (rowCell Zm (23) rfl)⟩ ?_
     try simp only [nP, nN, nA, n0, nS, nG, List.getElem_cons_zero, List.getElem_cons_succ]
     refine wpAnyH_take (i := 16) (v := .int .i64 m.sl) rfl (by kernel_rfl) (by kernel_rfl) (by kernel_rfl) (fun _ _ _ h => h) (Or.inl ⟨by rfl, fun w_ hS_ => by (have c_ := hS_.2.2.1; first | (go_simp; done) | (go_simp; rfl))⟩) ⟨(rowCell Zf (0) rfl), (rowAt Zm), (rowCell Zm (3) rfl), (rowCell Zm (26) rfl), (rowCell Zm (23) rfl)⟩ ?_
     try simp only [nP, nN, nA, n0, nS, nG, List.getElem_cons_zero, List.getElem_cons_succ]
     refine wpAnyH_take (i := 17) (v := .bool false) rfl (by kernel_rfl) (by kernel_rfl) (by kernel_rfl) (fun _ _ _ h => h) (Or.inl ⟨by rfl, fun w_ hS_ => by (first | (go_simp; done) | (go_simp; rfl))⟩) ⟨(rowCell Zf (0) rfl), (rowAt Zm), (rowCell Zm (3) rfl), (rowCell Zm (26) rfl), (rowCell Zm (23) rfl)⟩ ?_
     try simp only [nP, nN, nA, n0, nS, nG, List.getElem_cons_zero, List.getElem_cons_succ]
     refine wpAnyH_take (i := 18) (v := .bool false) rfl (by kernel_rfl) (by kernel_rfl) (by kernel_rfl) (fun _ _ _ h => h) (Or.inl ⟨by rfl, fun w_ hS_ => by (first | (go_simp; done) | (go_simp; rfl))⟩) ⟨(rowCell Zf (0) rfl), (rowAt Zm), (rowCell Zm (3) rfl), (rowCell Zm (26) rfl), (rowCell Zm (23) rfl)⟩ ?_
     try simp only [nP, nN, nA, n0, nS, nG, List.getElem_cons_zero, List.getElem_cons_succ]
     refine wpAnyH_take (i := 19) (v := .bool false) rfl (by kernel_rfl) (by kernel_rfl) (by kernel_rfl) (fun _ _ _ h => h) (Or.inl ⟨by rfl, fun w_ hS_ => by (first | (go_simp; done) | (go_simp; rfl))⟩) ⟨(rowCell Zf (0) rfl), (rowAt Zm), (rowCell Zm (3) rfl), (rowCell Zm (26) rfl), (rowCell Zm (23) rfl)⟩ ?_
     try simp only [nP, nN, nA, n0, nS, nG, List.getElem_cons_zero, List.getElem_cons_succ]
     refine wpAnyH_take (i := 20) (v := .pointer (some ⟨w.heap.size, 26, none⟩)) rfl (by kernel_rfl) (by kernel_rfl) (by kernel_rfl) (fun _ _ _ h => h) (Or.inl ⟨by rfl, fun w_ hS_ => by (first | (go_simp; done) | (go_simp; rfl))⟩) ⟨(rowCell Zf (0) rfl), (rowAt Zm), (rowCell Zm (3) rfl), (rowCell Zm (26) rfl), (rowCell Zm (23) rfl)⟩ ?_
     try simp only [nP, nN, nA, n0, nS, nG, List.getElem_cons_zero, List.getElem_cons_succ]
     refine wpAnyH_take (i := 21) (v := .int .i64 m.nu) rfl (by kernel_rfl) (by kernel_rfl) (by kernel_rfl) (fun _ _ _ h => h) (Or.inl ⟨by rfl, fun w_ hS_ => by (have c_ := hS_.2.2.2.1; first | (go_simp; done) | (go_simp; rfl))⟩) ⟨(rowCell Zf (0) rfl), (rowAt Zm), (rowCell Zm (3) rfl), (rowCell Zm (26) rfl), (rowCell Zm (23) rfl)⟩ ?_
     try simp only [nP, nN, nA, n0, nS, nG, List.getElem_cons_zero, List.getElem_cons_succ]
     refine wpAnyH_take (i := 22) (v := .bool false) rfl (by kernel_rfl) (by kernel_rfl) (by kernel_rfl) (fun _ _ _ h => h) (Or.inl ⟨by rfl, fun w_ hS_ => by (first | (go_simp; done) | (go_simp; rfl))⟩) ⟨(rowCell Zf (0) rfl), (rowAt Zm), (rowCell Zm (3) rfl), (rowCell Zm (26) rfl), (rowCell Zm (23) rfl)⟩ ?_
     try simp only [nP, nN, nA, n0, nS, nG, List.getElem_cons_zero, List.getElem_cons_succ]
     refine wpAnyH_take (i := 23) (v := .bool false) rfl (by kernel_rfl) (by kernel_rfl) (by kernel_rfl) (fun _ _ _ h => h) (Or.inl ⟨by rfl, fun w_ hS_ => by (first | (go_simp; done) | (go_simp; rfl))⟩) ⟨(rowCell Zf (0) rfl), (rowAt Zm), (rowCell Zm (3) rfl), (rowCell Zm (26) rfl), (rowCell Zm (23) rfl)⟩ ?_
     try simp only [nP, nN, nA, n0, nS, nG, List.getElem_cons_zero, List.getElem_cons_succ]
     refine wpAnyH_take (i := 24) (v := .bool false) rfl (by kernel_rfl) (by kernel_rfl) (by kernel_rfl) (fun _ _ _ h => h) (Or.inl ⟨by rfl, fun w_ hS_ => by (first | (go_simp; done) | (go_simp; rfl))⟩) ⟨(rowCell Zf (0) rfl), (rowAt Zm), (rowCell Zm (3) rfl), (rowCell Zm (26) rfl), (rowCell Zm (23) rfl)⟩ ?_
     try simp only [nP, nN, nA, n0, nS, nG, List.getElem_cons_zero, List.getElem_cons_succ]
     refine wpAnyH_take (i := 25) (v := .pointer (some ⟨w.heap.size, 26, none⟩)) rfl (by kernel_rfl) (by kernel_rfl) (by kernel_rfl) (fun _ _ _ h => h) (Or.inl ⟨by rfl, fun w_ hS_ => by (first | (go_simp; done) | (go_simp; rfl))⟩) ⟨(rowCell Zf (0) rfl), (rowAt Zm), (rowCell Zm (3) rfl), (rowCell Zm (26) rfl), (rowCell Zm (23) rfl)⟩ ?_
     try simp only [nP, nN, nA, n0, nS, nG, List.getElem_cons_zero, List.getElem_cons_succ]
     refine wpAnyH_take (i := 26) (v := .int .i64 m.nu) rfl (by kernel_rfl) (by kernel_rfl) (by kernel_rfl) (fun _ _ _ h => h) (Or.inl ⟨by rfl, fun w_ hS_ => by (have c_ := hS_.2.2.2.1; first | (go_simp; done) | (go_simp; rfl))⟩) ⟨(rowCell Zf (0) rfl), (rowAt Zm), (rowCell Zm (3) rfl), (rowCell Zm (26) rfl), (rowCell Zm (23) rfl)⟩ ?_
     try simp only [nP, nN, nA, n0, nS, nG, List.getElem_cons_zero, List.getElem_cons_succ]
     refine wpAnyH_take (i := 27) (v := .bool false) rfl (by kernel_rfl) (by kernel_rfl) (by kernel_rfl) (fun _ _ _ h => h) (Or.inl ⟨by rfl, fun w_ hS_ => by (first | (go_simp; done) | (go_simp; rfl))⟩) ⟨(rowCell Zf (0) rfl), (rowAt Zm), (rowCell Zm (3) rfl), (rowCell Zm (26) rfl), (rowCell Zm (23) rfl)⟩ ?_
     try simp only [nP, nN, nA, n0, nS, nG, List.getElem_cons_zero, List.getElem_cons_succ]
     refine wpAnyH_take (i := 28) (v := .bool false) rfl (by kernel_rfl) (by kernel_rfl) (by kernel_rfl) (fun _ _ _ h => h) (Or.inl ⟨by rfl, fun w_ hS_ => by (first | (go_simp; done) | (go_simp; rfl))⟩) ⟨(rowCell Zf (0) rfl), (rowAt Zm), (rowCell Zm (3) rfl), (rowCell Zm (26) rfl), (rowCell Zm (23) rfl)⟩ ?_
     try simp only [nP, nN, nA, n0, nS, nG, List.getElem_cons_zero, List.getElem_cons_succ]
     refine wpAnyH_take (i := 29) (v := .bool false) rfl (by kernel_rfl) (by kernel_rfl) (by kernel_rfl) (fun _ _ _ h => h) (Or.inl ⟨by rfl, fun w_ hS_ => by (first | (go_simp; done) | (go_simp; rfl))⟩) ⟨(rowCell Zf (0) rfl), (rowAt Zm), (rowCell Zm (3) rfl), (rowCell Zm (26) rfl), (rowCell Zm (23) rfl)⟩ ?_
     try simp only [nP, nN, nA, n0, nS, nG, List.getElem_cons_zero, List.getElem_cons_succ]
     refine wpAnyH_take (i := 30) (v := .pointer (some ⟨w.heap.size, 23, none⟩)) rfl (by kernel_rfl) (by kernel_rfl) (by kernel_rfl) (fun _ _ _ h => h) (Or.inl ⟨by rfl, fun w_ hS_ => by (first | (go_simp; done) | (go_simp; rfl))⟩) ⟨(rowCell Zf (0) rfl), (rowAt Zm), (rowCell Zm (3) rfl), (rowCell Zm (26) rfl), (rowCell Zm (23) rfl)⟩ ?_
     try simp only [nP, nN, nA, n0, nS, nG, List.getElem_cons_zero, List.getElem_cons_succ]
     refine wpAnyH_take (i := 31) (v := .int .i64 m.g) rfl (by kernel_rfl) (by kernel_rfl) (by kernel_rfl) (fun _ _ _ h => h) (Or.inl ⟨by rfl, fun w_ hS_ => by (have c_ := hS_.2.2.2.2; first | (go_simp; done) | (go_simp; rfl))⟩) ⟨(rowCell Zf (0) rfl), (rowAt Zm), (rowCell Zm (3) rfl), (rowCell Zm (26) rfl), (rowCell Zm (23) rfl)⟩ ?_
     try simp only [nP, nN, nA, n0, nS, nG, List.getElem_cons_zero, List.getElem_cons_succ]
     refine wpAnyH_take (i := 32) (v := .bool false) rfl (by kernel_rfl) (by kernel_rfl) (by kernel_rfl) (fun _ _ _ h => h) (Or.inl ⟨by rfl, fun w_ hS_ => by (first | (go_simp; done) | (go_simp; rfl))⟩) ⟨(rowCell Zf (0) rfl), (rowAt Zm), (rowCell Zm (3) rfl), (rowCell Zm (26) rfl), (rowCell Zm (23) rfl)⟩ ?_
     try simp only [nP, nN, nA, n0, nS, nG, List.getElem_cons_zero, List.getElem_cons_succ]
     refine wpAnyH_take (i := 33) (v := .bool false) rfl (by kernel_rfl) (by kernel_rfl) (by kernel_rfl) (fun _ _ _ h => h) (Or.inl ⟨by rfl, fun w_ hS_ => by (first | (go_simp; done) | (go_simp; rfl))⟩) ⟨(rowCell Zf (0) rfl), (rowAt Zm), (rowCell Zm (3) rfl), (rowCell Zm (26) rfl), (rowCell Zm (23) rfl)⟩ ?_
     try simp only [nP, nN, nA, n0, nS, nG, List.getElem_cons_zero, List.getElem_cons_succ]
     refine wpAnyH_take (i := 34) (v := .bool false) rfl (by kernel_rfl) (by kernel_rfl) (by kernel_rfl) (fun _ _ _ h => h) (Or.inl ⟨by rfl, fun w_ hS_ => by (first | (go_simp; done) | (go_simp; rfl))⟩) ⟨(rowCell Zf (0) rfl), (rowAt Zm), (rowCell Zm (3) rfl), (rowCell Zm (26) rfl), (rowCell Zm (23) rfl)⟩ ?_
     try simp only [nP, nN, nA, n0, nS, nG, List.getElem_cons_zero, List.getElem_cons_succ]
     refine wpAnyH_take (i := 35) (v := .pointer (some ⟨w.heap.size, 23, none⟩)) rfl (by kernel_rfl) (by kernel_rfl) (by kernel_rfl) (fun _ _ _ h => h) (Or.inl ⟨by rfl, fun w_ hS_ => by (first | (go_simp; done) | (go_simp; rfl))⟩) ⟨(rowCell Zf (0) rfl), (rowAt Zm), (rowCell Zm (3) rfl), (rowCell Zm (26) rfl), (rowCell Zm (23) rfl)⟩ ?_
     try simp only [nP, nN, nA, n0, nS, nG, List.getElem_cons_zero, List.getElem_cons_succ]
     refine wpAnyH_take (i := 36) (v := .int .i64 m.g) rfl (by kernel_rfl) (by kernel_rfl) (by kernel_rfl) (fun _ _ _ h => h) (Or.inl ⟨by rfl, fun w_ hS_ => by (have c_ := hS_.2.2.2.2; first | (go_simp; done) | (go_simp; rfl))⟩) ⟨(rowCell Zf (0) rfl), (rowAt Zm), (rowCell Zm (3) rfl), (rowCell Zm (26) rfl), (rowCell Zm (23) rfl)⟩ ?_
     try simp only [nP, nN, nA, n0, nS, nG, List.getElem_cons_zero, List.getElem_cons_succ]
     refine wpAnyH_take (i := 37) (v := .bool true) rfl (by kernel_rfl) (by kernel_rfl) (by kernel_rfl) (fun _ _ _ h => h) (Or.inl ⟨by rfl, fun w_ hS_ => by (first | (go_simp; done) | (go_simp; rfl))⟩) ⟨(rowCell Zf (0) rfl), (rowAt Zm), (rowCell Zm (3) rfl), (rowCell Zm (26) rfl), (rowCell Zm (23) rfl)⟩ ?_
     try simp only [nP, nN, nA, n0, nS, nG, List.getElem_cons_zero, List.getElem_cons_succ]
     refine wpAnyH_take (i := 38) (v := .bool true) rfl (by kernel_rfl) (by kernel_rfl) (by kernel_rfl) (fun _ _ _ h => h) (Or.inl ⟨by rfl, fun w_ hS_ => by (first | (go_simp; done) | (go_simp; rfl))⟩) ⟨(rowCell Zf (0) rfl), (rowAt Zm), (rowCell Zm (3) rfl), (rowCell Zm (26) rfl), (rowCell Zm (23) rfl)⟩ ?_
     try simp only [nP, nN, nA, n0, nS, nG, List.getElem_cons_zero, List.getElem_cons_succ]
     refine wpAnyH_take (i := 39) (v := .bool true) rfl (by kernel_rfl) (by kernel_rfl) (by kernel_rfl) (fun _ _ _ h => h) (Or.inl ⟨by rfl, fun w_ hS_ => by (first | (go_simp; done) | (go_simp; rfl))⟩) ⟨(rowCell Zf (0) rfl), (rowAt Zm), (rowCell Zm (3) rfl), (rowCell Zm (26) rfl), (rowCell Zm (23) rfl)⟩ ?_
     try simp only [nP, nN, nA, n0, nS, nG, List.getElem_cons_zero, List.getElem_cons_succ]
     refine wpAnyH_take (i := 40) (v := undef) rfl (by kernel_rfl) (by kernel_rfl) (by kernel_rfl) (fun _ _ _ h => h) (Or.inr ⟨by rfl, rfl⟩) ⟨(rowCell Zf (0) rfl), (rowAt Zm), (rowCell Zm (3) rfl), (rowCell Zm (26) rfl), (rowCell Zm (23) rfl)⟩ ?_
     try simp only [nP, nN, nA, n0, nS, nG, List.getElem_cons_zero, List.getElem_cons_succ]
     refine wpAnyH_take (i := 41) (v := undef) rfl (by kernel_rfl) (by kernel_rfl) (by kernel_rfl) (fun _ _ _ h => h) (Or.inr ⟨by rfl, rfl⟩) ⟨(rowCell Zf (0) rfl), (rowAt Zm), (rowCell Zm (3) rfl), (rowCell Zm (26) rfl), (rowCell Zm (23) rfl)⟩ ?_
     try simp only [nP, nN, nA, n0, nS, nG, List.getElem_cons_zero, List.getElem_cons_succ]
     refine wpAnyH_take (i := 42) (v := undef) rfl (by kernel_rfl) (by kernel_rfl) (by kernel_rfl) (fun _ _ _ h => h) (Or.inr ⟨by rfl, rfl⟩) ⟨(rowCell Zf (0) rfl), (rowAt Zm), (rowCell Zm (3) rfl), (rowCell Zm (26) rfl), (rowCell Zm (23) rfl)⟩ ?_
     try simp only [nP, nN, nA, n0, nS, nG, List.getElem_cons_zero, List.getElem_cons_succ]
     refine wpAnyH_take (i := 43) (v := .bool true) rfl (by kernel_rfl) (by kernel_rfl) (by kernel_rfl) (fun _ _ _ h => h) (Or.inl ⟨by rfl, fun w_ hS_ => by (first | (go_simp; done) | (go_simp; rfl))⟩) ⟨(rowCell Zf (0) rfl), (rowAt Zm), (rowCell Zm (3) rfl), (rowCell Zm (26) rfl), (rowCell Zm (23) rfl)⟩ ?_
     try simp only [nP, nN, nA, n0, nS, nG, List.getElem_cons_zero, List.getElem_cons_succ]
     refine wpAnyH_take (i := 44) (v := .bool true) rfl (by kernel_rfl) (by kernel_rfl) (by kernel_rfl) (fun _ _ _ h => h) (Or.inl ⟨by rfl, fun w_ hS_ => by (first | (go_simp; done) | (go_simp; rfl))⟩) ⟨(rowCell Zf (0) rfl), (rowAt Zm), (rowCell Zm (3) rfl), (rowCell Zm (26) rfl), (rowCell Zm (23) rfl)⟩ ?_
     try simp only [nP, nN, nA, n0, nS, nG, List.getElem_cons_zero, List.getElem_cons_succ]
     refine wpAnyH_take (i := 45) (v := undef) rfl (by kernel_rfl) (by kernel_rfl) (by kernel_rfl) (fun _ _ _ h => h) (Or.inr ⟨by rfl, rfl⟩) ⟨(rowCell Zf (0) rfl), (rowAt Zm), (rowCell Zm (3) rfl), (rowCell Zm (26) rfl), (rowCell Zm (23) rfl)⟩ ?_
     try simp only [nP, nN, nA, n0, nS, nG, List.getElem_cons_zero, List.getElem_cons_succ]
     refine wpAnyH_take (i := 46) (v := undef) rfl (by kernel_rfl) (by kernel_rfl) (by kernel_rfl) (fun _ _ _ h => h) (Or.inr ⟨by rfl, rfl⟩) ⟨(rowCell Zf (0) rfl), (rowAt Zm), (rowCell Zm (3) rfl), (rowCell Zm (26) rfl), (rowCell Zm (23) rfl)⟩ ?_
     try simp only [nP, nN, nA, n0, nS, nG, List.getElem_cons_zero, List.getElem_cons_succ]
     refine wpAnyH_take (i := 47) (v := undef) rfl (by kernel_rfl) (by kernel_rfl) (by kernel_rfl) (fun _ _ _ h => h) (Or.inr ⟨by rfl, rfl⟩) ⟨(rowCell Zf (0) rfl), (rowAt Zm), (rowCell Zm (3) rfl), (rowCell Zm (26) rfl), (rowCell Zm (23) rfl)⟩ ?_
     try simp only [nP, nN, nA, n0, nS, nG, List.getElem_cons_zero, List.getElem_cons_succ]
     refine wpAnyH_take (i := 48) (v := .bool true) rfl (by kernel_rfl) (by kernel_rfl) (by kernel_rfl) (fun _ _ _ h => h) (Or.inl ⟨by rfl, fun w_ hS_ => by (first | (go_simp; done) | (go_simp; rfl))⟩) ⟨(rowCell Zf (0) rfl), (rowAt Zm), (rowCell Zm (3) rfl), (rowCell Zm (26) rfl), (rowCell Zm (23) rfl)⟩ ?_
     try simp only [nP, nN, nA, n0, nS, nG, List.getElem_cons_zero, List.getElem_cons_succ]
     refine wpAnyH_take (i := 49) (v := .bool true) rfl (by kernel_rfl) (by kernel_rfl) (by kernel_rfl) (fun _ _ _ h => h) (Or.inl ⟨by rfl, fun w_ hS_ => by (first | (go_simp; done) | (go_simp; rfl))⟩) ⟨(rowCell Zf (0) rfl), (rowAt Zm), (rowCell Zm (3) rfl), (rowCell Zm (26) rfl), (rowCell Zm (23) rfl)⟩ ?_
     try simp only [nP, nN, nA, n0, nS, nG, List.getElem_cons_zero, List.getElem_cons_succ]
     refine wpAnyH_take (i := 50) (v := undef) rfl (by kernel_rfl) (by kernel_rfl) (by kernel_rfl) (fun _ _ _ h => h) (Or.inr ⟨by rfl, rfl⟩) ⟨(rowCell Zf (0) rfl), (rowAt Zm), (rowCell Zm (3) rfl), (rowCell Zm (26) rfl), (rowCell Zm (23) rfl)⟩ ?_
     try simp only [nP, nN, nA, n0, nS, nG, List.getElem_cons_zero, List.getElem_cons_succ]
     refine wpAnyH_take (i := 51) (v := undef) rfl (by kernel_rfl) (by kernel_rfl) (by kernel_rfl) (fun _ _ _ h => h) (Or.inr ⟨by rfl, rfl⟩) ⟨(rowCell Zf (0) rfl), (rowAt Zm), (rowCell Zm (3) rfl), (rowCell Zm (26) rfl), (rowCell Zm (23) rfl)⟩ ?_
     try simp only [nP, nN, nA, n0, nS, nG, List.getElem_cons_zero, List.getElem_cons_succ]
     refine wpAnyH_take (i := 52) (v := undef) rfl (by kernel_rfl) (by kernel_rfl) (by kernel_rfl) (fun _ _ _ h => h) (Or.inr ⟨by rfl, rfl⟩) ⟨(rowCell Zf (0) rfl), (rowAt Zm), (rowCell Zm (3) rfl), (rowCell Zm (26) rfl), (rowCell Zm (23) rfl)⟩ ?_
     try simp only [nP, nN, nA, n0, nS, nG, List.getElem_cons_zero, List.getElem_cons_succ]
     refine wpAnyH_take (i := 53) (v := undef) rfl (by kernel_rfl) (by kernel_rfl) (by kernel_rfl) (fun _ _ _ h => h) (Or.inr ⟨by rfl, rfl⟩) ⟨(rowCell Zf (0) rfl), (rowAt Zm), (rowCell Zm (3) rfl), (rowCell Zm (26) rfl), (rowCell Zm (23) rfl)⟩ ?_
     try simp only [nP, nN, nA, n0, nS, nG, List.getElem_cons_zero, List.getElem_cons_succ]
     refine wpAnyH_take (i := 54) (v := .bool true) rfl (by kernel_rfl) (by kernel_rfl) (by kernel_rfl) (fun _ _ _ h => h) (Or.inl ⟨by rfl, fun w_ hS_ => by (first | (go_simp; done) | (go_simp; rfl))⟩) ⟨(rowCell Zf (0) rfl), (rowAt Zm), (rowCell Zm (3) rfl), (rowCell Zm (26) rfl), (rowCell Zm (23) rfl)⟩ ?_
     try simp only [nP, nN, nA, n0, nS, nG, List.getElem_cons_zero, List.getElem_cons_succ]
     refine wpAnyH_done (by kernel_rfl) ?_ _
     obtain rfl : R = false := by rw [HFM.out]; simp
     clear HON HSA h0 h2 h3 h4 h5 h6 h7 h8 h9 h10
     go_wp2_with fail
     go_ret
     exact ⟨rfl, ee⟩
    | false =>
     cases d8 with
     | true =>
     have Zm : z3.drew.heap[w.heap.size]? = some (.cells m.cells.toArray 39) := Zm
     have Zf : z3.drew.heap[gf]? = some (.cells ([.string ⟨fs.toArray⟩]).toArray 9) := Zf
     have ee := belowDrewS ee
     refine wp_region_held_drew (S := fun z' => z'.cell? ⟨gf, 0, none⟩ = some (.string ⟨fs.toArray⟩) ∧ z'.rangeAt w.heap.size (0) m.cells ∧ z'.cell? ⟨w.heap.size, 3, none⟩ = some (.int .i64 m.sl) ∧ z'.cell? ⟨w.heap.size, 26, none⟩ = some (.int .i64 m.nu) ∧ z'.cell? ⟨w.heap.size, 23, none⟩ = some (.int .i64 m.g) ∧ z'.cell? ⟨w.heap.size, 32, none⟩ = some (.int .i64 m.er)) (by kernel_rfl) ⟨(rowCell Zf (0) rfl), (rowAt Zm), (rowCell Zm (3) rfl), (rowCell Zm (26) rfl), (rowCell Zm (23) rfl), (rowCell Zm (32) rfl)⟩ (fun hH => ?_)
     clear hH
     generalize z3.drew = z4 at Zm Zf ee ⊢
     refine wpAnyH_take (i := 0) (v := .string ⟨fs.toArray⟩) rfl (by kernel_rfl) (by kernel_rfl) (by kernel_rfl) (fun _ _ _ h => h) (Or.inl ⟨by rfl, fun w_ hS_ => by (have c_ := hS_.1; first | (go_simp; done) | (go_simp; rfl))⟩) ⟨(rowCell Zf (0) rfl), (rowAt Zm), (rowCell Zm (3) rfl), (rowCell Zm (26) rfl), (rowCell Zm (23) rfl), (rowCell Zm (32) rfl)⟩ ?_
     try simp only [nP, nN, nA, n0, nS, nG, List.getElem_cons_zero, List.getElem_cons_succ]
     refine wpAnyH_take (i := 1) (v := .bool false) rfl (by kernel_rfl) (by kernel_rfl) (by kernel_rfl) (fun _ _ _ h => h) (Or.inl ⟨by rfl, fun w_ hS_ => by (first | (go_simp; done) | (go_simp; rfl))⟩) ⟨(rowCell Zf (0) rfl), (rowAt Zm), (rowCell Zm (3) rfl), (rowCell Zm (26) rfl), (rowCell Zm (23) rfl), (rowCell Zm (32) rfl)⟩ ?_
     try simp only [nP, nN, nA, n0, nS, nG, List.getElem_cons_zero, List.getElem_cons_succ]
     refine wpAnyH_take (i := 2) (v := .bool false) rfl (by kernel_rfl) (by kernel_rfl) (by kernel_rfl) (fun _ _ _ h => h) (Or.inl ⟨by rfl, fun w_ hS_ => by (first | (go_simp; done) | (go_simp; rfl))⟩) ⟨(rowCell Zf (0) rfl), (rowAt Zm), (rowCell Zm (3) rfl), (rowCell Zm (26) rfl), (rowCell Zm (23) rfl), (rowCell Zm (32) rfl)⟩ ?_
     try simp only [nP, nN, nA, n0, nS, nG, List.getElem_cons_zero, List.getElem_cons_succ]
     refine wpAnyH_take (i := 3) (v := .agg (m.cells).toArray) rfl (by kernel_rfl) (by kernel_rfl) (by kernel_rfl) (fun _ _ _ h => h) (yieldsIf_load_mid (by rfl) 39 _ rfl (w.heap.size) (0) rfl (m.cells) _ (fun _ h => h.2.1) Tryd.underlying39 rfl sizeMs) ⟨(rowCell Zf (0) rfl), (rowAt Zm), (rowCell Zm (3) rfl), (rowCell Zm (26) rfl), (rowCell Zm (23) rfl), (rowCell Zm (32) rfl)⟩ ?_
     try simp only [nP, nN, nA, n0, nS, nG, List.getElem_cons_zero, List.getElem_cons_succ]
     refine wpAnyH_take (i := 5) (v := .agg (m.cells).toArray) rfl (by kernel_rfl) (by kernel_rfl) (by kernel_rfl) (fun _ _ _ h => h) (yieldsIf_load_mid (by rfl) 39 _ rfl (w.heap.size) (0) rfl (m.cells) _ (fun _ h => h.2.1) Tryd.underlying39 rfl sizeMs) ⟨(rowCell Zf (0) rfl), (rowAt Zm), (rowCell Zm (3) rfl), (rowCell Zm (26) rfl), (rowCell Zm (23) rfl), (rowCell Zm (32) rfl)⟩ ?_
     try simp only [nP, nN, nA, n0, nS, nG, List.getElem_cons_zero, List.getElem_cons_succ]
     refine wpAnyH_ready (rs := [4]) (by kernel_rfl) (by simp) ?_
     refine AllReadyH.cons rfl (fun K hK => ?_) AllReadyH.nil
     rw [if_pos (by rfl)]
     go_simp
     go_wp2_with (go_at_call 41; refine (HON.out z4).mono ?_; rintro e z5 ⟨rfl, t⟩)
     have Zm := hpB Zm t
     have Zf := hpB Zf t
     have ee := ee.trans (t.mono ee.size)
     clear t
     refine hK.out _ _ ⟨(rowCell Zf (0) rfl), (rowAt Zm), (rowCell Zm (3) rfl), (rowCell Zm (26) rfl), (rowCell Zm (23) rfl), (rowCell Zm (32) rfl)⟩ (fun hH => ?_)
     clear hK K hH
     try simp only [nP, nN, nA, n0, nS, nG, List.getElem_cons_zero, List.getElem_cons_succ]
     refine wpAnyH_ready (rs := [6]) (by kernel_rfl) (by simp) ?_
     refine AllReadyH.cons rfl (fun K hK => ?_) AllReadyH.nil
     rw [if_pos (by rfl)]
     go_simp
     go_wp2_with (go_at_call 18; refine (HSA.out z5 ee).mono ?_; rintro e z6 ⟨rfl, t⟩)
     have Zm := hpB Zm t
     have Zf := hpB Zf t
     have ee := ee.trans (t.mono ee.size)
     clear t
     refine hK.out _ _ ⟨(rowCell Zf (0) rfl), (rowAt Zm), (rowCell Zm (3) rfl), (rowCell Zm (26) rfl), (rowCell Zm (23) rfl), (rowCell Zm (32) rfl)⟩ (fun hH => ?_)
     clear hK K hH
     try simp only [nP, nN, nA, n0, nS, nG, List.getElem_cons_zero, List.getElem_cons_succ]
     refine wpAnyH_take (i := 7) (v := .bool false) rfl (by kernel_rfl) (by kernel_rfl) (by kernel_rfl) (fun _ _ _ h => h) (Or.inl ⟨by rfl, fun w_ hS_ => by (first | (go_simp; done) | (go_simp; rfl))⟩) ⟨(rowCell Zf (0) rfl), (rowAt Zm), (rowCell Zm (3) rfl), (rowCell Zm (26) rfl), (rowCell Zm (23) rfl), (rowCell Zm (32) rfl)⟩ ?_
     try simp only [nP, nN, nA, n0, nS, nG, List.getElem_cons_zero, List.getElem_cons_succ]
     refine wpAnyH_take (i := 8) (v := .bool false) rfl (by kernel_rfl) (by kernel_rfl) (by kernel_rfl) (fun _ _ _ h => h) (Or.inl ⟨by rfl, fun w_ hS_ => by (first | (go_simp; done) | (go_simp; rfl))⟩) ⟨(rowCell Zf (0) rfl), (rowAt Zm), (rowCell Zm (3) rfl), (rowCell Zm (26) rfl), (rowCell Zm (23) rfl), (rowCell Zm (32) rfl)⟩ ?_
     try simp only [nP, nN, nA, n0, nS, nG, List.getElem_cons_zero, List.getElem_cons_succ]
     refine wpAnyH_take (i := 9) (v := .bool false) rfl (by kernel_rfl) (by kernel_rfl) (by kernel_rfl) (fun _ _ _ h => h) (Or.inl ⟨by rfl, fun w_ hS_ => by (first | (go_simp; done) | (go_simp; rfl))⟩) ⟨(rowCell Zf (0) rfl), (rowAt Zm), (rowCell Zm (3) rfl), (rowCell Zm (26) rfl), (rowCell Zm (23) rfl), (rowCell Zm (32) rfl)⟩ ?_
     try simp only [nP, nN, nA, n0, nS, nG, List.getElem_cons_zero, List.getElem_cons_succ]
     refine wpAnyH_take (i := 10) (v := .pointer (some ⟨w.heap.size, 3, none⟩)) rfl (by kernel_rfl) (by kernel_rfl) (by kernel_rfl) (fun _ _ _ h => h) (Or.inl ⟨by rfl, fun w_ hS_ => by (first | (go_simp; done) | (go_simp; rfl))⟩) ⟨(rowCell Zf (0) rfl), (rowAt Zm), (rowCell Zm (3) rfl), (rowCell Zm (26) rfl), (rowCell Zm (23) rfl), (rowCell Zm (32) rfl)⟩ ?_
     try simp only [nP, nN, nA, n0, nS, nG, List.getElem_cons_zero, List.getElem_cons_succ]
     refine wpAnyH_take (i := 11) (v := .int .i64 m.sl) rfl (by kernel_rfl) (by kernel_rfl) (by kernel_rfl) (fun _ _ _ h => h) (Or.inl ⟨by rfl, fun w_ hS_ => by (have c_ := hS_.2.2.1; first | (go_simp; done) | (go_simp; rfl))⟩) ⟨(rowCell Zf (0) rfl), (rowAt Zm), (rowCell Zm (3) rfl), (rowCell Zm (26) rfl), (rowCell Zm (23) rfl), (rowCell Zm (32) rfl)⟩ ?_
     try simp only [nP, nN, nA, n0, nS, nG, List.getElem_cons_zero, List.getElem_cons_succ]
     refine wpAnyH_take (i := 12) (v := .bool false) rfl (by kernel_rfl) (by kernel_rfl) (by kernel_rfl) (fun _ _ _ h => h) (Or.inl ⟨by rfl, fun w_ hS_ => by (first | (go_simp; done) | (go_simp; rfl))⟩) ⟨(rowCell Zf (0) rfl), (rowAt Zm), (rowCell Zm (3) rfl), (rowCell Zm (26) rfl), (rowCell Zm (23) rfl), (rowCell Zm (32) rfl)⟩ ?_
     try simp only [nP, nN, nA, n0, nS, nG, List.getElem_cons_zero, List.getElem_cons_succ]
     refine wpAnyH_take (i := 13) (v := .bool false) rfl (by kernel_rfl) (by kernel_rfl) (by kernel_rfl) (fun _ _ _ h => h) (Or.inl ⟨by rfl, fun w_ hS_ => by (first | (go_simp; done) | (go_simp; rfl))⟩) ⟨(rowCell Zf (0) rfl), (rowAt Zm), (rowCell Zm (3) rfl), (rowCell Zm (26) rfl), (rowCell Zm (23) rfl), (rowCell Zm (32) rfl)⟩ ?_
     try simp only [nP, nN, nA, n0, nS, nG, List.getElem_cons_zero, List.getElem_cons_succ]
     refine wpAnyH_take (i := 14) (v := .bool false) rfl (by kernel_rfl) (by kernel_rfl) (by kernel_rfl) (fun _ _ _ h => h) (Or.inl ⟨by rfl, fun w_ hS_ => by (first | (go_simp; done) | (go_simp; rfl))⟩) ⟨(rowCell Zf (0) rfl), (rowAt Zm), (rowCell Zm (3) rfl), (rowCell Zm (26) rfl), (rowCell Zm (23) rfl), (rowCell Zm (32) rfl)⟩ ?_
     try simp only [nP, nN, nA, n0, nS, nG, List.getElem_cons_zero, List.getElem_cons_succ]
     refine wpAnyH_take (i := 15) (v := .pointer (some ⟨w.heap.size, 3, none⟩)) rfl (by kernel_rfl) (by kernel_rfl) (by kernel_rfl) (fun _ _ _ h => h) (Or.inl ⟨by rfl, fun w_ hS_ => by (first | (go_simp; done) | (go_simp; rfl))⟩) ⟨(rowCell Zf (0) rfl), (rowAt Zm), (rowCell Zm (3) rfl), (rowCell Zm (26) rfl), (rowCell Zm (23) rfl), (rowCell Zm (32) rfl)⟩ ?_
     try simp only [nP, nN, nA, n0, nS, nG, List.getElem_cons_zero, List.getElem_cons_succ]
     refine wpAnyH_take (i := 16) (v := .int .i64 m.sl) rfl (by kernel_rfl) (by kernel_rfl) (by kernel_rfl) (fun _ _ _ h => h) (Or.inl ⟨by rfl, fun w_ hS_ => by (have c_ := hS_.2.2.1; first | (go_simp; done) | (go_simp; rfl))⟩) ⟨(rowCell Zf (0) rfl), (rowAt Zm), (rowCell Zm (3) rfl), (rowCell Zm (26) rfl), (rowCell Zm (23) rfl), (rowCell Zm (32) rfl)⟩ ?_
     try simp only [nP, nN, nA, n0, nS, nG, List.getElem_cons_zero, List.getElem_cons_succ]
     refine wpAnyH_take (i := 17) (v := .bool false) rfl (by kernel_rfl) (by kernel_rfl) (by kernel_rfl) (fun _ _ _ h => h) (Or.inl ⟨by rfl, fun w_ hS_ => by (first | (go_simp; done) | (go_simp; rfl))⟩) ⟨(rowCell Zf (0) rfl), (rowAt Zm), (rowCell Zm (3) rfl), (rowCell Zm (26) rfl), (rowCell Zm (23) rfl), (rowCell Zm (32) rfl)⟩ ?_
     try simp only [nP, nN, nA, n0, nS, nG, List.getElem_cons_zero, List.getElem_cons_succ]
     refine wpAnyH_take (i := 18) (v := .bool false) rfl (by kernel_rfl) (by kernel_rfl) (by kernel_rfl) (fun _ _ _ h => h) (Or.inl ⟨by rfl, fun w_ hS_ => by (first | (go_simp; done) | (go_simp; rfl))⟩) ⟨(rowCell Zf (0) rfl), (rowAt Zm), (rowCell Zm (3) rfl), (rowCell Zm (26) rfl), (rowCell Zm (23) rfl), (rowCell Zm (32) rfl)⟩ ?_
     try simp only [nP, nN, nA, n0, nS, nG, List.getElem_cons_zero, List.getElem_cons_succ]
     refine wpAnyH_take (i := 19) (v := .bool false) rfl (by kernel_rfl) (by kernel_rfl) (by kernel_rfl) (fun _ _ _ h => h) (Or.inl ⟨by rfl, fun w_ hS_ => by (first | (go_simp; done) | (go_simp; rfl))⟩) ⟨(rowCell Zf (0) rfl), (rowAt Zm), (rowCell Zm (3) rfl), (rowCell Zm (26) rfl), (rowCell Zm (23) rfl), (rowCell Zm (32) rfl)⟩ ?_
     try simp only [nP, nN, nA, n0, nS, nG, List.getElem_cons_zero, List.getElem_cons_succ]
     refine wpAnyH_take (i := 20) (v := .pointer (some ⟨w.heap.size, 26, none⟩)) rfl (by kernel_rfl) (by kernel_rfl) (by kernel_rfl) (fun _ _ _ h => h) (Or.inl ⟨by rfl, fun w_ hS_ => by (first | (go_simp; done) | (go_simp; rfl))⟩) ⟨(rowCell Zf (0) rfl), (rowAt Zm), (rowCell Zm (3) rfl), (rowCell Zm (26) rfl), (rowCell Zm (23) rfl), (rowCell Zm (32) rfl)⟩ ?_
     try simp only [nP, nN, nA, n0, nS, nG, List.getElem_cons_zero, List.getElem_cons_succ]
     refine wpAnyH_take (i := 21) (v := .int .i64 m.nu) rfl (by kernel_rfl) (by kernel_rfl) (by kernel_rfl) (fun _ _ _ h => h) (Or.inl ⟨by rfl, fun w_ hS_ => by (have c_ := hS_.2.2.2.1; first | (go_simp; done) | (go_simp; rfl))⟩) ⟨(rowCell Zf (0) rfl), (rowAt Zm), (rowCell Zm (3) rfl), (rowCell Zm (26) rfl), (rowCell Zm (23) rfl), (rowCell Zm (32) rfl)⟩ ?_
     try simp only [nP, nN, nA, n0, nS, nG, List.getElem_cons_zero, List.getElem_cons_succ]
     refine wpAnyH_take (i := 22) (v := .bool false) rfl (by kernel_rfl) (by kernel_rfl) (by kernel_rfl) (fun _ _ _ h => h) (Or.inl ⟨by rfl, fun w_ hS_ => by (first | (go_simp; done) | (go_simp; rfl))⟩) ⟨(rowCell Zf (0) rfl), (rowAt Zm), (rowCell Zm (3) rfl), (rowCell Zm (26) rfl), (rowCell Zm (23) rfl), (rowCell Zm (32) rfl)⟩ ?_
     try simp only [nP, nN, nA, n0, nS, nG, List.getElem_cons_zero, List.getElem_cons_succ]
     refine wpAnyH_take (i := 23) (v := .bool false) rfl (by kernel_rfl) (by kernel_rfl) (by kernel_rfl) (fun _ _ _ h => h) (Or.inl ⟨by rfl, fun w_ hS_ => by (first | (go_simp; done) | (go_simp; rfl))⟩) ⟨(rowCell Zf (0) rfl), (rowAt Zm), (rowCell Zm (3) rfl), (rowCell Zm (26) rfl), (rowCell Zm (23) rfl), (rowCell Zm (32) rfl)⟩ ?_
     try simp only [nP, nN, nA, n0, nS, nG, List.getElem_cons_zero, List.getElem_cons_succ]
     refine wpAnyH_take (i := 24) (v := .bool false) rfl (by kernel_rfl) (by kernel_rfl) (by kernel_rfl) (fun _ _ _ h => h) (Or.inl ⟨by rfl, fun w_ hS_ => by (first | (go_simp; done) | (go_simp; rfl))⟩) ⟨(rowCell Zf (0) rfl), (rowAt Zm), (rowCell Zm (3) rfl), (rowCell Zm (26) rfl), (rowCell Zm (23) rfl), (rowCell Zm (32) rfl)⟩ ?_
     try simp only [nP, nN, nA, n0, nS, nG, List.getElem_cons_zero, List.getElem_cons_succ]
     refine wpAnyH_take (i := 25) (v := .pointer (some ⟨w.heap.size, 26, none⟩)) rfl (by kernel_rfl) (by kernel_rfl) (by kernel_rfl) (fun _ _ _ h => h) (Or.inl ⟨by rfl, fun w_ hS_ => by (first | (go_simp; done) | (go_simp; rfl))⟩) ⟨(rowCell Zf (0) rfl), (rowAt Zm), (rowCell Zm (3) rfl), (rowCell Zm (26) rfl), (rowCell Zm (23) rfl), (rowCell Zm (32) rfl)⟩ ?_
     try simp only [nP, nN, nA, n0, nS, nG, List.getElem_cons_zero, List.getElem_cons_succ]
     refine wpAnyH_take (i := 26) (v := .int .i64 m.nu) rfl (by kernel_rfl) (by kernel_rfl) (by kernel_rfl) (fun _ _ _ h => h) (Or.inl ⟨by rfl, fun w_ hS_ => by (have c_ := hS_.2.2.2.1; first | (go_simp; done) | (go_simp; rfl))⟩) ⟨(rowCell Zf (0) rfl), (rowAt Zm), (rowCell Zm (3) rfl), (rowCell Zm (26) rfl), (rowCell Zm (23) rfl), (rowCell Zm (32) rfl)⟩ ?_
     try simp only [nP, nN, nA, n0, nS, nG, List.getElem_cons_zero, List.getElem_cons_succ]
     refine wpAnyH_take (i := 27) (v := .bool false) rfl (by kernel_rfl) (by kernel_rfl) (by kernel_rfl) (fun _ _ _ h => h) (Or.inl ⟨by rfl, fun w_ hS_ => by (first | (go_simp; done) | (go_simp; rfl))⟩) ⟨(rowCell Zf (0) rfl), (rowAt Zm), (rowCell Zm (3) rfl), (rowCell Zm (26) rfl), (rowCell Zm (23) rfl), (rowCell Zm (32) rfl)⟩ ?_
     try simp only [nP, nN, nA, n0, nS, nG, List.getElem_cons_zero, List.getElem_cons_succ]
     refine wpAnyH_take (i := 28) (v := .bool false) rfl (by kernel_rfl) (by kernel_rfl) (by kernel_rfl) (fun _ _ _ h => h) (Or.inl ⟨by rfl, fun w_ hS_ => by (first | (go_simp; done) | (go_simp; rfl))⟩) ⟨(rowCell Zf (0) rfl), (rowAt Zm), (rowCell Zm (3) rfl), (rowCell Zm (26) rfl), (rowCell Zm (23) rfl), (rowCell Zm (32) rfl)⟩ ?_
     try simp only [nP, nN, nA, n0, nS, nG, List.getElem_cons_zero, List.getElem_cons_succ]
     refine wpAnyH_take (i := 29) (v := .bool false) rfl (by kernel_rfl) (by kernel_rfl) (by kernel_rfl) (fun _ _ _ h => h) (Or.inl ⟨by rfl, fun w_ hS_ => by (first | (go_simp; done) | (go_simp; rfl))⟩) ⟨(rowCell Zf (0) rfl), (rowAt Zm), (rowCell Zm (3) rfl), (rowCell Zm (26) rfl), (rowCell Zm (23) rfl), (rowCell Zm (32) rfl)⟩ ?_
     try simp only [nP, nN, nA, n0, nS, nG, List.getElem_cons_zero, List.getElem_cons_succ]
     refine wpAnyH_take (i := 30) (v := .pointer (some ⟨w.heap.size, 23, none⟩)) rfl (by kernel_rfl) (by kernel_rfl) (by kernel_rfl) (fun _ _ _ h => h) (Or.inl ⟨by rfl, fun w_ hS_ => by (first | (go_simp; done) | (go_simp; rfl))⟩) ⟨(rowCell Zf (0) rfl), (rowAt Zm), (rowCell Zm (3) rfl), (rowCell Zm (26) rfl), (rowCell Zm (23) rfl), (rowCell Zm (32) rfl)⟩ ?_
     try simp only [nP, nN, nA, n0, nS, nG, List.getElem_cons_zero, List.getElem_cons_succ]
     refine wpAnyH_take (i := 31) (v := .int .i64 m.g) rfl (by kernel_rfl) (by kernel_rfl) (by kernel_rfl) (fun _ _ _ h => h) (Or.inl ⟨by rfl, fun w_ hS_ => by (have c_ := hS_.2.2.2.2.1; first | (go_simp; done) | (go_simp; rfl))⟩) ⟨(rowCell Zf (0) rfl), (rowAt Zm), (rowCell Zm (3) rfl), (rowCell Zm (26) rfl), (rowCell Zm (23) rfl), (rowCell Zm (32) rfl)⟩ ?_
     try simp only [nP, nN, nA, n0, nS, nG, List.getElem_cons_zero, List.getElem_cons_succ]
     refine wpAnyH_take (i := 32) (v := .bool false) rfl (by kernel_rfl) (by kernel_rfl) (by kernel_rfl) (fun _ _ _ h => h) (Or.inl ⟨by rfl, fun w_ hS_ => by (first | (go_simp; done) | (go_simp; rfl))⟩) ⟨(rowCell Zf (0) rfl), (rowAt Zm), (rowCell Zm (3) rfl), (rowCell Zm (26) rfl), (rowCell Zm (23) rfl), (rowCell Zm (32) rfl)⟩ ?_
     try simp only [nP, nN, nA, n0, nS, nG, List.getElem_cons_zero, List.getElem_cons_succ]
     refine wpAnyH_take (i := 33) (v := .bool false) rfl (by kernel_rfl) (by kernel_rfl) (by kernel_rfl) (fun _ _ _ h => h) (Or.inl ⟨by rfl, fun w_ hS_ => by (first | (go_simp; done) | (go_simp; rfl))⟩) ⟨(rowCell Zf (0) rfl), (rowAt Zm), (rowCell Zm (3) rfl), (rowCell Zm (26) rfl), (rowCell Zm (23) rfl), (rowCell Zm (32) rfl)⟩ ?_
     try simp only [nP, nN, nA, n0, nS, nG, List.getElem_cons_zero, List.getElem_cons_succ]
     refine wpAnyH_take (i := 34) (v := .bool false) rfl (by kernel_rfl) (by kernel_rfl) (by kernel_rfl) (fun _ _ _ h => h) (Or.inl ⟨by rfl, fun w_ hS_ => by (first | (go_simp; done) | (go_simp; rfl))⟩) ⟨(rowCell Zf (0) rfl), (rowAt Zm), (rowCell Zm (3) rfl), (rowCell Zm (26) rfl), (rowCell Zm (23) rfl), (rowCell Zm (32) rfl)⟩ ?_
     try simp only [nP, nN, nA, n0, nS, nG, List.getElem_cons_zero, List.getElem_cons_succ]
     refine wpAnyH_take (i := 35) (v := .pointer (some ⟨w.heap.size, 23, none⟩)) rfl (by kernel_rfl) (by kernel_rfl) (by kernel_rfl) (fun _ _ _ h => h) (Or.inl ⟨by rfl, fun w_ hS_ => by (first | (go_simp; done) | (go_simp; rfl))⟩) ⟨(rowCell Zf (0) rfl), (rowAt Zm), (rowCell Zm (3) rfl), (rowCell Zm (26) rfl), (rowCell Zm (23) rfl), (rowCell Zm (32) rfl)⟩ ?_
     try simp only [nP, nN, nA, n0, nS, nG, List.getElem_cons_zero, List.getElem_cons_succ]
     refine wpAnyH_take (i := 36) (v := .int .i64 m.g) rfl (by kernel_rfl) (by kernel_rfl) (by kernel_rfl) (fun _ _ _ h => h) (Or.inl ⟨by rfl, fun w_ hS_ => by (have c_ := hS_.2.2.2.2.1; first | (go_simp; done) | (go_simp; rfl))⟩) ⟨(rowCell Zf (0) rfl), (rowAt Zm), (rowCell Zm (3) rfl), (rowCell Zm (26) rfl), (rowCell Zm (23) rfl), (rowCell Zm (32) rfl)⟩ ?_
     try simp only [nP, nN, nA, n0, nS, nG, List.getElem_cons_zero, List.getElem_cons_succ]
     refine wpAnyH_take (i := 37) (v := .bool false) rfl (by kernel_rfl) (by kernel_rfl) (by kernel_rfl) (fun _ _ _ h => h) (Or.inl ⟨by rfl, fun w_ hS_ => by (first | (go_simp; done) | (go_simp; rfl))⟩) ⟨(rowCell Zf (0) rfl), (rowAt Zm), (rowCell Zm (3) rfl), (rowCell Zm (26) rfl), (rowCell Zm (23) rfl), (rowCell Zm (32) rfl)⟩ ?_
     try simp only [nP, nN, nA, n0, nS, nG, List.getElem_cons_zero, List.getElem_cons_succ]
     refine wpAnyH_take (i := 38) (v := .bool false) rfl (by kernel_rfl) (by kernel_rfl) (by kernel_rfl) (fun _ _ _ h => h) (Or.inl ⟨by rfl, fun w_ hS_ => by (first | (go_simp; done) | (go_simp; rfl))⟩) ⟨(rowCell Zf (0) rfl), (rowAt Zm), (rowCell Zm (3) rfl), (rowCell Zm (26) rfl), (rowCell Zm (23) rfl), (rowCell Zm (32) rfl)⟩ ?_
     try simp only [nP, nN, nA, n0, nS, nG, List.getElem_cons_zero, List.getElem_cons_succ]
     refine wpAnyH_take (i := 39) (v := .bool false) rfl (by kernel_rfl) (by kernel_rfl) (by kernel_rfl) (fun _ _ _ h => h) (Or.inl ⟨by rfl, fun w_ hS_ => by (first | (go_simp; done) | (go_simp; rfl))⟩) ⟨(rowCell Zf (0) rfl), (rowAt Zm), (rowCell Zm (3) rfl), (rowCell Zm (26) rfl), (rowCell Zm (23) rfl), (rowCell Zm (32) rfl)⟩ ?_
     try simp only [nP, nN, nA, n0, nS, nG, List.getElem_cons_zero, List.getElem_cons_succ]
     refine wpAnyH_take (i := 40) (v := .pointer (some ⟨w.heap.size, 32, none⟩)) rfl (by kernel_rfl) (by kernel_rfl) (by kernel_rfl) (fun _ _ _ h => h) (Or.inl ⟨by rfl, fun w_ hS_ => by (first | (go_simp; done) | (go_simp; rfl))⟩) ⟨(rowCell Zf (0) rfl), (rowAt Zm), (rowCell Zm (3) rfl), (rowCell Zm (26) rfl), (rowCell Zm (23) rfl), (rowCell Zm (32) rfl)⟩ ?_
     try simp only [nP, nN, nA, n0, nS, nG, List.getElem_cons_zero, List.getElem_cons_succ]
     refine wpAnyH_take (i := 41) (v := .int .i64 m.er) rfl (by kernel_rfl) (by kernel_rfl) (by kernel_rfl) (fun _ _ _ h => h) (Or.inl ⟨by rfl, fun w_ hS_ => by (have c_ := hS_.2.2.2.2.2; first | (go_simp; done) | (go_simp; rfl))⟩) ⟨(rowCell Zf (0) rfl), (rowAt Zm), (rowCell Zm (3) rfl), (rowCell Zm (26) rfl), (rowCell Zm (23) rfl), (rowCell Zm (32) rfl)⟩ ?_
     try simp only [nP, nN, nA, n0, nS, nG, List.getElem_cons_zero, List.getElem_cons_succ]
     refine wpAnyH_take (i := 42) (v := .bool true) rfl (by kernel_rfl) (by kernel_rfl) (by kernel_rfl) (fun _ _ _ h => h) (Or.inl ⟨by rfl, fun w_ hS_ => by (first | (go_simp; done) | (go_simp; rfl))⟩) ⟨(rowCell Zf (0) rfl), (rowAt Zm), (rowCell Zm (3) rfl), (rowCell Zm (26) rfl), (rowCell Zm (23) rfl), (rowCell Zm (32) rfl)⟩ ?_
     try simp only [nP, nN, nA, n0, nS, nG, List.getElem_cons_zero, List.getElem_cons_succ]
     refine wpAnyH_take (i := 43) (v := .bool true) rfl (by kernel_rfl) (by kernel_rfl) (by kernel_rfl) (fun _ _ _ h => h) (Or.inl ⟨by rfl, fun w_ hS_ => by (first | (go_simp; done) | (go_simp; rfl))⟩) ⟨(rowCell Zf (0) rfl), (rowAt Zm), (rowCell Zm (3) rfl), (rowCell Zm (26) rfl), (rowCell Zm (23) rfl), (rowCell Zm (32) rfl)⟩ ?_
     try simp only [nP, nN, nA, n0, nS, nG, List.getElem_cons_zero, List.getElem_cons_succ]
     refine wpAnyH_take (i := 44) (v := .bool true) rfl (by kernel_rfl) (by kernel_rfl) (by kernel_rfl) (fun _ _ _ h => h) (Or.inl ⟨by rfl, fun w_ hS_ => by (first | (go_simp; done) | (go_simp; rfl))⟩) ⟨(rowCell Zf (0) rfl), (rowAt Zm), (rowCell Zm (3) rfl), (rowCell Zm (26) rfl), (rowCell Zm (23) rfl), (rowCell Zm (32) rfl)⟩ ?_
     try simp only [nP, nN, nA, n0, nS, nG, List.getElem_cons_zero, List.getElem_cons_succ]
     refine wpAnyH_take (i := 45) (v := undef) rfl (by kernel_rfl) (by kernel_rfl) (by kernel_rfl) (fun _ _ _ h => h) (Or.inr ⟨by rfl, rfl⟩) ⟨(rowCell Zf (0) rfl), (rowAt Zm), (rowCell Zm (3) rfl), (rowCell Zm (26) rfl), (rowCell Zm (23) rfl), (rowCell Zm (32) rfl)⟩ ?_
     try simp only [nP, nN, nA, n0, nS, nG, List.getElem_cons_zero, List.getElem_cons_succ]
     refine wpAnyH_take (i := 46) (v := undef) rfl (by kernel_rfl) (by kernel_rfl) (by kernel_rfl) (fun _ _ _ h => h) (Or.inr ⟨by rfl, rfl⟩) ⟨(rowCell Zf (0) rfl), (rowAt Zm), (rowCell Zm (3) rfl), (rowCell Zm (26) rfl), (rowCell Zm (23) rfl), (rowCell Zm (32) rfl)⟩ ?_
     try simp only [nP, nN, nA, n0, nS, nG, List.getElem_cons_zero, List.getElem_cons_succ]
     refine wpAnyH_take (i := 47) (v := undef) rfl (by kernel_rfl) (by kernel_rfl) (by kernel_rfl) (fun _ _ _ h => h) (Or.inr ⟨by rfl, rfl⟩) ⟨(rowCell Zf (0) rfl), (rowAt Zm), (rowCell Zm (3) rfl), (rowCell Zm (26) rfl), (rowCell Zm (23) rfl), (rowCell Zm (32) rfl)⟩ ?_
     try simp only [nP, nN, nA, n0, nS, nG, List.getElem_cons_zero, List.getElem_cons_succ]
     refine wpAnyH_take (i := 48) (v := .bool true) rfl (by kernel_rfl) (by kernel_rfl) (by kernel_rfl) (fun _ _ _ h => h) (Or.inl ⟨by rfl, fun w_ hS_ => by (first | (go_simp; done) | (go_simp; rfl))⟩) ⟨(rowCell Zf (0) rfl), (rowAt Zm), (rowCell Zm (3) rfl), (rowCell Zm (26) rfl), (rowCell Zm (23) rfl), (rowCell Zm (32) rfl)⟩ ?_
     try simp only [nP, nN, nA, n0, nS, nG, List.getElem_cons_zero, List.getElem_cons_succ]
     refine wpAnyH_take (i := 49) (v := .bool true) rfl (by kernel_rfl) (by kernel_rfl) (by kernel_rfl) (fun _ _ _ h => h) (Or.inl ⟨by rfl, fun w_ hS_ => by (first | (go_simp; done) | (go_simp; rfl))⟩) ⟨(rowCell Zf (0) rfl), (rowAt Zm), (rowCell Zm (3) rfl), (rowCell Zm (26) rfl), (rowCell Zm (23) rfl), (rowCell Zm (32) rfl)⟩ ?_
     try simp only [nP, nN, nA, n0, nS, nG, List.getElem_cons_zero, List.getElem_cons_succ]
     refine wpAnyH_take (i := 50) (v := undef) rfl (by kernel_rfl) (by kernel_rfl) (by kernel_rfl) (fun _ _ _ h => h) (Or.inr ⟨by rfl, rfl⟩) ⟨(rowCell Zf (0) rfl), (rowAt Zm), (rowCell Zm (3) rfl), (rowCell Zm (26) rfl), (rowCell Zm (23) rfl), (rowCell Zm (32) rfl)⟩ ?_
     try simp only [nP, nN, nA, n0, nS, nG, List.getElem_cons_zero, List.getElem_cons_succ]
     refine wpAnyH_take (i := 51) (v := undef) rfl (by kernel_rfl) (by kernel_rfl) (by kernel_rfl) (fun _ _ _ h => h) (Or.inr ⟨by rfl, rfl⟩) ⟨(rowCell Zf (0) rfl), (rowAt Zm), (rowCell Zm (3) rfl), (rowCell Zm (26) rfl), (rowCell Zm (23) rfl), (rowCell Zm (32) rfl)⟩ ?_
     try simp only [nP, nN, nA, n0, nS, nG, List.getElem_cons_zero, List.getElem_cons_succ]
     refine wpAnyH_take (i := 52) (v := undef) rfl (by kernel_rfl) (by kernel_rfl) (by kernel_rfl) (fun _ _ _ h => h) (Or.inr ⟨by rfl, rfl⟩) ⟨(rowCell Zf (0) rfl), (rowAt Zm), (rowCell Zm (3) rfl), (rowCell Zm (26) rfl), (rowCell Zm (23) rfl), (rowCell Zm (32) rfl)⟩ ?_
     try simp only [nP, nN, nA, n0, nS, nG, List.getElem_cons_zero, List.getElem_cons_succ]
     refine wpAnyH_take (i := 53) (v := undef) rfl (by kernel_rfl) (by kernel_rfl) (by kernel_rfl) (fun _ _ _ h => h) (Or.inr ⟨by rfl, rfl⟩) ⟨(rowCell Zf (0) rfl), (rowAt Zm), (rowCell Zm (3) rfl), (rowCell Zm (26) rfl), (rowCell Zm (23) rfl), (rowCell Zm (32) rfl)⟩ ?_
     try simp only [nP, nN, nA, n0, nS, nG, List.getElem_cons_zero, List.getElem_cons_succ]
     refine wpAnyH_take (i := 54) (v := .bool true) rfl (by kernel_rfl) (by kernel_rfl) (by kernel_rfl) (fun _ _ _ h => h) (Or.inl ⟨by rfl, fun w_ hS_ => by (first | (go_simp; done) | (go_simp; rfl))⟩) ⟨(rowCell Zf (0) rfl), (rowAt Zm), (rowCell Zm (3) rfl), (rowCell Zm (26) rfl), (rowCell Zm (23) rfl), (rowCell Zm (32) rfl)⟩ ?_
     try simp only [nP, nN, nA, n0, nS, nG, List.getElem_cons_zero, List.getElem_cons_succ]
     refine wpAnyH_done (by kernel_rfl) ?_ _
     obtain rfl : R = false := by rw [HFM.out]; simp
     clear HON HSA h0 h2 h3 h4 h5 h6 h7 h8 h9 h10
     go_wp2_with fail
     go_ret
     exact ⟨rfl, ee⟩
     | false =>
     cases d9 with
     | true =>
      have Zm : z3.drew.heap[w.heap.size]? = some (.cells m.cells.toArray 39) := Zm
      have Zf : z3.drew.heap[gf]? = some (.cells ([.string ⟨fs.toArray⟩]).toArray 9) := Zf
      have ee := belowDrewS ee
      refine wp_region_held_drew (S := fun z' => z'.cell? ⟨gf, 0, none⟩ = some (.string ⟨fs.toArray⟩) ∧ z'.rangeAt w.heap.size (0) m.cells ∧ z'.cell? ⟨w.heap.size, 3, none⟩ = some (.int .i64 m.sl) ∧ z'.cell? ⟨w.heap.size, 26, none⟩ = some (.int .i64 m.nu) ∧ z'.cell? ⟨w.heap.size, 23, none⟩ = some (.int .i64 m.g) ∧ z'.cell? ⟨w.heap.size, 32, none⟩ = some (.int .i64 m.er)) (by kernel_rfl) ⟨(rowCell Zf (0) rfl), (rowAt Zm), (rowCell Zm (3) rfl), (rowCell Zm (26) rfl), (rowCell Zm (23) rfl), (rowCell Zm (32) rfl)⟩ (fun hH => ?_)
      clear hH
      generalize z3.drew = z4 at Zm Zf ee ⊢
      refine wpAnyH_take (i := 0) (v := .string ⟨fs.toArray⟩) rfl (by kernel_rfl) (by kernel_rfl) (by kernel_rfl) (fun _ _ _ h => h) (Or.inl ⟨by rfl, fun w_ hS_ => by (have c_ := hS_.1; first | (go_simp; done) | (go_simp; rfl))⟩) ⟨(rowCell Zf (0) rfl), (rowAt Zm), (rowCell Zm (3) rfl), (rowCell Zm (26) rfl), (rowCell Zm (23) rfl), (rowCell Zm (32) rfl)⟩ ?_
      try simp only [nP, nN, nA, n0, nS, nG, List.getElem_cons_zero, List.getElem_cons_succ]
      refine wpAnyH_take (i := 1) (v := .bool false) rfl (by kernel_rfl) (by kernel_rfl) (by kernel_rfl) (fun _ _ _ h => h) (Or.inl ⟨by rfl, fun w_ hS_ => by (first | (go_simp; done) | (go_simp; rfl))⟩) ⟨(rowCell Zf (0) rfl), (rowAt Zm), (rowCell Zm (3) rfl), (rowCell Zm (26) rfl), (rowCell Zm (23) rfl), (rowCell Zm (32) rfl)⟩ ?_
      try simp only [nP, nN, nA, n0, nS, nG, List.getElem_cons_zero, List.getElem_cons_succ]
      refine wpAnyH_take (i := 2) (v := .bool false) rfl (by kernel_rfl) (by kernel_rfl) (by kernel_rfl) (fun _ _ _ h => h) (Or.inl ⟨by rfl, fun w_ hS_ => by (first | (go_simp; done) | (go_simp; rfl))⟩) ⟨(rowCell Zf (0) rfl), (rowAt Zm), (rowCell Zm (3) rfl), (rowCell Zm (26) rfl), (rowCell Zm (23) rfl), (rowCell Zm (32) rfl)⟩ ?_
      try simp only [nP, nN, nA, n0, nS, nG, List.getElem_cons_zero, List.getElem_cons_succ]
      refine wpAnyH_take (i := 3) (v := .agg (m.cells).toArray) rfl (by kernel_rfl) (by kernel_rfl) (by kernel_rfl) (fun _ _ _ h => h) (yieldsIf_load_mid (by rfl) 39 _ rfl (w.heap.size) (0) rfl (m.cells) _ (fun _ h => h.2.1) Tryd.underlying39 rfl sizeMs) ⟨(rowCell Zf (0) rfl), (rowAt Zm), (rowCell Zm (3) rfl), (rowCell Zm (26) rfl), (rowCell Zm (23) rfl), (rowCell Zm (32) rfl)⟩ ?_
      try simp only [nP, nN, nA, n0, nS, nG, List.getElem_cons_zero, List.getElem_cons_succ]
      refine wpAnyH_take (i := 5) (v := .agg (m.cells).toArray) rfl (by kernel_rfl) (by kernel_rfl) (by kernel_rfl) (fun _ _ _ h => h) (yieldsIf_load_mid (by rfl) 39 _ rfl (w.heap.size) (0) rfl (m.cells) _ (fun _ h => h.2.1) Tryd.underlying39 rfl sizeMs) ⟨(rowCell Zf (0) rfl), (rowAt Zm), (rowCell Zm (3) rfl), (rowCell Zm (26) rfl), (rowCell Zm (23) rfl), (rowCell Zm (32) rfl)⟩ ?_
      try simp only [nP, nN, nA, n0, nS, nG, List.getElem_cons_zero, List.getElem_cons_succ]
      refine wpAnyH_ready (rs := [4]) (by kernel_rfl) (by simp) ?_
      refine AllReadyH.cons rfl (fun K hK => ?_) AllReadyH.nil
      rw [if_pos (by rfl)]
      go_simp
      go_wp2_with (go_at_call 41; refine (HON.out z4).mono ?_; rintro e z5 ⟨rfl, t⟩)
      have Zm := hpB Zm t
      have Zf := hpB Zf t
      have ee := ee.trans (t.mono ee.size)
      clear t
      refine hK.out _ _ ⟨(rowCell Zf (0) rfl), (rowAt Zm), (rowCell Zm (3) rfl), (rowCell Zm (26) rfl), (rowCell Zm (23) rfl), (rowCell Zm (32) rfl)⟩ (fun hH => ?_)
      clear hK K hH
      try simp only [nP, nN, nA, n0, nS, nG, List.getElem_cons_zero, List.getElem_cons_succ]
      refine wpAnyH_ready (rs := [6]) (by kernel_rfl) (by simp) ?_
      refine AllReadyH.cons rfl (fun K hK => ?_) AllReadyH.nil
      rw [if_pos (by rfl)]
      go_simp
      go_wp2_with (go_at_call 18; refine (HSA.out z5 ee).mono ?_; rintro e z6 ⟨rfl, t⟩)
      have Zm := hpB Zm t
      have Zf := hpB Zf t
      have ee := ee.trans (t.mono ee.size)
      clear t
      refine hK.out _ _ ⟨(rowCell Zf (0) rfl), (rowAt Zm), (rowCell Zm (3) rfl), (rowCell Zm (26) rfl), (rowCell Zm (23) rfl), (rowCell Zm (32) rfl)⟩ (fun hH => ?_)
      clear hK K hH
      try simp only [nP, nN, nA, n0, nS, nG, List.getElem_cons_zero, List.getElem_cons_succ]
      refine wpAnyH_take (i := 7) (v := .bool false) rfl (by kernel_rfl) (by kernel_rfl) (by kernel_rfl) (fun _ _ _ h => h) (Or.inl ⟨by rfl, fun w_ hS_ => by (first | (go_simp; done) | (go_simp; rfl))⟩) ⟨(rowCell Zf (0) rfl), (rowAt Zm), (rowCell Zm (3) rfl), (rowCell Zm (26) rfl), (rowCell Zm (23) rfl), (rowCell Zm (32) rfl)⟩ ?_
      try simp only [nP, nN, nA, n0, nS, nG, List.getElem_cons_zero, List.getElem_cons_succ]
      refine wpAnyH_take (i := 8) (v := .bool false) rfl (by kernel_rfl) (by kernel_rfl) (by kernel_rfl) (fun _ _ _ h => h) (Or.inl ⟨by rfl, fun w_ hS_ => by (first | (go_simp; done) | (go_simp; rfl))⟩) ⟨(rowCell Zf (0) rfl), (rowAt Zm), (rowCell Zm (3) rfl), (rowCell Zm (26) rfl), (rowCell Zm (23) rfl), (rowCell Zm (32) rfl)⟩ ?_
      try simp only [nP, nN, nA, n0, nS, nG, List.getElem_cons_zero, List.getElem_cons_succ]
      refine wpAnyH_take (i := 9) (v := .bool false) rfl (by kernel_rfl) (by kernel_rfl) (by kernel_rfl) (fun _ _ _ h => h) (Or.inl ⟨by rfl, fun w_ hS_ => by (first | (go_simp; done) | (go_simp; rfl))⟩) ⟨(rowCell Zf (0) rfl), (rowAt Zm), (rowCell Zm (3) rfl), (rowCell Zm (26) rfl), (rowCell Zm (23) rfl), (rowCell Zm (32) rfl)⟩ ?_
      try simp only [nP, nN, nA, n0, nS, nG, List.getElem_cons_zero, List.getElem_cons_succ]
      refine wpAnyH_take (i := 10) (v := .pointer (some ⟨w.heap.size, 3, none⟩)) rfl (by kernel_rfl) (by kernel_rfl) (by kernel_rfl) (fun _ _ _ h => h) (Or.inl ⟨by rfl, fun w_ hS_ => by (first | (go_simp; done) | (go_simp; rfl))⟩) ⟨(rowCell Zf (0) rfl), (rowAt Zm), (rowCell Zm (3) rfl), (rowCell Zm (26) rfl), (rowCell Zm (23) rfl), (rowCell Zm (32) rfl)⟩ ?_
      try simp only [nP, nN, nA, n0, nS, nG, List.getElem_cons_zero, List.getElem_cons_succ]
      refine wpAnyH_take (i := 11) (v := .int .i64 m.sl) rfl (by kernel_rfl) (by kernel_rfl) (by kernel_rfl) (fun _ _ _ h => h) (Or.inl ⟨by rfl, fun w_ hS_ => by (have c_ := hS_.2.2.1; first | (go_simp; done) | (go_simp; rfl))⟩) ⟨(rowCell Zf (0) rfl), (rowAt Zm), (rowCell Zm (3) rfl), (rowCell Zm (26) rfl), (rowCell Zm (23) rfl), (rowCell Zm (32) rfl)⟩ ?_
      try simp only [nP, nN, nA, n0, nS, nG, List.getElem_cons_zero, List.getElem_cons_succ]
      refine wpAnyH_take (i := 12) (v := .bool false) rfl (by kernel_rfl) (by kernel_rfl) (by kernel_rfl) (fun _ _ _ h => h) (Or.inl ⟨by rfl, fun w_ hS_ => by (first | (go_simp; done) | (go_simp; rfl))⟩) ⟨(rowCell Zf (0) rfl), (rowAt Zm), (rowCell Zm (3) rfl), (rowCell Zm (26) rfl), (rowCell Zm (23) rfl), (rowCell Zm (32) rfl)⟩ ?_
      try simp only [nP, nN, nA, n0, nS, nG, List.getElem_cons_zero, List.getElem_cons_succ]
      refine wpAnyH_take (i := 13) (v := .bool false) rfl (by kernel_rfl) (by kernel_rfl) (by kernel_rfl) (fun _ _ _ h => h) (Or.inl ⟨by rfl, fun w_ hS_ => by (first | (go_simp; done) | (go_simp; rfl))⟩) ⟨(rowCell Zf (0) rfl), (rowAt Zm), (rowCell Zm (3) rfl), (rowCell Zm (26) rfl), (rowCell Zm (23) rfl), (rowCell Zm (32) rfl)⟩ ?_
      try simp only [nP, nN, nA, n0, nS, nG, List.getElem_cons_zero, List.getElem_cons_succ]
      refine wpAnyH_take (i := 14) (v := .bool false) rfl (by kernel_rfl) (by kernel_rfl) (by kernel_rfl) (fun _ _ _ h => h) (Or.inl ⟨by rfl, fun w_ hS_ => by (first | (go_simp; done) | (go_simp; rfl))⟩) ⟨(rowCell Zf (0) rfl), (rowAt Zm), (rowCell Zm (3) rfl), (rowCell Zm (26) rfl), (rowCell Zm (23) rfl), (rowCell Zm (32) rfl)⟩ ?_
      try simp only [nP, nN, nA, n0, nS, nG, List.getElem_cons_zero, List.getElem_cons_succ]
      refine wpAnyH_take (i := 15) (v := .pointer (some ⟨w.heap.size, 3, none⟩)) rfl (by kernel_rfl) (by kernel_rfl) (by kernel_rfl) (fun _ _ _ h => h) (Or.inl ⟨by rfl, fun w_ hS_ => by (first | (go_simp; done) | (go_simp; rfl))⟩) ⟨(rowCell Zf (0) rfl), (rowAt Zm), (rowCell Zm (3) rfl), (rowCell Zm (26) rfl), (rowCell Zm (23) rfl), (rowCell Zm (32) rfl)⟩ ?_
      try simp only [nP, nN, nA, n0, nS, nG, List.getElem_cons_zero, List.getElem_cons_succ]
      refine wpAnyH_take (i := 16) (v := .int .i64 m.sl) rfl (by kernel_rfl) (by kernel_rfl) (by kernel_rfl) (fun _ _ _ h => h) (Or.inl ⟨by rfl, fun w_ hS_ => by (have c_ := hS_.2.2.1; first | (go_simp; done) | (go_simp; rfl))⟩) ⟨(rowCell Zf (0) rfl), (rowAt Zm), (rowCell Zm (3) rfl), (rowCell Zm (26) rfl), (rowCell Zm (23) rfl), (rowCell Zm (32) rfl)⟩ ?_
      try simp only [nP, nN, nA, n0, nS, nG, List.getElem_cons_zero, List.getElem_cons_succ]
      refine wpAnyH_take (i := 17) (v := .bool false) rfl (by kernel_rfl) (by kernel_rfl) (by kernel_rfl) (fun _ _ _ h => h) (Or.inl ⟨by rfl, fun w_ hS_ => by (first | (go_simp; done) | (go_simp; rfl))⟩) ⟨(rowCell Zf (0) rfl), (rowAt Zm), (rowCell Zm (3) rfl), (rowCell Zm (26) rfl), (rowCell Zm (23) rfl), (rowCell Zm (32) rfl)⟩ ?_
      try simp only [nP, nN, nA, n0, nS, nG, List.getElem_cons_zero, List.getElem_cons_succ]
      refine wpAnyH_take (i := 18) (v := .bool false) rfl (by kernel_rfl) (by kernel_rfl) (by kernel_rfl) (fun _ _ _ h => h) (Or.inl ⟨by rfl, fun w_ hS_ => by (first | (go_simp; done) | (go_simp; rfl))⟩) ⟨(rowCell Zf (0) rfl), (rowAt Zm), (rowCell Zm (3) rfl), (rowCell Zm (26) rfl), (rowCell Zm (23) rfl), (rowCell Zm (32) rfl)⟩ ?_
      try simp only [nP, nN, nA, n0, nS, nG, List.getElem_cons_zero, List.getElem_cons_succ]
      refine wpAnyH_take (i := 19) (v := .bool false) rfl (by kernel_rfl) (by kernel_rfl) (by kernel_rfl) (fun _ _ _ h => h) (Or.inl ⟨by rfl, fun w_ hS_ => by (first | (go_simp; done) | (go_simp; rfl))⟩) ⟨(rowCell Zf (0) rfl), (rowAt Zm), (rowCell Zm (3) rfl), (rowCell Zm (26) rfl), (rowCell Zm (23) rfl), (rowCell Zm (32) rfl)⟩ ?_
      try simp only [nP, nN, nA, n0, nS, nG, List.getElem_cons_zero, List.getElem_cons_succ]
      refine wpAnyH_take (i := 20) (v := .pointer (some ⟨w.heap.size, 26, none⟩)) rfl (by kernel_rfl) (by kernel_rfl) (by kernel_rfl) (fun _ _ _ h => h) (Or.inl ⟨by rfl, fun w_ hS_ => by (first | (go_simp; done) | (go_simp; rfl))⟩) ⟨(rowCell Zf (0) rfl), (rowAt Zm), (rowCell Zm (3) rfl), (rowCell Zm (26) rfl), (rowCell Zm (23) rfl), (rowCell Zm (32) rfl)⟩ ?_
      try simp only [nP, nN, nA, n0, nS, nG, List.getElem_cons_zero, List.getElem_cons_succ]
      refine wpAnyH_take (i := 21) (v := .int .i64 m.nu) rfl (by kernel_rfl) (by kernel_rfl) (by kernel_rfl) (fun _ _ _ h => h) (Or.inl ⟨by rfl, fun w_ hS_ => by (have c_ := hS_.2.2.2.1; first | (go_simp; done) | (go_simp; rfl))⟩) ⟨(rowCell Zf (0) rfl), (rowAt Zm), (rowCell Zm (3) rfl), (rowCell Zm (26) rfl), (rowCell Zm (23) rfl), (rowCell Zm (32) rfl)⟩ ?_
      try simp only [nP, nN, nA, n0, nS, nG, List.getElem_cons_zero, List.getElem_cons_succ]
      refine wpAnyH_take (i := 22) (v := .bool false) rfl (by kernel_rfl) (by kernel_rfl) (by kernel_rfl) (fun _ _ _ h => h) (Or.inl ⟨by rfl, fun w_ hS_ => by (first | (go_simp; done) | (go_simp; rfl))⟩) ⟨(rowCell Zf (0) rfl), (rowAt Zm), (rowCell Zm (3) rfl), (rowCell Zm (26) rfl), (rowCell Zm (23) rfl), (rowCell Zm (32) rfl)⟩ ?_
      try simp only [nP, nN, nA, n0, nS, nG, List.getElem_cons_zero, List.getElem_cons_succ]
      refine wpAnyH_take (i := 23) (v := .bool false) rfl (by kernel_rfl) (by kernel_rfl) (by kernel_rfl) (fun _ _ _ h => h) (Or.inl ⟨by rfl, fun w_ hS_ => by (first | (go_simp; done) | (go_simp; rfl))⟩) ⟨(rowCell Zf (0) rfl), (rowAt Zm), (rowCell Zm (3) rfl), (rowCell Zm (26) rfl), (rowCell Zm (23) rfl), (rowCell Zm (32) rfl)⟩ ?_
      try simp only [nP, nN, nA, n0, nS, nG, List.getElem_cons_zero, List.getElem_cons_succ]
      refine wpAnyH_take (i := 24) (v := .bool false) rfl (by kernel_rfl) (by kernel_rfl) (by kernel_rfl) (fun _ _ _ h => h) (Or.inl ⟨by rfl, fun w_ hS_ => by (first | (go_simp; done) | (go_simp; rfl))⟩) ⟨(rowCell Zf (0) rfl), (rowAt Zm), (rowCell Zm (3) rfl), (rowCell Zm (26) rfl), (rowCell Zm (23) rfl), (rowCell Zm (32) rfl)⟩ ?_
      try simp only [nP, nN, nA, n0, nS, nG, List.getElem_cons_zero, List.getElem_cons_succ]
      refine wpAnyH_take (i := 25) (v := .pointer (some ⟨w.heap.size, 26, none⟩)) rfl (by kernel_rfl) (by kernel_rfl) (by kernel_rfl) (fun _ _ _ h => h) (Or.inl ⟨by rfl, fun w_ hS_ => by (first | (go_simp; done) | (go_simp; rfl))⟩) ⟨(rowCell Zf (0) rfl), (rowAt Zm), (rowCell Zm (3) rfl), (rowCell Zm (26) rfl), (rowCell Zm (23) rfl), (rowCell Zm (32) rfl)⟩ ?_
      try simp only [nP, nN, nA, n0, nS, nG, List.getElem_cons_zero, List.getElem_cons_succ]
      refine wpAnyH_take (i := 26) (v := .int .i64 m.nu) rfl (by kernel_rfl) (by kernel_rfl) (by kernel_rfl) (fun _ _ _ h => h) (Or.inl ⟨by rfl, fun w_ hS_ => by (have c_ := hS_.2.2.2.1; first | (go_simp; done) | (go_simp; rfl))⟩) ⟨(rowCell Zf (0) rfl), (rowAt Zm), (rowCell Zm (3) rfl), (rowCell Zm (26) rfl), (rowCell Zm (23) rfl), (rowCell Zm (32) rfl)⟩ ?_
      try simp only [nP, nN, nA, n0, nS, nG, List.getElem_cons_zero, List.getElem_cons_succ]
      refine wpAnyH_take (i := 27) (v := .bool false) rfl (by kernel_rfl) (by kernel_rfl) (by kernel_rfl) (fun _ _ _ h => h) (Or.inl ⟨by rfl, fun w_ hS_ => by (first | (go_simp; done) | (go_simp; rfl))⟩) ⟨(rowCell Zf (0) rfl), (rowAt Zm), (rowCell Zm (3) rfl), (rowCell Zm (26) rfl), (rowCell Zm (23) rfl), (rowCell Zm (32) rfl)⟩ ?_
      try simp only [nP, nN, nA, n0, nS, nG, List.getElem_cons_zero, List.getElem_cons_succ]
      refine wpAnyH_take (i := 28) (v := .bool false) rfl (by kernel_rfl) (by kernel_rfl) (by kernel_rfl) (fun _ _ _ h => h) (Or.inl ⟨by rfl, fun w_ hS_ => by (first | (go_simp; done) | (go_simp; rfl))⟩) ⟨(rowCell Zf (0) rfl), (rowAt Zm), (rowCell Zm (3) rfl), (rowCell Zm (26) rfl), (rowCell Zm (23) rfl), (rowCell Zm (32) rfl)⟩ ?_
      try simp only [nP, nN, nA, n0, nS, nG, List.getElem_cons_zero, List.getElem_cons_succ]
      refine wpAnyH_take (i := 29) (v := .bool false) rfl (by kernel_rfl) (by kernel_rfl) (by kernel_rfl) (fun _ _ _ h => h) (Or.inl ⟨by rfl, fun w_ hS_ => by (first | (go_simp; done) | (go_simp; rfl))⟩) ⟨(rowCell Zf (0) rfl), (rowAt Zm), (rowCell Zm (3) rfl), (rowCell Zm (26) rfl), (rowCell Zm (23) rfl), (rowCell Zm (32) rfl)⟩ ?_
      try simp only [nP, nN, nA, n0, nS, nG, List.getElem_cons_zero, List.getElem_cons_succ]
      refine wpAnyH_take (i := 30) (v := .pointer (some ⟨w.heap.size, 23, none⟩)) rfl (by kernel_rfl) (by kernel_rfl) (by kernel_rfl) (fun _ _ _ h => h) (Or.inl ⟨by rfl, fun w_ hS_ => by (first | (go_simp; done) | (go_simp; rfl))⟩) ⟨(rowCell Zf (0) rfl), (rowAt Zm), (rowCell Zm (3) rfl), (rowCell Zm (26) rfl), (rowCell Zm (23) rfl), (rowCell Zm (32) rfl)⟩ ?_
      try simp only [nP, nN, nA, n0, nS, nG, List.getElem_cons_zero, List.getElem_cons_succ]
      refine wpAnyH_take (i := 31) (v := .int .i64 m.g) rfl (by kernel_rfl) (by kernel_rfl) (by kernel_rfl) (fun _ _ _ h => h) (Or.inl ⟨by rfl, fun w_ hS_ => by (have c_ := hS_.2.2.2.2.1; first | (go_simp; done) | (go_simp; rfl))⟩) ⟨(rowCell Zf (0) rfl), (rowAt Zm), (rowCell Zm (3) rfl), (rowCell Zm (26) rfl), (rowCell Zm (23) rfl), (rowCell Zm (32) rfl)⟩ ?_
      try simp only [nP, nN, nA, n0, nS, nG, List.getElem_cons_zero, List.getElem_cons_succ]
      refine wpAnyH_take (i := 32) (v := .bool false) rfl (by kernel_rfl) (by kernel_rfl) (by kernel_rfl) (fun _ _ _ h => h) (Or.inl ⟨by rfl, fun w_ hS_ => by (first | (go_simp; done) | (go_simp; rfl))⟩) ⟨(rowCell Zf (0) rfl), (rowAt Zm), (rowCell Zm (3) rfl), (rowCell Zm (26) rfl), (rowCell Zm (23) rfl), (rowCell Zm (32) rfl)⟩ ?_
      try simp only [nP, nN, nA, n0, nS, nG, List.getElem_cons_zero, List.getElem_cons_succ]
      refine wpAnyH_take (i := 33) (v := .bool false) rfl (by kernel_rfl) (by kernel_rfl) (by kernel_rfl) (fun _ _ _ h => h) (Or.inl ⟨by rfl, fun w_ hS_ => by (first | (go_simp; done) | (go_simp; rfl))⟩) ⟨(rowCell Zf (0) rfl), (rowAt Zm), (rowCell Zm (3) rfl), (rowCell Zm (26) rfl), (rowCell Zm (23) rfl), (rowCell Zm (32) rfl)⟩ ?_
      try simp only [nP, nN, nA, n0, nS, nG, List.getElem_cons_zero, List.getElem_cons_succ]
      refine wpAnyH_take (i := 34) (v := .bool false) rfl (by kernel_rfl) (by kernel_rfl) (by kernel_rfl) (fun _ _ _ h => h) (Or.inl ⟨by rfl, fun w_ hS_ => by (first | (go_simp; done) | (go_simp; rfl))⟩) ⟨(rowCell Zf (0) rfl), (rowAt Zm), (rowCell Zm (3) rfl), (rowCell Zm (26) rfl), (rowCell Zm (23) rfl), (rowCell Zm (32) rfl)⟩ ?_
      try simp only [nP, nN, nA, n0, nS, nG, List.getElem_cons_zero, List.getElem_cons_succ]
      refine wpAnyH_take (i := 35) (v := .pointer (some ⟨w.heap.size, 23, none⟩)) rfl (by kernel_rfl) (by kernel_rfl) (by kernel_rfl) (fun _ _ _ h => h) (Or.inl ⟨by rfl, fun w_ hS_ => by (first | (go_simp; done) | (go_simp; rfl))⟩) ⟨(rowCell Zf (0) rfl), (rowAt Zm), (rowCell Zm (3) rfl), (rowCell Zm (26) rfl), (rowCell Zm (23) rfl), (rowCell Zm (32) rfl)⟩ ?_
      try simp only [nP, nN, nA, n0, nS, nG, List.getElem_cons_zero, List.getElem_cons_succ]
      refine wpAnyH_take (i := 36) (v := .int .i64 m.g) rfl (by kernel_rfl) (by kernel_rfl) (by kernel_rfl) (fun _ _ _ h => h) (Or.inl ⟨by rfl, fun w_ hS_ => by (have c_ := hS_.2.2.2.2.1; first | (go_simp; done) | (go_simp; rfl))⟩) ⟨(rowCell Zf (0) rfl), (rowAt Zm), (rowCell Zm (3) rfl), (rowCell Zm (26) rfl), (rowCell Zm (23) rfl), (rowCell Zm (32) rfl)⟩ ?_
      try simp only [nP, nN, nA, n0, nS, nG, List.getElem_cons_zero, List.getElem_cons_succ]
      refine wpAnyH_take (i := 37) (v := .bool false) rfl (by kernel_rfl) (by kernel_rfl) (by kernel_rfl) (fun _ _ _ h => h) (Or.inl ⟨by rfl, fun w_ hS_ => by (first | (go_simp; done) | (go_simp; rfl))⟩) ⟨(rowCell Zf (0) rfl), (rowAt Zm), (rowCell Zm (3) rfl), (rowCell Zm (26) rfl), (rowCell Zm (23) rfl), (rowCell Zm (32) rfl)⟩ ?_
      try simp only [nP, nN, nA, n0, nS, nG, List.getElem_cons_zero, List.getElem_cons_succ]
      refine wpAnyH_take (i := 38) (v := .bool false) rfl (by kernel_rfl) (by kernel_rfl) (by kernel_rfl) (fun _ _ _ h => h) (Or.inl ⟨by rfl, fun w_ hS_ => by (first | (go_simp; done) | (go_simp; rfl))⟩) ⟨(rowCell Zf (0) rfl), (rowAt Zm), (rowCell Zm (3) rfl), (rowCell Zm (26) rfl), (rowCell Zm (23) rfl), (rowCell Zm (32) rfl)⟩ ?_
      try simp only [nP, nN, nA, n0, nS, nG, List.getElem_cons_zero, List.getElem_cons_succ]
      refine wpAnyH_take (i := 39) (v := .bool false) rfl (by kernel_rfl) (by kernel_rfl) (by kernel_rfl) (fun _ _ _ h => h) (Or.inl ⟨by rfl, fun w_ hS_ => by (first | (go_simp; done) | (go_simp; rfl))⟩) ⟨(rowCell Zf (0) rfl), (rowAt Zm), (rowCell Zm (3) rfl), (rowCell Zm (26) rfl), (rowCell Zm (23) rfl), (rowCell Zm (32) rfl)⟩ ?_
      try simp only [nP, nN, nA, n0, nS, nG, List.getElem_cons_zero, List.getElem_cons_succ]
      refine wpAnyH_take (i := 40) (v := .pointer (some ⟨w.heap.size, 32, none⟩)) rfl (by kernel_rfl) (by kernel_rfl) (by kernel_rfl) (fun _ _ _ h => h) (Or.inl ⟨by rfl, fun w_ hS_ => by (first | (go_simp; done) | (go_simp; rfl))⟩) ⟨(rowCell Zf (0) rfl), (rowAt Zm), (rowCell Zm (3) rfl), (rowCell Zm (26) rfl), (rowCell Zm (23) rfl), (rowCell Zm (32) rfl)⟩ ?_
      try simp only [nP, nN, nA, n0, nS, nG, List.getElem_cons_zero, List.getElem_cons_succ]
      refine wpAnyH_take (i := 41) (v := .int .i64 m.er) rfl (by kernel_rfl) (by kernel_rfl) (by kernel_rfl) (fun _ _ _ h => h) (Or.inl ⟨by rfl, fun w_ hS_ => by (have c_ := hS_.2.2.2.2.2; first | (go_simp; done) | (go_simp; rfl))⟩) ⟨(rowCell Zf (0) rfl), (rowAt Zm), (rowCell Zm (3) rfl), (rowCell Zm (26) rfl), (rowCell Zm (23) rfl), (rowCell Zm (32) rfl)⟩ ?_
      try simp only [nP, nN, nA, n0, nS, nG, List.getElem_cons_zero, List.getElem_cons_succ]
      refine wpAnyH_take (i := 42) (v := .bool false) rfl (by kernel_rfl) (by kernel_rfl) (by kernel_rfl) (fun _ _ _ h => h) (Or.inl ⟨by rfl, fun w_ hS_ => by (first | (go_simp; done) | (go_simp; rfl))⟩) ⟨(rowCell Zf (0) rfl), (rowAt Zm), (rowCell Zm (3) rfl), (rowCell Zm (26) rfl), (rowCell Zm (23) rfl), (rowCell Zm (32) rfl)⟩ ?_
      try simp only [nP, nN, nA, n0, nS, nG, List.getElem_cons_zero, List.getElem_cons_succ]
      refine wpAnyH_take (i := 43) (v := .bool false) rfl (by kernel_rfl) (by kernel_rfl) (by kernel_rfl) (fun _ _ _ h => h) (Or.inl ⟨by rfl, fun w_ hS_ => by (first | (go_simp; done) | (go_simp; rfl))⟩) ⟨(rowCell Zf (0) rfl), (rowAt Zm), (rowCell Zm (3) rfl), (rowCell Zm (26) rfl), (rowCell Zm (23) rfl), (rowCell Zm (32) rfl)⟩ ?_
      try simp only [nP, nN, nA, n0, nS, nG, List.getElem_cons_zero, List.getElem_cons_succ]
      refine wpAnyH_take (i := 44) (v := .bool false) rfl (by kernel_rfl) (by kernel_rfl) (by kernel_rfl) (fun _ _ _ h => h) (Or.inl ⟨by rfl, fun w_ hS_ => by (first | (go_simp; done) | (go_simp; rfl))⟩) ⟨(rowCell Zf (0) rfl), (rowAt Zm), (rowCell Zm (3) rfl), (rowCell Zm (26) rfl), (rowCell Zm (23) rfl), (rowCell Zm (32) rfl)⟩ ?_
      try simp only [nP, nN, nA, n0, nS, nG, List.getElem_cons_zero, List.getElem_cons_succ]
      refine wpAnyH_take (i := 45) (v := .pointer (some ⟨w.heap.size, 32, none⟩)) rfl (by kernel_rfl) (by kernel_rfl) (by kernel_rfl) (fun _ _ _ h => h) (Or.inl ⟨by rfl, fun w_ hS_ => by (first | (go_simp; done) | (go_simp; rfl))⟩) ⟨(rowCell Zf (0) rfl), (rowAt Zm), (rowCell Zm (3) rfl), (rowCell Zm (26) rfl), (rowCell Zm (23) rfl), (rowCell Zm (32) rfl)⟩ ?_
      try simp only [nP, nN, nA, n0, nS, nG, List.getElem_cons_zero, List.getElem_cons_succ]
      refine wpAnyH_take (i := 46) (v := .int .i64 m.er) rfl (by kernel_rfl) (by kernel_rfl) (by kernel_rfl) (fun _ _ _ h => h) (Or.inl ⟨by rfl, fun w_ hS_ => by (have c_ := hS_.2.2.2.2.2; first | (go_simp; done) | (go_simp; rfl))⟩) ⟨(rowCell Zf (0) rfl), (rowAt Zm), (rowCell Zm (3) rfl), (rowCell Zm (26) rfl), (rowCell Zm (23) rfl), (rowCell Zm (32) rfl)⟩ ?_
      try simp only [nP, nN, nA, n0, nS, nG, List.getElem_cons_zero, List.getElem_cons_succ]
      refine wpAnyH_take (i := 47) (v := .bool true) rfl (by kernel_rfl) (by kernel_rfl) (by kernel_rfl) (fun _ _ _ h => h) (Or.inl ⟨by rfl, fun w_ hS_ => by (first | (go_simp; done) | (go_simp; rfl))⟩) ⟨(rowCell Zf (0) rfl), (rowAt Zm), (rowCell Zm (3) rfl), (rowCell Zm (26) rfl), (rowCell Zm (23) rfl), (rowCell Zm (32) rfl)⟩ ?_
      try simp only [nP, nN, nA, n0, nS, nG, List.getElem_cons_zero, List.getElem_cons_succ]
      refine wpAnyH_take (i := 48) (v := .bool true) rfl (by kernel_rfl) (by kernel_rfl) (by kernel_rfl) (fun _ _ _ h => h) (Or.inl ⟨by rfl, fun w_ hS_ => by (first | (go_simp; done) | (go_simp; rfl))⟩) ⟨(rowCell Zf (0) rfl), (rowAt Zm), (rowCell Zm (3) rfl), (rowCell Zm (26) rfl), (rowCell Zm (23) rfl), (rowCell Zm (32) rfl)⟩ ?_
      try simp only [nP, nN, nA, n0, nS, nG, List.getElem_cons_zero, List.getElem_cons_succ]
      refine wpAnyH_take (i := 49) (v := .bool true) rfl (by kernel_rfl) (by kernel_rfl) (by kernel_rfl) (fun _ _ _ h => h) (Or.inl ⟨by rfl, fun w_ hS_ => by (first | (go_simp; done) | (go_simp; rfl))⟩) ⟨(rowCell Zf (0) rfl), (rowAt Zm), (rowCell Zm (3) rfl), (rowCell Zm (26) rfl), (rowCell Zm (23) rfl), (rowCell Zm (32) rfl)⟩ ?_
      try simp only [nP, nN, nA, n0, nS, nG, List.getElem_cons_zero, List.getElem_cons_succ]
      refine wpAnyH_take (i := 50) (v := undef) rfl (by kernel_rfl) (by kernel_rfl) (by kernel_rfl) (fun _ _ _ h => h) (Or.inr ⟨by rfl, rfl⟩) ⟨(rowCell Zf (0) rfl), (rowAt Zm), (rowCell Zm (3) rfl), (rowCell Zm (26) rfl), (rowCell Zm (23) rfl), (rowCell Zm (32) rfl)⟩ ?_
      try simp only [nP, nN, nA, n0, nS, nG, List.getElem_cons_zero, List.getElem_cons_succ]
      refine wpAnyH_take (i := 51) (v := undef) rfl (by kernel_rfl) (by kernel_rfl) (by kernel_rfl) (fun _ _ _ h => h) (Or.inr ⟨by rfl, rfl⟩) ⟨(rowCell Zf (0) rfl), (rowAt Zm), (rowCell Zm (3) rfl), (rowCell Zm (26) rfl), (rowCell Zm (23) rfl), (rowCell Zm (32) rfl)⟩ ?_
      try simp only [nP, nN, nA, n0, nS, nG, List.getElem_cons_zero, List.getElem_cons_succ]
      refine wpAnyH_take (i := 52) (v := undef) rfl (by kernel_rfl) (by kernel_rfl) (by kernel_rfl) (fun _ _ _ h => h) (Or.inr ⟨by rfl, rfl⟩) ⟨(rowCell Zf (0) rfl), (rowAt Zm), (rowCell Zm (3) rfl), (rowCell Zm (26) rfl), (rowCell Zm (23) rfl), (rowCell Zm (32) rfl)⟩ ?_
      try simp only [nP, nN, nA, n0, nS, nG, List.getElem_cons_zero, List.getElem_cons_succ]
      refine wpAnyH_take (i := 53) (v := undef) rfl (by kernel_rfl) (by kernel_rfl) (by kernel_rfl) (fun _ _ _ h => h) (Or.inr ⟨by rfl, rfl⟩) ⟨(rowCell Zf (0) rfl), (rowAt Zm), (rowCell Zm (3) rfl), (rowCell Zm (26) rfl), (rowCell Zm (23) rfl), (rowCell Zm (32) rfl)⟩ ?_
      try simp only [nP, nN, nA, n0, nS, nG, List.getElem_cons_zero, List.getElem_cons_succ]
      refine wpAnyH_take (i := 54) (v := .bool true) rfl (by kernel_rfl) (by kernel_rfl) (by kernel_rfl) (fun _ _ _ h => h) (Or.inl ⟨by rfl, fun w_ hS_ => by (first | (go_simp; done) | (go_simp; rfl))⟩) ⟨(rowCell Zf (0) rfl), (rowAt Zm), (rowCell Zm (3) rfl), (rowCell Zm (26) rfl), (rowCell Zm (23) rfl), (rowCell Zm (32) rfl)⟩ ?_
      try simp only [nP, nN, nA, n0, nS, nG, List.getElem_cons_zero, List.getElem_cons_succ]
      refine wpAnyH_done (by kernel_rfl) ?_ _
      obtain rfl : R = false := by rw [HFM.out]; simp
      clear HON HSA h0 h2 h3 h4 h5 h6 h7 h8 h9 h10
      go_wp2_with fail
      go_ret
      exact ⟨rfl, ee⟩
     | false =>
      cases d10 with
      | true =>
      have Zm : z3.drew.heap[w.heap.size]? = some (.cells m.cells.toArray 39) := Zm
      have Zf : z3.drew.heap[gf]? = some (.cells ([.string ⟨fs.toArray⟩]).toArray 9) := Zf
      have ee := belowDrewS ee
      refine wp_region_held_drew (S := fun z' => z'.cell? ⟨gf, 0, none⟩ = some (.string ⟨fs.toArray⟩) ∧ z'.rangeAt w.heap.size (0) m.cells ∧ z'.cell? ⟨w.heap.size, 3, none⟩ = some (.int .i64 m.sl) ∧ z'.cell? ⟨w.heap.size, 26, none⟩ = some (.int .i64 m.nu) ∧ z'.cell? ⟨w.heap.size, 23, none⟩ = some (.int .i64 m.g) ∧ z'.cell? ⟨w.heap.size, 32, none⟩ = some (.int .i64 m.er) ∧ z'.cell? ⟨w.heap.size, 33, none⟩ = some (.slice m.D m.dt.length m.dc)) (by kernel_rfl) ⟨(rowCell Zf (0) rfl), (rowAt Zm), (rowCell Zm (3) rfl), (rowCell Zm (26) rfl), (rowCell Zm (23) rfl), (rowCell Zm (32) rfl), (rowCell Zm (33) rfl)⟩ (fun hH => ?_)
      clear hH
      generalize z3.drew = z4 at Zm Zf ee ⊢
      refine wpAnyH_take (i := 0) (v := .string ⟨fs.toArray⟩) rfl (by kernel_rfl) (by kernel_rfl) (by kernel_rfl) (fun _ _ _ h => h) (Or.inl ⟨by rfl, fun w_ hS_ => by (have c_ := hS_.1; first | (go_simp; done) | (go_simp; rfl))⟩) ⟨(rowCell Zf (0) rfl), (rowAt Zm), (rowCell Zm (3) rfl), (rowCell Zm (26) rfl), (rowCell Zm (23) rfl), (rowCell Zm (32) rfl), (rowCell Zm (33) rfl)⟩ ?_
      try simp only [nP, nN, nA, n0, nS, nG, List.getElem_cons_zero, List.getElem_cons_succ]
      refine wpAnyH_take (i := 1) (v := .bool false) rfl (by kernel_rfl) (by kernel_rfl) (by kernel_rfl) (fun _ _ _ h => h) (Or.inl ⟨by rfl, fun w_ hS_ => by (first | (go_simp; done) | (go_simp; rfl))⟩) ⟨(rowCell Zf (0) rfl), (rowAt Zm), (rowCell Zm (3) rfl), (rowCell Zm (26) rfl), (rowCell Zm (23) rfl), (rowCell Zm (32) rfl), (rowCell Zm (33) rfl)⟩ ?_
      try simp only [nP, nN, nA, n0, nS, nG, List.getElem_cons_zero, List.getElem_cons_succ]
      refine wpAnyH_take (i := 2) (v := .bool false) rfl (by kernel_rfl) (by kernel_rfl) (by kernel_rfl) (fun _ _ _ h => h) (Or.inl ⟨by rfl, fun w_ hS_ => by (first | (go_simp; done) | (go_simp; rfl))⟩) ⟨(rowCell Zf (0) rfl), (rowAt Zm), (rowCell Zm (3) rfl), (rowCell Zm (26) rfl), (rowCell Zm (23) rfl), (rowCell Zm (32) rfl), (rowCell Zm (33) rfl)⟩ ?_
      try simp only [nP, nN, nA, n0, nS, nG, List.getElem_cons_zero, List.getElem_cons_succ]
      refine wpAnyH_take (i := 3) (v := .agg (m.cells).toArray) rfl (by kernel_rfl) (by kernel_rfl) (by kernel_rfl) (fun _ _ _ h => h) (yieldsIf_load_mid (by rfl) 39 _ rfl (w.heap.size) (0) rfl (m.cells) _ (fun _ h => h.2.1) Tryd.underlying39 rfl sizeMs) ⟨(rowCell Zf (0) rfl), (rowAt Zm), (rowCell Zm (3) rfl), (rowCell Zm (26) rfl), (rowCell Zm (23) rfl), (rowCell Zm (32) rfl), (rowCell Zm (33) rfl)⟩ ?_
      try simp only [nP, nN, nA, n0, nS, nG, List.getElem_cons_zero, List.getElem_cons_succ]
      refine wpAnyH_take (i := 5) (v := .agg (m.cells).toArray) rfl (by kernel_rfl) (by kernel_rfl) (by kernel_rfl) (fun _ _ _ h => h) (yieldsIf_load_mid (by rfl) 39 _ rfl (w.heap.size) (0) rfl (m.cells) _ (fun _ h => h.2.1) Tryd.underlying39 rfl sizeMs) ⟨(rowCell Zf (0) rfl), (rowAt Zm), (rowCell Zm (3) rfl), (rowCell Zm (26) rfl), (rowCell Zm (23) rfl), (rowCell Zm (32) rfl), (rowCell Zm (33) rfl)⟩ ?_
      try simp only [nP, nN, nA, n0, nS, nG, List.getElem_cons_zero, List.getElem_cons_succ]
      refine wpAnyH_ready (rs := [4]) (by kernel_rfl) (by simp) ?_
      refine AllReadyH.cons rfl (fun K hK => ?_) AllReadyH.nil
      rw [if_pos (by rfl)]
      go_simp
      go_wp2_with (go_at_call 41; refine (HON.out z4).mono ?_; rintro e z5 ⟨rfl, t⟩)
      have Zm := hpB Zm t
      have Zf := hpB Zf t
      have ee := ee.trans (t.mono ee.size)
      clear t
      refine hK.out _ _ ⟨(rowCell Zf (0) rfl), (rowAt Zm), (rowCell Zm (3) rfl), (rowCell Zm (26) rfl), (rowCell Zm (23) rfl), (rowCell Zm (32) rfl), (rowCell Zm (33) rfl)⟩ (fun hH => ?_)
      clear hK K hH
      try simp only [nP, nN, nA, n0, nS, nG, List.getElem_cons_zero, List.getElem_cons_succ]
      refine wpAnyH_ready (rs := [6]) (by kernel_rfl) (by simp) ?_
      refine AllReadyH.cons rfl (fun K hK => ?_) AllReadyH.nil
      rw [if_pos (by rfl)]
      go_simp
      go_wp2_with (go_at_call 18; refine (HSA.out z5 ee).mono ?_; rintro e z6 ⟨rfl, t⟩)
      have Zm := hpB Zm t
      have Zf := hpB Zf t
      have ee := ee.trans (t.mono ee.size)
      clear t
      refine hK.out _ _ ⟨(rowCell Zf (0) rfl), (rowAt Zm), (rowCell Zm (3) rfl), (rowCell Zm (26) rfl), (rowCell Zm (23) rfl), (rowCell Zm (32) rfl), (rowCell Zm (33) rfl)⟩ (fun hH => ?_)
      clear hK K hH
      try simp only [nP, nN, nA, n0, nS, nG, List.getElem_cons_zero, List.getElem_cons_succ]
      refine wpAnyH_take (i := 7) (v := .bool false) rfl (by kernel_rfl) (by kernel_rfl) (by kernel_rfl) (fun _ _ _ h => h) (Or.inl ⟨by rfl, fun w_ hS_ => by (first | (go_simp; done) | (go_simp; rfl))⟩) ⟨(rowCell Zf (0) rfl), (rowAt Zm), (rowCell Zm (3) rfl), (rowCell Zm (26) rfl), (rowCell Zm (23) rfl), (rowCell Zm (32) rfl), (rowCell Zm (33) rfl)⟩ ?_
      try simp only [nP, nN, nA, n0, nS, nG, List.getElem_cons_zero, List.getElem_cons_succ]
      refine wpAnyH_take (i := 8) (v := .bool false) rfl (by kernel_rfl) (by kernel_rfl) (by kernel_rfl) (fun _ _ _ h => h) (Or.inl ⟨by rfl, fun w_ hS_ => by (first | (go_simp; done) | (go_simp; rfl))⟩) ⟨(rowCell Zf (0) rfl), (rowAt Zm), (rowCell Zm (3) rfl), (rowCell Zm (26) rfl), (rowCell Zm (23) rfl), (rowCell Zm (32) rfl), (rowCell Zm (33) rfl)⟩ ?_
      try simp only [nP, nN, nA, n0, nS, nG, List.getElem_cons_zero, List.getElem_cons_succ]
      refine wpAnyH_take (i := 9) (v := .bool false) rfl (by kernel_rfl) (by kernel_rfl) (by kernel_rfl) (fun _ _ _ h => h) (Or.inl ⟨by rfl, fun w_ hS_ => by (first | (go_simp; done) | (go_simp; rfl))⟩) ⟨(rowCell Zf (0) rfl), (rowAt Zm), (rowCell Zm (3) rfl), (rowCell Zm (26) rfl), (rowCell Zm (23) rfl), (rowCell Zm (32) rfl), (rowCell Zm (33) rfl)⟩ ?_
      try simp only [nP, nN, nA, n0, nS, nG, List.getElem_cons_zero, List.getElem_cons_succ]
      refine wpAnyH_take (i := 10) (v := .pointer (some ⟨w.heap.size, 3, none⟩)) rfl (by kernel_rfl) (by kernel_rfl) (by kernel_rfl) (fun _ _ _ h => h) (Or.inl ⟨by rfl, fun w_ hS_ => by (first | (go_simp; done) | (go_simp; rfl))⟩) ⟨(rowCell Zf (0) rfl), (rowAt Zm), (rowCell Zm (3) rfl), (rowCell Zm (26) rfl), (rowCell Zm (23) rfl), (rowCell Zm (32) rfl), (rowCell Zm (33) rfl)⟩ ?_
      try simp only [nP, nN, nA, n0, nS, nG, List.getElem_cons_zero, List.getElem_cons_succ]
      refine wpAnyH_take (i := 11) (v := .int .i64 m.sl) rfl (by kernel_rfl) (by kernel_rfl) (by kernel_rfl) (fun _ _ _ h => h) (Or.inl ⟨by rfl, fun w_ hS_ => by (have c_ := hS_.2.2.1; first | (go_simp; done) | (go_simp; rfl))⟩) ⟨(rowCell Zf (0) rfl), (rowAt Zm), (rowCell Zm (3) rfl), (rowCell Zm (26) rfl), (rowCell Zm (23) rfl), (rowCell Zm (32) rfl), (rowCell Zm (33) rfl)⟩ ?_
      try simp only [nP, nN, nA, n0, nS, nG, List.getElem_cons_zero, List.getElem_cons_succ]
      refine wpAnyH_take (i := 12) (v := .bool false) rfl (by kernel_rfl) (by kernel_rfl) (by kernel_rfl) (fun _ _ _ h => h) (Or.inl ⟨by rfl, fun w_ hS_ => by (first | (go_simp; done) | (go_simp; rfl))⟩) ⟨(rowCell Zf (0) rfl), (rowAt Zm), (rowCell Zm (3) rfl), (rowCell Zm (26) rfl), (rowCell Zm (23) rfl), (rowCell Zm (32) rfl), (rowCell Zm (33) rfl)⟩ ?_
      try simp only [nP, nN, nA, n0, nS, nG, List.getElem_cons_zero, List.getElem_cons_succ]
      refine wpAnyH_take (i := 13) (v := .bool false) rfl (by kernel_rfl) (by kernel_rfl) (by kernel_rfl) (fun _ _ _ h => h) (Or.inl ⟨by rfl, fun w_ hS_ => by (first | (go_simp; done) | (go_simp; rfl))⟩) ⟨(rowCell Zf (0) rfl), (rowAt Zm), (rowCell Zm (3) rfl), (rowCell Zm (26) rfl), (rowCell Zm (23) rfl), (rowCell Zm (32) rfl), (rowCell Zm (33) rfl)⟩ ?_
      try simp only [nP, nN, nA, n0, nS, nG, List.getElem_cons_zero, List.getElem_cons_succ]
      refine wpAnyH_take (i := 14) (v := .bool false) rfl (by kernel_rfl) (by kernel_rfl) (by kernel_rfl) (fun _ _ _ h => h) (Or.inl ⟨by rfl, fun w_ hS_ => by (first | (go_simp; done) | (go_simp; rfl))⟩) ⟨(rowCell Zf (0) rfl), (rowAt Zm), (rowCell Zm (3) rfl), (rowCell Zm (26) rfl), (rowCell Zm (23) rfl), (rowCell Zm (32) rfl), (rowCell Zm (33) rfl)⟩ ?_
      try simp only [nP, nN, nA, n0, nS, nG, List.getElem_cons_zero, List.getElem_cons_succ]
      refine wpAnyH_take (i := 15) (v := .pointer (some ⟨w.heap.size, 3, none⟩)) rfl (by kernel_rfl) (by kernel_rfl) (by kernel_rfl) (fun _ _ _ h => h) (Or.inl ⟨by rfl, fun w_ hS_ => by (first | (go_simp; done) | (go_simp; rfl))⟩) ⟨(rowCell Zf (0) rfl), (rowAt Zm), (rowCell Zm (3) rfl), (rowCell Zm (26) rfl), (rowCell Zm (23) rfl), (rowCell Zm (32) rfl), (rowCell Zm (33) rfl)⟩ ?_
      try simp only [nP, nN, nA, n0, nS, nG, List.getElem_cons_zero, List.getElem_cons_succ]
      refine wpAnyH_take (i := 16) (v := .int .i64 m.sl) rfl (by kernel_rfl) (by kernel_rfl) (by kernel_rfl) (fun _ _ _ h => h) (Or.inl ⟨by rfl, fun w_ hS_ => by (have c_ := hS_.2.2.1; first | (go_simp; done) | (go_simp; rfl))⟩) ⟨(rowCell Zf (0) rfl), (rowAt Zm), (rowCell Zm (3) rfl), (rowCell Zm (26) rfl), (rowCell Zm (23) rfl), (rowCell Zm (32) rfl), (rowCell Zm (33) rfl)⟩ ?_
      try simp only [nP, nN, nA, n0, nS, nG, List.getElem_cons_zero, List.getElem_cons_succ]
      refine wpAnyH_take (i := 17) (v := .bool false) rfl (by kernel_rfl) (by kernel_rfl) (by kernel_rfl) (fun _ _ _ h => h) (Or.inl ⟨by rfl, fun w_ hS_ => by (first | (go_simp; done) | (go_simp; rfl))⟩) ⟨(rowCell Zf (0) rfl), (rowAt Zm), (rowCell Zm (3) rfl), (rowCell Zm (26) rfl), (rowCell Zm (23) rfl), (rowCell Zm (32) rfl), (rowCell Zm (33) rfl)⟩ ?_
      try simp only [nP, nN, nA, n0, nS, nG, List.getElem_cons_zero, List.getElem_cons_succ]
      refine wpAnyH_take (i := 18) (v := .bool false) rfl (by kernel_rfl) (by kernel_rfl) (by kernel_rfl) (fun _ _ _ h => h) (Or.inl ⟨by rfl, fun w_ hS_ => by (first | (go_simp; done) | (go_simp; rfl))⟩) ⟨(rowCell Zf (0) rfl), (rowAt Zm), (rowCell Zm (3) rfl), (rowCell Zm (26) rfl), (rowCell Zm (23) rfl), (rowCell Zm (32) rfl), (rowCell Zm (33) rfl)⟩ ?_
      try simp only [nP, nN, nA, n0, nS, nG, List.getElem_cons_zero, List.getElem_cons_succ]
      refine wpAnyH_take (i := 19) (v := .bool false) rfl (by kernel_rfl) (by kernel_rfl) (by kernel_rfl) (fun _ _ _ h => h) (Or.inl ⟨by rfl, fun w_ hS_ => by (first | (go_simp; done) | (go_simp; rfl))⟩) ⟨(rowCell Zf (0) rfl), (rowAt Zm), (rowCell Zm (3) rfl), (rowCell Zm (26) rfl), (rowCell Zm (23) rfl), (rowCell Zm (32) rfl), (rowCell Zm (33) rfl)⟩ ?_
      try simp only [nP, nN, nA, n0, nS, nG, List.getElem_cons_zero, List.getElem_cons_succ]
      refine wpAnyH_take (i := 20) (v := .pointer (some ⟨w.heap.size, 26, none⟩)) rfl (by kernel_rfl) (by kernel_rfl) (by kernel_rfl) (fun _ _ _ h => h) (Or.inl ⟨by rfl, fun w_ hS_ => by (first | (go_simp; done) | (go_simp; rfl))⟩) ⟨(rowCell Zf (0) rfl), (rowAt Zm), (rowCell Zm (3) rfl), (rowCell Zm (26) rfl), (rowCell Zm (23) rfl), (rowCell Zm (32) rfl), (rowCell Zm (33) rfl)⟩ ?_
      try simp only [nP, nN, nA, n0, nS, nG, List.getElem_cons_zero, List.getElem_cons_succ]
      refine wpAnyH_take (i := 21) (v := .int .i64 m.nu) rfl (by kernel_rfl) (by kernel_rfl) (by kernel_rfl) (fun _ _ _ h => h) (Or.inl ⟨by rfl, fun w_ hS_ => by (have c_ := hS_.2.2.2.1; first | (go_simp; done) | (go_simp; rfl))⟩) ⟨(rowCell Zf (0) rfl), (rowAt Zm), (rowCell Zm (3) rfl), (rowCell Zm (26) rfl), (rowCell Zm (23) rfl), (rowCell Zm (32) rfl), (rowCell Zm (33) rfl)⟩ ?_
      try simp only [nP, nN, nA, n0, nS, nG, List.getElem_cons_zero, List.getElem_cons_succ]
      refine wpAnyH_take (i := 22) (v := .bool false) rfl (by kernel_rfl) (by kernel_rfl) (by kernel_rfl) (fun _ _ _ h => h) (Or.inl ⟨by rfl, fun w_ hS_ => by (first | (go_simp; done) | (go_simp; rfl))⟩) ⟨(rowCell Zf (0) rfl), (rowAt Zm), (rowCell Zm (3) rfl), (rowCell Zm (26) rfl), (rowCell Zm (23) rfl), (rowCell Zm (32) rfl), (rowCell Zm (33) rfl)⟩ ?_
      try simp only [nP, nN, nA, n0, nS, nG, List.getElem_cons_zero, List.getElem_cons_succ]
      refine wpAnyH_take (i := 23) (v := .bool false) rfl (by kernel_rfl) (by kernel_rfl) (by kernel_rfl) (fun _ _ _ h => h) (Or.inl ⟨by rfl, fun w_ hS_ => by (first | (go_simp; done) | (go_simp; rfl))⟩) ⟨(rowCell Zf (0) rfl), (rowAt Zm), (rowCell Zm (3) rfl), (rowCell Zm (26) rfl), (rowCell Zm (23) rfl), (rowCell Zm (32) rfl), (rowCell Zm (33) rfl)⟩ ?_
      try simp only [nP, nN, nA, n0, nS, nG, List.getElem_cons_zero, List.getElem_cons_succ]
      refine wpAnyH_take (i := 24) (v := .bool false) rfl (by kernel_rfl) (by kernel_rfl) (by kernel_rfl) (fun _ _ _ h => h) (Or.inl ⟨by rfl, fun w_ hS_ => by (first | (go_simp; done) | (go_simp; rfl))⟩) ⟨(rowCell Zf (0) rfl), (rowAt Zm), (rowCell Zm (3) rfl), (rowCell Zm (26) rfl), (rowCell Zm (23) rfl), (rowCell Zm (32) rfl), (rowCell Zm (33) rfl)⟩ ?_
      try simp only [nP, nN, nA, n0, nS, nG, List.getElem_cons_zero, List.getElem_cons_succ]
      refine wpAnyH_take (i := 25) (v := .pointer (some ⟨w.heap.size, 26, none⟩)) rfl (by kernel_rfl) (by kernel_rfl) (by kernel_rfl) (fun _ _ _ h => h) (Or.inl ⟨by rfl, fun w_ hS_ => by (first | (go_simp; done) | (go_simp; rfl))⟩) ⟨(rowCell Zf (0) rfl), (rowAt Zm), (rowCell Zm (3) rfl), (rowCell Zm (26) rfl), (rowCell Zm (23) rfl), (rowCell Zm (32) rfl), (rowCell Zm (33) rfl)⟩ ?_
      try simp only [nP, nN, nA, n0, nS, nG, List.getElem_cons_zero, List.getElem_cons_succ]
      refine wpAnyH_take (i := 26) (v := .int .i64 m.nu) rfl (by kernel_rfl) (by kernel_rfl) (by kernel_rfl) (fun _ _ _ h => h) (Or.inl ⟨by rfl, fun w_ hS_ => by (have c_ := hS_.2.2.2.1; first | (go_simp; done) | (go_simp; rfl))⟩) ⟨(rowCell Zf (0) rfl), (rowAt Zm), (rowCell Zm (3) rfl), (rowCell Zm (26) rfl), (rowCell Zm (23) rfl), (rowCell Zm (32) rfl), (rowCell Zm (33) rfl)⟩ ?_
      try simp only [nP, nN, nA, n0, nS, nG, List.getElem_cons_zero, List.getElem_cons_succ]
      refine wpAnyH_take (i := 27) (v := .bool false) rfl (by kernel_rfl) (by kernel_rfl) (by kernel_rfl) (fun _ _ _ h => h) (Or.inl ⟨by rfl, fun w_ hS_ => by (first | (go_simp; done) | (go_simp; rfl))⟩) ⟨(rowCell Zf (0) rfl), (rowAt Zm), (rowCell Zm (3) rfl), (rowCell Zm (26) rfl), (rowCell Zm (23) rfl), (rowCell Zm (32) rfl), (rowCell Zm (33) rfl)⟩ ?_
      try simp only [nP, nN, nA, n0, nS, nG, List.getElem_cons_zero, List.getElem_cons_succ]
      refine wpAnyH_take (i := 28) (v := .bool false) rfl (by kernel_rfl) (by kernel_rfl) (by kernel_rfl) (fun _ _ _ h => h) (Or.inl ⟨by rfl, fun w_ hS_ => by (first | (go_simp; done) | (go_simp; rfl))⟩) ⟨(rowCell Zf (0) rfl), (rowAt Zm), (rowCell Zm (3) rfl), (rowCell Zm (26) rfl), (rowCell Zm (23) rfl), (rowCell Zm (32) rfl), (rowCell Zm (33) rfl)⟩ ?_
      try simp only [nP, nN, nA, n0, nS, nG, List.getElem_cons_zero, List.getElem_cons_succ]
      refine wpAnyH_take (i := 29) (v := .bool false) rfl (by kernel_rfl) (by kernel_rfl) (by kernel_rfl) (fun _ _ _ h => h) (Or.inl ⟨by rfl, fun w_ hS_ => by (first | (go_simp; done) | (go_simp; rfl))⟩) ⟨(rowCell Zf (0) rfl), (rowAt Zm), (rowCell Zm (3) rfl), (rowCell Zm (26) rfl), (rowCell Zm (23) rfl), (rowCell Zm (32) rfl), (rowCell Zm (33) rfl)⟩ ?_
      try simp only [nP, nN, nA, n0, nS, nG, List.getElem_cons_zero, List.getElem_cons_succ]
      refine wpAnyH_take (i := 30) (v := .pointer (some ⟨w.heap.size, 23, none⟩)) rfl (by kernel_rfl) (by kernel_rfl) (by kernel_rfl) (fun _ _ _ h => h) (Or.inl ⟨by rfl, fun w_ hS_ => by (first | (go_simp; done) | (go_simp; rfl))⟩) ⟨(rowCell Zf (0) rfl), (rowAt Zm), (rowCell Zm (3) rfl), (rowCell Zm (26) rfl), (rowCell Zm (23) rfl), (rowCell Zm (32) rfl), (rowCell Zm (33) rfl)⟩ ?_
      try simp only [nP, nN, nA, n0, nS, nG, List.getElem_cons_zero, List.getElem_cons_succ]
      refine wpAnyH_take (i := 31) (v := .int .i64 m.g) rfl (by kernel_rfl) (by kernel_rfl) (by kernel_rfl) (fun _ _ _ h => h) (Or.inl ⟨by rfl, fun w_ hS_ => by (have c_ := hS_.2.2.2.2.1; first | (go_simp; done) | (go_simp; rfl))⟩) ⟨(rowCell Zf (0) rfl), (rowAt Zm), (rowCell Zm (3) rfl), (rowCell Zm (26) rfl), (rowCell Zm (23) rfl), (rowCell Zm (32) rfl), (rowCell Zm (33) rfl)⟩ ?_
      try simp only [nP, nN, nA, n0, nS, nG, List.getElem_cons_zero, List.getElem_cons_succ]
      refine wpAnyH_take (i := 32) (v := .bool false) rfl (by kernel_rfl) (by kernel_rfl) (by kernel_rfl) (fun _ _ _ h => h) (Or.inl ⟨by rfl, fun w_ hS_ => by (first | (go_simp; done) | (go_simp; rfl))⟩) ⟨(rowCell Zf (0) rfl), (rowAt Zm), (rowCell Zm (3) rfl), (rowCell Zm (26) rfl), (rowCell Zm (23) rfl), (rowCell Zm (32) rfl), (rowCell Zm (33) rfl)⟩ ?_
      try simp only [nP, nN, nA, n0, nS, nG, List.getElem_cons_zero, List.getElem_cons_succ]
      refine wpAnyH_take (i := 33) (v := .bool false) rfl (by kernel_rfl) (by kernel_rfl) (by kernel_rfl) (fun _ _ _ h => h) (Or.inl ⟨by rfl, fun w_ hS_ => by (first | (go_simp; done) | (go_simp; rfl))⟩) ⟨(rowCell Zf (0) rfl), (rowAt Zm), (rowCell Zm (3) rfl), (rowCell Zm (26) rfl), (rowCell Zm (23) rfl), (rowCell Zm (32) rfl), (rowCell Zm (33) rfl)⟩ ?_
      try simp only [nP, nN, nA, n0, nS, nG, List.getElem_cons_zero, List.getElem_cons_succ]
      refine wpAnyH_take (i := 34) (v := .bool false) rfl (by kernel_rfl) (by kernel_rfl) (by kernel_rfl) (fun _ _ _ h => h) (Or.inl ⟨by rfl, fun w_ hS_ => by (first | (go_simp; done) | (go_simp; rfl))⟩) ⟨(rowCell Zf (0) rfl), (rowAt Zm), (rowCell Zm (3) rfl), (rowCell Zm (26) rfl), (rowCell Zm (23) rfl), (rowCell Zm (32) rfl), (rowCell Zm (33) rfl)⟩ ?_
      try simp only [nP, nN, nA, n0, nS, nG, List.getElem_cons_zero, List.getElem_cons_succ]
      refine wpAnyH_take (i := 35) (v := .pointer (some ⟨w.heap.size, 23, none⟩)) rfl (by kernel_rfl) (by kernel_rfl) (by kernel_rfl) (fun _ _ _ h => h) (Or.inl ⟨by rfl, fun w_ hS_ => by (first | (go_simp; done) | (go_simp; rfl))⟩) ⟨(rowCell Zf (0) rfl), (rowAt Zm), (rowCell Zm (3) rfl), (rowCell Zm (26) rfl), (rowCell Zm (23) rfl), (rowCell Zm (32) rfl), (rowCell Zm (33) rfl)⟩ ?_
      try simp only [nP, nN, nA, n0, nS, nG, List.getElem_cons_zero, List.getElem_cons_succ]
      refine wpAnyH_take (i := 36) (v := .int .i64 m.g) rfl (by kernel_rfl) (by kernel_rfl) (by kernel_rfl) (fun _ _ _ h => h) (Or.inl ⟨by rfl, fun w_ hS_ => by (have c_ := hS_.2.2.2.2.1; first | (go_simp; done) | (go_simp; rfl))⟩) ⟨(rowCell Zf (0) rfl), (rowAt Zm), (rowCell Zm (3) rfl), (rowCell Zm (26) rfl), (rowCell Zm (23) rfl), (rowCell Zm (32) rfl), (rowCell Zm (33) rfl)⟩ ?_
      try simp only [nP, nN, nA, n0, nS, nG, List.getElem_cons_zero, List.getElem_cons_succ]
      refine wpAnyH_take (i := 37) (v := .bool false) rfl (by kernel_rfl) (by kernel_rfl) (by kernel_rfl) (fun _ _ _ h => h) (Or.inl ⟨by rfl, fun w_ hS_ => by (first | (go_simp; done) | (go_simp; rfl))⟩) ⟨(rowCell Zf (0) rfl), (rowAt Zm), (rowCell Zm (3) rfl), (rowCell Zm (26) rfl), (rowCell Zm (23) rfl), (rowCell Zm (32) rfl), (rowCell Zm (33) rfl)⟩ ?_
      try simp only [nP, nN, nA, n0, nS, nG, List.getElem_cons_zero, List.getElem_cons_succ]
      refine wpAnyH_take (i := 38) (v := .bool false) rfl (by kernel_rfl) (by kernel_rfl) (by kernel_rfl) (fun _ _ _ h => h) (Or.inl ⟨by rfl, fun w_ hS_ => by (first | (go_simp; done) | (go_simp; rfl))⟩) ⟨(rowCell Zf (0) rfl), (rowAt Zm), (rowCell Zm (3) rfl), (rowCell Zm (26) rfl), (rowCell Zm (23) rfl), (rowCell Zm (32) rfl), (rowCell Zm (33) rfl)⟩ ?_
      try simp only [nP, nN, nA, n0, nS, nG, List.getElem_cons_zero, List.getElem_cons_succ]
      refine wpAnyH_take (i := 39) (v := .bool false) rfl (by kernel_rfl) (by kernel_rfl) (by kernel_rfl) (fun _ _ _ h => h) (Or.inl ⟨by rfl, fun w_ hS_ => by (first | (go_simp; done) | (go_simp; rfl))⟩) ⟨(rowCell Zf (0) rfl), (rowAt Zm), (rowCell Zm (3) rfl), (rowCell Zm (26) rfl), (rowCell Zm (23) rfl), (rowCell Zm (32) rfl), (rowCell Zm (33) rfl)⟩ ?_
      try simp only [nP, nN, nA, n0, nS, nG, List.getElem_cons_zero, List.getElem_cons_succ]
      refine wpAnyH_take (i := 40) (v := .pointer (some ⟨w.heap.size, 32, none⟩)) rfl (by kernel_rfl) (by kernel_rfl) (by kernel_rfl) (fun _ _ _ h => h) (Or.inl ⟨by rfl, fun w_ hS_ => by (first | (go_simp; done) | (go_simp; rfl))⟩) ⟨(rowCell Zf (0) rfl), (rowAt Zm), (rowCell Zm (3) rfl), (rowCell Zm (26) rfl), (rowCell Zm (23) rfl), (rowCell Zm (32) rfl), (rowCell Zm (33) rfl)⟩ ?_
      try simp only [nP, nN, nA, n0, nS, nG, List.getElem_cons_zero, List.getElem_cons_succ]
      refine wpAnyH_take (i := 41) (v := .int .i64 m.er) rfl (by kernel_rfl) (by kernel_rfl) (by kernel_rfl) (fun _ _ _ h => h) (Or.inl ⟨by rfl, fun w_ hS_ => by (have c_ := hS_.2.2.2.2.2.1; first | (go_simp; done) | (go_simp; rfl))⟩) ⟨(rowCell Zf (0) rfl), (rowAt Zm), (rowCell Zm (3) rfl), (rowCell Zm (26) rfl), (rowCell Zm (23) rfl), (rowCell Zm (32) rfl), (rowCell Zm (33) rfl)⟩ ?_
      try simp only [nP, nN, nA, n0, nS, nG, List.getElem_cons_zero, List.getElem_cons_succ]
      refine wpAnyH_take (i := 42) (v := .bool false) rfl (by kernel_rfl) (by kernel_rfl) (by kernel_rfl) (fun _ _ _ h => h) (Or.inl ⟨by rfl, fun w_ hS_ => by (first | (go_simp; done) | (go_simp; rfl))⟩) ⟨(rowCell Zf (0) rfl), (rowAt Zm), (rowCell Zm (3) rfl), (rowCell Zm (26) rfl), (rowCell Zm (23) rfl), (rowCell Zm (32) rfl), (rowCell Zm (33) rfl)⟩ ?_
      try simp only [nP, nN, nA, n0, nS, nG, List.getElem_cons_zero, List.getElem_cons_succ]
      refine wpAnyH_take (i := 43) (v := .bool false) rfl (by kernel_rfl) (by kernel_rfl) (by kernel_rfl) (fun _ _ _ h => h) (Or.inl ⟨by rfl, fun w_ hS_ => by (first | (go_simp; done) | (go_simp; rfl))⟩) ⟨(rowCell Zf (0) rfl), (rowAt Zm), (rowCell Zm (3) rfl), (rowCell Zm (26) rfl), (rowCell Zm (23) rfl), (rowCell Zm (32) rfl), (rowCell Zm (33) rfl)⟩ ?_
      try simp only [nP, nN, nA, n0, nS, nG, List.getElem_cons_zero, List.getElem_cons_succ]
      refine wpAnyH_take (i := 44) (v := .bool false) rfl (by kernel_rfl) (by kernel_rfl) (by kernel_rfl) (fun _ _ _ h => h) (Or.inl ⟨by rfl, fun w_ hS_ => by (first | (go_simp; done) | (go_simp; rfl))⟩) ⟨(rowCell Zf (0) rfl), (rowAt Zm), (rowCell Zm (3) rfl), (rowCell Zm (26) rfl), (rowCell Zm (23) rfl), (rowCell Zm (32) rfl), (rowCell Zm (33) rfl)⟩ ?_
      try simp only [nP, nN, nA, n0, nS, nG, List.getElem_cons_zero, List.getElem_cons_succ]
      refine wpAnyH_take (i := 45) (v := .pointer (some ⟨w.heap.size, 32, none⟩)) rfl (by kernel_rfl) (by kernel_rfl) (by kernel_rfl) (fun _ _ _ h => h) (Or.inl ⟨by rfl, fun w_ hS_ => by (first | (go_simp; done) | (go_simp; rfl))⟩) ⟨(rowCell Zf (0) rfl), (rowAt Zm), (rowCell Zm (3) rfl), (rowCell Zm (26) rfl), (rowCell Zm (23) rfl), (rowCell Zm (32) rfl), (rowCell Zm (33) rfl)⟩ ?_
      try simp only [nP, nN, nA, n0, nS, nG, List.getElem_cons_zero, List.getElem_cons_succ]
      refine wpAnyH_take (i := 46) (v := .int .i64 m.er) rfl (by kernel_rfl) (by kernel_rfl) (by kernel_rfl) (fun _ _ _ h => h) (Or.inl ⟨by rfl, fun w_ hS_ => by (have c_ := hS_.2.2.2.2.2.1; first | (go_simp; done) | (go_simp; rfl))⟩) ⟨(rowCell Zf (0) rfl), (rowAt Zm), (rowCell Zm (3) rfl), (rowCell Zm (26) rfl), (rowCell Zm (23) rfl), (rowCell Zm (32) rfl), (rowCell Zm (33) rfl)⟩ ?_
      try simp only [nP, nN, nA, n0, nS, nG, List.getElem_cons_zero, List.getElem_cons_succ]
      refine wpAnyH_take (i := 47) (v := .bool false) rfl (by kernel_rfl) (by kernel_rfl) (by kernel_rfl) (fun _ _ _ h => h) (Or.inl ⟨by rfl, fun w_ hS_ => by (first | (go_simp; done) | (go_simp; rfl))⟩) ⟨(rowCell Zf (0) rfl), (rowAt Zm), (rowCell Zm (3) rfl), (rowCell Zm (26) rfl), (rowCell Zm (23) rfl), (rowCell Zm (32) rfl), (rowCell Zm (33) rfl)⟩ ?_
      try simp only [nP, nN, nA, n0, nS, nG, List.getElem_cons_zero, List.getElem_cons_succ]
      refine wpAnyH_take (i := 48) (v := .bool false) rfl (by kernel_rfl) (by kernel_rfl) (by kernel_rfl) (fun _ _ _ h => h) (Or.inl ⟨by rfl, fun w_ hS_ => by (first | (go_simp; done) | (go_simp; rfl))⟩) ⟨(rowCell Zf (0) rfl), (rowAt Zm), (rowCell Zm (3) rfl), (rowCell Zm (26) rfl), (rowCell Zm (23) rfl), (rowCell Zm (32) rfl), (rowCell Zm (33) rfl)⟩ ?_
      try simp only [nP, nN, nA, n0, nS, nG, List.getElem_cons_zero, List.getElem_cons_succ]
      refine wpAnyH_take (i := 49) (v := .bool false) rfl (by kernel_rfl) (by kernel_rfl) (by kernel_rfl) (fun _ _ _ h => h) (Or.inl ⟨by rfl, fun w_ hS_ => by (first | (go_simp; done) | (go_simp; rfl))⟩) ⟨(rowCell Zf (0) rfl), (rowAt Zm), (rowCell Zm (3) rfl), (rowCell Zm (26) rfl), (rowCell Zm (23) rfl), (rowCell Zm (32) rfl), (rowCell Zm (33) rfl)⟩ ?_
      try simp only [nP, nN, nA, n0, nS, nG, List.getElem_cons_zero, List.getElem_cons_succ]
      refine wpAnyH_take (i := 50) (v := .pointer (some ⟨w.heap.size, 33, none⟩)) rfl (by kernel_rfl) (by kernel_rfl) (by kernel_rfl) (fun _ _ _ h => h) (Or.inl ⟨by rfl, fun w_ hS_ => by (first | (go_simp; done) | (go_simp; rfl))⟩) ⟨(rowCell Zf (0) rfl), (rowAt Zm), (rowCell Zm (3) rfl), (rowCell Zm (26) rfl), (rowCell Zm (23) rfl), (rowCell Zm (32) rfl), (rowCell Zm (33) rfl)⟩ ?_
      try simp only [nP, nN, nA, n0, nS, nG, List.getElem_cons_zero, List.getElem_cons_succ]
      refine wpAnyH_take (i := 51) (v := .slice m.D m.dt.length m.dc) rfl (by kernel_rfl) (by kernel_rfl) (by kernel_rfl) (fun _ _ _ h => h) (Or.inl ⟨by rfl, fun w_ hS_ => by (have c_ := hS_.2.2.2.2.2.2; first | (go_simp; done) | (go_simp; rfl))⟩) ⟨(rowCell Zf (0) rfl), (rowAt Zm), (rowCell Zm (3) rfl), (rowCell Zm (26) rfl), (rowCell Zm (23) rfl), (rowCell Zm (32) rfl), (rowCell Zm (33) rfl)⟩ ?_
      try simp only [nP, nN, nA, n0, nS, nG, List.getElem_cons_zero, List.getElem_cons_succ]
      refine wpAnyH_take (i := 52) (v := .int .i64 ((m.dt.length : Int))) rfl (by kernel_rfl) (by kernel_rfl) (by kernel_rfl) (fun _ _ _ h => h) (Or.inl ⟨by rfl, fun w_ hS_ => by (first | (go_simp; done) | (go_simp; rfl))⟩) ⟨(rowCell Zf (0) rfl), (rowAt Zm), (rowCell Zm (3) rfl), (rowCell Zm (26) rfl), (rowCell Zm (23) rfl), (rowCell Zm (32) rfl), (rowCell Zm (33) rfl)⟩ ?_
      try simp only [nP, nN, nA, n0, nS, nG, List.getElem_cons_zero, List.getElem_cons_succ]
      refine wpAnyH_take (i := 53) (v := .bool true) rfl (by kernel_rfl) (by kernel_rfl) (by kernel_rfl) (fun _ _ _ h => h) (Or.inl ⟨by rfl, fun w_ hS_ => by (first | (go_simp; done) | (go_simp; rfl))⟩) ⟨(rowCell Zf (0) rfl), (rowAt Zm), (rowCell Zm (3) rfl), (rowCell Zm (26) rfl), (rowCell Zm (23) rfl), (rowCell Zm (32) rfl), (rowCell Zm (33) rfl)⟩ ?_
      try simp only [nP, nN, nA, n0, nS, nG, List.getElem_cons_zero, List.getElem_cons_succ]
      refine wpAnyH_take (i := 54) (v := .bool true) rfl (by kernel_rfl) (by kernel_rfl) (by kernel_rfl) (fun _ _ _ h => h) (Or.inl ⟨by rfl, fun w_ hS_ => by (first | (go_simp; done) | (go_simp; rfl))⟩) ⟨(rowCell Zf (0) rfl), (rowAt Zm), (rowCell Zm (3) rfl), (rowCell Zm (26) rfl), (rowCell Zm (23) rfl), (rowCell Zm (32) rfl), (rowCell Zm (33) rfl)⟩ ?_
      try simp only [nP, nN, nA, n0, nS, nG, List.getElem_cons_zero, List.getElem_cons_succ]
      refine wpAnyH_done (by kernel_rfl) ?_ _
      obtain rfl : R = false := by rw [HFM.out]; simp
      clear HON HSA h0 h2 h3 h4 h5 h6 h7 h8 h9 h10
      go_wp2_with fail
      go_ret
      exact ⟨rfl, ee⟩
      | false =>
      exact absurd HFT.out (by simp)
end Go.Proofs.YtjofjpmhokjhnaaDoor
