/- A replica proposes. Conditions: what lies, lies below; the tables lie. (Printed by gen_agree.py.) -/
import Derived.Test.YtbahooohkigcnaaDoorAgM3
namespace Go.Proofs.YtbahooohkigcnaaDoor
set_option maxRecDepth 20000
open Go.RowKit T Ag
set_option linter.unusedSimpArgs false
set_option linter.unusedVariables false

/-- Propose, and what holds then -/
theorem cinvProp {n t : Nat} {A : Nat → Ac} {L : Nat → Ld} {X : Nat → List Cm} {P : List Px.Pr} {V : Px.Vt} (h : Cinv n t A L X P V) (h5 : n ≤ 5) {i : Nat} (hi : i < n) (ht : t < 1000) {x : Cm} (hx : flatC x) :
    ∃ P', Cinv n t A (updF L i (lpd (L i) (A i).sl x)) X P' V := by
  unfold lpd
  cases hpr : (L i).proposes (A i).sl x with
  | false =>
    refine ⟨P, ?_⟩
    have e : updF L i (L i) = L := funext fun k => by
      by_cases e : k = i
      · subst e; rw [updF_same]
      · rw [updF_ne L _ e]
    show Cinv n t A (updF L i (L i)) X P V
    rw [e]; exact h
  | true =>
    unfold Ld.proposes at hpr
    simp only [Bool.and_eq_true, Bool.not_eq_true', decide_eq_false_iff_not] at hpr
    obtain ⟨⟨⟨⟨q1, q2⟩, q3⟩, q4⟩, q5⟩ := hpr
    have hl := h.ld i hi
    rw [hl.num] at q1
    exact ⟨_, h.propose h5 hi q1 (by have := hl.slr; omega) (by omega) (by omega) hx⟩
theorem bit8zero (m j : Nat) (hm : m < 256) : (bits .and .u8 ((m : Int) / 2 ^ j) 1 == 0) = !m.testBit j := by
  have h1 : ((m : Int) / 2 ^ j) = ((m / 2 ^ j : Nat) : Int) := by
    rw [Int.natCast_ediv]; simp
  have hq : m / 2 ^ j < 256 := Nat.lt_of_le_of_lt (Nat.div_le_self _ _) hm
  rw [h1, show ((1 : Int)) = ((1 : Nat) : Int) from rfl, u8_and_nat _ _ hq (by omega), Nat.and_one_is_mod]
  rw [Nat.testBit_eq_decide_div_mod_eq]
  have h2 : m / 2 ^ j % 2 = 0 ∨ m / 2 ^ j % 2 = 1 := by omega
  rcases h2 with h2 | h2 <;> rw [h2] <;> rfl
/-- Vote, whatever it says -/
theorem lvote_any (w : World) (h : Nat) (L : Ld) (k : Int) (r : Nat) (n s : Int) (hL : LdAt w h L) (hv : L.vt < 18446744073709551616) :
    Calls Tryd.prog 38 #[.pointer (some ⟨h, 0, none⟩), .int .i64 k, bal r n, .int .i64 s] w fun e w' => (∃ b, e = .returned (.bool b) ∧ (b = true → L.votes k r n s = true ∧ Q.majB (Q.addN L.vt k) L.n = true)) ∧ LdAt w' h (L.vote k r n s) ∧ w.grownBy w' (some h) := by
  cases hf : L.votes k r n s with
  | false =>
    refine (lvote_no w h L k r n s hL hv hf).mono fun e w' q => ⟨⟨false, q.1, fun e => by cases e⟩, ?_, lgB2 q.2 (Nat.le_refl _)⟩
    have e : L.vote k r n s = L := by unfold Ld.vote; rw [hf]; rfl
    rw [e]; exact hpB hL q.2
  | true =>
    refine (lvote_yes w h L k r n s hL hv hf).mono fun e w' q => ⟨⟨_, q.1, fun e => ⟨rfl, ?_⟩⟩, q.2.1, q.2.2⟩
    simp only [Bool.and_eq_true] at e; exact e.2
theorem vote_same (L : Ld) (k : Int) (r : Nat) (n s : Int) : (L.vote k r n s).n = L.n ∧ (L.vote k r n s).br = L.br ∧ (L.vote k r n s).bn = L.bn ∧ (L.vote k r n s).sl = L.sl ∧ (L.vote k r n s).x = L.x ∧ (L.vote k r n s).l = L.l ∧ (L.vote k r n s).A = L.A ∧ (L.vote k r n s).c = L.c := by
  unfold Ld.vote
  cases L.votes k r n s <;> exact ⟨rfl, rfl, rfl, rfl, rfl, rfl, rfl, rfl⟩
theorem lpd_same (L : Ld) (s : Int) (x : Cm) : (lpd L s x).n = L.n ∧ (lpd L s x).l = L.l ∧ (lpd L s x).A = L.A ∧ (lpd L s x).c = L.c := by
  unfold lpd
  cases L.proposes s x <;> exact ⟨rfl, rfl, rfl, rfl⟩
theorem builtCm3 (i j : Int) : Tryd.prog.built 37 [(0, .int .i64 2), (2, .agg #[.int .i64 i, .int .i64 j]), (4, .int .u64 1)] = some (stampC i j).cells.toArray := rfl
theorem builtId3 (i j : Int) : Tryd.prog.built 30 [(0, .int .i64 i), (1, .int .i64 j)] = some #[.int .i64 i, .int .i64 j] := rfl
set_option maxHeartbeats 12800000 in
theorem cpropose (B gc n i k t m : Nat) (A : Nat → Ac) (H : Nat → Nat) (L : Nat → Ld) (S : Nat → Value) (X : Nat → List Cm) (P : List Px.Pr) (V : Px.Vt) (w : World) (h : CrewAt w B gc n A H L S X k) (hI : Cinv n t A L X P V) (hi : i < n) (h5 : n ≤ 5) (ht : t < 1000) (hk : k < 1000) (hm : m < 256) (hX : ∀ j, j < n → (X j).length ≤ 1000) (hT : ∀ z, Below B w z → Tabs z) :
    Calls Tryd.prog 59 #[.pointer (some ⟨gc, 0, none⟩), .int .i64 (i : Int), .int .u8 (m : Int)] w fun e w' => e = .returned (.bool true) ∧ (∃ A' L' S' X' P' V', CrewAt w' B gc n A' H L' S' X' (k + 1) ∧ Cinv n (t + 1) A' L' X' P' V') ∧ Below B w w' := by
  have HT := Lib.hid hT
  have hlg : gc < w.heap.size := (Array.getElem?_eq_some_iff.1 h.blk).1
  have hBg : B ≤ gc := h.gB
  have hB : B ≤ w.heap.size := by omega
  have hBh : B ≤ H i := (h.ld i (by omega)).2
  have hlh : H i < w.heap.size := (Array.getElem?_eq_some_iff.1 (h.ld i (by omega)).1).1
  have hgh : gc ≠ H i := heapNe h.blk (h.ld i (by omega)).1 (by decide)
  have HMV : Hid (∀ (w' : World) (l' : Ld) (A' : Nat → Ac), OgF w w' (fun b => b = gc ∨ b = H i) → w'.heap[gc]? = some (.cells (crC n A' (fun j => pv (H j)) S (k + 1)).toArray 122 (0, 0)) → LdAt w' (H i) l' → w'.ownsRow B 39 16 (rowv l') l'.l.length (acCells l'.l) → (∀ g, (rowv l').ownBlock = some g → (rowv (L i)).ownBlock = some g ∨ w.heap.size ≤ g) → CrewAt w' B gc n A' H (updF L i l') S X (k + 1)) := fun w' l' A' f b x1 x2 x3 => h.moveL (by omega) f b x1 x2 x3
  obtain ⟨P1, hP1⟩ := cinvProp hI h5 hi ht (flatC_stamp (1 + (i : Int)) ((k : Int) + 1))
  have hfi := (hI.ld i hi).fl
  have hli := hI.ld i hi
  have HAF := Lib.hid (fun j hj => (hI.ac j hj).1)
  have hc0 := h.blk
  have hl0 := (h.ld i (by omega)).1
  have hu0 := h.row i (by omega)
  have HXS := Lib.hid (fun z (hz : CrewAt z B gc n A H L S X k → True) => hz)
  have hlx := hX i hi
  obtain ⟨ai, hai⟩ : ∃ a, a = A i := ⟨_, rfl⟩
  rw [← hai] at hP1
  have HPA := Lib.hid (fun z (hz : LdAt z (H i) (L i)) (hq : z.ownsRow B 39 16 (.slice (L i).A (L i).l.length (L i).c) (L i).l.length (acCells (L i).l)) (hT : Tabs z) => lprop_any z B (H i) (L i) ai.sl (stampC (1 + (i : Int)) ((k : Int) + 1)) hz hq (by have := hli.ln; omega) hli.slr.1 hli.pw.1 (flatC_stamp _ _) hT)
  have HRI := Lib.hid (lpd_same (L i) ai.sl (stampC (1 + (i : Int)) ((k : Int) + 1)))
  obtain ⟨l0, hl0e⟩ : ∃ l, l = lpd (L i) ai.sl (stampC (1 + (i : Int)) ((k : Int) + 1)) := ⟨_, rfl⟩
  rw [← hl0e] at hP1 HPA HRI
  have HI := Lib.hid hP1
  have HAI := Lib.hid hai
  have HLI := Lib.hid hli
  clear hT hI h hX hP1 hl0e hfi HXS hai hli
  have ee : Below B w w := Below.refl _ _
  have ff : OgF w w (fun b => b = gc ∨ b = H i) := OgF.refl _ _
  have Zc : w.heap[gc]? = some (.cells (crC n A (fun j => pv (H j)) S k).toArray 122) := hc0
  have Zl : w.heap[H i]? = some (.cells (L i).cells.toArray 144) := hl0
  have hu : w.ownsRow B 39 16 (.slice (L i).A (L i).l.length (L i).c) (L i).l.length (acCells (L i).l) := hu0
  clear hc0 hl0 hu0
  have hi0 : (0 : Int) ≤ (i : Int) := by omega
  have hi5 : (i : Int) < 5 := by omega
  generalize hHi : H i = hh at hBh hlh hgh HMV ff Zl HPA
  have HHI := Lib.hid hHi
  clear hHi
  go_enter Tryd.func59, Tryd.ntmps59
  go_upto_region 1 with fail
  refine wp_region_lit ?_
  have c9 := rowCell Zc 91 (v := .int .i64 (k : Int)) rfl
  have hkw : IntKind.i64.wrap ((k : Int) + 1) = ((k + 1 : Nat) : Int) := by rw [IntKind.wrap_i64]; omega
  iterate 40 (first | with_reducible refine isStore (ty := 3) rfl ?_ | go_step)
  have f_ : w.frozen? ⟨gc, 91, none⟩ = false := freeAt Zc (91)
  have c_ := rowCell Zc (91) rfl
  iterate 3 go_step
  clear f_ c_
  have N_ : (w.setCells (gc) (91) ([.int .i64 ((k + 1 : Nat) : Int)])).heap[gc]? = some (.cells (crC n A (fun j => pv (H j)) S (k + 1)).toArray 122) := hpC ([.int .i64 ((k + 1 : Nat) : Int)]) (91) _ w Zc
  have hu := ogOwnC hu (ogKind hu Zc (by decide)) ([.int .i64 ((k + 1 : Nat) : Int)]) (91)
  have ee := belowC (g := gc) (by omega) ([.int .i64 ((k + 1 : Nat) : Int)]) (91) w ee
  have ff := ogCells (k := gc) (by first | (right; omega) | exact Or.inl (Or.inl rfl) | exact Or.inl (Or.inr rfl)) ([.int .i64 ((k + 1 : Nat) : Int)]) (91) w ff
  have Zl := hpCo (g' := gc) (by omega) ([.int .i64 ((k + 1 : Nat) : Int)]) (91) w Zl
  clear Zc
  have Zc := N_
  clear N_
  change wpList _ _ _ _ _ (w.setCells (gc) (91) ([.int .i64 ((k + 1 : Nat) : Int)]))
  generalize w.setCells (gc) (91) ([.int .i64 ((k + 1 : Nat) : Int)]) = z1 at Zc Zl hu ee ff ⊢
  clear c9 hkw
  go_upto_region 2 with fail
  refine wp_region_lit ?_
  have c9 := rowCell Zc 91 (v := .int .i64 ((k + 1 : Nat) : Int)) rfl
  have hkw : IntKind.i64.wrap (1 + (i : Int)) = 1 + (i : Int) := by rw [IntKind.wrap_i64]; omega
  iterate 27 go_step
  clear c9 hkw
  have lZc := (Array.getElem?_eq_some_iff.1 Zc).1
  have lZl := (Array.getElem?_eq_some_iff.1 Zl).1
  have sz_ := ff.size
  have Zc := hpA Zc (.cells #[.int .i64 0, .int .i64 0, .int .i64 0, .slice none 0 0, .slice none 0 0, .int .i64 0, .int .i64 0, .int .i64 0, .int .u64 0, .bool false] 37)
  have Zl := hpA Zl (.cells #[.int .i64 0, .int .i64 0, .int .i64 0, .slice none 0 0, .slice none 0 0, .int .i64 0, .int .i64 0, .int .i64 0, .int .u64 0, .bool false] 37)
  have hu := hu.alloc (.cells #[.int .i64 0, .int .i64 0, .int .i64 0, .slice none 0 0, .slice none 0 0, .int .i64 0, .int .i64 0, .int .i64 0, .int .u64 0, .bool false] 37)
  have ee := ee.alloc (Nat.le_trans hB ee.size) (.cells #[.int .i64 0, .int .i64 0, .int .i64 0, .slice none 0 0, .slice none 0 0, .int .i64 0, .int .i64 0, .int .i64 0, .int .u64 0, .bool false] 37)
  have ff := ogAlloc ff (.cells #[.int .i64 0, .int .i64 0, .int .i64 0, .slice none 0 0, .slice none 0 0, .int .i64 0, .int .i64 0, .int .i64 0, .int .u64 0, .bool false] 37)
  have Zx := hpN z1 (.cells #[.int .i64 0, .int .i64 0, .int .i64 0, .slice none 0 0, .slice none 0 0, .int .i64 0, .int .i64 0, .int .i64 0, .int .u64 0, .bool false] 37) rfl
  generalize z1.alloc (.cells #[.int .i64 0, .int .i64 0, .int .i64 0, .slice none 0 0, .slice none 0 0, .int .i64 0, .int .i64 0, .int .i64 0, .int .u64 0, .bool false] 37) = z2 at Zc Zl Zx hu ee ff ⊢
  obtain ⟨gx, hg_gx⟩ : ∃ g_, g_ = z1.heap.size := ⟨_, rfl⟩
  have hwgx : w.heap.size ≤ gx := by have := ee.size; omega
  rw [← hg_gx] at Zx ⊢
  clear hg_gx
  iterate 27 (first | with_reducible refine isStore (ty := 37) rfl ?_ | go_step)
  refine wpList_store_row rfl 37 _ _ rfl (gx) ((stampC (1 + (i : Int)) ((k : Int) + 1)).cells).toArray rfl rfl 37 _ Zx sizeCm (by rfl) (Cm.one _) ?_
  have N_ := setRow_heap z2 (gx) _ ((stampC (1 + (i : Int)) ((k : Int) + 1)).cells).toArray _ _ Zx
  have hu := ogOwnR (cs := ((stampC (1 + (i : Int)) ((k : Int) + 1)).cells).toArray) hu (ogKind hu Zx (by decide))
  have ee := belowSet (cs := ((stampC (1 + (i : Int)) ((k : Int) + 1)).cells).toArray) ee Zx (by omega)
  have ff := ogRow (cs := ((stampC (1 + (i : Int)) ((k : Int) + 1)).cells).toArray) (by first | (right; omega) | exact Or.inl (Or.inl rfl) | exact Or.inl (Or.inr rfl)) Zx ff
  have Zc := hpR Zc (g' := gx) (by omega) ((stampC (1 + (i : Int)) ((k : Int) + 1)).cells).toArray
  have Zl := hpR Zl (g' := gx) (by omega) ((stampC (1 + (i : Int)) ((k : Int) + 1)).cells).toArray
  clear Zx
  have Zx := N_
  clear N_
  generalize z2.setRow (gx) ((stampC (1 + (i : Int)) ((k : Int) + 1)).cells).toArray = z3 at Zc Zl Zx hu ee ff ⊢
  go_upto_region 3 with fail
  have HPH : Hid ((crC n A (fun j => pv (H j)) S (k + 1))[81 + i]? = some (.pointer (some ⟨hh, 0, none⟩))) := by show _ = _; rw [crH n A _ S (k + 1) i (by omega)]; show some (pv (H i)) = _; rw [HHI.out]; rfl
  have Zc : z3.drew.heap[gc]? = some (.cells (crC n A (fun j => pv (H j)) S (k + 1)).toArray 122) := Zc
  have Zl : z3.drew.heap[hh]? = some (.cells (L i).cells.toArray 144) := Zl
  have Zx : z3.drew.heap[gx]? = some (.cells ((stampC (1 + (i : Int)) ((k : Int) + 1)).cells).toArray 37) := Zx
  have hu := World.ownsRow.drew hu
  have ee := belowDrewS ee
  have ff := ogDrew ff
  refine wp_region_held_drew (S := fun z' => z'.cell? ⟨gc, 81 + i, none⟩ = some (.pointer (some ⟨hh, 0, none⟩)) ∧ z'.cell? ⟨gc, 1 + i * 16 + 2, none⟩ = some (.int .i64 ai.sl) ∧ z'.rangeAt gx (0) ((stampC (1 + (i : Int)) ((k : Int) + 1)).cells)) (by kernel_rfl) ⟨(rowCell Zc (81 + i) HPH.out), (rowCell Zc (1 + i * 16 + 2) (by rw [HAI.out]; exact crA n A (fun j => pv (H j)) S (k + 1) i (by omega) 2 _ rfl)), (rowAt Zx)⟩ (fun hH => ?_)
  clear hH
  generalize z3.drew = z4 at Zc Zl Zx hu ee ff ⊢
  refine wpAnyH_take (i := 0) (v := .pointer (some ⟨gc, 0, none⟩)) rfl (by kernel_rfl) (by kernel_rfl) (by kernel_rfl) (fun _ _ _ h => h) (Or.inl ⟨by rfl, fun w_ hS_ => by (first | (go_simp; done) | (go_simp; rfl))⟩) ⟨(rowCell Zc (81 + i) HPH.out), (rowCell Zc (1 + i * 16 + 2) (by rw [HAI.out]; exact crA n A (fun j => pv (H j)) S (k + 1) i (by omega) 2 _ rfl)), (rowAt Zx)⟩ ?_
  try simp only [Act.put, List.getElem_toArray, List.getElem_cons_zero, List.getElem_cons_succ, List.setIfInBounds_toArray, List.set_cons_zero, List.set_cons_succ]
  refine wpAnyH_take (i := 1) (v := .int .i64 ((i : Int))) rfl (by kernel_rfl) (by kernel_rfl) (by kernel_rfl) (fun _ _ _ h => h) (Or.inl ⟨by rfl, fun w_ hS_ => by (first | (go_simp; done) | (go_simp; rfl))⟩) ⟨(rowCell Zc (81 + i) HPH.out), (rowCell Zc (1 + i * 16 + 2) (by rw [HAI.out]; exact crA n A (fun j => pv (H j)) S (k + 1) i (by omega) 2 _ rfl)), (rowAt Zx)⟩ ?_
  try simp only [Act.put, List.getElem_toArray, List.getElem_cons_zero, List.getElem_cons_succ, List.setIfInBounds_toArray, List.set_cons_zero, List.set_cons_succ]
  refine wpAnyH_take (i := 2) (v := .pointer (some ⟨gc, 0, none⟩)) rfl (by kernel_rfl) (by kernel_rfl) (by kernel_rfl) (fun _ _ _ h => h) (Or.inl ⟨by rfl, fun w_ hS_ => by (first | (go_simp; done) | (go_simp; rfl))⟩) ⟨(rowCell Zc (81 + i) HPH.out), (rowCell Zc (1 + i * 16 + 2) (by rw [HAI.out]; exact crA n A (fun j => pv (H j)) S (k + 1) i (by omega) 2 _ rfl)), (rowAt Zx)⟩ ?_
  try simp only [Act.put, List.getElem_toArray, List.getElem_cons_zero, List.getElem_cons_succ, List.setIfInBounds_toArray, List.set_cons_zero, List.set_cons_succ]
  refine wpAnyH_take (i := 3) (v := .pointer (some ⟨gc, 81, none⟩)) rfl (by kernel_rfl) (by kernel_rfl) (by kernel_rfl) (fun _ _ _ h => h) (Or.inl ⟨by rfl, fun w_ hS_ => by (first | (go_simp; done) | (go_simp; rfl))⟩) ⟨(rowCell Zc (81 + i) HPH.out), (rowCell Zc (1 + i * 16 + 2) (by rw [HAI.out]; exact crA n A (fun j => pv (H j)) S (k + 1) i (by omega) 2 _ rfl)), (rowAt Zx)⟩ ?_
  try simp only [Act.put, List.getElem_toArray, List.getElem_cons_zero, List.getElem_cons_succ, List.setIfInBounds_toArray, List.set_cons_zero, List.set_cons_succ]
  refine wpAnyH_take (i := 4) (v := .pointer (some ⟨gc, 81 + i, none⟩)) rfl (by kernel_rfl) (by kernel_rfl) (by kernel_rfl) (fun _ _ _ h => h) (Or.inl ⟨by rfl, fun w_ hS_ => by (first | (go_simp; done) | (go_simp; rfl))⟩) ⟨(rowCell Zc (81 + i) HPH.out), (rowCell Zc (1 + i * 16 + 2) (by rw [HAI.out]; exact crA n A (fun j => pv (H j)) S (k + 1) i (by omega) 2 _ rfl)), (rowAt Zx)⟩ ?_
  try simp only [Act.put, List.getElem_toArray, List.getElem_cons_zero, List.getElem_cons_succ, List.setIfInBounds_toArray, List.set_cons_zero, List.set_cons_succ]
  refine wpAnyH_take (i := 5) (v := .pointer (some ⟨hh, 0, none⟩)) rfl (by kernel_rfl) (by kernel_rfl) (by kernel_rfl) (fun _ _ _ h => h) (Or.inl ⟨by rfl, fun w_ hS_ => by (have c_ := hS_.1; first | (go_simp; done) | (go_simp; rfl))⟩) ⟨(rowCell Zc (81 + i) HPH.out), (rowCell Zc (1 + i * 16 + 2) (by rw [HAI.out]; exact crA n A (fun j => pv (H j)) S (k + 1) i (by omega) 2 _ rfl)), (rowAt Zx)⟩ ?_
  try simp only [Act.put, List.getElem_toArray, List.getElem_cons_zero, List.getElem_cons_succ, List.setIfInBounds_toArray, List.set_cons_zero, List.set_cons_succ]
  refine wpAnyH_take (i := 6) (v := .pointer (some ⟨gc, 0, none⟩)) rfl (by kernel_rfl) (by kernel_rfl) (by kernel_rfl) (fun _ _ _ h => h) (Or.inl ⟨by rfl, fun w_ hS_ => by (first | (go_simp; done) | (go_simp; rfl))⟩) ⟨(rowCell Zc (81 + i) HPH.out), (rowCell Zc (1 + i * 16 + 2) (by rw [HAI.out]; exact crA n A (fun j => pv (H j)) S (k + 1) i (by omega) 2 _ rfl)), (rowAt Zx)⟩ ?_
  try simp only [Act.put, List.getElem_toArray, List.getElem_cons_zero, List.getElem_cons_succ, List.setIfInBounds_toArray, List.set_cons_zero, List.set_cons_succ]
  refine wpAnyH_take (i := 7) (v := .int .i64 ((i : Int))) rfl (by kernel_rfl) (by kernel_rfl) (by kernel_rfl) (fun _ _ _ h => h) (Or.inl ⟨by rfl, fun w_ hS_ => by (first | (go_simp; done) | (go_simp; rfl))⟩) ⟨(rowCell Zc (81 + i) HPH.out), (rowCell Zc (1 + i * 16 + 2) (by rw [HAI.out]; exact crA n A (fun j => pv (H j)) S (k + 1) i (by omega) 2 _ rfl)), (rowAt Zx)⟩ ?_
  try simp only [Act.put, List.getElem_toArray, List.getElem_cons_zero, List.getElem_cons_succ, List.setIfInBounds_toArray, List.set_cons_zero, List.set_cons_succ]
  refine wpAnyH_take (i := 8) (v := .pointer (some ⟨gc, 0, none⟩)) rfl (by kernel_rfl) (by kernel_rfl) (by kernel_rfl) (fun _ _ _ h => h) (Or.inl ⟨by rfl, fun w_ hS_ => by (first | (go_simp; done) | (go_simp; rfl))⟩) ⟨(rowCell Zc (81 + i) HPH.out), (rowCell Zc (1 + i * 16 + 2) (by rw [HAI.out]; exact crA n A (fun j => pv (H j)) S (k + 1) i (by omega) 2 _ rfl)), (rowAt Zx)⟩ ?_
  try simp only [Act.put, List.getElem_toArray, List.getElem_cons_zero, List.getElem_cons_succ, List.setIfInBounds_toArray, List.set_cons_zero, List.set_cons_succ]
  refine wpAnyH_take (i := 9) (v := .pointer (some ⟨gc, 1, none⟩)) rfl (by kernel_rfl) (by kernel_rfl) (by kernel_rfl) (fun _ _ _ h => h) (Or.inl ⟨by rfl, fun w_ hS_ => by (first | (go_simp; done) | (go_simp; rfl))⟩) ⟨(rowCell Zc (81 + i) HPH.out), (rowCell Zc (1 + i * 16 + 2) (by rw [HAI.out]; exact crA n A (fun j => pv (H j)) S (k + 1) i (by omega) 2 _ rfl)), (rowAt Zx)⟩ ?_
  try simp only [Act.put, List.getElem_toArray, List.getElem_cons_zero, List.getElem_cons_succ, List.setIfInBounds_toArray, List.set_cons_zero, List.set_cons_succ]
  refine wpAnyH_take (i := 10) (v := .pointer (some ⟨gc, 1 + i * 16, none⟩)) rfl (by kernel_rfl) (by kernel_rfl) (by kernel_rfl) (fun _ _ _ h => h) (Or.inl ⟨by rfl, fun w_ hS_ => by (first | (go_simp; done) | (go_simp; rfl))⟩) ⟨(rowCell Zc (81 + i) HPH.out), (rowCell Zc (1 + i * 16 + 2) (by rw [HAI.out]; exact crA n A (fun j => pv (H j)) S (k + 1) i (by omega) 2 _ rfl)), (rowAt Zx)⟩ ?_
  try simp only [Act.put, List.getElem_toArray, List.getElem_cons_zero, List.getElem_cons_succ, List.setIfInBounds_toArray, List.set_cons_zero, List.set_cons_succ]
  refine wpAnyH_take (i := 11) (v := .pointer (some ⟨gc, 1 + i * 16 + 2, none⟩)) rfl (by kernel_rfl) (by kernel_rfl) (by kernel_rfl) (fun _ _ _ h => h) (Or.inl ⟨by rfl, fun w_ hS_ => by (first | (go_simp; done) | (go_simp; rfl))⟩) ⟨(rowCell Zc (81 + i) HPH.out), (rowCell Zc (1 + i * 16 + 2) (by rw [HAI.out]; exact crA n A (fun j => pv (H j)) S (k + 1) i (by omega) 2 _ rfl)), (rowAt Zx)⟩ ?_
  try simp only [Act.put, List.getElem_toArray, List.getElem_cons_zero, List.getElem_cons_succ, List.setIfInBounds_toArray, List.set_cons_zero, List.set_cons_succ]
  refine wpAnyH_take (i := 12) (v := .int .i64 ai.sl) rfl (by kernel_rfl) (by kernel_rfl) (by kernel_rfl) (fun _ _ _ h => h) (Or.inl ⟨by rfl, fun w_ hS_ => by (have c_ := hS_.2.1; first | (go_simp; done) | (go_simp; rfl))⟩) ⟨(rowCell Zc (81 + i) HPH.out), (rowCell Zc (1 + i * 16 + 2) (by rw [HAI.out]; exact crA n A (fun j => pv (H j)) S (k + 1) i (by omega) 2 _ rfl)), (rowAt Zx)⟩ ?_
  try simp only [Act.put, List.getElem_toArray, List.getElem_cons_zero, List.getElem_cons_succ, List.setIfInBounds_toArray, List.set_cons_zero, List.set_cons_succ]
  refine wpAnyH_take (i := 13) (v := .agg ((stampC (1 + (i : Int)) ((k : Int) + 1)).cells).toArray) rfl (by kernel_rfl) (by kernel_rfl) (by kernel_rfl) (fun _ _ _ h => h) (yieldsIf_load_mid (by rfl) 37 _ rfl (gx) (0) rfl ((stampC (1 + (i : Int)) ((k : Int) + 1)).cells) _ (fun _ h => h.2.2) Tryd.underlying37 rfl sizeCm) ⟨(rowCell Zc (81 + i) HPH.out), (rowCell Zc (1 + i * 16 + 2) (by rw [HAI.out]; exact crA n A (fun j => pv (H j)) S (k + 1) i (by omega) 2 _ rfl)), (rowAt Zx)⟩ ?_
  try simp only [Act.put, List.getElem_toArray, List.getElem_cons_zero, List.getElem_cons_succ, List.setIfInBounds_toArray, List.set_cons_zero, List.set_cons_succ]
  refine wpAnyH_ready (rs := [14]) (by kernel_rfl) (by simp) ?_
  refine AllReadyH.cons rfl (fun K hK => ?_) AllReadyH.nil
  rw [if_pos (by rfl)]
  go_simp
  go_wp2_with (go_at_call 37; refine (HPA.out z4 Zl hu (HT.out _ ee)).mono ?_; rintro e z5 ⟨⟨r_, ok_, rfl⟩, Zm_, t_⟩)
  have Zc := ogHeapG Zc t_ hgh
  have Zx := ogHeapG Zx t_ (by omega)
  have hu := hu.kept t_ (Or.inr (lgKind hu Zl (by decide)))
  have ff := ogGrown ff t_ (Or.inl (Or.inr rfl))
  have ee := ee.grown t_ (Nat.le_trans hB ee.size) (fun g_ e_ => by injection e_ with e_; omega)
  clear Zl t_
  have Zl : z5.heap[hh]? = some (.cells l0.cells.toArray 144) := Zm_
  clear Zm_
  refine hK.out _ _ ⟨(rowCell Zc (81 + i) HPH.out), (rowCell Zc (1 + i * 16 + 2) (by rw [HAI.out]; exact crA n A (fun j => pv (H j)) S (k + 1) i (by omega) 2 _ rfl)), (rowAt Zx)⟩ (fun hH => ?_)
  clear hK K hH
  try simp only [Act.put, List.getElem_toArray, List.getElem_cons_zero, List.getElem_cons_succ, List.setIfInBounds_toArray, List.set_cons_zero, List.set_cons_succ]
  refine wpAnyH_done (by kernel_rfl) ?_ _
  have hu : z5.ownsRow B 39 16 (.slice l0.A l0.l.length l0.c) l0.l.length (acCells l0.l) := by rw [HRI.out.2.2.1, HRI.out.2.1, HRI.out.2.2.2]; exact hu
  clear HPA Zx
  by_cases hs0 : l0.sl = 0
  · have cH := rowCell Zc (81 + i) HPH.out
    go_wp2_with fail
    refine (lproposal_no z5 hh l0 Zl hs0).mono ?_
    rintro e z6 ⟨rfl, t⟩
    have Zc := hpB Zc t
    have Zl := hpB Zl t
    have hu := ownBelow hu t
    have ee := ee.trans (t.mono (Nat.le_trans hB ee.size))
    have ff := ogBelow ff t
    clear t
    try dsimp only
    rename_i hK
    refine hK _ _ ?_
    clear hK
    clear cH
    iterate 15 go_step
    have lZc := (Array.getElem?_eq_some_iff.1 Zc).1
    have lZl := (Array.getElem?_eq_some_iff.1 Zl).1
    have sz_ := ff.size
    have Zc := hpA Zc (.cells #[.int .i64 0, .int .i64 0, .int .i64 0, .slice none 0 0, .slice none 0 0, .int .i64 0, .int .i64 0, .int .i64 0, .int .u64 0, .bool false] 37)
    have Zl := hpA Zl (.cells #[.int .i64 0, .int .i64 0, .int .i64 0, .slice none 0 0, .slice none 0 0, .int .i64 0, .int .i64 0, .int .i64 0, .int .u64 0, .bool false] 37)
    have hu := hu.alloc (.cells #[.int .i64 0, .int .i64 0, .int .i64 0, .slice none 0 0, .slice none 0 0, .int .i64 0, .int .i64 0, .int .i64 0, .int .u64 0, .bool false] 37)
    have ee := ee.alloc (Nat.le_trans hB ee.size) (.cells #[.int .i64 0, .int .i64 0, .int .i64 0, .slice none 0 0, .slice none 0 0, .int .i64 0, .int .i64 0, .int .i64 0, .int .u64 0, .bool false] 37)
    have ff := ogAlloc ff (.cells #[.int .i64 0, .int .i64 0, .int .i64 0, .slice none 0 0, .slice none 0 0, .int .i64 0, .int .i64 0, .int .i64 0, .int .u64 0, .bool false] 37)
    have Zy := hpN z6 (.cells #[.int .i64 0, .int .i64 0, .int .i64 0, .slice none 0 0, .slice none 0 0, .int .i64 0, .int .i64 0, .int .i64 0, .int .u64 0, .bool false] 37) rfl
    generalize z6.alloc (.cells #[.int .i64 0, .int .i64 0, .int .i64 0, .slice none 0 0, .slice none 0 0, .int .i64 0, .int .i64 0, .int .i64 0, .int .u64 0, .bool false] 37) = z7 at Zc Zl Zy hu ee ff ⊢
    iterate 27 (first | with_reducible refine isStore (ty := 37) rfl ?_ | go_step)
    refine wpList_store_row rfl 37 _ _ rfl (z6.heap.size) (Cm.zero.cells).toArray rfl rfl 37 _ Zy sizeCm (by rfl) (Cm.one _) ?_
    have N_ := setRow_heap z7 (z6.heap.size) _ (Cm.zero.cells).toArray _ _ Zy
    have hu := ogOwnR (cs := (Cm.zero.cells).toArray) hu (ogKind hu Zy (by decide))
    have ee := belowSet (cs := (Cm.zero.cells).toArray) ee Zy (by omega)
    have ff := ogRow (cs := (Cm.zero.cells).toArray) (by first | (right; omega) | exact Or.inl (Or.inl rfl) | exact Or.inl (Or.inr rfl)) Zy ff
    have Zc := hpR Zc (g' := z6.heap.size) (by omega) (Cm.zero.cells).toArray
    have Zl := hpR Zl (g' := z6.heap.size) (by omega) (Cm.zero.cells).toArray
    clear Zy
    have Zy := N_
    clear N_
    generalize z7.setRow (z6.heap.size) (Cm.zero.cells).toArray = z8 at Zc Zl Zy hu ee ff ⊢
    clear Zy
    go_wp2_with fail
    go_loopw [11] (fun u wr => u = .int .i64 0 ∧ Hid (wr.heap[gc]? = some (.cells (crC n A (fun j => pv (H j)) S (k + 1)).toArray 122 (0, 0))) ∧ Hid (wr.heap[hh]? = some (.cells l0.cells.toArray 144 (0, 0))) ∧ Hid (wr.ownsRow B 39 16 (.slice l0.A l0.l.length l0.c) l0.l.length (acCells l0.l)) ∧ Hid (OgF w wr (fun b => b = gc ∨ b = hh)) ∧ Hid (Below B w wr)) (fun u _ => 1)
    case atStart => exact ⟨rfl, Zc, Zl, hu, ff, ee⟩
    case round =>
      clear Zc Zl hu ff ee
      obtain ⟨rfl, Zc, Zl, hu, ff, ee⟩ := hrel
      have Zc := Zc.out
      have Zl := Zl.out
      have hu := hu.out
      have ff := ff.out
      have ee := ee.out
      have cn := rowCell Zc 0 (v := .int .i64 (n : Int)) rfl
      have hn0 : (0 : Int) < (n : Int) := by omega
      go_wp2_with fail
      go_ret
      exact ⟨rfl, ⟨A, _, S, X, P1, V, HMV.out _ l0 A ff Zc Zl hu (fun g hg => .inl (by rw [← hg]; unfold rowv; rw [HRI.out.2.2.1, HRI.out.2.1, HRI.out.2.2.2])), HI.out.more⟩, ee⟩
  · have cH := rowCell Zc (81 + i) HPH.out
    go_wp2_with fail
    refine (lproposal_yes z5 hh l0 Zl hs0).mono ?_
    rintro e z6 ⟨rfl, t⟩
    have Zc := hpB Zc t
    have Zl := hpB Zl t
    have hu := ownBelow hu t
    have ee := ee.trans (t.mono (Nat.le_trans hB ee.size))
    have ff := ogBelow ff t
    clear t
    try dsimp only
    rename_i hK
    refine hK _ _ ?_
    clear hK
    clear cH
    iterate 15 go_step
    have lZc := (Array.getElem?_eq_some_iff.1 Zc).1
    have lZl := (Array.getElem?_eq_some_iff.1 Zl).1
    have sz_ := ff.size
    have Zc := hpA Zc (.cells #[.int .i64 0, .int .i64 0, .int .i64 0, .slice none 0 0, .slice none 0 0, .int .i64 0, .int .i64 0, .int .i64 0, .int .u64 0, .bool false] 37)
    have Zl := hpA Zl (.cells #[.int .i64 0, .int .i64 0, .int .i64 0, .slice none 0 0, .slice none 0 0, .int .i64 0, .int .i64 0, .int .i64 0, .int .u64 0, .bool false] 37)
    have hu := hu.alloc (.cells #[.int .i64 0, .int .i64 0, .int .i64 0, .slice none 0 0, .slice none 0 0, .int .i64 0, .int .i64 0, .int .i64 0, .int .u64 0, .bool false] 37)
    have ee := ee.alloc (Nat.le_trans hB ee.size) (.cells #[.int .i64 0, .int .i64 0, .int .i64 0, .slice none 0 0, .slice none 0 0, .int .i64 0, .int .i64 0, .int .i64 0, .int .u64 0, .bool false] 37)
    have ff := ogAlloc ff (.cells #[.int .i64 0, .int .i64 0, .int .i64 0, .slice none 0 0, .slice none 0 0, .int .i64 0, .int .i64 0, .int .i64 0, .int .u64 0, .bool false] 37)
    have Zy := hpN z6 (.cells #[.int .i64 0, .int .i64 0, .int .i64 0, .slice none 0 0, .slice none 0 0, .int .i64 0, .int .i64 0, .int .i64 0, .int .u64 0, .bool false] 37) rfl
    generalize z6.alloc (.cells #[.int .i64 0, .int .i64 0, .int .i64 0, .slice none 0 0, .slice none 0 0, .int .i64 0, .int .i64 0, .int .i64 0, .int .u64 0, .bool false] 37) = z7 at Zc Zl Zy hu ee ff ⊢
    obtain ⟨gy, hg_gy⟩ : ∃ g_, g_ = z6.heap.size := ⟨_, rfl⟩
    have hwgy : w.heap.size ≤ gy := by have := ee.size; omega
    rw [← hg_gy] at Zy ⊢
    clear hg_gy
    iterate 27 (first | with_reducible refine isStore (ty := 37) rfl ?_ | go_step)
    refine wpList_store_row rfl 37 _ _ rfl (gy) (l0.x.cells).toArray rfl rfl 37 _ Zy sizeCm (by rfl) (Cm.one _) ?_
    have N_ := setRow_heap z7 (gy) _ (l0.x.cells).toArray _ _ Zy
    have hu := ogOwnR (cs := (l0.x.cells).toArray) hu (ogKind hu Zy (by decide))
    have ee := belowSet (cs := (l0.x.cells).toArray) ee Zy (by omega)
    have ff := ogRow (cs := (l0.x.cells).toArray) (by first | (right; omega) | exact Or.inl (Or.inl rfl) | exact Or.inl (Or.inr rfl)) Zy ff
    have Zc := hpR Zc (g' := gy) (by omega) (l0.x.cells).toArray
    have Zl := hpR Zl (g' := gy) (by omega) (l0.x.cells).toArray
    clear Zy
    have Zy := N_
    clear N_
    generalize z7.setRow (gy) (l0.x.cells).toArray = z8 at Zc Zl Zy hu ee ff ⊢
    go_wp2_with fail
    go_loopw [11] (fun u wr => ∃ (j : Nat) (A' : Nat → Ac) (l' : Ld) (V' : Px.Vt), j ≤ n ∧ u = .int .i64 (j : Int) ∧ Hid (Cinv n t A' (updF L i l') X P1 V' ∧ l'.sl = l0.sl ∧ l'.x = l0.x ∧ l'.l = l0.l ∧ l'.A = l0.A ∧ l'.c = l0.c ∧ l'.n = (n : Int)) ∧ Hid (wr.heap[gc]? = some (.cells (crC n A' (fun j => pv (H j)) S (k + 1)).toArray 122 (0, 0))) ∧ Hid (wr.heap[hh]? = some (.cells l'.cells.toArray 144 (0, 0))) ∧ Hid (wr.heap[gy]? = some (.cells l0.x.cells.toArray 37 (0, 0))) ∧ Hid (wr.ownsRow B 39 16 (.slice l'.A l'.l.length l'.c) l'.l.length (acCells l'.l)) ∧ Hid (OgF w wr (fun b => b = gc ∨ b = hh)) ∧ Hid (Below B w wr)) (fun u _ => n - (intOf u).toNat)
    case atStart => exact ⟨0, A, l0, V, Nat.zero_le _, rfl, ⟨HI.out, rfl, rfl, rfl, rfl, rfl, HRI.out.1.trans HLI.out.num⟩, Zc, Zl, Zy, hu, ff, ee⟩
    case round =>
      clear Zc Zl Zy hu ff ee HPH HI
      obtain ⟨j, A', l', V', hj, rfl, HP, Zc, Zl, Zy, hu, ff, ee⟩ := hrel
      have Zc := Zc.out
      have Zl := Zl.out
      have Zy := Zy.out
      have hu := hu.out
      have ff := ff.out
      have ee := ee.out
      have cn := rowCell Zc 0 (v := .int .i64 (n : Int)) rfl
      by_cases hlt : j < n
      · have hj0 : (0 : Int) ≤ (j : Int) := by omega
        have hj5 : (j : Int) < 5 := by omega
        have HBT := Lib.hid (bit8zero m j hm)
        cases hb : tb3 m j with
        | false =>
          have hx : (bits BinOp.and IntKind.u8 ((m : Int) / 2 ^ j) 1 == 0) = true := by rw [HBT.out]; show (!tb3 m j) = true; rw [hb]; rfl
          clear hb HBT
          go_wp2_with fail
          go_roundw
          case rel => exact ⟨j + 1, A', l', V', by omega, by go_num, HP, Zc, Zl, Zy, hu, ff, ee⟩
          case measure => simp [intOf]; omega
        | true =>
          have hx : (bits BinOp.and IntKind.u8 ((m : Int) / 2 ^ j) 1 == 0) = false := by rw [HBT.out]; show (!tb3 m j) = false; rw [hb]; rfl
          clear hb HBT
          go_upto_region 9 with fail
          clear hx cn
          obtain ⟨a, ha⟩ : ∃ a, a = A' j := ⟨_, rfl⟩
          have HA := Lib.hid ha
          have HRA := Lib.hid (crA n A' (fun j => pv (H j)) S (k + 1) j (by omega))
          rw [← ha] at HRA
          have HFA : Hid (flatC a.c) := by show flatC a.c; rw [ha]; exact (HP.out.1.ac j hlt).1
          have HPU := fun a' => Lib.hid (crPutA n A' (fun j => pv (H j)) S (k + 1) j (by omega) a')
          have HFX : Hid (flatC l0.x) := by
            have := (HP.out.1.ld i hi).fl.2
            rw [updF_same, HP.out.2.2.1] at this; exact this
          clear ha
          have HVC := Lib.hid (fun z (hz : Below B w z) => c_vote a l'.br l'.bn l0.sl l0.x z z.heap.size (Nat.le_refl _) (okFlat HFA.out) (okFlat HFX.out) (HT.out z hz))
          have HPH : Hid ((crC n A' (fun j => pv (H j)) S (k + 1))[81 + i]? = some (.pointer (some ⟨hh, 0, none⟩))) := by show _ = _; rw [crH n A' _ S (k + 1) i (by omega)]; show some (pv (H i)) = _; rw [HHI.out]; rfl
          have Zc : wr.drew.heap[gc]? = some (.cells (crC n A' (fun j => pv (H j)) S (k + 1)).toArray 122) := Zc
          have Zl : wr.drew.heap[hh]? = some (.cells l'.cells.toArray 144) := Zl
          have Zy : wr.drew.heap[gy]? = some (.cells l0.x.cells.toArray 37) := Zy
          have hu := World.ownsRow.drew hu
          have ee := belowDrewS ee
          have ff := ogDrew ff
          refine wp_region_held_drew (S := fun z' => z'.rangeAt gc (1 + j * 16) a.cells ∧ z'.cell? ⟨gc, 81 + i, none⟩ = some (.pointer (some ⟨hh, 0, none⟩)) ∧ z'.rangeAt gy (0) l0.x.cells) (by kernel_rfl) ⟨(rowMid Zc (1 + j * 16) HRA.out), (rowCell Zc (81 + i) HPH.out), (rowAt Zy)⟩ (fun hH => ?_)
          clear hH
          generalize wr.drew = y1 at Zc Zl Zy hu ee ff ⊢
          refine wpAnyH_take (i := 0) (v := .pointer (some ⟨gc, 0, none⟩)) rfl (by kernel_rfl) (by kernel_rfl) (by kernel_rfl) (fun _ _ _ h => h) (Or.inl ⟨by rfl, fun w_ hS_ => by (first | (go_simp; done) | (go_simp; rfl))⟩) ⟨(rowMid Zc (1 + j * 16) HRA.out), (rowCell Zc (81 + i) HPH.out), (rowAt Zy)⟩ ?_
          try simp only [Act.put, List.getElem_toArray, List.getElem_cons_zero, List.getElem_cons_succ, List.setIfInBounds_toArray, List.set_cons_zero, List.set_cons_succ]
          refine wpAnyH_take (i := 1) (v := .int .i64 ((j : Int))) rfl (by kernel_rfl) (by kernel_rfl) (by kernel_rfl) (fun _ _ _ h => h) (Or.inl ⟨by rfl, fun w_ hS_ => by (first | (go_simp; done) | (go_simp; rfl))⟩) ⟨(rowMid Zc (1 + j * 16) HRA.out), (rowCell Zc (81 + i) HPH.out), (rowAt Zy)⟩ ?_
          try simp only [Act.put, List.getElem_toArray, List.getElem_cons_zero, List.getElem_cons_succ, List.setIfInBounds_toArray, List.set_cons_zero, List.set_cons_succ]
          refine wpAnyH_take (i := 2) (v := .pointer (some ⟨gc, 0, none⟩)) rfl (by kernel_rfl) (by kernel_rfl) (by kernel_rfl) (fun _ _ _ h => h) (Or.inl ⟨by rfl, fun w_ hS_ => by (first | (go_simp; done) | (go_simp; rfl))⟩) ⟨(rowMid Zc (1 + j * 16) HRA.out), (rowCell Zc (81 + i) HPH.out), (rowAt Zy)⟩ ?_
          try simp only [Act.put, List.getElem_toArray, List.getElem_cons_zero, List.getElem_cons_succ, List.setIfInBounds_toArray, List.set_cons_zero, List.set_cons_succ]
          refine wpAnyH_take (i := 3) (v := .pointer (some ⟨gc, 1, none⟩)) rfl (by kernel_rfl) (by kernel_rfl) (by kernel_rfl) (fun _ _ _ h => h) (Or.inl ⟨by rfl, fun w_ hS_ => by (first | (go_simp; done) | (go_simp; rfl))⟩) ⟨(rowMid Zc (1 + j * 16) HRA.out), (rowCell Zc (81 + i) HPH.out), (rowAt Zy)⟩ ?_
          try simp only [Act.put, List.getElem_toArray, List.getElem_cons_zero, List.getElem_cons_succ, List.setIfInBounds_toArray, List.set_cons_zero, List.set_cons_succ]
          refine wpAnyH_take (i := 4) (v := .pointer (some ⟨gc, 1 + j * 16, none⟩)) rfl (by kernel_rfl) (by kernel_rfl) (by kernel_rfl) (fun _ _ _ h => h) (Or.inl ⟨by rfl, fun w_ hS_ => by (first | (go_simp; done) | (go_simp; rfl))⟩) ⟨(rowMid Zc (1 + j * 16) HRA.out), (rowCell Zc (81 + i) HPH.out), (rowAt Zy)⟩ ?_
          try simp only [Act.put, List.getElem_toArray, List.getElem_cons_zero, List.getElem_cons_succ, List.setIfInBounds_toArray, List.set_cons_zero, List.set_cons_succ]
          refine wpAnyH_take (i := 5) (v := .agg (a.cells).toArray) rfl (by kernel_rfl) (by kernel_rfl) (by kernel_rfl) (fun _ _ _ h => h) (yieldsIf_load_mid (by rfl) 39 _ rfl (gc) (1 + j * 16) rfl (a.cells) _ (fun _ h => h.1) Tryd.underlying39 rfl sizeAc) ⟨(rowMid Zc (1 + j * 16) HRA.out), (rowCell Zc (81 + i) HPH.out), (rowAt Zy)⟩ ?_
          try simp only [Act.put, List.getElem_toArray, List.getElem_cons_zero, List.getElem_cons_succ, List.setIfInBounds_toArray, List.set_cons_zero, List.set_cons_succ]
          refine wpAnyH_take (i := 6) (v := .pointer (some ⟨gc, 0, none⟩)) rfl (by kernel_rfl) (by kernel_rfl) (by kernel_rfl) (fun _ _ _ h => h) (Or.inl ⟨by rfl, fun w_ hS_ => by (first | (go_simp; done) | (go_simp; rfl))⟩) ⟨(rowMid Zc (1 + j * 16) HRA.out), (rowCell Zc (81 + i) HPH.out), (rowAt Zy)⟩ ?_
          try simp only [Act.put, List.getElem_toArray, List.getElem_cons_zero, List.getElem_cons_succ, List.setIfInBounds_toArray, List.set_cons_zero, List.set_cons_succ]
          refine wpAnyH_take (i := 7) (v := .int .i64 ((i : Int))) rfl (by kernel_rfl) (by kernel_rfl) (by kernel_rfl) (fun _ _ _ h => h) (Or.inl ⟨by rfl, fun w_ hS_ => by (first | (go_simp; done) | (go_simp; rfl))⟩) ⟨(rowMid Zc (1 + j * 16) HRA.out), (rowCell Zc (81 + i) HPH.out), (rowAt Zy)⟩ ?_
          try simp only [Act.put, List.getElem_toArray, List.getElem_cons_zero, List.getElem_cons_succ, List.setIfInBounds_toArray, List.set_cons_zero, List.set_cons_succ]
          refine wpAnyH_take (i := 8) (v := .pointer (some ⟨gc, 0, none⟩)) rfl (by kernel_rfl) (by kernel_rfl) (by kernel_rfl) (fun _ _ _ h => h) (Or.inl ⟨by rfl, fun w_ hS_ => by (first | (go_simp; done) | (go_simp; rfl))⟩) ⟨(rowMid Zc (1 + j * 16) HRA.out), (rowCell Zc (81 + i) HPH.out), (rowAt Zy)⟩ ?_
          try simp only [Act.put, List.getElem_toArray, List.getElem_cons_zero, List.getElem_cons_succ, List.setIfInBounds_toArray, List.set_cons_zero, List.set_cons_succ]
          refine wpAnyH_take (i := 9) (v := .pointer (some ⟨gc, 81, none⟩)) rfl (by kernel_rfl) (by kernel_rfl) (by kernel_rfl) (fun _ _ _ h => h) (Or.inl ⟨by rfl, fun w_ hS_ => by (first | (go_simp; done) | (go_simp; rfl))⟩) ⟨(rowMid Zc (1 + j * 16) HRA.out), (rowCell Zc (81 + i) HPH.out), (rowAt Zy)⟩ ?_
          try simp only [Act.put, List.getElem_toArray, List.getElem_cons_zero, List.getElem_cons_succ, List.setIfInBounds_toArray, List.set_cons_zero, List.set_cons_succ]
          refine wpAnyH_take (i := 10) (v := .pointer (some ⟨gc, 81 + i, none⟩)) rfl (by kernel_rfl) (by kernel_rfl) (by kernel_rfl) (fun _ _ _ h => h) (Or.inl ⟨by rfl, fun w_ hS_ => by (first | (go_simp; done) | (go_simp; rfl))⟩) ⟨(rowMid Zc (1 + j * 16) HRA.out), (rowCell Zc (81 + i) HPH.out), (rowAt Zy)⟩ ?_
          try simp only [Act.put, List.getElem_toArray, List.getElem_cons_zero, List.getElem_cons_succ, List.setIfInBounds_toArray, List.set_cons_zero, List.set_cons_succ]
          refine wpAnyH_take (i := 11) (v := .pointer (some ⟨hh, 0, none⟩)) rfl (by kernel_rfl) (by kernel_rfl) (by kernel_rfl) (fun _ _ _ h => h) (Or.inl ⟨by rfl, fun w_ hS_ => by (have c_ := hS_.2.1; first | (go_simp; done) | (go_simp; rfl))⟩) ⟨(rowMid Zc (1 + j * 16) HRA.out), (rowCell Zc (81 + i) HPH.out), (rowAt Zy)⟩ ?_
          try simp only [Act.put, List.getElem_toArray, List.getElem_cons_zero, List.getElem_cons_succ, List.setIfInBounds_toArray, List.set_cons_zero, List.set_cons_succ]
          refine wpAnyH_take (i := 13) (v := .int .i64 l0.sl) rfl (by kernel_rfl) (by kernel_rfl) (by kernel_rfl) (fun _ _ _ h => h) (Or.inl ⟨by rfl, fun w_ hS_ => by (first | (go_simp; done) | (go_simp; rfl))⟩) ⟨(rowMid Zc (1 + j * 16) HRA.out), (rowCell Zc (81 + i) HPH.out), (rowAt Zy)⟩ ?_
          try simp only [Act.put, List.getElem_toArray, List.getElem_cons_zero, List.getElem_cons_succ, List.setIfInBounds_toArray, List.set_cons_zero, List.set_cons_succ]
          refine wpAnyH_take (i := 14) (v := .agg (l0.x.cells).toArray) rfl (by kernel_rfl) (by kernel_rfl) (by kernel_rfl) (fun _ _ _ h => h) (yieldsIf_load_mid (by rfl) 37 _ rfl (gy) (0) rfl (l0.x.cells) _ (fun _ h => h.2.2) Tryd.underlying37 rfl sizeCm) ⟨(rowMid Zc (1 + j * 16) HRA.out), (rowCell Zc (81 + i) HPH.out), (rowAt Zy)⟩ ?_
          try simp only [Act.put, List.getElem_toArray, List.getElem_cons_zero, List.getElem_cons_succ, List.setIfInBounds_toArray, List.set_cons_zero, List.set_cons_succ]
          refine wpAnyH_ready (rs := [12, 19]) (by kernel_rfl) (by simp) ?_
          refine AllReadyH.cons rfl (fun K hK => ?_) (AllReadyH.cons rfl (fun K hK => ?_) AllReadyH.nil)
          · rw [if_pos (by rfl)]
            go_simp
            go_wp2_with (go_at_call 43; refine (lballot y1 hh l' Zl).mono ?_; rintro e y2 ⟨rfl, t⟩)
            have Zc := hpB Zc t
            have Zl := hpB Zl t
            have Zy := hpB Zy t
            have hu := ownBelow hu t
            have ee := ee.trans (t.mono (Nat.le_trans hB ee.size))
            have ff := ogBelow ff t
            clear t
            refine hK.out _ _ ⟨(rowMid Zc (1 + j * 16) HRA.out), (rowCell Zc (81 + i) HPH.out), (rowAt Zy)⟩ (fun hH => ?_)
            clear hK K hH
            try simp only [Act.put, List.getElem_toArray, List.getElem_cons_zero, List.getElem_cons_succ, List.setIfInBounds_toArray, List.set_cons_zero, List.set_cons_succ]
            refine wpAnyH_ready (rs := [15, 19]) (by kernel_rfl) (by simp) ?_
            refine AllReadyH.cons rfl (fun K hK => ?_) (AllReadyH.cons rfl (fun K hK => ?_) AllReadyH.nil)
            · rw [if_pos (by rfl)]
              go_simp
              go_wp2_with (go_at_call 24; refine (HVC.out y2 ee).mono ?_; rintro e y3 ⟨rfl, t⟩)
              have Zc := hpB Zc t
              have Zl := hpB Zl t
              have Zy := hpB Zy t
              have hu := ownBelow hu t
              have ee := ee.trans (t.mono (Nat.le_trans hB ee.size))
              have ff := ogBelow ff t
              clear t
              refine hK.out _ _ ⟨(rowMid Zc (1 + j * 16) HRA.out), (rowCell Zc (81 + i) HPH.out), (rowAt Zy)⟩ (fun hH => ?_)
              clear hK K hH
              try simp only [Act.put, List.getElem_toArray, List.getElem_cons_zero, List.getElem_cons_succ, List.setIfInBounds_toArray, List.set_cons_zero, List.set_cons_succ]
              refine wpAnyH_take (i := 16) (v := .tuple #[.agg ((a.vote l'.br l'.bn l0.sl l0.x).cells).toArray, .int .i64 ((a.how l'.br l'.bn l0.sl l0.x))]) rfl (by kernel_rfl) (by kernel_rfl) (by kernel_rfl) (fun _ _ _ h => h) (Or.inl ⟨by rfl, fun w_ hS_ => by (first | (go_simp; done) | (go_simp; rfl))⟩) ⟨(rowMid Zc (1 + j * 16) HRA.out), (rowCell Zc (81 + i) HPH.out), (rowAt Zy)⟩ ?_
              try simp only [Act.put, List.getElem_toArray, List.getElem_cons_zero, List.getElem_cons_succ, List.setIfInBounds_toArray, List.set_cons_zero, List.set_cons_succ]
              refine wpAnyH_take (i := 17) (v := .agg ((a.vote l'.br l'.bn l0.sl l0.x).cells).toArray) rfl (by kernel_rfl) (by kernel_rfl) (by kernel_rfl) (fun _ _ _ h => h) (Or.inl ⟨by rfl, fun w_ hS_ => by (first | (go_simp; done) | (go_simp; rfl))⟩) ⟨(rowMid Zc (1 + j * 16) HRA.out), (rowCell Zc (81 + i) HPH.out), (rowAt Zy)⟩ ?_
              try simp only [Act.put, List.getElem_toArray, List.getElem_cons_zero, List.getElem_cons_succ, List.setIfInBounds_toArray, List.set_cons_zero, List.set_cons_succ]
              refine wpAnyH_take (i := 18) (v := .int .i64 ((a.how l'.br l'.bn l0.sl l0.x))) rfl (by kernel_rfl) (by kernel_rfl) (by kernel_rfl) (fun _ _ _ h => h) (Or.inl ⟨by rfl, fun w_ hS_ => by (first | (go_simp; done) | (go_simp; rfl))⟩) ⟨(rowMid Zc (1 + j * 16) HRA.out), (rowCell Zc (81 + i) HPH.out), (rowAt Zy)⟩ ?_
              try simp only [Act.put, List.getElem_toArray, List.getElem_cons_zero, List.getElem_cons_succ, List.setIfInBounds_toArray, List.set_cons_zero, List.set_cons_succ]
              refine wpAnyH_ready (rs := [19]) (by kernel_rfl) (by simp) ?_
              refine AllReadyH.cons rfl (fun K hK => ?_) AllReadyH.nil
              rw [if_pos (by rfl)]
              go_simp
              have lZc := (Array.getElem?_eq_some_iff.1 Zc).1
              have lZl := (Array.getElem?_eq_some_iff.1 Zl).1
              have lZy := (Array.getElem?_eq_some_iff.1 Zy).1
              have sz_ := ff.size
              have ne_hu_Zn : (Value.slice l'.A l'.l.length l'.c).ownBlock ≠ some (y3.heap.size) := fun hb_ => by have hh_ := (hu.lt _ hb_).2; omega
              have Zc := hpA Zc (.cells #[.int .u32 0, .int .i64 0, .int .i64 0, .bool false, .int .u32 0, .int .i64 0, .int .i64 0, .int .i64 0, .int .i64 0, .slice none 0 0, .slice none 0 0, .int .i64 0, .int .i64 0, .int .i64 0, .int .u64 0, .bool false] 39)
              have Zl := hpA Zl (.cells #[.int .u32 0, .int .i64 0, .int .i64 0, .bool false, .int .u32 0, .int .i64 0, .int .i64 0, .int .i64 0, .int .i64 0, .slice none 0 0, .slice none 0 0, .int .i64 0, .int .i64 0, .int .i64 0, .int .u64 0, .bool false] 39)
              have Zy := hpA Zy (.cells #[.int .u32 0, .int .i64 0, .int .i64 0, .bool false, .int .u32 0, .int .i64 0, .int .i64 0, .int .i64 0, .int .i64 0, .slice none 0 0, .slice none 0 0, .int .i64 0, .int .i64 0, .int .i64 0, .int .u64 0, .bool false] 39)
              have hu := hu.alloc (.cells #[.int .u32 0, .int .i64 0, .int .i64 0, .bool false, .int .u32 0, .int .i64 0, .int .i64 0, .int .i64 0, .int .i64 0, .slice none 0 0, .slice none 0 0, .int .i64 0, .int .i64 0, .int .i64 0, .int .u64 0, .bool false] 39)
              have ee := ee.alloc (Nat.le_trans hB ee.size) (.cells #[.int .u32 0, .int .i64 0, .int .i64 0, .bool false, .int .u32 0, .int .i64 0, .int .i64 0, .int .i64 0, .int .i64 0, .slice none 0 0, .slice none 0 0, .int .i64 0, .int .i64 0, .int .i64 0, .int .u64 0, .bool false] 39)
              have ff := ogAlloc ff (.cells #[.int .u32 0, .int .i64 0, .int .i64 0, .bool false, .int .u32 0, .int .i64 0, .int .i64 0, .int .i64 0, .int .i64 0, .slice none 0 0, .slice none 0 0, .int .i64 0, .int .i64 0, .int .i64 0, .int .u64 0, .bool false] 39)
              have Zn := hpN y3 (.cells #[.int .u32 0, .int .i64 0, .int .i64 0, .bool false, .int .u32 0, .int .i64 0, .int .i64 0, .int .i64 0, .int .i64 0, .slice none 0 0, .slice none 0 0, .int .i64 0, .int .i64 0, .int .i64 0, .int .u64 0, .bool false] 39) rfl
              generalize y3.alloc (.cells #[.int .u32 0, .int .i64 0, .int .i64 0, .bool false, .int .u32 0, .int .i64 0, .int .i64 0, .int .i64 0, .int .i64 0, .slice none 0 0, .slice none 0 0, .int .i64 0, .int .i64 0, .int .i64 0, .int .u64 0, .bool false] 39) = y4 at Zc Zl Zy Zn hu ee ff ⊢
              refine hK.out _ _ ⟨(rowMid Zc (1 + j * 16) HRA.out), (rowCell Zc (81 + i) HPH.out), (rowAt Zy)⟩ (fun hH => ?_)
              clear hK K hH
              try simp only [Act.put, List.getElem_toArray, List.getElem_cons_zero, List.getElem_cons_succ, List.setIfInBounds_toArray, List.set_cons_zero, List.set_cons_succ]
              refine wpAnyH_ready (rs := [20]) (by kernel_rfl) (by simp) ?_
              refine AllReadyH.cons rfl (fun K hK => ?_) AllReadyH.nil
              rw [if_pos (by rfl)]
              refine wp_store_row 39 _ _ rfl (y3.heap.size) ((a.vote l'.br l'.bn l0.sl l0.x).cells).toArray rfl rfl 39 _ Zn sizeAc (by rfl) (Ac.one _) ?_
              have N_ := setRow_heap y4 (y3.heap.size) _ ((a.vote l'.br l'.bn l0.sl l0.x).cells).toArray _ _ Zn
              have hu := ogOwnR (cs := ((a.vote l'.br l'.bn l0.sl l0.x).cells).toArray) hu ne_hu_Zn
              have ee := belowSet (cs := ((a.vote l'.br l'.bn l0.sl l0.x).cells).toArray) ee Zn (by omega)
              have ff := ogRow (cs := ((a.vote l'.br l'.bn l0.sl l0.x).cells).toArray) (by first | (right; omega) | exact Or.inl (Or.inl rfl) | exact Or.inl (Or.inr rfl)) Zn ff
              have Zc := hpR Zc (g' := y3.heap.size) (by omega) ((a.vote l'.br l'.bn l0.sl l0.x).cells).toArray
              have Zl := hpR Zl (g' := y3.heap.size) (by omega) ((a.vote l'.br l'.bn l0.sl l0.x).cells).toArray
              have Zy := hpR Zy (g' := y3.heap.size) (by omega) ((a.vote l'.br l'.bn l0.sl l0.x).cells).toArray
              clear Zn
              have Zn := N_
              clear N_
              generalize y4.setRow (y3.heap.size) ((a.vote l'.br l'.bn l0.sl l0.x).cells).toArray = y5 at Zc Zl Zy Zn hu ee ff ⊢
              refine hK.out _ _ ⟨(rowMid Zc (1 + j * 16) HRA.out), (rowCell Zc (81 + i) HPH.out), (rowAt Zy)⟩ (fun hH => ?_)
              clear hK K hH
              try simp only [Act.put, List.getElem_toArray, List.getElem_cons_zero, List.getElem_cons_succ, List.setIfInBounds_toArray, List.set_cons_zero, List.set_cons_succ]
              refine wpAnyH_take (i := 21) (v := .int .i64 ((a.how l'.br l'.bn l0.sl l0.x))) rfl (by kernel_rfl) (by kernel_rfl) (by kernel_rfl) (fun _ _ _ h => h) (Or.inl ⟨by rfl, fun w_ hS_ => by (first | (go_simp; done) | (go_simp; rfl))⟩) ⟨(rowMid Zc (1 + j * 16) HRA.out), (rowCell Zc (81 + i) HPH.out), (rowAt Zy)⟩ ?_
              try simp only [Act.put, List.getElem_toArray, List.getElem_cons_zero, List.getElem_cons_succ, List.setIfInBounds_toArray, List.set_cons_zero, List.set_cons_succ]
              refine wpAnyH_done (by kernel_rfl) ?_ _
              clear HVC HRA
              go_upto_region 10 with fail
              have Zc : y5.drew.heap[gc]? = some (.cells (crC n A' (fun j => pv (H j)) S (k + 1)).toArray 122) := Zc
              have Zl : y5.drew.heap[hh]? = some (.cells l'.cells.toArray 144) := Zl
              have Zy : y5.drew.heap[gy]? = some (.cells l0.x.cells.toArray 37) := Zy
              have Zn : y5.drew.heap[y3.heap.size]? = some (.cells ((a.vote l'.br l'.bn l0.sl l0.x).cells).toArray 39) := Zn
              have hu := World.ownsRow.drew hu
              have ee := belowDrewS ee
              have ff := ogDrew ff
              refine wp_region_held_drew (S := fun z' => z'.rangeAt y3.heap.size (0) ((a.vote l'.br l'.bn l0.sl l0.x).cells)) (by kernel_rfl) (rowAt Zn) (fun hH => ?_)
              clear hH
              generalize y5.drew = y6 at Zc Zl Zy Zn hu ee ff ⊢
              refine wpAnyH_take (i := 0) (v := .pointer (some ⟨gc, 0, none⟩)) rfl (by kernel_rfl) (by kernel_rfl) (by kernel_rfl) (fun _ _ _ h => h) (Or.inl ⟨by rfl, fun w_ hS_ => by (first | (go_simp; done) | (go_simp; rfl))⟩) (rowAt Zn) ?_
              try simp only [Act.put, List.getElem_toArray, List.getElem_cons_zero, List.getElem_cons_succ, List.setIfInBounds_toArray, List.set_cons_zero, List.set_cons_succ]
              refine wpAnyH_take (i := 1) (v := .int .i64 ((j : Int))) rfl (by kernel_rfl) (by kernel_rfl) (by kernel_rfl) (fun _ _ _ h => h) (Or.inl ⟨by rfl, fun w_ hS_ => by (first | (go_simp; done) | (go_simp; rfl))⟩) (rowAt Zn) ?_
              try simp only [Act.put, List.getElem_toArray, List.getElem_cons_zero, List.getElem_cons_succ, List.setIfInBounds_toArray, List.set_cons_zero, List.set_cons_succ]
              refine wpAnyH_take (i := 2) (v := .agg ((a.vote l'.br l'.bn l0.sl l0.x).cells).toArray) rfl (by kernel_rfl) (by kernel_rfl) (by kernel_rfl) (fun _ _ _ h => h) (yieldsIf_load_mid (by rfl) 39 _ rfl (y3.heap.size) (0) rfl ((a.vote l'.br l'.bn l0.sl l0.x).cells) _ (fun _ h => h) Tryd.underlying39 rfl sizeAc) (rowAt Zn) ?_
              try simp only [Act.put, List.getElem_toArray, List.getElem_cons_zero, List.getElem_cons_succ, List.setIfInBounds_toArray, List.set_cons_zero, List.set_cons_succ]
              refine wpAnyH_take (i := 3) (v := .pointer (some ⟨gc, 0, none⟩)) rfl (by kernel_rfl) (by kernel_rfl) (by kernel_rfl) (fun _ _ _ h => h) (Or.inl ⟨by rfl, fun w_ hS_ => by (first | (go_simp; done) | (go_simp; rfl))⟩) (rowAt Zn) ?_
              try simp only [Act.put, List.getElem_toArray, List.getElem_cons_zero, List.getElem_cons_succ, List.setIfInBounds_toArray, List.set_cons_zero, List.set_cons_succ]
              refine wpAnyH_take (i := 4) (v := .pointer (some ⟨gc, 1, none⟩)) rfl (by kernel_rfl) (by kernel_rfl) (by kernel_rfl) (fun _ _ _ h => h) (Or.inl ⟨by rfl, fun w_ hS_ => by (first | (go_simp; done) | (go_simp; rfl))⟩) (rowAt Zn) ?_
              try simp only [Act.put, List.getElem_toArray, List.getElem_cons_zero, List.getElem_cons_succ, List.setIfInBounds_toArray, List.set_cons_zero, List.set_cons_succ]
              refine wpAnyH_take (i := 5) (v := .pointer (some ⟨gc, 1 + j * 16, none⟩)) rfl (by kernel_rfl) (by kernel_rfl) (by kernel_rfl) (fun _ _ _ h => h) (Or.inl ⟨by rfl, fun w_ hS_ => by (first | (go_simp; done) | (go_simp; rfl))⟩) (rowAt Zn) ?_
              try simp only [Act.put, List.getElem_toArray, List.getElem_cons_zero, List.getElem_cons_succ, List.setIfInBounds_toArray, List.set_cons_zero, List.set_cons_succ]
              refine wpAnyH_ready (rs := [6]) (by kernel_rfl) (by simp) ?_
              refine AllReadyH.cons rfl (fun K hK => ?_) AllReadyH.nil
              rw [if_pos (by rfl)]
              refine wp_store_mid 39 _ _ rfl (gc) (1 + j * 16) ((a.vote l'.br l'.bn l0.sl l0.x).cells).toArray rfl rfl (crThere Zc (by omega)) sizeAc (Ac.one _) ?_
              have N_ : (y6.setCells (gc) (1 + j * 16) ((a.vote l'.br l'.bn l0.sl l0.x).cells)).heap[gc]? = some (.cells (crC n (Px.upd A' j (a.vote l'.br l'.bn l0.sl l0.x)) (fun j => pv (H j)) S (k + 1)).toArray 122) := (by rw [← (HPU (a.vote l'.br l'.bn l0.sl l0.x)).out]; exact hpC _ _ _ _ Zc)
              have hu := ogOwnC hu (ogKind hu Zc (by decide)) ((a.vote l'.br l'.bn l0.sl l0.x).cells) (1 + j * 16)
              have ee := belowC (g := gc) (by omega) ((a.vote l'.br l'.bn l0.sl l0.x).cells) (1 + j * 16) y6 ee
              have ff := ogCells (k := gc) (by first | (right; omega) | exact Or.inl (Or.inl rfl) | exact Or.inl (Or.inr rfl)) ((a.vote l'.br l'.bn l0.sl l0.x).cells) (1 + j * 16) y6 ff
              have Zl := hpCo (g' := gc) (by omega) ((a.vote l'.br l'.bn l0.sl l0.x).cells) (1 + j * 16) y6 Zl
              have Zy := hpCo (g' := gc) (by omega) ((a.vote l'.br l'.bn l0.sl l0.x).cells) (1 + j * 16) y6 Zy
              have Zn := hpCo (g' := gc) (by omega) ((a.vote l'.br l'.bn l0.sl l0.x).cells) (1 + j * 16) y6 Zn
              clear Zc
              have Zc := N_
              clear N_
              change K _ (y6.setCells (gc) (1 + j * 16) ((a.vote l'.br l'.bn l0.sl l0.x).cells))
              generalize y6.setCells (gc) (1 + j * 16) ((a.vote l'.br l'.bn l0.sl l0.x).cells) = y7 at Zc Zl Zy Zn hu ee ff ⊢
              refine hK.out _ _ (rowAt Zn) (fun hH => ?_)
              clear hK K hH
              try simp only [Act.put, List.getElem_toArray, List.getElem_cons_zero, List.getElem_cons_succ, List.setIfInBounds_toArray, List.set_cons_zero, List.set_cons_succ]
              refine wpAnyH_done (by kernel_rfl) ?_ _
              clear Zn
              have HPH2 : Hid ((crC n (Px.upd A' j (a.vote l'.br l'.bn l0.sl l0.x)) (fun j => pv (H j)) S (k + 1))[81 + i]? = some (.pointer (some ⟨hh, 0, none⟩))) := by show _ = _; rw [crH n (Px.upd A' j (a.vote l'.br l'.bn l0.sl l0.x)) _ S (k + 1) i (by omega)]; show some (pv (H i)) = _; rw [HHI.out]; rfl
              clear HPH
              have HPH := HPH2
              clear HPH2
              go_upto_region 11 with fail
              by_cases hw : (a.how l'.br l'.bn l0.sl l0.x) = 3
              · have hw3 : ((a.how l'.br l'.bn l0.sl l0.x) == 3) = true := by rw [hw]; rfl
                obtain ⟨V2, hV2⟩ : ∃ V2, Cinv n t (Px.upd A' j (a.vote l'.br l'.bn l0.sl l0.x)) (updF L i (l'.vote (j : Int) l'.br l'.bn l0.sl)) X P1 V2 := by
                  have h9 := HP.out.1.vote h5 hi hlt (by rw [updF_same, HP.out.2.1]; exact hs0) (by rw [updF_same, ← HA.out, HP.out.2.1, HP.out.2.2.1]; exact hw)
                  rw [updF_same, updF_updF, ← HA.out, HP.out.2.1, HP.out.2.2.1] at h9; exact h9
                have HV2 := Lib.hid hV2
                have HLV := Lib.hid (fun z (hz : LdAt z hh l') => lvote_any z hh l' (j : Int) l'.br l'.bn l0.sl hz (by have := (HP.out.1.ld i hi).pw.2; rw [updF_same] at this; exact this))
                have HVS := Lib.hid (vote_same l' (j : Int) l'.br l'.bn l0.sl)
                clear hV2 hw
                have Zc : y7.drew.heap[gc]? = some (.cells (crC n (Px.upd A' j (a.vote l'.br l'.bn l0.sl l0.x)) (fun j => pv (H j)) S (k + 1)).toArray 122) := Zc
                have Zl : y7.drew.heap[hh]? = some (.cells l'.cells.toArray 144) := Zl
                have Zy : y7.drew.heap[gy]? = some (.cells l0.x.cells.toArray 37) := Zy
                have hu := World.ownsRow.drew hu
                have ee := belowDrewS ee
                have ff := ogDrew ff
                refine wp_region_held_drew (S := fun z' => z'.cell? ⟨gc, 81 + i, none⟩ = some (.pointer (some ⟨hh, 0, none⟩))) (by kernel_rfl) (rowCell Zc (81 + i) HPH.out) (fun hH => ?_)
                clear hH
                generalize y7.drew = y8 at Zc Zl Zy hu ee ff ⊢
                refine wpAnyH_take (i := 0) (v := .int .i64 ((a.how l'.br l'.bn l0.sl l0.x))) rfl (by kernel_rfl) (by kernel_rfl) (by kernel_rfl) (fun _ _ _ h => h) (Or.inl ⟨by rfl, fun w_ hS_ => by (first | (go_simp; done) | (go_simp; rfl))⟩) (rowCell Zc (81 + i) HPH.out) ?_
                try simp only [Act.put, List.getElem_toArray, List.getElem_cons_zero, List.getElem_cons_succ, List.setIfInBounds_toArray, List.set_cons_zero, List.set_cons_succ]
                refine wpAnyH_take (i := 1) (v := .bool true) rfl (by kernel_rfl) (by kernel_rfl) (by kernel_rfl) (fun _ _ _ h => h) (Or.inl ⟨by rfl, fun w_ hS_ => by (first | (go_simp; done) | (go_simp; rfl))⟩) (rowCell Zc (81 + i) HPH.out) ?_
                try simp only [Act.put, List.getElem_toArray, List.getElem_cons_zero, List.getElem_cons_succ, List.setIfInBounds_toArray, List.set_cons_zero, List.set_cons_succ]
                refine wpAnyH_take (i := 2) (v := .bool true) rfl (by kernel_rfl) (by kernel_rfl) (by kernel_rfl) (fun _ _ _ h => h) (Or.inl ⟨by rfl, fun w_ hS_ => by (first | (go_simp; done) | (go_simp; rfl))⟩) (rowCell Zc (81 + i) HPH.out) ?_
                try simp only [Act.put, List.getElem_toArray, List.getElem_cons_zero, List.getElem_cons_succ, List.setIfInBounds_toArray, List.set_cons_zero, List.set_cons_succ]
                refine wpAnyH_take (i := 3) (v := .pointer (some ⟨gc, 0, none⟩)) rfl (by kernel_rfl) (by kernel_rfl) (by kernel_rfl) (fun _ _ _ h => h) (Or.inl ⟨by rfl, fun w_ hS_ => by (first | (go_simp; done) | (go_simp; rfl))⟩) (rowCell Zc (81 + i) HPH.out) ?_
                try simp only [Act.put, List.getElem_toArray, List.getElem_cons_zero, List.getElem_cons_succ, List.setIfInBounds_toArray, List.set_cons_zero, List.set_cons_succ]
                refine wpAnyH_take (i := 4) (v := .int .i64 ((i : Int))) rfl (by kernel_rfl) (by kernel_rfl) (by kernel_rfl) (fun _ _ _ h => h) (Or.inl ⟨by rfl, fun w_ hS_ => by (first | (go_simp; done) | (go_simp; rfl))⟩) (rowCell Zc (81 + i) HPH.out) ?_
                try simp only [Act.put, List.getElem_toArray, List.getElem_cons_zero, List.getElem_cons_succ, List.setIfInBounds_toArray, List.set_cons_zero, List.set_cons_succ]
                refine wpAnyH_take (i := 5) (v := .pointer (some ⟨gc, 0, none⟩)) rfl (by kernel_rfl) (by kernel_rfl) (by kernel_rfl) (fun _ _ _ h => h) (Or.inl ⟨by rfl, fun w_ hS_ => by (first | (go_simp; done) | (go_simp; rfl))⟩) (rowCell Zc (81 + i) HPH.out) ?_
                try simp only [Act.put, List.getElem_toArray, List.getElem_cons_zero, List.getElem_cons_succ, List.setIfInBounds_toArray, List.set_cons_zero, List.set_cons_succ]
                refine wpAnyH_take (i := 6) (v := .pointer (some ⟨gc, 81, none⟩)) rfl (by kernel_rfl) (by kernel_rfl) (by kernel_rfl) (fun _ _ _ h => h) (Or.inl ⟨by rfl, fun w_ hS_ => by (first | (go_simp; done) | (go_simp; rfl))⟩) (rowCell Zc (81 + i) HPH.out) ?_
                try simp only [Act.put, List.getElem_toArray, List.getElem_cons_zero, List.getElem_cons_succ, List.setIfInBounds_toArray, List.set_cons_zero, List.set_cons_succ]
                refine wpAnyH_take (i := 7) (v := .pointer (some ⟨gc, 81 + i, none⟩)) rfl (by kernel_rfl) (by kernel_rfl) (by kernel_rfl) (fun _ _ _ h => h) (Or.inl ⟨by rfl, fun w_ hS_ => by (first | (go_simp; done) | (go_simp; rfl))⟩) (rowCell Zc (81 + i) HPH.out) ?_
                try simp only [Act.put, List.getElem_toArray, List.getElem_cons_zero, List.getElem_cons_succ, List.setIfInBounds_toArray, List.set_cons_zero, List.set_cons_succ]
                refine wpAnyH_take (i := 8) (v := .pointer (some ⟨hh, 0, none⟩)) rfl (by kernel_rfl) (by kernel_rfl) (by kernel_rfl) (fun _ _ _ h => h) (Or.inl ⟨by rfl, fun w_ hS_ => by (have c_ := hS_; first | (go_simp; done) | (go_simp; rfl))⟩) (rowCell Zc (81 + i) HPH.out) ?_
                try simp only [Act.put, List.getElem_toArray, List.getElem_cons_zero, List.getElem_cons_succ, List.setIfInBounds_toArray, List.set_cons_zero, List.set_cons_succ]
                refine wpAnyH_take (i := 9) (v := .int .i64 ((j : Int))) rfl (by kernel_rfl) (by kernel_rfl) (by kernel_rfl) (fun _ _ _ h => h) (Or.inl ⟨by rfl, fun w_ hS_ => by (first | (go_simp; done) | (go_simp; rfl))⟩) (rowCell Zc (81 + i) HPH.out) ?_
                try simp only [Act.put, List.getElem_toArray, List.getElem_cons_zero, List.getElem_cons_succ, List.setIfInBounds_toArray, List.set_cons_zero, List.set_cons_succ]
                refine wpAnyH_take (i := 10) (v := .pointer (some ⟨gc, 0, none⟩)) rfl (by kernel_rfl) (by kernel_rfl) (by kernel_rfl) (fun _ _ _ h => h) (Or.inl ⟨by rfl, fun w_ hS_ => by (first | (go_simp; done) | (go_simp; rfl))⟩) (rowCell Zc (81 + i) HPH.out) ?_
                try simp only [Act.put, List.getElem_toArray, List.getElem_cons_zero, List.getElem_cons_succ, List.setIfInBounds_toArray, List.set_cons_zero, List.set_cons_succ]
                refine wpAnyH_take (i := 11) (v := .int .i64 ((i : Int))) rfl (by kernel_rfl) (by kernel_rfl) (by kernel_rfl) (fun _ _ _ h => h) (Or.inl ⟨by rfl, fun w_ hS_ => by (first | (go_simp; done) | (go_simp; rfl))⟩) (rowCell Zc (81 + i) HPH.out) ?_
                try simp only [Act.put, List.getElem_toArray, List.getElem_cons_zero, List.getElem_cons_succ, List.setIfInBounds_toArray, List.set_cons_zero, List.set_cons_succ]
                refine wpAnyH_take (i := 12) (v := .pointer (some ⟨gc, 0, none⟩)) rfl (by kernel_rfl) (by kernel_rfl) (by kernel_rfl) (fun _ _ _ h => h) (Or.inl ⟨by rfl, fun w_ hS_ => by (first | (go_simp; done) | (go_simp; rfl))⟩) (rowCell Zc (81 + i) HPH.out) ?_
                try simp only [Act.put, List.getElem_toArray, List.getElem_cons_zero, List.getElem_cons_succ, List.setIfInBounds_toArray, List.set_cons_zero, List.set_cons_succ]
                refine wpAnyH_take (i := 13) (v := .pointer (some ⟨gc, 81, none⟩)) rfl (by kernel_rfl) (by kernel_rfl) (by kernel_rfl) (fun _ _ _ h => h) (Or.inl ⟨by rfl, fun w_ hS_ => by (first | (go_simp; done) | (go_simp; rfl))⟩) (rowCell Zc (81 + i) HPH.out) ?_
                try simp only [Act.put, List.getElem_toArray, List.getElem_cons_zero, List.getElem_cons_succ, List.setIfInBounds_toArray, List.set_cons_zero, List.set_cons_succ]
                refine wpAnyH_take (i := 14) (v := .pointer (some ⟨gc, 81 + i, none⟩)) rfl (by kernel_rfl) (by kernel_rfl) (by kernel_rfl) (fun _ _ _ h => h) (Or.inl ⟨by rfl, fun w_ hS_ => by (first | (go_simp; done) | (go_simp; rfl))⟩) (rowCell Zc (81 + i) HPH.out) ?_
                try simp only [Act.put, List.getElem_toArray, List.getElem_cons_zero, List.getElem_cons_succ, List.setIfInBounds_toArray, List.set_cons_zero, List.set_cons_succ]
                refine wpAnyH_take (i := 15) (v := .pointer (some ⟨hh, 0, none⟩)) rfl (by kernel_rfl) (by kernel_rfl) (by kernel_rfl) (fun _ _ _ h => h) (Or.inl ⟨by rfl, fun w_ hS_ => by (have c_ := hS_; first | (go_simp; done) | (go_simp; rfl))⟩) (rowCell Zc (81 + i) HPH.out) ?_
                try simp only [Act.put, List.getElem_toArray, List.getElem_cons_zero, List.getElem_cons_succ, List.setIfInBounds_toArray, List.set_cons_zero, List.set_cons_succ]
                refine wpAnyH_take (i := 17) (v := .int .i64 l0.sl) rfl (by kernel_rfl) (by kernel_rfl) (by kernel_rfl) (fun _ _ _ h => h) (Or.inl ⟨by rfl, fun w_ hS_ => by (first | (go_simp; done) | (go_simp; rfl))⟩) (rowCell Zc (81 + i) HPH.out) ?_
                try simp only [Act.put, List.getElem_toArray, List.getElem_cons_zero, List.getElem_cons_succ, List.setIfInBounds_toArray, List.set_cons_zero, List.set_cons_succ]
                refine wpAnyH_ready (rs := [16]) (by kernel_rfl) (by simp) ?_
                refine AllReadyH.cons rfl (fun K hK => ?_) AllReadyH.nil
                rw [if_pos (by rfl)]
                go_simp
                go_wp2_with (go_at_call 43; refine (lballot y8 hh l' Zl).mono ?_; rintro e y9 ⟨rfl, t⟩)
                have Zc := hpB Zc t
                have Zl := hpB Zl t
                have Zy := hpB Zy t
                have hu := ownBelow hu t
                have ee := ee.trans (t.mono (Nat.le_trans hB ee.size))
                have ff := ogBelow ff t
                clear t
                refine hK.out _ _ (rowCell Zc (81 + i) HPH.out) (fun hH => ?_)
                clear hK K hH
                try simp only [Act.put, List.getElem_toArray, List.getElem_cons_zero, List.getElem_cons_succ, List.setIfInBounds_toArray, List.set_cons_zero, List.set_cons_succ]
                refine wpAnyH_ready (rs := [18]) (by kernel_rfl) (by simp) ?_
                refine AllReadyH.cons rfl (fun K hK => ?_) AllReadyH.nil
                rw [if_pos (by rfl)]
                go_simp
                go_wp2_with (go_at_call 38; refine (HLV.out y9 Zl).mono ?_; rintro e y10 ⟨⟨b_, rfl, HB_⟩, Zm_, t_⟩)
                have Zc := ogHeapG Zc t_ hgh
                have Zy := ogHeapG Zy t_ (by omega)
                have hu := hu.kept t_ (Or.inr (lgKind hu Zl (by decide)))
                have ff := ogGrown ff t_ (Or.inl (Or.inr rfl))
                have ee := ee.grown t_ (Nat.le_trans hB ee.size) (fun g_ e_ => by injection e_ with e_; omega)
                clear Zl t_
                have Zl : y10.heap[hh]? = some (.cells (l'.vote (j : Int) l'.br l'.bn l0.sl).cells.toArray 144) := Zm_
                clear Zm_
                have HB_ := Lib.hid HB_
                refine hK.out _ _ (rowCell Zc (81 + i) HPH.out) (fun hH => ?_)
                clear hK K hH
                try simp only [Act.put, List.getElem_toArray, List.getElem_cons_zero, List.getElem_cons_succ, List.setIfInBounds_toArray, List.set_cons_zero, List.set_cons_succ]
                refine wpAnyH_take (i := 19) (v := .bool b_) rfl (by kernel_rfl) (by kernel_rfl) (by kernel_rfl) (fun _ _ _ h => h) (Or.inl ⟨by rfl, fun w_ hS_ => by (first | (go_simp; done) | (go_simp; rfl))⟩) (rowCell Zc (81 + i) HPH.out) ?_
                try simp only [Act.put, List.getElem_toArray, List.getElem_cons_zero, List.getElem_cons_succ, List.setIfInBounds_toArray, List.set_cons_zero, List.set_cons_succ]
                refine wpAnyH_done (by kernel_rfl) ?_ _
                have hu : y10.ownsRow B 39 16 (.slice (l'.vote (j : Int) l'.br l'.bn l0.sl).A (l'.vote (j : Int) l'.br l'.bn l0.sl).l.length (l'.vote (j : Int) l'.br l'.bn l0.sl).c) (l'.vote (j : Int) l'.br l'.bn l0.sl).l.length (acCells (l'.vote (j : Int) l'.br l'.bn l0.sl).l) := by rw [HVS.out.2.2.2.2.2.2.1, HVS.out.2.2.2.2.2.1, HVS.out.2.2.2.2.2.2.2]; exact hu
                clear HLV
                have HP2 : Hid (Cinv n t (Px.upd A' j (a.vote l'.br l'.bn l0.sl l0.x)) (updF L i (l'.vote (j : Int) l'.br l'.bn l0.sl)) X P1 V2 ∧ (l'.vote (j : Int) l'.br l'.bn l0.sl).sl = l0.sl ∧ (l'.vote (j : Int) l'.br l'.bn l0.sl).x = l0.x ∧ (l'.vote (j : Int) l'.br l'.bn l0.sl).l = l0.l ∧ (l'.vote (j : Int) l'.br l'.bn l0.sl).A = l0.A ∧ (l'.vote (j : Int) l'.br l'.bn l0.sl).c = l0.c ∧ (l'.vote (j : Int) l'.br l'.bn l0.sl).n = (n : Int)) := by
                  obtain ⟨p1, p2, p3, p4, p5, p6, p7⟩ := HP.out
                  obtain ⟨s1, s2, s3, s4, s5, s6, s7, s8⟩ := HVS.out
                  exact ⟨HV2.out, s4.trans p2, s5.trans p3, s6.trans p4, s7.trans p5, s8.trans p6, s1.trans p7⟩
                cases b_ with
                | false =>
                  go_wp2_with fail
                  go_roundw
                  case rel => exact ⟨j + 1, (Px.upd A' j (a.vote l'.br l'.bn l0.sl l0.x)), (l'.vote (j : Int) l'.br l'.bn l0.sl), V2, by omega, by go_num, HP2, Zc, Zl, Zy, hu, ff, ee⟩
                  case measure => simp [intOf]; omega
                | true =>
                  have HBB := HB_.out rfl
                  have hmj : Q.majB (l'.vote (j : Int) l'.br l'.bn l0.sl).vt (n : Int) = true := by
                    have e_ : (l'.vote (j : Int) l'.br l'.bn l0.sl).vt = Q.addN l'.vt (j : Int) := by unfold Ld.vote; rw [HBB.1]; rfl
                    rw [e_, ← HP.out.2.2.2.2.2.2]; exact HBB.2
                  have hd9 := HV2.out.done h5 hi (by rw [updF_same, HP2.out.2.1]; exact hs0) (by rw [updF_same]; exact hmj)
                  rw [updF_same, updF_updF, HP2.out.2.1, HP2.out.2.2.1] at hd9
                  have hds : (l'.vote (j : Int) l'.br l'.bn l0.sl).dones = true := by unfold Ld.dones; rw [decide_eq_false (by rw [HP2.out.2.1]; exact hs0), HP2.out.2.2.2.2.2.2, hmj]; rfl
                  have hpw : (l'.vote (j : Int) l'.br l'.bn l0.sl).vt < 18446744073709551616 := by have := (HV2.out.ld i hi).pw.2; rw [updF_same] at this; exact this
                  have hsr : 0 ≤ (l'.vote (j : Int) l'.br l'.bn l0.sl).sl ∧ (l'.vote (j : Int) l'.br l'.bn l0.sl).sl ≤ 1000000 := by have := (HV2.out.ld i hi).slr; rw [updF_same] at this; exact this
                  have hdl : (l'.vote (j : Int) l'.br l'.bn l0.sl).done.A = none ∧ (l'.vote (j : Int) l'.br l'.bn l0.sl).done.l = [] ∧ (l'.vote (j : Int) l'.br l'.bn l0.sl).done.c = 0 := by unfold Ld.done; rw [hds]; exact ⟨rfl, rfl, rfl⟩
                  have HDL := Lib.hid hdl
                  have HD9 := Lib.hid hd9
                  have HDC := Lib.hid (fun z (hz : LdAt z hh (l'.vote (j : Int) l'.br l'.bn l0.sl)) => ldone z hh (l'.vote (j : Int) l'.br l'.bn l0.sl) hz hpw hsr.1 hsr.2)
                  rw [hds] at HDC
                  clear HBB hmj hd9 hds hpw hsr hdl HB_
                  have cH := rowCell Zc (81 + i) HPH.out
                  go_wp2_with fail
                  refine (HDC.out y10 Zl).mono ?_
                  rintro e y11 ⟨rfl, Zm_, t_⟩
                  have Zc := ogHeapG Zc t_ hgh
                  have Zy := ogHeapG Zy t_ (by omega)
                  have hu := hu.kept t_ (Or.inr (lgKind hu Zl (by decide)))
                  have ff := ogGrown ff t_ (Or.inl (Or.inr rfl))
                  have ee := ee.grown t_ (Nat.le_trans hB ee.size) (fun g_ e_ => by injection e_ with e_; omega)
                  clear Zl t_ hu cH
                  have Zl : y11.heap[hh]? = some (.cells (l'.vote (j : Int) l'.br l'.bn l0.sl).done.cells.toArray 144) := Zm_
                  clear Zm_
                  have hu : y11.ownsRow B 39 16 (rowv (l'.vote (j : Int) l'.br l'.bn l0.sl).done) (l'.vote (j : Int) l'.br l'.bn l0.sl).done.l.length (acCells (l'.vote (j : Int) l'.br l'.bn l0.sl).done.l) := by unfold rowv; rw [HDL.out.1, HDL.out.2.1, HDL.out.2.2]; exact World.ownsRow_nil _ _ _ _
                  have HCR := Lib.hid (HMV.out _ (l'.vote (j : Int) l'.br l'.bn l0.sl).done (Px.upd A' j (a.vote l'.br l'.bn l0.sl l0.x)) ff Zc Zl hu (fun g hg => by unfold rowv at hg; rw [HDL.out.1, HDL.out.2.1, HDL.out.2.2] at hg; cases hg))
                  clear hu
                  try dsimp only
                  rename_i hK
                  refine hK _ _ ?_
                  clear hK
                  have cS := rowCell Zc (1 + i * 16 + 2) (crA n (Px.upd A' j (a.vote l'.br l'.bn l0.sl l0.x)) (fun j => pv (H j)) S (k + 1) i (by omega) 2 (.int .i64 ((Px.upd A' j (a.vote l'.br l'.bn l0.sl l0.x)) i).sl) rfl)
                  generalize hsi : ((Px.upd A' j (a.vote l'.br l'.bn l0.sl l0.x)) i).sl = si at cS
                  have HSI := Lib.hid hsi
                  clear hsi
                  by_cases hq : si = l0.sl
                  · have hq1 : (si == l0.sl) = true := by rw [hq]; simp
                    go_upto_region 15 with fail
                    clear cS hq1
                    have hlr := HD9.out.1.more.learn hi (by have := (HD9.out.1.ac i hi).2.1; omega) (by omega) HD9.out.2.1 (by obtain ⟨p, hp, r1, r2, r3⟩ := HD9.out.2.2.2.2; exact ⟨p, hp, by rw [r1, HSI.out, hq], r2, r3⟩)
                    have HLR := Lib.hid hlr
                    have HCL := Lib.hid (fun z (hz : CrewAt z B gc n (Px.upd A' j (a.vote l'.br l'.bn l0.sl l0.x)) H (updF L i (l'.vote (j : Int) l'.br l'.bn l0.sl).done) S X (k + 1)) (he : Below B w z) => clearn B gc n i (k + 1) (Px.upd A' j (a.vote l'.br l'.bn l0.sl l0.x)) H (updF L i (l'.vote (j : Int) l'.br l'.bn l0.sl).done) S X l0.x z hz (by omega) (HD9.out.1.ac i hi).1 hlx (fun z' hz' => HT.out z' (he.trans hz')) hlr.1)
                    clear hlr
                    refine wp_region_lit ?_
                    iterate 27 (first | with_reducible refine isLoad (ty := 37) rfl ?_ | go_step)
                    refine wpList_load_mid rfl 37 _ rfl (gy) 0 rfl (l0.x.cells) _ (rowAt Zy) Tryd.underlying37 rfl sizeCm ?_
                    go_wp2_with fail
                    refine (HCL.out y11 HCR.out ee).mono ?_
                    rintro e z99 ⟨rfl, ⟨v9, hcr9⟩, t_⟩
                    try dsimp only
                    rename_i hK
                    refine hK _ _ ?_
                    clear hK
                    go_wp2_with fail
                    go_ret
                    exact ⟨rfl, ⟨_, _, _, _, P1, V2, hcr9, HLR.out.2⟩, ee.trans t_⟩
                  · have hq1 : (si == l0.sl) = false := by simpa using hq
                    obtain ⟨kk, hk1, hk2⟩ := HD9.out.1.known hi HD9.out.2.2.1 (by have := HD9.out.2.2.2.1; rw [HSI.out] at this ⊢; omega) HD9.out.2.2.2.2
                    obtain ⟨D1, d1, c1, HR1⟩ := HCR.out.list (j := i) (by omega)
                    obtain ⟨gs, rfl, hgs, hrs⟩ := HR1 kk _ hk2
                    obtain ⟨wq, hwq⟩ : ∃ wq, wq = y11 := ⟨_, rfl⟩
                    have e2 : Below wq.heap.size wq y11 := by rw [hwq]; exact Below.refl _ _
                    rw [← hwq] at hgs hrs c1
                    have HCQ : Hid (CrewAt wq B gc n (Px.upd A' j (a.vote l'.br l'.bn l0.sl l0.x)) H (updF L i (l'.vote (j : Int) l'.br l'.bn l0.sl).done) S X (k + 1)) := by rw [hwq]; exact HCR.out
                    have hcq1 := Lib.hid c1
                    have hgq : gc < wq.heap.size := World.block_lt_of_cell? wq _ hcq1.out
                    have hkl := (List.getElem?_eq_some_iff.1 hk2).1
                    have hge : l0.sl ≤ ((X i).length : Int) := by omega
                    have hwk : IntKind.i64.wrap (l0.sl - 1) = (kk : Int) := by rw [IntKind.wrap_i64]; omega
                    have hk0 : (0 : Int) ≤ (kk : Int) := by omega
                    have hk9 : (kk : Int) < ((X i).length : Int) := by omega
                    have HSM := Lib.hid (fun z => c_csame3 l0.x l0.x z z.heap.size (Nat.le_refl _) (okFlat HFX.out) (okFlat HFX.out))
                    rw [show SameC l0.x l0.x = true from SameC.refl _] at HSM
                    go_upto_region 16 with fail
                    clear cS hq1 c1 HR1 hwq hk1 hk2
                    have Zc : y11.drew.heap[gc]? = some (.cells (crC n (Px.upd A' j (a.vote l'.br l'.bn l0.sl l0.x)) (fun j => pv (H j)) S (k + 1)).toArray 122) := Zc
                    have Zl : y11.drew.heap[hh]? = some (.cells (l'.vote (j : Int) l'.br l'.bn l0.sl).done.cells.toArray 144) := Zl
                    have Zy : y11.drew.heap[gy]? = some (.cells l0.x.cells.toArray 37) := Zy
                    have ee := belowDrewS ee
                    have e2 := belowDrewS e2
                    have ff := ogDrew ff
                    refine wp_region_held_drew (S := fun z' => z'.cell? ⟨gc, 86 + i, none⟩ = some (.slice (some ⟨gs, 0, none⟩) ((X i).length) d1) ∧ z'.rangeAt gs (kk * 10) l0.x.cells ∧ z'.rangeAt gy (0) l0.x.cells) (by kernel_rfl) ⟨((e2.cell (p := ⟨gc, 86 + i, none⟩) hgq).trans hcq1.out), (rangeB hrs e2 hgs), (rowAt Zy)⟩ (fun hH => ?_)
                    clear hH
                    generalize y11.drew = y12 at Zc Zl Zy ee e2 ff ⊢
                    refine wpAnyH_take (i := 0) (v := .pointer (some ⟨gc, 0, none⟩)) rfl (by kernel_rfl) (by kernel_rfl) (by kernel_rfl) (fun _ _ _ h => h) (Or.inl ⟨by rfl, fun w_ hS_ => by (first | (go_simp; done) | (go_simp; rfl))⟩) ⟨((e2.cell (p := ⟨gc, 86 + i, none⟩) hgq).trans hcq1.out), (rangeB hrs e2 hgs), (rowAt Zy)⟩ ?_
                    try simp only [Act.put, List.getElem_toArray, List.getElem_cons_zero, List.getElem_cons_succ, List.setIfInBounds_toArray, List.set_cons_zero, List.set_cons_succ]
                    refine wpAnyH_take (i := 1) (v := .int .i64 ((i : Int))) rfl (by kernel_rfl) (by kernel_rfl) (by kernel_rfl) (fun _ _ _ h => h) (Or.inl ⟨by rfl, fun w_ hS_ => by (first | (go_simp; done) | (go_simp; rfl))⟩) ⟨((e2.cell (p := ⟨gc, 86 + i, none⟩) hgq).trans hcq1.out), (rangeB hrs e2 hgs), (rowAt Zy)⟩ ?_
                    try simp only [Act.put, List.getElem_toArray, List.getElem_cons_zero, List.getElem_cons_succ, List.setIfInBounds_toArray, List.set_cons_zero, List.set_cons_succ]
                    refine wpAnyH_take (i := 2) (v := .pointer (some ⟨gc, 0, none⟩)) rfl (by kernel_rfl) (by kernel_rfl) (by kernel_rfl) (fun _ _ _ h => h) (Or.inl ⟨by rfl, fun w_ hS_ => by (first | (go_simp; done) | (go_simp; rfl))⟩) ⟨((e2.cell (p := ⟨gc, 86 + i, none⟩) hgq).trans hcq1.out), (rangeB hrs e2 hgs), (rowAt Zy)⟩ ?_
                    try simp only [Act.put, List.getElem_toArray, List.getElem_cons_zero, List.getElem_cons_succ, List.setIfInBounds_toArray, List.set_cons_zero, List.set_cons_succ]
                    refine wpAnyH_take (i := 3) (v := .pointer (some ⟨gc, 86, none⟩)) rfl (by kernel_rfl) (by kernel_rfl) (by kernel_rfl) (fun _ _ _ h => h) (Or.inl ⟨by rfl, fun w_ hS_ => by (first | (go_simp; done) | (go_simp; rfl))⟩) ⟨((e2.cell (p := ⟨gc, 86 + i, none⟩) hgq).trans hcq1.out), (rangeB hrs e2 hgs), (rowAt Zy)⟩ ?_
                    try simp only [Act.put, List.getElem_toArray, List.getElem_cons_zero, List.getElem_cons_succ, List.setIfInBounds_toArray, List.set_cons_zero, List.set_cons_succ]
                    refine wpAnyH_take (i := 4) (v := .pointer (some ⟨gc, 86 + i, none⟩)) rfl (by kernel_rfl) (by kernel_rfl) (by kernel_rfl) (fun _ _ _ h => h) (Or.inl ⟨by rfl, fun w_ hS_ => by (first | (go_simp; done) | (go_simp; rfl))⟩) ⟨((e2.cell (p := ⟨gc, 86 + i, none⟩) hgq).trans hcq1.out), (rangeB hrs e2 hgs), (rowAt Zy)⟩ ?_
                    try simp only [Act.put, List.getElem_toArray, List.getElem_cons_zero, List.getElem_cons_succ, List.setIfInBounds_toArray, List.set_cons_zero, List.set_cons_succ]
                    refine wpAnyH_take (i := 5) (v := .slice (some ⟨gs, 0, none⟩) ((X i).length) d1) rfl (by kernel_rfl) (by kernel_rfl) (by kernel_rfl) (fun _ _ _ h => h) (Or.inl ⟨by rfl, fun w_ hS_ => by (have c_ := hS_.1; first | (go_simp; done) | (go_simp; rfl))⟩) ⟨((e2.cell (p := ⟨gc, 86 + i, none⟩) hgq).trans hcq1.out), (rangeB hrs e2 hgs), (rowAt Zy)⟩ ?_
                    try simp only [Act.put, List.getElem_toArray, List.getElem_cons_zero, List.getElem_cons_succ, List.setIfInBounds_toArray, List.set_cons_zero, List.set_cons_succ]
                    refine wpAnyH_take (i := 6) (v := .int .i64 (((X i).length : Int))) rfl (by kernel_rfl) (by kernel_rfl) (by kernel_rfl) (fun _ _ _ h => h) (Or.inl ⟨by rfl, fun w_ hS_ => by (first | (go_simp; done) | (go_simp; rfl))⟩) ⟨((e2.cell (p := ⟨gc, 86 + i, none⟩) hgq).trans hcq1.out), (rangeB hrs e2 hgs), (rowAt Zy)⟩ ?_
                    try simp only [Act.put, List.getElem_toArray, List.getElem_cons_zero, List.getElem_cons_succ, List.setIfInBounds_toArray, List.set_cons_zero, List.set_cons_succ]
                    refine wpAnyH_take (i := 7) (v := .int .i64 l0.sl) rfl (by kernel_rfl) (by kernel_rfl) (by kernel_rfl) (fun _ _ _ h => h) (Or.inl ⟨by rfl, fun w_ hS_ => by (first | (go_simp; done) | (go_simp; rfl))⟩) ⟨((e2.cell (p := ⟨gc, 86 + i, none⟩) hgq).trans hcq1.out), (rangeB hrs e2 hgs), (rowAt Zy)⟩ ?_
                    try simp only [Act.put, List.getElem_toArray, List.getElem_cons_zero, List.getElem_cons_succ, List.setIfInBounds_toArray, List.set_cons_zero, List.set_cons_succ]
                    refine wpAnyH_take (i := 8) (v := .bool true) rfl (by kernel_rfl) (by kernel_rfl) (by kernel_rfl) (fun _ _ _ h => h) (Or.inl ⟨by rfl, fun w_ hS_ => by (first | (go_simp; done) | (go_simp; rfl))⟩) ⟨((e2.cell (p := ⟨gc, 86 + i, none⟩) hgq).trans hcq1.out), (rangeB hrs e2 hgs), (rowAt Zy)⟩ ?_
                    try simp only [Act.put, List.getElem_toArray, List.getElem_cons_zero, List.getElem_cons_succ, List.setIfInBounds_toArray, List.set_cons_zero, List.set_cons_succ]
                    refine wpAnyH_take (i := 9) (v := .bool true) rfl (by kernel_rfl) (by kernel_rfl) (by kernel_rfl) (fun _ _ _ h => h) (Or.inl ⟨by rfl, fun w_ hS_ => by (first | (go_simp; done) | (go_simp; rfl))⟩) ⟨((e2.cell (p := ⟨gc, 86 + i, none⟩) hgq).trans hcq1.out), (rangeB hrs e2 hgs), (rowAt Zy)⟩ ?_
                    try simp only [Act.put, List.getElem_toArray, List.getElem_cons_zero, List.getElem_cons_succ, List.setIfInBounds_toArray, List.set_cons_zero, List.set_cons_succ]
                    refine wpAnyH_take (i := 10) (v := .pointer (some ⟨gc, 0, none⟩)) rfl (by kernel_rfl) (by kernel_rfl) (by kernel_rfl) (fun _ _ _ h => h) (Or.inl ⟨by rfl, fun w_ hS_ => by (first | (go_simp; done) | (go_simp; rfl))⟩) ⟨((e2.cell (p := ⟨gc, 86 + i, none⟩) hgq).trans hcq1.out), (rangeB hrs e2 hgs), (rowAt Zy)⟩ ?_
                    try simp only [Act.put, List.getElem_toArray, List.getElem_cons_zero, List.getElem_cons_succ, List.setIfInBounds_toArray, List.set_cons_zero, List.set_cons_succ]
                    refine wpAnyH_take (i := 11) (v := .int .i64 ((i : Int))) rfl (by kernel_rfl) (by kernel_rfl) (by kernel_rfl) (fun _ _ _ h => h) (Or.inl ⟨by rfl, fun w_ hS_ => by (first | (go_simp; done) | (go_simp; rfl))⟩) ⟨((e2.cell (p := ⟨gc, 86 + i, none⟩) hgq).trans hcq1.out), (rangeB hrs e2 hgs), (rowAt Zy)⟩ ?_
                    try simp only [Act.put, List.getElem_toArray, List.getElem_cons_zero, List.getElem_cons_succ, List.setIfInBounds_toArray, List.set_cons_zero, List.set_cons_succ]
                    refine wpAnyH_take (i := 12) (v := .pointer (some ⟨gc, 0, none⟩)) rfl (by kernel_rfl) (by kernel_rfl) (by kernel_rfl) (fun _ _ _ h => h) (Or.inl ⟨by rfl, fun w_ hS_ => by (first | (go_simp; done) | (go_simp; rfl))⟩) ⟨((e2.cell (p := ⟨gc, 86 + i, none⟩) hgq).trans hcq1.out), (rangeB hrs e2 hgs), (rowAt Zy)⟩ ?_
                    try simp only [Act.put, List.getElem_toArray, List.getElem_cons_zero, List.getElem_cons_succ, List.setIfInBounds_toArray, List.set_cons_zero, List.set_cons_succ]
                    refine wpAnyH_take (i := 13) (v := .pointer (some ⟨gc, 86, none⟩)) rfl (by kernel_rfl) (by kernel_rfl) (by kernel_rfl) (fun _ _ _ h => h) (Or.inl ⟨by rfl, fun w_ hS_ => by (first | (go_simp; done) | (go_simp; rfl))⟩) ⟨((e2.cell (p := ⟨gc, 86 + i, none⟩) hgq).trans hcq1.out), (rangeB hrs e2 hgs), (rowAt Zy)⟩ ?_
                    try simp only [Act.put, List.getElem_toArray, List.getElem_cons_zero, List.getElem_cons_succ, List.setIfInBounds_toArray, List.set_cons_zero, List.set_cons_succ]
                    refine wpAnyH_take (i := 14) (v := .pointer (some ⟨gc, 86 + i, none⟩)) rfl (by kernel_rfl) (by kernel_rfl) (by kernel_rfl) (fun _ _ _ h => h) (Or.inl ⟨by rfl, fun w_ hS_ => by (first | (go_simp; done) | (go_simp; rfl))⟩) ⟨((e2.cell (p := ⟨gc, 86 + i, none⟩) hgq).trans hcq1.out), (rangeB hrs e2 hgs), (rowAt Zy)⟩ ?_
                    try simp only [Act.put, List.getElem_toArray, List.getElem_cons_zero, List.getElem_cons_succ, List.setIfInBounds_toArray, List.set_cons_zero, List.set_cons_succ]
                    refine wpAnyH_take (i := 15) (v := .slice (some ⟨gs, 0, none⟩) ((X i).length) d1) rfl (by kernel_rfl) (by kernel_rfl) (by kernel_rfl) (fun _ _ _ h => h) (Or.inl ⟨by rfl, fun w_ hS_ => by (have c_ := hS_.1; first | (go_simp; done) | (go_simp; rfl))⟩) ⟨((e2.cell (p := ⟨gc, 86 + i, none⟩) hgq).trans hcq1.out), (rangeB hrs e2 hgs), (rowAt Zy)⟩ ?_
                    try simp only [Act.put, List.getElem_toArray, List.getElem_cons_zero, List.getElem_cons_succ, List.setIfInBounds_toArray, List.set_cons_zero, List.set_cons_succ]
                    refine wpAnyH_take (i := 16) (v := .int .i64 l0.sl) rfl (by kernel_rfl) (by kernel_rfl) (by kernel_rfl) (fun _ _ _ h => h) (Or.inl ⟨by rfl, fun w_ hS_ => by (first | (go_simp; done) | (go_simp; rfl))⟩) ⟨((e2.cell (p := ⟨gc, 86 + i, none⟩) hgq).trans hcq1.out), (rangeB hrs e2 hgs), (rowAt Zy)⟩ ?_
                    try simp only [Act.put, List.getElem_toArray, List.getElem_cons_zero, List.getElem_cons_succ, List.setIfInBounds_toArray, List.set_cons_zero, List.set_cons_succ]
                    refine wpAnyH_take (i := 17) (v := .int .i64 ((kk : Int))) rfl (by kernel_rfl) (by kernel_rfl) (by kernel_rfl) (fun _ _ _ h => h) (Or.inl ⟨by rfl, fun w_ hS_ => by (first | (go_simp; done) | (go_simp; rfl))⟩) ⟨((e2.cell (p := ⟨gc, 86 + i, none⟩) hgq).trans hcq1.out), (rangeB hrs e2 hgs), (rowAt Zy)⟩ ?_
                    try simp only [Act.put, List.getElem_toArray, List.getElem_cons_zero, List.getElem_cons_succ, List.setIfInBounds_toArray, List.set_cons_zero, List.set_cons_succ]
                    refine wpAnyH_take (i := 18) (v := .pointer (some ⟨gs, kk * 10, none⟩)) rfl (by kernel_rfl) (by kernel_rfl) (by kernel_rfl) (fun _ _ _ h => h) (Or.inl ⟨by rfl, fun w_ hS_ => by (first | (go_simp; done) | (go_simp; rfl))⟩) ⟨((e2.cell (p := ⟨gc, 86 + i, none⟩) hgq).trans hcq1.out), (rangeB hrs e2 hgs), (rowAt Zy)⟩ ?_
                    try simp only [Act.put, List.getElem_toArray, List.getElem_cons_zero, List.getElem_cons_succ, List.setIfInBounds_toArray, List.set_cons_zero, List.set_cons_succ]
                    refine wpAnyH_take (i := 19) (v := .agg (l0.x.cells).toArray) rfl (by kernel_rfl) (by kernel_rfl) (by kernel_rfl) (fun _ _ _ h => h) (yieldsIf_load_mid (by rfl) 37 _ rfl (gs) (kk * 10) rfl (l0.x.cells) _ (fun _ h => h.2.1) Tryd.underlying37 rfl sizeCm) ⟨((e2.cell (p := ⟨gc, 86 + i, none⟩) hgq).trans hcq1.out), (rangeB hrs e2 hgs), (rowAt Zy)⟩ ?_
                    try simp only [Act.put, List.getElem_toArray, List.getElem_cons_zero, List.getElem_cons_succ, List.setIfInBounds_toArray, List.set_cons_zero, List.set_cons_succ]
                    refine wpAnyH_take (i := 20) (v := .agg (l0.x.cells).toArray) rfl (by kernel_rfl) (by kernel_rfl) (by kernel_rfl) (fun _ _ _ h => h) (yieldsIf_load_mid (by rfl) 37 _ rfl (gy) (0) rfl (l0.x.cells) _ (fun _ h => h.2.2) Tryd.underlying37 rfl sizeCm) ⟨((e2.cell (p := ⟨gc, 86 + i, none⟩) hgq).trans hcq1.out), (rangeB hrs e2 hgs), (rowAt Zy)⟩ ?_
                    try simp only [Act.put, List.getElem_toArray, List.getElem_cons_zero, List.getElem_cons_succ, List.setIfInBounds_toArray, List.set_cons_zero, List.set_cons_succ]
                    refine wpAnyH_ready (rs := [21]) (by kernel_rfl) (by simp) ?_
                    refine AllReadyH.cons rfl (fun K hK => ?_) AllReadyH.nil
                    rw [if_pos (by rfl)]
                    go_simp
                    go_wp2_with (go_at_call 32; refine (HSM.out y12).mono ?_; rintro e y13 ⟨rfl, t⟩)
                    have Zc := hpB Zc t
                    have Zl := hpB Zl t
                    have Zy := hpB Zy t
                    have ee := ee.trans (t.mono (Nat.le_trans hB ee.size))
                    have e2 := e2.trans (t.mono e2.size)
                    have ff := ogBelow ff t
                    clear t
                    refine hK.out _ _ ⟨((e2.cell (p := ⟨gc, 86 + i, none⟩) hgq).trans hcq1.out), (rangeB hrs e2 hgs), (rowAt Zy)⟩ (fun hH => ?_)
                    clear hK K hH
                    try simp only [Act.put, List.getElem_toArray, List.getElem_cons_zero, List.getElem_cons_succ, List.setIfInBounds_toArray, List.set_cons_zero, List.set_cons_succ]
                    refine wpAnyH_take (i := 22) (v := .bool true) rfl (by kernel_rfl) (by kernel_rfl) (by kernel_rfl) (fun _ _ _ h => h) (Or.inl ⟨by rfl, fun w_ hS_ => by (first | (go_simp; done) | (go_simp; rfl))⟩) ⟨((e2.cell (p := ⟨gc, 86 + i, none⟩) hgq).trans hcq1.out), (rangeB hrs e2 hgs), (rowAt Zy)⟩ ?_
                    try simp only [Act.put, List.getElem_toArray, List.getElem_cons_zero, List.getElem_cons_succ, List.setIfInBounds_toArray, List.set_cons_zero, List.set_cons_succ]
                    refine wpAnyH_take (i := 23) (v := .bool true) rfl (by kernel_rfl) (by kernel_rfl) (by kernel_rfl) (fun _ _ _ h => h) (Or.inl ⟨by rfl, fun w_ hS_ => by (first | (go_simp; done) | (go_simp; rfl))⟩) ⟨((e2.cell (p := ⟨gc, 86 + i, none⟩) hgq).trans hcq1.out), (rangeB hrs e2 hgs), (rowAt Zy)⟩ ?_
                    try simp only [Act.put, List.getElem_toArray, List.getElem_cons_zero, List.getElem_cons_succ, List.setIfInBounds_toArray, List.set_cons_zero, List.set_cons_succ]
                    refine wpAnyH_done (by kernel_rfl) ?_ _
                    go_wp2_with fail
                    go_ret
                    exact ⟨rfl, ⟨_, _, _, _, P1, V2, HCQ.out.below e2, HD9.out.1.more⟩, ee⟩
              · have hw3 : ((a.how l'.br l'.bn l0.sl l0.x) == 3) = false := by simpa using hw
                have HP2 : Hid (Cinv n t (Px.upd A' j (a.vote l'.br l'.bn l0.sl l0.x)) (updF L i l') X P1 V' ∧ l'.sl = l0.sl ∧ l'.x = l0.x ∧ l'.l = l0.l ∧ l'.A = l0.A ∧ l'.c = l0.c ∧ l'.n = (n : Int)) := by
                  obtain ⟨p1, p2⟩ := HP.out
                  refine ⟨?_, p2⟩
                  rw [HA.out] at hw ⊢
                  rw [Cinv.voteNo (n := n) (t := t) hw]; exact p1
                have Zc : y7.drew.heap[gc]? = some (.cells (crC n (Px.upd A' j (a.vote l'.br l'.bn l0.sl l0.x)) (fun j => pv (H j)) S (k + 1)).toArray 122) := Zc
                have Zl : y7.drew.heap[hh]? = some (.cells l'.cells.toArray 144) := Zl
                have Zy : y7.drew.heap[gy]? = some (.cells l0.x.cells.toArray 37) := Zy
                have hu := World.ownsRow.drew hu
                have ee := belowDrewS ee
                have ff := ogDrew ff
                refine wp_region_held_drew (S := fun z' => True) (by kernel_rfl) trivial (fun hH => ?_)
                clear hH
                generalize y7.drew = y8 at Zc Zl Zy hu ee ff ⊢
                refine wpAnyH_take (i := 0) (v := .int .i64 ((a.how l'.br l'.bn l0.sl l0.x))) rfl (by kernel_rfl) (by kernel_rfl) (by kernel_rfl) (fun _ _ _ h => h) (Or.inl ⟨by rfl, fun w_ hS_ => by (first | (go_simp; done) | (go_simp; rfl))⟩) trivial ?_
                try simp only [Act.put, List.getElem_toArray, List.getElem_cons_zero, List.getElem_cons_succ, List.setIfInBounds_toArray, List.set_cons_zero, List.set_cons_succ]
                refine wpAnyH_take (i := 1) (v := .bool false) rfl (by kernel_rfl) (by kernel_rfl) (by kernel_rfl) (fun _ _ _ h => h) (Or.inl ⟨by rfl, fun w_ hS_ => by (first | (go_simp; done) | (go_simp; rfl))⟩) trivial ?_
                try simp only [Act.put, List.getElem_toArray, List.getElem_cons_zero, List.getElem_cons_succ, List.setIfInBounds_toArray, List.set_cons_zero, List.set_cons_succ]
                refine wpAnyH_take (i := 2) (v := .bool false) rfl (by kernel_rfl) (by kernel_rfl) (by kernel_rfl) (fun _ _ _ h => h) (Or.inl ⟨by rfl, fun w_ hS_ => by (first | (go_simp; done) | (go_simp; rfl))⟩) trivial ?_
                try simp only [Act.put, List.getElem_toArray, List.getElem_cons_zero, List.getElem_cons_succ, List.setIfInBounds_toArray, List.set_cons_zero, List.set_cons_succ]
                refine wpAnyH_take (i := 3) (v := undef) rfl (by kernel_rfl) (by kernel_rfl) (by kernel_rfl) (fun _ _ _ h => h) (Or.inr ⟨by rfl, rfl⟩) trivial ?_
                try simp only [Act.put, List.getElem_toArray, List.getElem_cons_zero, List.getElem_cons_succ, List.setIfInBounds_toArray, List.set_cons_zero, List.set_cons_succ]
                refine wpAnyH_take (i := 4) (v := undef) rfl (by kernel_rfl) (by kernel_rfl) (by kernel_rfl) (fun _ _ _ h => h) (Or.inr ⟨by rfl, rfl⟩) trivial ?_
                try simp only [Act.put, List.getElem_toArray, List.getElem_cons_zero, List.getElem_cons_succ, List.setIfInBounds_toArray, List.set_cons_zero, List.set_cons_succ]
                refine wpAnyH_take (i := 5) (v := undef) rfl (by kernel_rfl) (by kernel_rfl) (by kernel_rfl) (fun _ _ _ h => h) (Or.inr ⟨by rfl, rfl⟩) trivial ?_
                try simp only [Act.put, List.getElem_toArray, List.getElem_cons_zero, List.getElem_cons_succ, List.setIfInBounds_toArray, List.set_cons_zero, List.set_cons_succ]
                refine wpAnyH_take (i := 6) (v := undef) rfl (by kernel_rfl) (by kernel_rfl) (by kernel_rfl) (fun _ _ _ h => h) (Or.inr ⟨by rfl, rfl⟩) trivial ?_
                try simp only [Act.put, List.getElem_toArray, List.getElem_cons_zero, List.getElem_cons_succ, List.setIfInBounds_toArray, List.set_cons_zero, List.set_cons_succ]
                refine wpAnyH_take (i := 7) (v := undef) rfl (by kernel_rfl) (by kernel_rfl) (by kernel_rfl) (fun _ _ _ h => h) (Or.inr ⟨by rfl, rfl⟩) trivial ?_
                try simp only [Act.put, List.getElem_toArray, List.getElem_cons_zero, List.getElem_cons_succ, List.setIfInBounds_toArray, List.set_cons_zero, List.set_cons_succ]
                refine wpAnyH_take (i := 8) (v := undef) rfl (by kernel_rfl) (by kernel_rfl) (by kernel_rfl) (fun _ _ _ h => h) (Or.inr ⟨by rfl, rfl⟩) trivial ?_
                try simp only [Act.put, List.getElem_toArray, List.getElem_cons_zero, List.getElem_cons_succ, List.setIfInBounds_toArray, List.set_cons_zero, List.set_cons_succ]
                refine wpAnyH_take (i := 9) (v := undef) rfl (by kernel_rfl) (by kernel_rfl) (by kernel_rfl) (fun _ _ _ h => h) (Or.inr ⟨by rfl, rfl⟩) trivial ?_
                try simp only [Act.put, List.getElem_toArray, List.getElem_cons_zero, List.getElem_cons_succ, List.setIfInBounds_toArray, List.set_cons_zero, List.set_cons_succ]
                refine wpAnyH_take (i := 10) (v := undef) rfl (by kernel_rfl) (by kernel_rfl) (by kernel_rfl) (fun _ _ _ h => h) (Or.inr ⟨by rfl, rfl⟩) trivial ?_
                try simp only [Act.put, List.getElem_toArray, List.getElem_cons_zero, List.getElem_cons_succ, List.setIfInBounds_toArray, List.set_cons_zero, List.set_cons_succ]
                refine wpAnyH_take (i := 11) (v := undef) rfl (by kernel_rfl) (by kernel_rfl) (by kernel_rfl) (fun _ _ _ h => h) (Or.inr ⟨by rfl, rfl⟩) trivial ?_
                try simp only [Act.put, List.getElem_toArray, List.getElem_cons_zero, List.getElem_cons_succ, List.setIfInBounds_toArray, List.set_cons_zero, List.set_cons_succ]
                refine wpAnyH_take (i := 12) (v := undef) rfl (by kernel_rfl) (by kernel_rfl) (by kernel_rfl) (fun _ _ _ h => h) (Or.inr ⟨by rfl, rfl⟩) trivial ?_
                try simp only [Act.put, List.getElem_toArray, List.getElem_cons_zero, List.getElem_cons_succ, List.setIfInBounds_toArray, List.set_cons_zero, List.set_cons_succ]
                refine wpAnyH_take (i := 13) (v := undef) rfl (by kernel_rfl) (by kernel_rfl) (by kernel_rfl) (fun _ _ _ h => h) (Or.inr ⟨by rfl, rfl⟩) trivial ?_
                try simp only [Act.put, List.getElem_toArray, List.getElem_cons_zero, List.getElem_cons_succ, List.setIfInBounds_toArray, List.set_cons_zero, List.set_cons_succ]
                refine wpAnyH_take (i := 14) (v := undef) rfl (by kernel_rfl) (by kernel_rfl) (by kernel_rfl) (fun _ _ _ h => h) (Or.inr ⟨by rfl, rfl⟩) trivial ?_
                try simp only [Act.put, List.getElem_toArray, List.getElem_cons_zero, List.getElem_cons_succ, List.setIfInBounds_toArray, List.set_cons_zero, List.set_cons_succ]
                refine wpAnyH_take (i := 15) (v := undef) rfl (by kernel_rfl) (by kernel_rfl) (by kernel_rfl) (fun _ _ _ h => h) (Or.inr ⟨by rfl, rfl⟩) trivial ?_
                try simp only [Act.put, List.getElem_toArray, List.getElem_cons_zero, List.getElem_cons_succ, List.setIfInBounds_toArray, List.set_cons_zero, List.set_cons_succ]
                refine wpAnyH_take (i := 16) (v := undef) rfl (by kernel_rfl) (by kernel_rfl) (by kernel_rfl) (fun _ _ _ h => h) (Or.inr ⟨by rfl, rfl⟩) trivial ?_
                try simp only [Act.put, List.getElem_toArray, List.getElem_cons_zero, List.getElem_cons_succ, List.setIfInBounds_toArray, List.set_cons_zero, List.set_cons_succ]
                refine wpAnyH_take (i := 17) (v := undef) rfl (by kernel_rfl) (by kernel_rfl) (by kernel_rfl) (fun _ _ _ h => h) (Or.inr ⟨by rfl, rfl⟩) trivial ?_
                try simp only [Act.put, List.getElem_toArray, List.getElem_cons_zero, List.getElem_cons_succ, List.setIfInBounds_toArray, List.set_cons_zero, List.set_cons_succ]
                refine wpAnyH_take (i := 18) (v := undef) rfl (by kernel_rfl) (by kernel_rfl) (by kernel_rfl) (fun _ _ _ h => h) (Or.inr ⟨by rfl, rfl⟩) trivial ?_
                try simp only [Act.put, List.getElem_toArray, List.getElem_cons_zero, List.getElem_cons_succ, List.setIfInBounds_toArray, List.set_cons_zero, List.set_cons_succ]
                refine wpAnyH_take (i := 19) (v := .bool false) rfl (by kernel_rfl) (by kernel_rfl) (by kernel_rfl) (fun _ _ _ h => h) (Or.inl ⟨by rfl, fun w_ hS_ => by (first | (go_simp; done) | (go_simp; rfl))⟩) trivial ?_
                try simp only [Act.put, List.getElem_toArray, List.getElem_cons_zero, List.getElem_cons_succ, List.setIfInBounds_toArray, List.set_cons_zero, List.set_cons_succ]
                refine wpAnyH_done (by kernel_rfl) ?_ _
                go_wp2_with fail
                go_roundw
                case rel => exact ⟨j + 1, (Px.upd A' j (a.vote l'.br l'.bn l0.sl l0.x)), l', V', by omega, by go_num, HP2, Zc, Zl, Zy, hu, ff, ee⟩
                case measure => simp [intOf]; omega
            · rw [if_pos (by rfl)]
              go_simp
              have lZc := (Array.getElem?_eq_some_iff.1 Zc).1
              have lZl := (Array.getElem?_eq_some_iff.1 Zl).1
              have lZy := (Array.getElem?_eq_some_iff.1 Zy).1
              have sz_ := ff.size
              have ne_hu_Zn : (Value.slice l'.A l'.l.length l'.c).ownBlock ≠ some (y2.heap.size) := fun hb_ => by have hh_ := (hu.lt _ hb_).2; omega
              have Zc := hpA Zc (.cells #[.int .u32 0, .int .i64 0, .int .i64 0, .bool false, .int .u32 0, .int .i64 0, .int .i64 0, .int .i64 0, .int .i64 0, .slice none 0 0, .slice none 0 0, .int .i64 0, .int .i64 0, .int .i64 0, .int .u64 0, .bool false] 39)
              have Zl := hpA Zl (.cells #[.int .u32 0, .int .i64 0, .int .i64 0, .bool false, .int .u32 0, .int .i64 0, .int .i64 0, .int .i64 0, .int .i64 0, .slice none 0 0, .slice none 0 0, .int .i64 0, .int .i64 0, .int .i64 0, .int .u64 0, .bool false] 39)
              have Zy := hpA Zy (.cells #[.int .u32 0, .int .i64 0, .int .i64 0, .bool false, .int .u32 0, .int .i64 0, .int .i64 0, .int .i64 0, .int .i64 0, .slice none 0 0, .slice none 0 0, .int .i64 0, .int .i64 0, .int .i64 0, .int .u64 0, .bool false] 39)
              have hu := hu.alloc (.cells #[.int .u32 0, .int .i64 0, .int .i64 0, .bool false, .int .u32 0, .int .i64 0, .int .i64 0, .int .i64 0, .int .i64 0, .slice none 0 0, .slice none 0 0, .int .i64 0, .int .i64 0, .int .i64 0, .int .u64 0, .bool false] 39)
              have ee := ee.alloc (Nat.le_trans hB ee.size) (.cells #[.int .u32 0, .int .i64 0, .int .i64 0, .bool false, .int .u32 0, .int .i64 0, .int .i64 0, .int .i64 0, .int .i64 0, .slice none 0 0, .slice none 0 0, .int .i64 0, .int .i64 0, .int .i64 0, .int .u64 0, .bool false] 39)
              have ff := ogAlloc ff (.cells #[.int .u32 0, .int .i64 0, .int .i64 0, .bool false, .int .u32 0, .int .i64 0, .int .i64 0, .int .i64 0, .int .i64 0, .slice none 0 0, .slice none 0 0, .int .i64 0, .int .i64 0, .int .i64 0, .int .u64 0, .bool false] 39)
              have Zn := hpN y2 (.cells #[.int .u32 0, .int .i64 0, .int .i64 0, .bool false, .int .u32 0, .int .i64 0, .int .i64 0, .int .i64 0, .int .i64 0, .slice none 0 0, .slice none 0 0, .int .i64 0, .int .i64 0, .int .i64 0, .int .u64 0, .bool false] 39) rfl
              generalize y2.alloc (.cells #[.int .u32 0, .int .i64 0, .int .i64 0, .bool false, .int .u32 0, .int .i64 0, .int .i64 0, .int .i64 0, .int .i64 0, .slice none 0 0, .slice none 0 0, .int .i64 0, .int .i64 0, .int .i64 0, .int .u64 0, .bool false] 39) = y3 at Zc Zl Zy Zn hu ee ff ⊢
              refine hK.out _ _ ⟨(rowMid Zc (1 + j * 16) HRA.out), (rowCell Zc (81 + i) HPH.out), (rowAt Zy)⟩ (fun hH => ?_)
              clear hK K hH
              try simp only [Act.put, List.getElem_toArray, List.getElem_cons_zero, List.getElem_cons_succ, List.setIfInBounds_toArray, List.set_cons_zero, List.set_cons_succ]
              refine wpAnyH_ready (rs := [15]) (by kernel_rfl) (by simp) ?_
              refine AllReadyH.cons rfl (fun K hK => ?_) AllReadyH.nil
              rw [if_pos (by rfl)]
              go_simp
              go_wp2_with (go_at_call 24; refine (HVC.out y3 ee).mono ?_; rintro e y4 ⟨rfl, t⟩)
              have Zc := hpB Zc t
              have Zl := hpB Zl t
              have Zy := hpB Zy t
              have Zn := hpB Zn t
              have hu := ownBelow hu t
              have ee := ee.trans (t.mono (Nat.le_trans hB ee.size))
              have ff := ogBelow ff t
              clear t
              refine hK.out _ _ ⟨(rowMid Zc (1 + j * 16) HRA.out), (rowCell Zc (81 + i) HPH.out), (rowAt Zy)⟩ (fun hH => ?_)
              clear hK K hH
              try simp only [Act.put, List.getElem_toArray, List.getElem_cons_zero, List.getElem_cons_succ, List.setIfInBounds_toArray, List.set_cons_zero, List.set_cons_succ]
              refine wpAnyH_take (i := 16) (v := .tuple #[.agg ((a.vote l'.br l'.bn l0.sl l0.x).cells).toArray, .int .i64 ((a.how l'.br l'.bn l0.sl l0.x))]) rfl (by kernel_rfl) (by kernel_rfl) (by kernel_rfl) (fun _ _ _ h => h) (Or.inl ⟨by rfl, fun w_ hS_ => by (first | (go_simp; done) | (go_simp; rfl))⟩) ⟨(rowMid Zc (1 + j * 16) HRA.out), (rowCell Zc (81 + i) HPH.out), (rowAt Zy)⟩ ?_
              try simp only [Act.put, List.getElem_toArray, List.getElem_cons_zero, List.getElem_cons_succ, List.setIfInBounds_toArray, List.set_cons_zero, List.set_cons_succ]
              refine wpAnyH_take (i := 17) (v := .agg ((a.vote l'.br l'.bn l0.sl l0.x).cells).toArray) rfl (by kernel_rfl) (by kernel_rfl) (by kernel_rfl) (fun _ _ _ h => h) (Or.inl ⟨by rfl, fun w_ hS_ => by (first | (go_simp; done) | (go_simp; rfl))⟩) ⟨(rowMid Zc (1 + j * 16) HRA.out), (rowCell Zc (81 + i) HPH.out), (rowAt Zy)⟩ ?_
              try simp only [Act.put, List.getElem_toArray, List.getElem_cons_zero, List.getElem_cons_succ, List.setIfInBounds_toArray, List.set_cons_zero, List.set_cons_succ]
              refine wpAnyH_take (i := 18) (v := .int .i64 ((a.how l'.br l'.bn l0.sl l0.x))) rfl (by kernel_rfl) (by kernel_rfl) (by kernel_rfl) (fun _ _ _ h => h) (Or.inl ⟨by rfl, fun w_ hS_ => by (first | (go_simp; done) | (go_simp; rfl))⟩) ⟨(rowMid Zc (1 + j * 16) HRA.out), (rowCell Zc (81 + i) HPH.out), (rowAt Zy)⟩ ?_
              try simp only [Act.put, List.getElem_toArray, List.getElem_cons_zero, List.getElem_cons_succ, List.setIfInBounds_toArray, List.set_cons_zero, List.set_cons_succ]
              refine wpAnyH_ready (rs := [20]) (by kernel_rfl) (by simp) ?_
              refine AllReadyH.cons rfl (fun K hK => ?_) AllReadyH.nil
              rw [if_pos (by rfl)]
              refine wp_store_row 39 _ _ rfl (y2.heap.size) ((a.vote l'.br l'.bn l0.sl l0.x).cells).toArray rfl rfl 39 _ Zn sizeAc (by rfl) (Ac.one _) ?_
              have N_ := setRow_heap y4 (y2.heap.size) _ ((a.vote l'.br l'.bn l0.sl l0.x).cells).toArray _ _ Zn
              have hu := ogOwnR (cs := ((a.vote l'.br l'.bn l0.sl l0.x).cells).toArray) hu ne_hu_Zn
              have ee := belowSet (cs := ((a.vote l'.br l'.bn l0.sl l0.x).cells).toArray) ee Zn (by omega)
              have ff := ogRow (cs := ((a.vote l'.br l'.bn l0.sl l0.x).cells).toArray) (by first | (right; omega) | exact Or.inl (Or.inl rfl) | exact Or.inl (Or.inr rfl)) Zn ff
              have Zc := hpR Zc (g' := y2.heap.size) (by omega) ((a.vote l'.br l'.bn l0.sl l0.x).cells).toArray
              have Zl := hpR Zl (g' := y2.heap.size) (by omega) ((a.vote l'.br l'.bn l0.sl l0.x).cells).toArray
              have Zy := hpR Zy (g' := y2.heap.size) (by omega) ((a.vote l'.br l'.bn l0.sl l0.x).cells).toArray
              clear Zn
              have Zn := N_
              clear N_
              generalize y4.setRow (y2.heap.size) ((a.vote l'.br l'.bn l0.sl l0.x).cells).toArray = y5 at Zc Zl Zy Zn hu ee ff ⊢
              refine hK.out _ _ ⟨(rowMid Zc (1 + j * 16) HRA.out), (rowCell Zc (81 + i) HPH.out), (rowAt Zy)⟩ (fun hH => ?_)
              clear hK K hH
              try simp only [Act.put, List.getElem_toArray, List.getElem_cons_zero, List.getElem_cons_succ, List.setIfInBounds_toArray, List.set_cons_zero, List.set_cons_succ]
              refine wpAnyH_take (i := 21) (v := .int .i64 ((a.how l'.br l'.bn l0.sl l0.x))) rfl (by kernel_rfl) (by kernel_rfl) (by kernel_rfl) (fun _ _ _ h => h) (Or.inl ⟨by rfl, fun w_ hS_ => by (first | (go_simp; done) | (go_simp; rfl))⟩) ⟨(rowMid Zc (1 + j * 16) HRA.out), (rowCell Zc (81 + i) HPH.out), (rowAt Zy)⟩ ?_
              try simp only [Act.put, List.getElem_toArray, List.getElem_cons_zero, List.getElem_cons_succ, List.setIfInBounds_toArray, List.set_cons_zero, List.set_cons_succ]
              refine wpAnyH_done (by kernel_rfl) ?_ _
              clear HVC HRA
              go_upto_region 10 with fail
              have Zc : y5.drew.heap[gc]? = some (.cells (crC n A' (fun j => pv (H j)) S (k + 1)).toArray 122) := Zc
              have Zl : y5.drew.heap[hh]? = some (.cells l'.cells.toArray 144) := Zl
              have Zy : y5.drew.heap[gy]? = some (.cells l0.x.cells.toArray 37) := Zy
              have Zn : y5.drew.heap[y2.heap.size]? = some (.cells ((a.vote l'.br l'.bn l0.sl l0.x).cells).toArray 39) := Zn
              have hu := World.ownsRow.drew hu
              have ee := belowDrewS ee
              have ff := ogDrew ff
              refine wp_region_held_drew (S := fun z' => z'.rangeAt y2.heap.size (0) ((a.vote l'.br l'.bn l0.sl l0.x).cells)) (by kernel_rfl) (rowAt Zn) (fun hH => ?_)
              clear hH
              generalize y5.drew = y6 at Zc Zl Zy Zn hu ee ff ⊢
              refine wpAnyH_take (i := 0) (v := .pointer (some ⟨gc, 0, none⟩)) rfl (by kernel_rfl) (by kernel_rfl) (by kernel_rfl) (fun _ _ _ h => h) (Or.inl ⟨by rfl, fun w_ hS_ => by (first | (go_simp; done) | (go_simp; rfl))⟩) (rowAt Zn) ?_
              try simp only [Act.put, List.getElem_toArray, List.getElem_cons_zero, List.getElem_cons_succ, List.setIfInBounds_toArray, List.set_cons_zero, List.set_cons_succ]
              refine wpAnyH_take (i := 1) (v := .int .i64 ((j : Int))) rfl (by kernel_rfl) (by kernel_rfl) (by kernel_rfl) (fun _ _ _ h => h) (Or.inl ⟨by rfl, fun w_ hS_ => by (first | (go_simp; done) | (go_simp; rfl))⟩) (rowAt Zn) ?_
              try simp only [Act.put, List.getElem_toArray, List.getElem_cons_zero, List.getElem_cons_succ, List.setIfInBounds_toArray, List.set_cons_zero, List.set_cons_succ]
              refine wpAnyH_take (i := 2) (v := .agg ((a.vote l'.br l'.bn l0.sl l0.x).cells).toArray) rfl (by kernel_rfl) (by kernel_rfl) (by kernel_rfl) (fun _ _ _ h => h) (yieldsIf_load_mid (by rfl) 39 _ rfl (y2.heap.size) (0) rfl ((a.vote l'.br l'.bn l0.sl l0.x).cells) _ (fun _ h => h) Tryd.underlying39 rfl sizeAc) (rowAt Zn) ?_
              try simp only [Act.put, List.getElem_toArray, List.getElem_cons_zero, List.getElem_cons_succ, List.setIfInBounds_toArray, List.set_cons_zero, List.set_cons_succ]
              refine wpAnyH_take (i := 3) (v := .pointer (some ⟨gc, 0, none⟩)) rfl (by kernel_rfl) (by kernel_rfl) (by kernel_rfl) (fun _ _ _ h => h) (Or.inl ⟨by rfl, fun w_ hS_ => by (first | (go_simp; done) | (go_simp; rfl))⟩) (rowAt Zn) ?_
              try simp only [Act.put, List.getElem_toArray, List.getElem_cons_zero, List.getElem_cons_succ, List.setIfInBounds_toArray, List.set_cons_zero, List.set_cons_succ]
              refine wpAnyH_take (i := 4) (v := .pointer (some ⟨gc, 1, none⟩)) rfl (by kernel_rfl) (by kernel_rfl) (by kernel_rfl) (fun _ _ _ h => h) (Or.inl ⟨by rfl, fun w_ hS_ => by (first | (go_simp; done) | (go_simp; rfl))⟩) (rowAt Zn) ?_
              try simp only [Act.put, List.getElem_toArray, List.getElem_cons_zero, List.getElem_cons_succ, List.setIfInBounds_toArray, List.set_cons_zero, List.set_cons_succ]
              refine wpAnyH_take (i := 5) (v := .pointer (some ⟨gc, 1 + j * 16, none⟩)) rfl (by kernel_rfl) (by kernel_rfl) (by kernel_rfl) (fun _ _ _ h => h) (Or.inl ⟨by rfl, fun w_ hS_ => by (first | (go_simp; done) | (go_simp; rfl))⟩) (rowAt Zn) ?_
              try simp only [Act.put, List.getElem_toArray, List.getElem_cons_zero, List.getElem_cons_succ, List.setIfInBounds_toArray, List.set_cons_zero, List.set_cons_succ]
              refine wpAnyH_ready (rs := [6]) (by kernel_rfl) (by simp) ?_
              refine AllReadyH.cons rfl (fun K hK => ?_) AllReadyH.nil
              rw [if_pos (by rfl)]
              refine wp_store_mid 39 _ _ rfl (gc) (1 + j * 16) ((a.vote l'.br l'.bn l0.sl l0.x).cells).toArray rfl rfl (crThere Zc (by omega)) sizeAc (Ac.one _) ?_
              have N_ : (y6.setCells (gc) (1 + j * 16) ((a.vote l'.br l'.bn l0.sl l0.x).cells)).heap[gc]? = some (.cells (crC n (Px.upd A' j (a.vote l'.br l'.bn l0.sl l0.x)) (fun j => pv (H j)) S (k + 1)).toArray 122) := (by rw [← (HPU (a.vote l'.br l'.bn l0.sl l0.x)).out]; exact hpC _ _ _ _ Zc)
              have hu := ogOwnC hu (ogKind hu Zc (by decide)) ((a.vote l'.br l'.bn l0.sl l0.x).cells) (1 + j * 16)
              have ee := belowC (g := gc) (by omega) ((a.vote l'.br l'.bn l0.sl l0.x).cells) (1 + j * 16) y6 ee
              have ff := ogCells (k := gc) (by first | (right; omega) | exact Or.inl (Or.inl rfl) | exact Or.inl (Or.inr rfl)) ((a.vote l'.br l'.bn l0.sl l0.x).cells) (1 + j * 16) y6 ff
              have Zl := hpCo (g' := gc) (by omega) ((a.vote l'.br l'.bn l0.sl l0.x).cells) (1 + j * 16) y6 Zl
              have Zy := hpCo (g' := gc) (by omega) ((a.vote l'.br l'.bn l0.sl l0.x).cells) (1 + j * 16) y6 Zy
              have Zn := hpCo (g' := gc) (by omega) ((a.vote l'.br l'.bn l0.sl l0.x).cells) (1 + j * 16) y6 Zn
              clear Zc
              have Zc := N_
              clear N_
              change K _ (y6.setCells (gc) (1 + j * 16) ((a.vote l'.br l'.bn l0.sl l0.x).cells))
              generalize y6.setCells (gc) (1 + j * 16) ((a.vote l'.br l'.bn l0.sl l0.x).cells) = y7 at Zc Zl Zy Zn hu ee ff ⊢
              refine hK.out _ _ (rowAt Zn) (fun hH => ?_)
              clear hK K hH
              try simp only [Act.put, List.getElem_toArray, List.getElem_cons_zero, List.getElem_cons_succ, List.setIfInBounds_toArray, List.set_cons_zero, List.set_cons_succ]
              refine wpAnyH_done (by kernel_rfl) ?_ _
              clear Zn
              have HPH2 : Hid ((crC n (Px.upd A' j (a.vote l'.br l'.bn l0.sl l0.x)) (fun j => pv (H j)) S (k + 1))[81 + i]? = some (.pointer (some ⟨hh, 0, none⟩))) := by show _ = _; rw [crH n (Px.upd A' j (a.vote l'.br l'.bn l0.sl l0.x)) _ S (k + 1) i (by omega)]; show some (pv (H i)) = _; rw [HHI.out]; rfl
              clear HPH
              have HPH := HPH2
              clear HPH2
              go_upto_region 11 with fail
              by_cases hw : (a.how l'.br l'.bn l0.sl l0.x) = 3
              · have hw3 : ((a.how l'.br l'.bn l0.sl l0.x) == 3) = true := by rw [hw]; rfl
                obtain ⟨V2, hV2⟩ : ∃ V2, Cinv n t (Px.upd A' j (a.vote l'.br l'.bn l0.sl l0.x)) (updF L i (l'.vote (j : Int) l'.br l'.bn l0.sl)) X P1 V2 := by
                  have h9 := HP.out.1.vote h5 hi hlt (by rw [updF_same, HP.out.2.1]; exact hs0) (by rw [updF_same, ← HA.out, HP.out.2.1, HP.out.2.2.1]; exact hw)
                  rw [updF_same, updF_updF, ← HA.out, HP.out.2.1, HP.out.2.2.1] at h9; exact h9
                have HV2 := Lib.hid hV2
                have HLV := Lib.hid (fun z (hz : LdAt z hh l') => lvote_any z hh l' (j : Int) l'.br l'.bn l0.sl hz (by have := (HP.out.1.ld i hi).pw.2; rw [updF_same] at this; exact this))
                have HVS := Lib.hid (vote_same l' (j : Int) l'.br l'.bn l0.sl)
                clear hV2 hw
                have Zc : y7.drew.heap[gc]? = some (.cells (crC n (Px.upd A' j (a.vote l'.br l'.bn l0.sl l0.x)) (fun j => pv (H j)) S (k + 1)).toArray 122) := Zc
                have Zl : y7.drew.heap[hh]? = some (.cells l'.cells.toArray 144) := Zl
                have Zy : y7.drew.heap[gy]? = some (.cells l0.x.cells.toArray 37) := Zy
                have hu := World.ownsRow.drew hu
                have ee := belowDrewS ee
                have ff := ogDrew ff
                refine wp_region_held_drew (S := fun z' => z'.cell? ⟨gc, 81 + i, none⟩ = some (.pointer (some ⟨hh, 0, none⟩))) (by kernel_rfl) (rowCell Zc (81 + i) HPH.out) (fun hH => ?_)
                clear hH
                generalize y7.drew = y8 at Zc Zl Zy hu ee ff ⊢
                refine wpAnyH_take (i := 0) (v := .int .i64 ((a.how l'.br l'.bn l0.sl l0.x))) rfl (by kernel_rfl) (by kernel_rfl) (by kernel_rfl) (fun _ _ _ h => h) (Or.inl ⟨by rfl, fun w_ hS_ => by (first | (go_simp; done) | (go_simp; rfl))⟩) (rowCell Zc (81 + i) HPH.out) ?_
                try simp only [Act.put, List.getElem_toArray, List.getElem_cons_zero, List.getElem_cons_succ, List.setIfInBounds_toArray, List.set_cons_zero, List.set_cons_succ]
                refine wpAnyH_take (i := 1) (v := .bool true) rfl (by kernel_rfl) (by kernel_rfl) (by kernel_rfl) (fun _ _ _ h => h) (Or.inl ⟨by rfl, fun w_ hS_ => by (first | (go_simp; done) | (go_simp; rfl))⟩) (rowCell Zc (81 + i) HPH.out) ?_
                try simp only [Act.put, List.getElem_toArray, List.getElem_cons_zero, List.getElem_cons_succ, List.setIfInBounds_toArray, List.set_cons_zero, List.set_cons_succ]
                refine wpAnyH_take (i := 2) (v := .bool true) rfl (by kernel_rfl) (by kernel_rfl) (by kernel_rfl) (fun _ _ _ h => h) (Or.inl ⟨by rfl, fun w_ hS_ => by (first | (go_simp; done) | (go_simp; rfl))⟩) (rowCell Zc (81 + i) HPH.out) ?_
                try simp only [Act.put, List.getElem_toArray, List.getElem_cons_zero, List.getElem_cons_succ, List.setIfInBounds_toArray, List.set_cons_zero, List.set_cons_succ]
                refine wpAnyH_take (i := 3) (v := .pointer (some ⟨gc, 0, none⟩)) rfl (by kernel_rfl) (by kernel_rfl) (by kernel_rfl) (fun _ _ _ h => h) (Or.inl ⟨by rfl, fun w_ hS_ => by (first | (go_simp; done) | (go_simp; rfl))⟩) (rowCell Zc (81 + i) HPH.out) ?_
                try simp only [Act.put, List.getElem_toArray, List.getElem_cons_zero, List.getElem_cons_succ, List.setIfInBounds_toArray, List.set_cons_zero, List.set_cons_succ]
                refine wpAnyH_take (i := 4) (v := .int .i64 ((i : Int))) rfl (by kernel_rfl) (by kernel_rfl) (by kernel_rfl) (fun _ _ _ h => h) (Or.inl ⟨by rfl, fun w_ hS_ => by (first | (go_simp; done) | (go_simp; rfl))⟩) (rowCell Zc (81 + i) HPH.out) ?_
                try simp only [Act.put, List.getElem_toArray, List.getElem_cons_zero, List.getElem_cons_succ, List.setIfInBounds_toArray, List.set_cons_zero, List.set_cons_succ]
                refine wpAnyH_take (i := 5) (v := .pointer (some ⟨gc, 0, none⟩)) rfl (by kernel_rfl) (by kernel_rfl) (by kernel_rfl) (fun _ _ _ h => h) (Or.inl ⟨by rfl, fun w_ hS_ => by (first | (go_simp; done) | (go_simp; rfl))⟩) (rowCell Zc (81 + i) HPH.out) ?_
                try simp only [Act.put, List.getElem_toArray, List.getElem_cons_zero, List.getElem_cons_succ, List.setIfInBounds_toArray, List.set_cons_zero, List.set_cons_succ]
                refine wpAnyH_take (i := 6) (v := .pointer (some ⟨gc, 81, none⟩)) rfl (by kernel_rfl) (by kernel_rfl) (by kernel_rfl) (fun _ _ _ h => h) (Or.inl ⟨by rfl, fun w_ hS_ => by (first | (go_simp; done) | (go_simp; rfl))⟩) (rowCell Zc (81 + i) HPH.out) ?_
                try simp only [Act.put, List.getElem_toArray, List.getElem_cons_zero, List.getElem_cons_succ, List.setIfInBounds_toArray, List.set_cons_zero, List.set_cons_succ]
                refine wpAnyH_take (i := 7) (v := .pointer (some ⟨gc, 81 + i, none⟩)) rfl (by kernel_rfl) (by kernel_rfl) (by kernel_rfl) (fun _ _ _ h => h) (Or.inl ⟨by rfl, fun w_ hS_ => by (first | (go_simp; done) | (go_simp; rfl))⟩) (rowCell Zc (81 + i) HPH.out) ?_
                try simp only [Act.put, List.getElem_toArray, List.getElem_cons_zero, List.getElem_cons_succ, List.setIfInBounds_toArray, List.set_cons_zero, List.set_cons_succ]
                refine wpAnyH_take (i := 8) (v := .pointer (some ⟨hh, 0, none⟩)) rfl (by kernel_rfl) (by kernel_rfl) (by kernel_rfl) (fun _ _ _ h => h) (Or.inl ⟨by rfl, fun w_ hS_ => by (have c_ := hS_; first | (go_simp; done) | (go_simp; rfl))⟩) (rowCell Zc (81 + i) HPH.out) ?_
                try simp only [Act.put, List.getElem_toArray, List.getElem_cons_zero, List.getElem_cons_succ, List.setIfInBounds_toArray, List.set_cons_zero, List.set_cons_succ]
                refine wpAnyH_take (i := 9) (v := .int .i64 ((j : Int))) rfl (by kernel_rfl) (by kernel_rfl) (by kernel_rfl) (fun _ _ _ h => h) (Or.inl ⟨by rfl, fun w_ hS_ => by (first | (go_simp; done) | (go_simp; rfl))⟩) (rowCell Zc (81 + i) HPH.out) ?_
                try simp only [Act.put, List.getElem_toArray, List.getElem_cons_zero, List.getElem_cons_succ, List.setIfInBounds_toArray, List.set_cons_zero, List.set_cons_succ]
                refine wpAnyH_take (i := 10) (v := .pointer (some ⟨gc, 0, none⟩)) rfl (by kernel_rfl) (by kernel_rfl) (by kernel_rfl) (fun _ _ _ h => h) (Or.inl ⟨by rfl, fun w_ hS_ => by (first | (go_simp; done) | (go_simp; rfl))⟩) (rowCell Zc (81 + i) HPH.out) ?_
                try simp only [Act.put, List.getElem_toArray, List.getElem_cons_zero, List.getElem_cons_succ, List.setIfInBounds_toArray, List.set_cons_zero, List.set_cons_succ]
                refine wpAnyH_take (i := 11) (v := .int .i64 ((i : Int))) rfl (by kernel_rfl) (by kernel_rfl) (by kernel_rfl) (fun _ _ _ h => h) (Or.inl ⟨by rfl, fun w_ hS_ => by (first | (go_simp; done) | (go_simp; rfl))⟩) (rowCell Zc (81 + i) HPH.out) ?_
                try simp only [Act.put, List.getElem_toArray, List.getElem_cons_zero, List.getElem_cons_succ, List.setIfInBounds_toArray, List.set_cons_zero, List.set_cons_succ]
                refine wpAnyH_take (i := 12) (v := .pointer (some ⟨gc, 0, none⟩)) rfl (by kernel_rfl) (by kernel_rfl) (by kernel_rfl) (fun _ _ _ h => h) (Or.inl ⟨by rfl, fun w_ hS_ => by (first | (go_simp; done) | (go_simp; rfl))⟩) (rowCell Zc (81 + i) HPH.out) ?_
                try simp only [Act.put, List.getElem_toArray, List.getElem_cons_zero, List.getElem_cons_succ, List.setIfInBounds_toArray, List.set_cons_zero, List.set_cons_succ]
                refine wpAnyH_take (i := 13) (v := .pointer (some ⟨gc, 81, none⟩)) rfl (by kernel_rfl) (by kernel_rfl) (by kernel_rfl) (fun _ _ _ h => h) (Or.inl ⟨by rfl, fun w_ hS_ => by (first | (go_simp; done) | (go_simp; rfl))⟩) (rowCell Zc (81 + i) HPH.out) ?_
                try simp only [Act.put, List.getElem_toArray, List.getElem_cons_zero, List.getElem_cons_succ, List.setIfInBounds_toArray, List.set_cons_zero, List.set_cons_succ]
                refine wpAnyH_take (i := 14) (v := .pointer (some ⟨gc, 81 + i, none⟩)) rfl (by kernel_rfl) (by kernel_rfl) (by kernel_rfl) (fun _ _ _ h => h) (Or.inl ⟨by rfl, fun w_ hS_ => by (first | (go_simp; done) | (go_simp; rfl))⟩) (rowCell Zc (81 + i) HPH.out) ?_
                try simp only [Act.put, List.getElem_toArray, List.getElem_cons_zero, List.getElem_cons_succ, List.setIfInBounds_toArray, List.set_cons_zero, List.set_cons_succ]
                refine wpAnyH_take (i := 15) (v := .pointer (some ⟨hh, 0, none⟩)) rfl (by kernel_rfl) (by kernel_rfl) (by kernel_rfl) (fun _ _ _ h => h) (Or.inl ⟨by rfl, fun w_ hS_ => by (have c_ := hS_; first | (go_simp; done) | (go_simp; rfl))⟩) (rowCell Zc (81 + i) HPH.out) ?_
                try simp only [Act.put, List.getElem_toArray, List.getElem_cons_zero, List.getElem_cons_succ, List.setIfInBounds_toArray, List.set_cons_zero, List.set_cons_succ]
                refine wpAnyH_take (i := 17) (v := .int .i64 l0.sl) rfl (by kernel_rfl) (by kernel_rfl) (by kernel_rfl) (fun _ _ _ h => h) (Or.inl ⟨by rfl, fun w_ hS_ => by (first | (go_simp; done) | (go_simp; rfl))⟩) (rowCell Zc (81 + i) HPH.out) ?_
                try simp only [Act.put, List.getElem_toArray, List.getElem_cons_zero, List.getElem_cons_succ, List.setIfInBounds_toArray, List.set_cons_zero, List.set_cons_succ]
                refine wpAnyH_ready (rs := [16]) (by kernel_rfl) (by simp) ?_
                refine AllReadyH.cons rfl (fun K hK => ?_) AllReadyH.nil
                rw [if_pos (by rfl)]
                go_simp
                go_wp2_with (go_at_call 43; refine (lballot y8 hh l' Zl).mono ?_; rintro e y9 ⟨rfl, t⟩)
                have Zc := hpB Zc t
                have Zl := hpB Zl t
                have Zy := hpB Zy t
                have hu := ownBelow hu t
                have ee := ee.trans (t.mono (Nat.le_trans hB ee.size))
                have ff := ogBelow ff t
                clear t
                refine hK.out _ _ (rowCell Zc (81 + i) HPH.out) (fun hH => ?_)
                clear hK K hH
                try simp only [Act.put, List.getElem_toArray, List.getElem_cons_zero, List.getElem_cons_succ, List.setIfInBounds_toArray, List.set_cons_zero, List.set_cons_succ]
                refine wpAnyH_ready (rs := [18]) (by kernel_rfl) (by simp) ?_
                refine AllReadyH.cons rfl (fun K hK => ?_) AllReadyH.nil
                rw [if_pos (by rfl)]
                go_simp
                go_wp2_with (go_at_call 38; refine (HLV.out y9 Zl).mono ?_; rintro e y10 ⟨⟨b_, rfl, HB_⟩, Zm_, t_⟩)
                have Zc := ogHeapG Zc t_ hgh
                have Zy := ogHeapG Zy t_ (by omega)
                have hu := hu.kept t_ (Or.inr (lgKind hu Zl (by decide)))
                have ff := ogGrown ff t_ (Or.inl (Or.inr rfl))
                have ee := ee.grown t_ (Nat.le_trans hB ee.size) (fun g_ e_ => by injection e_ with e_; omega)
                clear Zl t_
                have Zl : y10.heap[hh]? = some (.cells (l'.vote (j : Int) l'.br l'.bn l0.sl).cells.toArray 144) := Zm_
                clear Zm_
                have HB_ := Lib.hid HB_
                refine hK.out _ _ (rowCell Zc (81 + i) HPH.out) (fun hH => ?_)
                clear hK K hH
                try simp only [Act.put, List.getElem_toArray, List.getElem_cons_zero, List.getElem_cons_succ, List.setIfInBounds_toArray, List.set_cons_zero, List.set_cons_succ]
                refine wpAnyH_take (i := 19) (v := .bool b_) rfl (by kernel_rfl) (by kernel_rfl) (by kernel_rfl) (fun _ _ _ h => h) (Or.inl ⟨by rfl, fun w_ hS_ => by (first | (go_simp; done) | (go_simp; rfl))⟩) (rowCell Zc (81 + i) HPH.out) ?_
                try simp only [Act.put, List.getElem_toArray, List.getElem_cons_zero, List.getElem_cons_succ, List.setIfInBounds_toArray, List.set_cons_zero, List.set_cons_succ]
                refine wpAnyH_done (by kernel_rfl) ?_ _
                have hu : y10.ownsRow B 39 16 (.slice (l'.vote (j : Int) l'.br l'.bn l0.sl).A (l'.vote (j : Int) l'.br l'.bn l0.sl).l.length (l'.vote (j : Int) l'.br l'.bn l0.sl).c) (l'.vote (j : Int) l'.br l'.bn l0.sl).l.length (acCells (l'.vote (j : Int) l'.br l'.bn l0.sl).l) := by rw [HVS.out.2.2.2.2.2.2.1, HVS.out.2.2.2.2.2.1, HVS.out.2.2.2.2.2.2.2]; exact hu
                clear HLV
                have HP2 : Hid (Cinv n t (Px.upd A' j (a.vote l'.br l'.bn l0.sl l0.x)) (updF L i (l'.vote (j : Int) l'.br l'.bn l0.sl)) X P1 V2 ∧ (l'.vote (j : Int) l'.br l'.bn l0.sl).sl = l0.sl ∧ (l'.vote (j : Int) l'.br l'.bn l0.sl).x = l0.x ∧ (l'.vote (j : Int) l'.br l'.bn l0.sl).l = l0.l ∧ (l'.vote (j : Int) l'.br l'.bn l0.sl).A = l0.A ∧ (l'.vote (j : Int) l'.br l'.bn l0.sl).c = l0.c ∧ (l'.vote (j : Int) l'.br l'.bn l0.sl).n = (n : Int)) := by
                  obtain ⟨p1, p2, p3, p4, p5, p6, p7⟩ := HP.out
                  obtain ⟨s1, s2, s3, s4, s5, s6, s7, s8⟩ := HVS.out
                  exact ⟨HV2.out, s4.trans p2, s5.trans p3, s6.trans p4, s7.trans p5, s8.trans p6, s1.trans p7⟩
                cases b_ with
                | false =>
                  go_wp2_with fail
                  go_roundw
                  case rel => exact ⟨j + 1, (Px.upd A' j (a.vote l'.br l'.bn l0.sl l0.x)), (l'.vote (j : Int) l'.br l'.bn l0.sl), V2, by omega, by go_num, HP2, Zc, Zl, Zy, hu, ff, ee⟩
                  case measure => simp [intOf]; omega
                | true =>
                  have HBB := HB_.out rfl
                  have hmj : Q.majB (l'.vote (j : Int) l'.br l'.bn l0.sl).vt (n : Int) = true := by
                    have e_ : (l'.vote (j : Int) l'.br l'.bn l0.sl).vt = Q.addN l'.vt (j : Int) := by unfold Ld.vote; rw [HBB.1]; rfl
                    rw [e_, ← HP.out.2.2.2.2.2.2]; exact HBB.2
                  have hd9 := HV2.out.done h5 hi (by rw [updF_same, HP2.out.2.1]; exact hs0) (by rw [updF_same]; exact hmj)
                  rw [updF_same, updF_updF, HP2.out.2.1, HP2.out.2.2.1] at hd9
                  have hds : (l'.vote (j : Int) l'.br l'.bn l0.sl).dones = true := by unfold Ld.dones; rw [decide_eq_false (by rw [HP2.out.2.1]; exact hs0), HP2.out.2.2.2.2.2.2, hmj]; rfl
                  have hpw : (l'.vote (j : Int) l'.br l'.bn l0.sl).vt < 18446744073709551616 := by have := (HV2.out.ld i hi).pw.2; rw [updF_same] at this; exact this
                  have hsr : 0 ≤ (l'.vote (j : Int) l'.br l'.bn l0.sl).sl ∧ (l'.vote (j : Int) l'.br l'.bn l0.sl).sl ≤ 1000000 := by have := (HV2.out.ld i hi).slr; rw [updF_same] at this; exact this
                  have hdl : (l'.vote (j : Int) l'.br l'.bn l0.sl).done.A = none ∧ (l'.vote (j : Int) l'.br l'.bn l0.sl).done.l = [] ∧ (l'.vote (j : Int) l'.br l'.bn l0.sl).done.c = 0 := by unfold Ld.done; rw [hds]; exact ⟨rfl, rfl, rfl⟩
                  have HDL := Lib.hid hdl
                  have HD9 := Lib.hid hd9
                  have HDC := Lib.hid (fun z (hz : LdAt z hh (l'.vote (j : Int) l'.br l'.bn l0.sl)) => ldone z hh (l'.vote (j : Int) l'.br l'.bn l0.sl) hz hpw hsr.1 hsr.2)
                  rw [hds] at HDC
                  clear HBB hmj hd9 hds hpw hsr hdl HB_
                  have cH := rowCell Zc (81 + i) HPH.out
                  go_wp2_with fail
                  refine (HDC.out y10 Zl).mono ?_
                  rintro e y11 ⟨rfl, Zm_, t_⟩
                  have Zc := ogHeapG Zc t_ hgh
                  have Zy := ogHeapG Zy t_ (by omega)
                  have hu := hu.kept t_ (Or.inr (lgKind hu Zl (by decide)))
                  have ff := ogGrown ff t_ (Or.inl (Or.inr rfl))
                  have ee := ee.grown t_ (Nat.le_trans hB ee.size) (fun g_ e_ => by injection e_ with e_; omega)
                  clear Zl t_ hu cH
                  have Zl : y11.heap[hh]? = some (.cells (l'.vote (j : Int) l'.br l'.bn l0.sl).done.cells.toArray 144) := Zm_
                  clear Zm_
                  have hu : y11.ownsRow B 39 16 (rowv (l'.vote (j : Int) l'.br l'.bn l0.sl).done) (l'.vote (j : Int) l'.br l'.bn l0.sl).done.l.length (acCells (l'.vote (j : Int) l'.br l'.bn l0.sl).done.l) := by unfold rowv; rw [HDL.out.1, HDL.out.2.1, HDL.out.2.2]; exact World.ownsRow_nil _ _ _ _
                  have HCR := Lib.hid (HMV.out _ (l'.vote (j : Int) l'.br l'.bn l0.sl).done (Px.upd A' j (a.vote l'.br l'.bn l0.sl l0.x)) ff Zc Zl hu (fun g hg => by unfold rowv at hg; rw [HDL.out.1, HDL.out.2.1, HDL.out.2.2] at hg; cases hg))
                  clear hu
                  try dsimp only
                  rename_i hK
                  refine hK _ _ ?_
                  clear hK
                  have cS := rowCell Zc (1 + i * 16 + 2) (crA n (Px.upd A' j (a.vote l'.br l'.bn l0.sl l0.x)) (fun j => pv (H j)) S (k + 1) i (by omega) 2 (.int .i64 ((Px.upd A' j (a.vote l'.br l'.bn l0.sl l0.x)) i).sl) rfl)
                  generalize hsi : ((Px.upd A' j (a.vote l'.br l'.bn l0.sl l0.x)) i).sl = si at cS
                  have HSI := Lib.hid hsi
                  clear hsi
                  by_cases hq : si = l0.sl
                  · have hq1 : (si == l0.sl) = true := by rw [hq]; simp
                    go_upto_region 15 with fail
                    clear cS hq1
                    have hlr := HD9.out.1.more.learn hi (by have := (HD9.out.1.ac i hi).2.1; omega) (by omega) HD9.out.2.1 (by obtain ⟨p, hp, r1, r2, r3⟩ := HD9.out.2.2.2.2; exact ⟨p, hp, by rw [r1, HSI.out, hq], r2, r3⟩)
                    have HLR := Lib.hid hlr
                    have HCL := Lib.hid (fun z (hz : CrewAt z B gc n (Px.upd A' j (a.vote l'.br l'.bn l0.sl l0.x)) H (updF L i (l'.vote (j : Int) l'.br l'.bn l0.sl).done) S X (k + 1)) (he : Below B w z) => clearn B gc n i (k + 1) (Px.upd A' j (a.vote l'.br l'.bn l0.sl l0.x)) H (updF L i (l'.vote (j : Int) l'.br l'.bn l0.sl).done) S X l0.x z hz (by omega) (HD9.out.1.ac i hi).1 hlx (fun z' hz' => HT.out z' (he.trans hz')) hlr.1)
                    clear hlr
                    refine wp_region_lit ?_
                    iterate 27 (first | with_reducible refine isLoad (ty := 37) rfl ?_ | go_step)
                    refine wpList_load_mid rfl 37 _ rfl (gy) 0 rfl (l0.x.cells) _ (rowAt Zy) Tryd.underlying37 rfl sizeCm ?_
                    go_wp2_with fail
                    refine (HCL.out y11 HCR.out ee).mono ?_
                    rintro e z99 ⟨rfl, ⟨v9, hcr9⟩, t_⟩
                    try dsimp only
                    rename_i hK
                    refine hK _ _ ?_
                    clear hK
                    go_wp2_with fail
                    go_ret
                    exact ⟨rfl, ⟨_, _, _, _, P1, V2, hcr9, HLR.out.2⟩, ee.trans t_⟩
                  · have hq1 : (si == l0.sl) = false := by simpa using hq
                    obtain ⟨kk, hk1, hk2⟩ := HD9.out.1.known hi HD9.out.2.2.1 (by have := HD9.out.2.2.2.1; rw [HSI.out] at this ⊢; omega) HD9.out.2.2.2.2
                    obtain ⟨D1, d1, c1, HR1⟩ := HCR.out.list (j := i) (by omega)
                    obtain ⟨gs, rfl, hgs, hrs⟩ := HR1 kk _ hk2
                    obtain ⟨wq, hwq⟩ : ∃ wq, wq = y11 := ⟨_, rfl⟩
                    have e2 : Below wq.heap.size wq y11 := by rw [hwq]; exact Below.refl _ _
                    rw [← hwq] at hgs hrs c1
                    have HCQ : Hid (CrewAt wq B gc n (Px.upd A' j (a.vote l'.br l'.bn l0.sl l0.x)) H (updF L i (l'.vote (j : Int) l'.br l'.bn l0.sl).done) S X (k + 1)) := by rw [hwq]; exact HCR.out
                    have hcq1 := Lib.hid c1
                    have hgq : gc < wq.heap.size := World.block_lt_of_cell? wq _ hcq1.out
                    have hkl := (List.getElem?_eq_some_iff.1 hk2).1
                    have hge : l0.sl ≤ ((X i).length : Int) := by omega
                    have hwk : IntKind.i64.wrap (l0.sl - 1) = (kk : Int) := by rw [IntKind.wrap_i64]; omega
                    have hk0 : (0 : Int) ≤ (kk : Int) := by omega
                    have hk9 : (kk : Int) < ((X i).length : Int) := by omega
                    have HSM := Lib.hid (fun z => c_csame3 l0.x l0.x z z.heap.size (Nat.le_refl _) (okFlat HFX.out) (okFlat HFX.out))
                    rw [show SameC l0.x l0.x = true from SameC.refl _] at HSM
                    go_upto_region 16 with fail
                    clear cS hq1 c1 HR1 hwq hk1 hk2
                    have Zc : y11.drew.heap[gc]? = some (.cells (crC n (Px.upd A' j (a.vote l'.br l'.bn l0.sl l0.x)) (fun j => pv (H j)) S (k + 1)).toArray 122) := Zc
                    have Zl : y11.drew.heap[hh]? = some (.cells (l'.vote (j : Int) l'.br l'.bn l0.sl).done.cells.toArray 144) := Zl
                    have Zy : y11.drew.heap[gy]? = some (.cells l0.x.cells.toArray 37) := Zy
                    have ee := belowDrewS ee
                    have e2 := belowDrewS e2
                    have ff := ogDrew ff
                    refine wp_region_held_drew (S := fun z' => z'.cell? ⟨gc, 86 + i, none⟩ = some (.slice (some ⟨gs, 0, none⟩) ((X i).length) d1) ∧ z'.rangeAt gs (kk * 10) l0.x.cells ∧ z'.rangeAt gy (0) l0.x.cells) (by kernel_rfl) ⟨((e2.cell (p := ⟨gc, 86 + i, none⟩) hgq).trans hcq1.out), (rangeB hrs e2 hgs), (rowAt Zy)⟩ (fun hH => ?_)
                    clear hH
                    generalize y11.drew = y12 at Zc Zl Zy ee e2 ff ⊢
                    refine wpAnyH_take (i := 0) (v := .pointer (some ⟨gc, 0, none⟩)) rfl (by kernel_rfl) (by kernel_rfl) (by kernel_rfl) (fun _ _ _ h => h) (Or.inl ⟨by rfl, fun w_ hS_ => by (first | (go_simp; done) | (go_simp; rfl))⟩) ⟨((e2.cell (p := ⟨gc, 86 + i, none⟩) hgq).trans hcq1.out), (rangeB hrs e2 hgs), (rowAt Zy)⟩ ?_
                    try simp only [Act.put, List.getElem_toArray, List.getElem_cons_zero, List.getElem_cons_succ, List.setIfInBounds_toArray, List.set_cons_zero, List.set_cons_succ]
                    refine wpAnyH_take (i := 1) (v := .int .i64 ((i : Int))) rfl (by kernel_rfl) (by kernel_rfl) (by kernel_rfl) (fun _ _ _ h => h) (Or.inl ⟨by rfl, fun w_ hS_ => by (first | (go_simp; done) | (go_simp; rfl))⟩) ⟨((e2.cell (p := ⟨gc, 86 + i, none⟩) hgq).trans hcq1.out), (rangeB hrs e2 hgs), (rowAt Zy)⟩ ?_
                    try simp only [Act.put, List.getElem_toArray, List.getElem_cons_zero, List.getElem_cons_succ, List.setIfInBounds_toArray, List.set_cons_zero, List.set_cons_succ]
                    refine wpAnyH_take (i := 2) (v := .pointer (some ⟨gc, 0, none⟩)) rfl (by kernel_rfl) (by kernel_rfl) (by kernel_rfl) (fun _ _ _ h => h) (Or.inl ⟨by rfl, fun w_ hS_ => by (first | (go_simp; done) | (go_simp; rfl))⟩) ⟨((e2.cell (p := ⟨gc, 86 + i, none⟩) hgq).trans hcq1.out), (rangeB hrs e2 hgs), (rowAt Zy)⟩ ?_
                    try simp only [Act.put, List.getElem_toArray, List.getElem_cons_zero, List.getElem_cons_succ, List.setIfInBounds_toArray, List.set_cons_zero, List.set_cons_succ]
                    refine wpAnyH_take (i := 3) (v := .pointer (some ⟨gc, 86, none⟩)) rfl (by kernel_rfl) (by kernel_rfl) (by kernel_rfl) (fun _ _ _ h => h) (Or.inl ⟨by rfl, fun w_ hS_ => by (first | (go_simp; done) | (go_simp; rfl))⟩) ⟨((e2.cell (p := ⟨gc, 86 + i, none⟩) hgq).trans hcq1.out), (rangeB hrs e2 hgs), (rowAt Zy)⟩ ?_
                    try simp only [Act.put, List.getElem_toArray, List.getElem_cons_zero, List.getElem_cons_succ, List.setIfInBounds_toArray, List.set_cons_zero, List.set_cons_succ]
                    refine wpAnyH_take (i := 4) (v := .pointer (some ⟨gc, 86 + i, none⟩)) rfl (by kernel_rfl) (by kernel_rfl) (by kernel_rfl) (fun _ _ _ h => h) (Or.inl ⟨by rfl, fun w_ hS_ => by (first | (go_simp; done) | (go_simp; rfl))⟩) ⟨((e2.cell (p := ⟨gc, 86 + i, none⟩) hgq).trans hcq1.out), (rangeB hrs e2 hgs), (rowAt Zy)⟩ ?_
                    try simp only [Act.put, List.getElem_toArray, List.getElem_cons_zero, List.getElem_cons_succ, List.setIfInBounds_toArray, List.set_cons_zero, List.set_cons_succ]
                    refine wpAnyH_take (i := 5) (v := .slice (some ⟨gs, 0, none⟩) ((X i).length) d1) rfl (by kernel_rfl) (by kernel_rfl) (by kernel_rfl) (fun _ _ _ h => h) (Or.inl ⟨by rfl, fun w_ hS_ => by (have c_ := hS_.1; first | (go_simp; done) | (go_simp; rfl))⟩) ⟨((e2.cell (p := ⟨gc, 86 + i, none⟩) hgq).trans hcq1.out), (rangeB hrs e2 hgs), (rowAt Zy)⟩ ?_
                    try simp only [Act.put, List.getElem_toArray, List.getElem_cons_zero, List.getElem_cons_succ, List.setIfInBounds_toArray, List.set_cons_zero, List.set_cons_succ]
                    refine wpAnyH_take (i := 6) (v := .int .i64 (((X i).length : Int))) rfl (by kernel_rfl) (by kernel_rfl) (by kernel_rfl) (fun _ _ _ h => h) (Or.inl ⟨by rfl, fun w_ hS_ => by (first | (go_simp; done) | (go_simp; rfl))⟩) ⟨((e2.cell (p := ⟨gc, 86 + i, none⟩) hgq).trans hcq1.out), (rangeB hrs e2 hgs), (rowAt Zy)⟩ ?_
                    try simp only [Act.put, List.getElem_toArray, List.getElem_cons_zero, List.getElem_cons_succ, List.setIfInBounds_toArray, List.set_cons_zero, List.set_cons_succ]
                    refine wpAnyH_take (i := 7) (v := .int .i64 l0.sl) rfl (by kernel_rfl) (by kernel_rfl) (by kernel_rfl) (fun _ _ _ h => h) (Or.inl ⟨by rfl, fun w_ hS_ => by (first | (go_simp; done) | (go_simp; rfl))⟩) ⟨((e2.cell (p := ⟨gc, 86 + i, none⟩) hgq).trans hcq1.out), (rangeB hrs e2 hgs), (rowAt Zy)⟩ ?_
                    try simp only [Act.put, List.getElem_toArray, List.getElem_cons_zero, List.getElem_cons_succ, List.setIfInBounds_toArray, List.set_cons_zero, List.set_cons_succ]
                    refine wpAnyH_take (i := 8) (v := .bool true) rfl (by kernel_rfl) (by kernel_rfl) (by kernel_rfl) (fun _ _ _ h => h) (Or.inl ⟨by rfl, fun w_ hS_ => by (first | (go_simp; done) | (go_simp; rfl))⟩) ⟨((e2.cell (p := ⟨gc, 86 + i, none⟩) hgq).trans hcq1.out), (rangeB hrs e2 hgs), (rowAt Zy)⟩ ?_
                    try simp only [Act.put, List.getElem_toArray, List.getElem_cons_zero, List.getElem_cons_succ, List.setIfInBounds_toArray, List.set_cons_zero, List.set_cons_succ]
                    refine wpAnyH_take (i := 9) (v := .bool true) rfl (by kernel_rfl) (by kernel_rfl) (by kernel_rfl) (fun _ _ _ h => h) (Or.inl ⟨by rfl, fun w_ hS_ => by (first | (go_simp; done) | (go_simp; rfl))⟩) ⟨((e2.cell (p := ⟨gc, 86 + i, none⟩) hgq).trans hcq1.out), (rangeB hrs e2 hgs), (rowAt Zy)⟩ ?_
                    try simp only [Act.put, List.getElem_toArray, List.getElem_cons_zero, List.getElem_cons_succ, List.setIfInBounds_toArray, List.set_cons_zero, List.set_cons_succ]
                    refine wpAnyH_take (i := 10) (v := .pointer (some ⟨gc, 0, none⟩)) rfl (by kernel_rfl) (by kernel_rfl) (by kernel_rfl) (fun _ _ _ h => h) (Or.inl ⟨by rfl, fun w_ hS_ => by (first | (go_simp; done) | (go_simp; rfl))⟩) ⟨((e2.cell (p := ⟨gc, 86 + i, none⟩) hgq).trans hcq1.out), (rangeB hrs e2 hgs), (rowAt Zy)⟩ ?_
                    try simp only [Act.put, List.getElem_toArray, List.getElem_cons_zero, List.getElem_cons_succ, List.setIfInBounds_toArray, List.set_cons_zero, List.set_cons_succ]
                    refine wpAnyH_take (i := 11) (v := .int .i64 ((i : Int))) rfl (by kernel_rfl) (by kernel_rfl) (by kernel_rfl) (fun _ _ _ h => h) (Or.inl ⟨by rfl, fun w_ hS_ => by (first | (go_simp; done) | (go_simp; rfl))⟩) ⟨((e2.cell (p := ⟨gc, 86 + i, none⟩) hgq).trans hcq1.out), (rangeB hrs e2 hgs), (rowAt Zy)⟩ ?_
                    try simp only [Act.put, List.getElem_toArray, List.getElem_cons_zero, List.getElem_cons_succ, List.setIfInBounds_toArray, List.set_cons_zero, List.set_cons_succ]
                    refine wpAnyH_take (i := 12) (v := .pointer (some ⟨gc, 0, none⟩)) rfl (by kernel_rfl) (by kernel_rfl) (by kernel_rfl) (fun _ _ _ h => h) (Or.inl ⟨by rfl, fun w_ hS_ => by (first | (go_simp; done) | (go_simp; rfl))⟩) ⟨((e2.cell (p := ⟨gc, 86 + i, none⟩) hgq).trans hcq1.out), (rangeB hrs e2 hgs), (rowAt Zy)⟩ ?_
                    try simp only [Act.put, List.getElem_toArray, List.getElem_cons_zero, List.getElem_cons_succ, List.setIfInBounds_toArray, List.set_cons_zero, List.set_cons_succ]
                    refine wpAnyH_take (i := 13) (v := .pointer (some ⟨gc, 86, none⟩)) rfl (by kernel_rfl) (by kernel_rfl) (by kernel_rfl) (fun _ _ _ h => h) (Or.inl ⟨by rfl, fun w_ hS_ => by (first | (go_simp; done) | (go_simp; rfl))⟩) ⟨((e2.cell (p := ⟨gc, 86 + i, none⟩) hgq).trans hcq1.out), (rangeB hrs e2 hgs), (rowAt Zy)⟩ ?_
                    try simp only [Act.put, List.getElem_toArray, List.getElem_cons_zero, List.getElem_cons_succ, List.setIfInBounds_toArray, List.set_cons_zero, List.set_cons_succ]
                    refine wpAnyH_take (i := 14) (v := .pointer (some ⟨gc, 86 + i, none⟩)) rfl (by kernel_rfl) (by kernel_rfl) (by kernel_rfl) (fun _ _ _ h => h) (Or.inl ⟨by rfl, fun w_ hS_ => by (first | (go_simp; done) | (go_simp; rfl))⟩) ⟨((e2.cell (p := ⟨gc, 86 + i, none⟩) hgq).trans hcq1.out), (rangeB hrs e2 hgs), (rowAt Zy)⟩ ?_
                    try simp only [Act.put, List.getElem_toArray, List.getElem_cons_zero, List.getElem_cons_succ, List.setIfInBounds_toArray, List.set_cons_zero, List.set_cons_succ]
                    refine wpAnyH_take (i := 15) (v := .slice (some ⟨gs, 0, none⟩) ((X i).length) d1) rfl (by kernel_rfl) (by kernel_rfl) (by kernel_rfl) (fun _ _ _ h => h) (Or.inl ⟨by rfl, fun w_ hS_ => by (have c_ := hS_.1; first | (go_simp; done) | (go_simp; rfl))⟩) ⟨((e2.cell (p := ⟨gc, 86 + i, none⟩) hgq).trans hcq1.out), (rangeB hrs e2 hgs), (rowAt Zy)⟩ ?_
                    try simp only [Act.put, List.getElem_toArray, List.getElem_cons_zero, List.getElem_cons_succ, List.setIfInBounds_toArray, List.set_cons_zero, List.set_cons_succ]
                    refine wpAnyH_take (i := 16) (v := .int .i64 l0.sl) rfl (by kernel_rfl) (by kernel_rfl) (by kernel_rfl) (fun _ _ _ h => h) (Or.inl ⟨by rfl, fun w_ hS_ => by (first | (go_simp; done) | (go_simp; rfl))⟩) ⟨((e2.cell (p := ⟨gc, 86 + i, none⟩) hgq).trans hcq1.out), (rangeB hrs e2 hgs), (rowAt Zy)⟩ ?_
                    try simp only [Act.put, List.getElem_toArray, List.getElem_cons_zero, List.getElem_cons_succ, List.setIfInBounds_toArray, List.set_cons_zero, List.set_cons_succ]
                    refine wpAnyH_take (i := 17) (v := .int .i64 ((kk : Int))) rfl (by kernel_rfl) (by kernel_rfl) (by kernel_rfl) (fun _ _ _ h => h) (Or.inl ⟨by rfl, fun w_ hS_ => by (first | (go_simp; done) | (go_simp; rfl))⟩) ⟨((e2.cell (p := ⟨gc, 86 + i, none⟩) hgq).trans hcq1.out), (rangeB hrs e2 hgs), (rowAt Zy)⟩ ?_
                    try simp only [Act.put, List.getElem_toArray, List.getElem_cons_zero, List.getElem_cons_succ, List.setIfInBounds_toArray, List.set_cons_zero, List.set_cons_succ]
                    refine wpAnyH_take (i := 18) (v := .pointer (some ⟨gs, kk * 10, none⟩)) rfl (by kernel_rfl) (by kernel_rfl) (by kernel_rfl) (fun _ _ _ h => h) (Or.inl ⟨by rfl, fun w_ hS_ => by (first | (go_simp; done) | (go_simp; rfl))⟩) ⟨((e2.cell (p := ⟨gc, 86 + i, none⟩) hgq).trans hcq1.out), (rangeB hrs e2 hgs), (rowAt Zy)⟩ ?_
                    try simp only [Act.put, List.getElem_toArray, List.getElem_cons_zero, List.getElem_cons_succ, List.setIfInBounds_toArray, List.set_cons_zero, List.set_cons_succ]
                    refine wpAnyH_take (i := 19) (v := .agg (l0.x.cells).toArray) rfl (by kernel_rfl) (by kernel_rfl) (by kernel_rfl) (fun _ _ _ h => h) (yieldsIf_load_mid (by rfl) 37 _ rfl (gs) (kk * 10) rfl (l0.x.cells) _ (fun _ h => h.2.1) Tryd.underlying37 rfl sizeCm) ⟨((e2.cell (p := ⟨gc, 86 + i, none⟩) hgq).trans hcq1.out), (rangeB hrs e2 hgs), (rowAt Zy)⟩ ?_
                    try simp only [Act.put, List.getElem_toArray, List.getElem_cons_zero, List.getElem_cons_succ, List.setIfInBounds_toArray, List.set_cons_zero, List.set_cons_succ]
                    refine wpAnyH_take (i := 20) (v := .agg (l0.x.cells).toArray) rfl (by kernel_rfl) (by kernel_rfl) (by kernel_rfl) (fun _ _ _ h => h) (yieldsIf_load_mid (by rfl) 37 _ rfl (gy) (0) rfl (l0.x.cells) _ (fun _ h => h.2.2) Tryd.underlying37 rfl sizeCm) ⟨((e2.cell (p := ⟨gc, 86 + i, none⟩) hgq).trans hcq1.out), (rangeB hrs e2 hgs), (rowAt Zy)⟩ ?_
                    try simp only [Act.put, List.getElem_toArray, List.getElem_cons_zero, List.getElem_cons_succ, List.setIfInBounds_toArray, List.set_cons_zero, List.set_cons_succ]
                    refine wpAnyH_ready (rs := [21]) (by kernel_rfl) (by simp) ?_
                    refine AllReadyH.cons rfl (fun K hK => ?_) AllReadyH.nil
                    rw [if_pos (by rfl)]
                    go_simp
                    go_wp2_with (go_at_call 32; refine (HSM.out y12).mono ?_; rintro e y13 ⟨rfl, t⟩)
                    have Zc := hpB Zc t
                    have Zl := hpB Zl t
                    have Zy := hpB Zy t
                    have ee := ee.trans (t.mono (Nat.le_trans hB ee.size))
                    have e2 := e2.trans (t.mono e2.size)
                    have ff := ogBelow ff t
                    clear t
                    refine hK.out _ _ ⟨((e2.cell (p := ⟨gc, 86 + i, none⟩) hgq).trans hcq1.out), (rangeB hrs e2 hgs), (rowAt Zy)⟩ (fun hH => ?_)
                    clear hK K hH
                    try simp only [Act.put, List.getElem_toArray, List.getElem_cons_zero, List.getElem_cons_succ, List.setIfInBounds_toArray, List.set_cons_zero, List.set_cons_succ]
                    refine wpAnyH_take (i := 22) (v := .bool true) rfl (by kernel_rfl) (by kernel_rfl) (by kernel_rfl) (fun _ _ _ h => h) (Or.inl ⟨by rfl, fun w_ hS_ => by (first | (go_simp; done) | (go_simp; rfl))⟩) ⟨((e2.cell (p := ⟨gc, 86 + i, none⟩) hgq).trans hcq1.out), (rangeB hrs e2 hgs), (rowAt Zy)⟩ ?_
                    try simp only [Act.put, List.getElem_toArray, List.getElem_cons_zero, List.getElem_cons_succ, List.setIfInBounds_toArray, List.set_cons_zero, List.set_cons_succ]
                    refine wpAnyH_take (i := 23) (v := .bool true) rfl (by kernel_rfl) (by kernel_rfl) (by kernel_rfl) (fun _ _ _ h => h) (Or.inl ⟨by rfl, fun w_ hS_ => by (first | (go_simp; done) | (go_simp; rfl))⟩) ⟨((e2.cell (p := ⟨gc, 86 + i, none⟩) hgq).trans hcq1.out), (rangeB hrs e2 hgs), (rowAt Zy)⟩ ?_
                    try simp only [Act.put, List.getElem_toArray, List.getElem_cons_zero, List.getElem_cons_succ, List.setIfInBounds_toArray, List.set_cons_zero, List.set_cons_succ]
                    refine wpAnyH_done (by kernel_rfl) ?_ _
                    go_wp2_with fail
                    go_ret
                    exact ⟨rfl, ⟨_, _, _, _, P1, V2, HCQ.out.below e2, HD9.out.1.more⟩, ee⟩
              · have hw3 : ((a.how l'.br l'.bn l0.sl l0.x) == 3) = false := by simpa using hw
                have HP2 : Hid (Cinv n t (Px.upd A' j (a.vote l'.br l'.bn l0.sl l0.x)) (updF L i l') X P1 V' ∧ l'.sl = l0.sl ∧ l'.x = l0.x ∧ l'.l = l0.l ∧ l'.A = l0.A ∧ l'.c = l0.c ∧ l'.n = (n : Int)) := by
                  obtain ⟨p1, p2⟩ := HP.out
                  refine ⟨?_, p2⟩
                  rw [HA.out] at hw ⊢
                  rw [Cinv.voteNo (n := n) (t := t) hw]; exact p1
                have Zc : y7.drew.heap[gc]? = some (.cells (crC n (Px.upd A' j (a.vote l'.br l'.bn l0.sl l0.x)) (fun j => pv (H j)) S (k + 1)).toArray 122) := Zc
                have Zl : y7.drew.heap[hh]? = some (.cells l'.cells.toArray 144) := Zl
                have Zy : y7.drew.heap[gy]? = some (.cells l0.x.cells.toArray 37) := Zy
                have hu := World.ownsRow.drew hu
                have ee := belowDrewS ee
                have ff := ogDrew ff
                refine wp_region_held_drew (S := fun z' => True) (by kernel_rfl) trivial (fun hH => ?_)
                clear hH
                generalize y7.drew = y8 at Zc Zl Zy hu ee ff ⊢
                refine wpAnyH_take (i := 0) (v := .int .i64 ((a.how l'.br l'.bn l0.sl l0.x))) rfl (by kernel_rfl) (by kernel_rfl) (by kernel_rfl) (fun _ _ _ h => h) (Or.inl ⟨by rfl, fun w_ hS_ => by (first | (go_simp; done) | (go_simp; rfl))⟩) trivial ?_
                try simp only [Act.put, List.getElem_toArray, List.getElem_cons_zero, List.getElem_cons_succ, List.setIfInBounds_toArray, List.set_cons_zero, List.set_cons_succ]
                refine wpAnyH_take (i := 1) (v := .bool false) rfl (by kernel_rfl) (by kernel_rfl) (by kernel_rfl) (fun _ _ _ h => h) (Or.inl ⟨by rfl, fun w_ hS_ => by (first | (go_simp; done) | (go_simp; rfl))⟩) trivial ?_
                try simp only [Act.put, List.getElem_toArray, List.getElem_cons_zero, List.getElem_cons_succ, List.setIfInBounds_toArray, List.set_cons_zero, List.set_cons_succ]
                refine wpAnyH_take (i := 2) (v := .bool false) rfl (by kernel_rfl) (by kernel_rfl) (by kernel_rfl) (fun _ _ _ h => h) (Or.inl ⟨by rfl, fun w_ hS_ => by (first | (go_simp; done) | (go_simp; rfl))⟩) trivial ?_
                try simp only [Act.put, List.getElem_toArray, List.getElem_cons_zero, List.getElem_cons_succ, List.setIfInBounds_toArray, List.set_cons_zero, List.set_cons_succ]
                refine wpAnyH_take (i := 3) (v := undef) rfl (by kernel_rfl) (by kernel_rfl) (by kernel_rfl) (fun _ _ _ h => h) (Or.inr ⟨by rfl, rfl⟩) trivial ?_
                try simp only [Act.put, List.getElem_toArray, List.getElem_cons_zero, List.getElem_cons_succ, List.setIfInBounds_toArray, List.set_cons_zero, List.set_cons_succ]
                refine wpAnyH_take (i := 4) (v := undef) rfl (by kernel_rfl) (by kernel_rfl) (by kernel_rfl) (fun _ _ _ h => h) (Or.inr ⟨by rfl, rfl⟩) trivial ?_
                try simp only [Act.put, List.getElem_toArray, List.getElem_cons_zero, List.getElem_cons_succ, List.setIfInBounds_toArray, List.set_cons_zero, List.set_cons_succ]
                refine wpAnyH_take (i := 5) (v := undef) rfl (by kernel_rfl) (by kernel_rfl) (by kernel_rfl) (fun _ _ _ h => h) (Or.inr ⟨by rfl, rfl⟩) trivial ?_
                try simp only [Act.put, List.getElem_toArray, List.getElem_cons_zero, List.getElem_cons_succ, List.setIfInBounds_toArray, List.set_cons_zero, List.set_cons_succ]
                refine wpAnyH_take (i := 6) (v := undef) rfl (by kernel_rfl) (by kernel_rfl) (by kernel_rfl) (fun _ _ _ h => h) (Or.inr ⟨by rfl, rfl⟩) trivial ?_
                try simp only [Act.put, List.getElem_toArray, List.getElem_cons_zero, List.getElem_cons_succ, List.setIfInBounds_toArray, List.set_cons_zero, List.set_cons_succ]
                refine wpAnyH_take (i := 7) (v := undef) rfl (by kernel_rfl) (by kernel_rfl) (by kernel_rfl) (fun _ _ _ h => h) (Or.inr ⟨by rfl, rfl⟩) trivial ?_
                try simp only [Act.put, List.getElem_toArray, List.getElem_cons_zero, List.getElem_cons_succ, List.setIfInBounds_toArray, List.set_cons_zero, List.set_cons_succ]
                refine wpAnyH_take (i := 8) (v := undef) rfl (by kernel_rfl) (by kernel_rfl) (by kernel_rfl) (fun _ _ _ h => h) (Or.inr ⟨by rfl, rfl⟩) trivial ?_
                try simp only [Act.put, List.getElem_toArray, List.getElem_cons_zero, List.getElem_cons_succ, List.setIfInBounds_toArray, List.set_cons_zero, List.set_cons_succ]
                refine wpAnyH_take (i := 9) (v := undef) rfl (by kernel_rfl) (by kernel_rfl) (by kernel_rfl) (fun _ _ _ h => h) (Or.inr ⟨by rfl, rfl⟩) trivial ?_
                try simp only [Act.put, List.getElem_toArray, List.getElem_cons_zero, List.getElem_cons_succ, List.setIfInBounds_toArray, List.set_cons_zero, List.set_cons_succ]
                refine wpAnyH_take (i := 10) (v := undef) rfl (by kernel_rfl) (by kernel_rfl) (by kernel_rfl) (fun _ _ _ h => h) (Or.inr ⟨by rfl, rfl⟩) trivial ?_
                try simp only [Act.put, List.getElem_toArray, List.getElem_cons_zero, List.getElem_cons_succ, List.setIfInBounds_toArray, List.set_cons_zero, List.set_cons_succ]
                refine wpAnyH_take (i := 11) (v := undef) rfl (by kernel_rfl) (by kernel_rfl) (by kernel_rfl) (fun _ _ _ h => h) (Or.inr ⟨by rfl, rfl⟩) trivial ?_
                try simp only [Act.put, List.getElem_toArray, List.getElem_cons_zero, List.getElem_cons_succ, List.setIfInBounds_toArray, List.set_cons_zero, List.set_cons_succ]
                refine wpAnyH_take (i := 12) (v := undef) rfl (by kernel_rfl) (by kernel_rfl) (by kernel_rfl) (fun _ _ _ h => h) (Or.inr ⟨by rfl, rfl⟩) trivial ?_
                try simp only [Act.put, List.getElem_toArray, List.getElem_cons_zero, List.getElem_cons_succ, List.setIfInBounds_toArray, List.set_cons_zero, List.set_cons_succ]
                refine wpAnyH_take (i := 13) (v := undef) rfl (by kernel_rfl) (by kernel_rfl) (by kernel_rfl) (fun _ _ _ h => h) (Or.inr ⟨by rfl, rfl⟩) trivial ?_
                try simp only [Act.put, List.getElem_toArray, List.getElem_cons_zero, List.getElem_cons_succ, List.setIfInBounds_toArray, List.set_cons_zero, List.set_cons_succ]
                refine wpAnyH_take (i := 14) (v := undef) rfl (by kernel_rfl) (by kernel_rfl) (by kernel_rfl) (fun _ _ _ h => h) (Or.inr ⟨by rfl, rfl⟩) trivial ?_
                try simp only [Act.put, List.getElem_toArray, List.getElem_cons_zero, List.getElem_cons_succ, List.setIfInBounds_toArray, List.set_cons_zero, List.set_cons_succ]
                refine wpAnyH_take (i := 15) (v := undef) rfl (by kernel_rfl) (by kernel_rfl) (by kernel_rfl) (fun _ _ _ h => h) (Or.inr ⟨by rfl, rfl⟩) trivial ?_
                try simp only [Act.put, List.getElem_toArray, List.getElem_cons_zero, List.getElem_cons_succ, List.setIfInBounds_toArray, List.set_cons_zero, List.set_cons_succ]
                refine wpAnyH_take (i := 16) (v := undef) rfl (by kernel_rfl) (by kernel_rfl) (by kernel_rfl) (fun _ _ _ h => h) (Or.inr ⟨by rfl, rfl⟩) trivial ?_
                try simp only [Act.put, List.getElem_toArray, List.getElem_cons_zero, List.getElem_cons_succ, List.setIfInBounds_toArray, List.set_cons_zero, List.set_cons_succ]
                refine wpAnyH_take (i := 17) (v := undef) rfl (by kernel_rfl) (by kernel_rfl) (by kernel_rfl) (fun _ _ _ h => h) (Or.inr ⟨by rfl, rfl⟩) trivial ?_
                try simp only [Act.put, List.getElem_toArray, List.getElem_cons_zero, List.getElem_cons_succ, List.setIfInBounds_toArray, List.set_cons_zero, List.set_cons_succ]
                refine wpAnyH_take (i := 18) (v := undef) rfl (by kernel_rfl) (by kernel_rfl) (by kernel_rfl) (fun _ _ _ h => h) (Or.inr ⟨by rfl, rfl⟩) trivial ?_
                try simp only [Act.put, List.getElem_toArray, List.getElem_cons_zero, List.getElem_cons_succ, List.setIfInBounds_toArray, List.set_cons_zero, List.set_cons_succ]
                refine wpAnyH_take (i := 19) (v := .bool false) rfl (by kernel_rfl) (by kernel_rfl) (by kernel_rfl) (fun _ _ _ h => h) (Or.inl ⟨by rfl, fun w_ hS_ => by (first | (go_simp; done) | (go_simp; rfl))⟩) trivial ?_
                try simp only [Act.put, List.getElem_toArray, List.getElem_cons_zero, List.getElem_cons_succ, List.setIfInBounds_toArray, List.set_cons_zero, List.set_cons_succ]
                refine wpAnyH_done (by kernel_rfl) ?_ _
                go_wp2_with fail
                go_roundw
                case rel => exact ⟨j + 1, (Px.upd A' j (a.vote l'.br l'.bn l0.sl l0.x)), l', V', by omega, by go_num, HP2, Zc, Zl, Zy, hu, ff, ee⟩
                case measure => simp [intOf]; omega
          · rw [if_pos (by rfl)]
            go_simp
            have lZc := (Array.getElem?_eq_some_iff.1 Zc).1
            have lZl := (Array.getElem?_eq_some_iff.1 Zl).1
            have lZy := (Array.getElem?_eq_some_iff.1 Zy).1
            have sz_ := ff.size
            have ne_hu_Zn : (Value.slice l'.A l'.l.length l'.c).ownBlock ≠ some (y1.heap.size) := fun hb_ => by have hh_ := (hu.lt _ hb_).2; omega
            have Zc := hpA Zc (.cells #[.int .u32 0, .int .i64 0, .int .i64 0, .bool false, .int .u32 0, .int .i64 0, .int .i64 0, .int .i64 0, .int .i64 0, .slice none 0 0, .slice none 0 0, .int .i64 0, .int .i64 0, .int .i64 0, .int .u64 0, .bool false] 39)
            have Zl := hpA Zl (.cells #[.int .u32 0, .int .i64 0, .int .i64 0, .bool false, .int .u32 0, .int .i64 0, .int .i64 0, .int .i64 0, .int .i64 0, .slice none 0 0, .slice none 0 0, .int .i64 0, .int .i64 0, .int .i64 0, .int .u64 0, .bool false] 39)
            have Zy := hpA Zy (.cells #[.int .u32 0, .int .i64 0, .int .i64 0, .bool false, .int .u32 0, .int .i64 0, .int .i64 0, .int .i64 0, .int .i64 0, .slice none 0 0, .slice none 0 0, .int .i64 0, .int .i64 0, .int .i64 0, .int .u64 0, .bool false] 39)
            have hu := hu.alloc (.cells #[.int .u32 0, .int .i64 0, .int .i64 0, .bool false, .int .u32 0, .int .i64 0, .int .i64 0, .int .i64 0, .int .i64 0, .slice none 0 0, .slice none 0 0, .int .i64 0, .int .i64 0, .int .i64 0, .int .u64 0, .bool false] 39)
            have ee := ee.alloc (Nat.le_trans hB ee.size) (.cells #[.int .u32 0, .int .i64 0, .int .i64 0, .bool false, .int .u32 0, .int .i64 0, .int .i64 0, .int .i64 0, .int .i64 0, .slice none 0 0, .slice none 0 0, .int .i64 0, .int .i64 0, .int .i64 0, .int .u64 0, .bool false] 39)
            have ff := ogAlloc ff (.cells #[.int .u32 0, .int .i64 0, .int .i64 0, .bool false, .int .u32 0, .int .i64 0, .int .i64 0, .int .i64 0, .int .i64 0, .slice none 0 0, .slice none 0 0, .int .i64 0, .int .i64 0, .int .i64 0, .int .u64 0, .bool false] 39)
            have Zn := hpN y1 (.cells #[.int .u32 0, .int .i64 0, .int .i64 0, .bool false, .int .u32 0, .int .i64 0, .int .i64 0, .int .i64 0, .int .i64 0, .slice none 0 0, .slice none 0 0, .int .i64 0, .int .i64 0, .int .i64 0, .int .u64 0, .bool false] 39) rfl
            generalize y1.alloc (.cells #[.int .u32 0, .int .i64 0, .int .i64 0, .bool false, .int .u32 0, .int .i64 0, .int .i64 0, .int .i64 0, .int .i64 0, .slice none 0 0, .slice none 0 0, .int .i64 0, .int .i64 0, .int .i64 0, .int .u64 0, .bool false] 39) = y2 at Zc Zl Zy Zn hu ee ff ⊢
            refine hK.out _ _ ⟨(rowMid Zc (1 + j * 16) HRA.out), (rowCell Zc (81 + i) HPH.out), (rowAt Zy)⟩ (fun hH => ?_)
            clear hK K hH
            try simp only [Act.put, List.getElem_toArray, List.getElem_cons_zero, List.getElem_cons_succ, List.setIfInBounds_toArray, List.set_cons_zero, List.set_cons_succ]
            refine wpAnyH_ready (rs := [12]) (by kernel_rfl) (by simp) ?_
            refine AllReadyH.cons rfl (fun K hK => ?_) AllReadyH.nil
            rw [if_pos (by rfl)]
            go_simp
            go_wp2_with (go_at_call 43; refine (lballot y2 hh l' Zl).mono ?_; rintro e y3 ⟨rfl, t⟩)
            have Zc := hpB Zc t
            have Zl := hpB Zl t
            have Zy := hpB Zy t
            have Zn := hpB Zn t
            have hu := ownBelow hu t
            have ee := ee.trans (t.mono (Nat.le_trans hB ee.size))
            have ff := ogBelow ff t
            clear t
            refine hK.out _ _ ⟨(rowMid Zc (1 + j * 16) HRA.out), (rowCell Zc (81 + i) HPH.out), (rowAt Zy)⟩ (fun hH => ?_)
            clear hK K hH
            try simp only [Act.put, List.getElem_toArray, List.getElem_cons_zero, List.getElem_cons_succ, List.setIfInBounds_toArray, List.set_cons_zero, List.set_cons_succ]
            refine wpAnyH_ready (rs := [15]) (by kernel_rfl) (by simp) ?_
            refine AllReadyH.cons rfl (fun K hK => ?_) AllReadyH.nil
            rw [if_pos (by rfl)]
            go_simp
            go_wp2_with (go_at_call 24; refine (HVC.out y3 ee).mono ?_; rintro e y4 ⟨rfl, t⟩)
            have Zc := hpB Zc t
            have Zl := hpB Zl t
            have Zy := hpB Zy t
            have Zn := hpB Zn t
            have hu := ownBelow hu t
            have ee := ee.trans (t.mono (Nat.le_trans hB ee.size))
            have ff := ogBelow ff t
            clear t
            refine hK.out _ _ ⟨(rowMid Zc (1 + j * 16) HRA.out), (rowCell Zc (81 + i) HPH.out), (rowAt Zy)⟩ (fun hH => ?_)
            clear hK K hH
            try simp only [Act.put, List.getElem_toArray, List.getElem_cons_zero, List.getElem_cons_succ, List.setIfInBounds_toArray, List.set_cons_zero, List.set_cons_succ]
            refine wpAnyH_take (i := 16) (v := .tuple #[.agg ((a.vote l'.br l'.bn l0.sl l0.x).cells).toArray, .int .i64 ((a.how l'.br l'.bn l0.sl l0.x))]) rfl (by kernel_rfl) (by kernel_rfl) (by kernel_rfl) (fun _ _ _ h => h) (Or.inl ⟨by rfl, fun w_ hS_ => by (first | (go_simp; done) | (go_simp; rfl))⟩) ⟨(rowMid Zc (1 + j * 16) HRA.out), (rowCell Zc (81 + i) HPH.out), (rowAt Zy)⟩ ?_
            try simp only [Act.put, List.getElem_toArray, List.getElem_cons_zero, List.getElem_cons_succ, List.setIfInBounds_toArray, List.set_cons_zero, List.set_cons_succ]
            refine wpAnyH_take (i := 17) (v := .agg ((a.vote l'.br l'.bn l0.sl l0.x).cells).toArray) rfl (by kernel_rfl) (by kernel_rfl) (by kernel_rfl) (fun _ _ _ h => h) (Or.inl ⟨by rfl, fun w_ hS_ => by (first | (go_simp; done) | (go_simp; rfl))⟩) ⟨(rowMid Zc (1 + j * 16) HRA.out), (rowCell Zc (81 + i) HPH.out), (rowAt Zy)⟩ ?_
            try simp only [Act.put, List.getElem_toArray, List.getElem_cons_zero, List.getElem_cons_succ, List.setIfInBounds_toArray, List.set_cons_zero, List.set_cons_succ]
            refine wpAnyH_take (i := 18) (v := .int .i64 ((a.how l'.br l'.bn l0.sl l0.x))) rfl (by kernel_rfl) (by kernel_rfl) (by kernel_rfl) (fun _ _ _ h => h) (Or.inl ⟨by rfl, fun w_ hS_ => by (first | (go_simp; done) | (go_simp; rfl))⟩) ⟨(rowMid Zc (1 + j * 16) HRA.out), (rowCell Zc (81 + i) HPH.out), (rowAt Zy)⟩ ?_
            try simp only [Act.put, List.getElem_toArray, List.getElem_cons_zero, List.getElem_cons_succ, List.setIfInBounds_toArray, List.set_cons_zero, List.set_cons_succ]
            refine wpAnyH_ready (rs := [20]) (by kernel_rfl) (by simp) ?_
            refine AllReadyH.cons rfl (fun K hK => ?_) AllReadyH.nil
            rw [if_pos (by rfl)]
            refine wp_store_row 39 _ _ rfl (y1.heap.size) ((a.vote l'.br l'.bn l0.sl l0.x).cells).toArray rfl rfl 39 _ Zn sizeAc (by rfl) (Ac.one _) ?_
            have N_ := setRow_heap y4 (y1.heap.size) _ ((a.vote l'.br l'.bn l0.sl l0.x).cells).toArray _ _ Zn
            have hu := ogOwnR (cs := ((a.vote l'.br l'.bn l0.sl l0.x).cells).toArray) hu ne_hu_Zn
            have ee := belowSet (cs := ((a.vote l'.br l'.bn l0.sl l0.x).cells).toArray) ee Zn (by omega)
            have ff := ogRow (cs := ((a.vote l'.br l'.bn l0.sl l0.x).cells).toArray) (by first | (right; omega) | exact Or.inl (Or.inl rfl) | exact Or.inl (Or.inr rfl)) Zn ff
            have Zc := hpR Zc (g' := y1.heap.size) (by omega) ((a.vote l'.br l'.bn l0.sl l0.x).cells).toArray
            have Zl := hpR Zl (g' := y1.heap.size) (by omega) ((a.vote l'.br l'.bn l0.sl l0.x).cells).toArray
            have Zy := hpR Zy (g' := y1.heap.size) (by omega) ((a.vote l'.br l'.bn l0.sl l0.x).cells).toArray
            clear Zn
            have Zn := N_
            clear N_
            generalize y4.setRow (y1.heap.size) ((a.vote l'.br l'.bn l0.sl l0.x).cells).toArray = y5 at Zc Zl Zy Zn hu ee ff ⊢
            refine hK.out _ _ ⟨(rowMid Zc (1 + j * 16) HRA.out), (rowCell Zc (81 + i) HPH.out), (rowAt Zy)⟩ (fun hH => ?_)
            clear hK K hH
            try simp only [Act.put, List.getElem_toArray, List.getElem_cons_zero, List.getElem_cons_succ, List.setIfInBounds_toArray, List.set_cons_zero, List.set_cons_succ]
            refine wpAnyH_take (i := 21) (v := .int .i64 ((a.how l'.br l'.bn l0.sl l0.x))) rfl (by kernel_rfl) (by kernel_rfl) (by kernel_rfl) (fun _ _ _ h => h) (Or.inl ⟨by rfl, fun w_ hS_ => by (first | (go_simp; done) | (go_simp; rfl))⟩) ⟨(rowMid Zc (1 + j * 16) HRA.out), (rowCell Zc (81 + i) HPH.out), (rowAt Zy)⟩ ?_
            try simp only [Act.put, List.getElem_toArray, List.getElem_cons_zero, List.getElem_cons_succ, List.setIfInBounds_toArray, List.set_cons_zero, List.set_cons_succ]
            refine wpAnyH_done (by kernel_rfl) ?_ _
            clear HVC HRA
            go_upto_region 10 with fail
            have Zc : y5.drew.heap[gc]? = some (.cells (crC n A' (fun j => pv (H j)) S (k + 1)).toArray 122) := Zc
            have Zl : y5.drew.heap[hh]? = some (.cells l'.cells.toArray 144) := Zl
            have Zy : y5.drew.heap[gy]? = some (.cells l0.x.cells.toArray 37) := Zy
            have Zn : y5.drew.heap[y1.heap.size]? = some (.cells ((a.vote l'.br l'.bn l0.sl l0.x).cells).toArray 39) := Zn
            have hu := World.ownsRow.drew hu
            have ee := belowDrewS ee
            have ff := ogDrew ff
            refine wp_region_held_drew (S := fun z' => z'.rangeAt y1.heap.size (0) ((a.vote l'.br l'.bn l0.sl l0.x).cells)) (by kernel_rfl) (rowAt Zn) (fun hH => ?_)
            clear hH
            generalize y5.drew = y6 at Zc Zl Zy Zn hu ee ff ⊢
            refine wpAnyH_take (i := 0) (v := .pointer (some ⟨gc, 0, none⟩)) rfl (by kernel_rfl) (by kernel_rfl) (by kernel_rfl) (fun _ _ _ h => h) (Or.inl ⟨by rfl, fun w_ hS_ => by (first | (go_simp; done) | (go_simp; rfl))⟩) (rowAt Zn) ?_
            try simp only [Act.put, List.getElem_toArray, List.getElem_cons_zero, List.getElem_cons_succ, List.setIfInBounds_toArray, List.set_cons_zero, List.set_cons_succ]
            refine wpAnyH_take (i := 1) (v := .int .i64 ((j : Int))) rfl (by kernel_rfl) (by kernel_rfl) (by kernel_rfl) (fun _ _ _ h => h) (Or.inl ⟨by rfl, fun w_ hS_ => by (first | (go_simp; done) | (go_simp; rfl))⟩) (rowAt Zn) ?_
            try simp only [Act.put, List.getElem_toArray, List.getElem_cons_zero, List.getElem_cons_succ, List.setIfInBounds_toArray, List.set_cons_zero, List.set_cons_succ]
            refine wpAnyH_take (i := 2) (v := .agg ((a.vote l'.br l'.bn l0.sl l0.x).cells).toArray) rfl (by kernel_rfl) (by kernel_rfl) (by kernel_rfl) (fun _ _ _ h => h) (yieldsIf_load_mid (by rfl) 39 _ rfl (y1.heap.size) (0) rfl ((a.vote l'.br l'.bn l0.sl l0.x).cells) _ (fun _ h => h) Tryd.underlying39 rfl sizeAc) (rowAt Zn) ?_
            try simp only [Act.put, List.getElem_toArray, List.getElem_cons_zero, List.getElem_cons_succ, List.setIfInBounds_toArray, List.set_cons_zero, List.set_cons_succ]
            refine wpAnyH_take (i := 3) (v := .pointer (some ⟨gc, 0, none⟩)) rfl (by kernel_rfl) (by kernel_rfl) (by kernel_rfl) (fun _ _ _ h => h) (Or.inl ⟨by rfl, fun w_ hS_ => by (first | (go_simp; done) | (go_simp; rfl))⟩) (rowAt Zn) ?_
            try simp only [Act.put, List.getElem_toArray, List.getElem_cons_zero, List.getElem_cons_succ, List.setIfInBounds_toArray, List.set_cons_zero, List.set_cons_succ]
            refine wpAnyH_take (i := 4) (v := .pointer (some ⟨gc, 1, none⟩)) rfl (by kernel_rfl) (by kernel_rfl) (by kernel_rfl) (fun _ _ _ h => h) (Or.inl ⟨by rfl, fun w_ hS_ => by (first | (go_simp; done) | (go_simp; rfl))⟩) (rowAt Zn) ?_
            try simp only [Act.put, List.getElem_toArray, List.getElem_cons_zero, List.getElem_cons_succ, List.setIfInBounds_toArray, List.set_cons_zero, List.set_cons_succ]
            refine wpAnyH_take (i := 5) (v := .pointer (some ⟨gc, 1 + j * 16, none⟩)) rfl (by kernel_rfl) (by kernel_rfl) (by kernel_rfl) (fun _ _ _ h => h) (Or.inl ⟨by rfl, fun w_ hS_ => by (first | (go_simp; done) | (go_simp; rfl))⟩) (rowAt Zn) ?_
            try simp only [Act.put, List.getElem_toArray, List.getElem_cons_zero, List.getElem_cons_succ, List.setIfInBounds_toArray, List.set_cons_zero, List.set_cons_succ]
            refine wpAnyH_ready (rs := [6]) (by kernel_rfl) (by simp) ?_
            refine AllReadyH.cons rfl (fun K hK => ?_) AllReadyH.nil
            rw [if_pos (by rfl)]
            refine wp_store_mid 39 _ _ rfl (gc) (1 + j * 16) ((a.vote l'.br l'.bn l0.sl l0.x).cells).toArray rfl rfl (crThere Zc (by omega)) sizeAc (Ac.one _) ?_
            have N_ : (y6.setCells (gc) (1 + j * 16) ((a.vote l'.br l'.bn l0.sl l0.x).cells)).heap[gc]? = some (.cells (crC n (Px.upd A' j (a.vote l'.br l'.bn l0.sl l0.x)) (fun j => pv (H j)) S (k + 1)).toArray 122) := (by rw [← (HPU (a.vote l'.br l'.bn l0.sl l0.x)).out]; exact hpC _ _ _ _ Zc)
            have hu := ogOwnC hu (ogKind hu Zc (by decide)) ((a.vote l'.br l'.bn l0.sl l0.x).cells) (1 + j * 16)
            have ee := belowC (g := gc) (by omega) ((a.vote l'.br l'.bn l0.sl l0.x).cells) (1 + j * 16) y6 ee
            have ff := ogCells (k := gc) (by first | (right; omega) | exact Or.inl (Or.inl rfl) | exact Or.inl (Or.inr rfl)) ((a.vote l'.br l'.bn l0.sl l0.x).cells) (1 + j * 16) y6 ff
            have Zl := hpCo (g' := gc) (by omega) ((a.vote l'.br l'.bn l0.sl l0.x).cells) (1 + j * 16) y6 Zl
            have Zy := hpCo (g' := gc) (by omega) ((a.vote l'.br l'.bn l0.sl l0.x).cells) (1 + j * 16) y6 Zy
            have Zn := hpCo (g' := gc) (by omega) ((a.vote l'.br l'.bn l0.sl l0.x).cells) (1 + j * 16) y6 Zn
            clear Zc
            have Zc := N_
            clear N_
            change K _ (y6.setCells (gc) (1 + j * 16) ((a.vote l'.br l'.bn l0.sl l0.x).cells))
            generalize y6.setCells (gc) (1 + j * 16) ((a.vote l'.br l'.bn l0.sl l0.x).cells) = y7 at Zc Zl Zy Zn hu ee ff ⊢
            refine hK.out _ _ (rowAt Zn) (fun hH => ?_)
            clear hK K hH
            try simp only [Act.put, List.getElem_toArray, List.getElem_cons_zero, List.getElem_cons_succ, List.setIfInBounds_toArray, List.set_cons_zero, List.set_cons_succ]
            refine wpAnyH_done (by kernel_rfl) ?_ _
            clear Zn
            have HPH2 : Hid ((crC n (Px.upd A' j (a.vote l'.br l'.bn l0.sl l0.x)) (fun j => pv (H j)) S (k + 1))[81 + i]? = some (.pointer (some ⟨hh, 0, none⟩))) := by show _ = _; rw [crH n (Px.upd A' j (a.vote l'.br l'.bn l0.sl l0.x)) _ S (k + 1) i (by omega)]; show some (pv (H i)) = _; rw [HHI.out]; rfl
            clear HPH
            have HPH := HPH2
            clear HPH2
            go_upto_region 11 with fail
            by_cases hw : (a.how l'.br l'.bn l0.sl l0.x) = 3
            · have hw3 : ((a.how l'.br l'.bn l0.sl l0.x) == 3) = true := by rw [hw]; rfl
              obtain ⟨V2, hV2⟩ : ∃ V2, Cinv n t (Px.upd A' j (a.vote l'.br l'.bn l0.sl l0.x)) (updF L i (l'.vote (j : Int) l'.br l'.bn l0.sl)) X P1 V2 := by
                have h9 := HP.out.1.vote h5 hi hlt (by rw [updF_same, HP.out.2.1]; exact hs0) (by rw [updF_same, ← HA.out, HP.out.2.1, HP.out.2.2.1]; exact hw)
                rw [updF_same, updF_updF, ← HA.out, HP.out.2.1, HP.out.2.2.1] at h9; exact h9
              have HV2 := Lib.hid hV2
              have HLV := Lib.hid (fun z (hz : LdAt z hh l') => lvote_any z hh l' (j : Int) l'.br l'.bn l0.sl hz (by have := (HP.out.1.ld i hi).pw.2; rw [updF_same] at this; exact this))
              have HVS := Lib.hid (vote_same l' (j : Int) l'.br l'.bn l0.sl)
              clear hV2 hw
              have Zc : y7.drew.heap[gc]? = some (.cells (crC n (Px.upd A' j (a.vote l'.br l'.bn l0.sl l0.x)) (fun j => pv (H j)) S (k + 1)).toArray 122) := Zc
              have Zl : y7.drew.heap[hh]? = some (.cells l'.cells.toArray 144) := Zl
              have Zy : y7.drew.heap[gy]? = some (.cells l0.x.cells.toArray 37) := Zy
              have hu := World.ownsRow.drew hu
              have ee := belowDrewS ee
              have ff := ogDrew ff
              refine wp_region_held_drew (S := fun z' => z'.cell? ⟨gc, 81 + i, none⟩ = some (.pointer (some ⟨hh, 0, none⟩))) (by kernel_rfl) (rowCell Zc (81 + i) HPH.out) (fun hH => ?_)
              clear hH
              generalize y7.drew = y8 at Zc Zl Zy hu ee ff ⊢
              refine wpAnyH_take (i := 0) (v := .int .i64 ((a.how l'.br l'.bn l0.sl l0.x))) rfl (by kernel_rfl) (by kernel_rfl) (by kernel_rfl) (fun _ _ _ h => h) (Or.inl ⟨by rfl, fun w_ hS_ => by (first | (go_simp; done) | (go_simp; rfl))⟩) (rowCell Zc (81 + i) HPH.out) ?_
              try simp only [Act.put, List.getElem_toArray, List.getElem_cons_zero, List.getElem_cons_succ, List.setIfInBounds_toArray, List.set_cons_zero, List.set_cons_succ]
              refine wpAnyH_take (i := 1) (v := .bool true) rfl (by kernel_rfl) (by kernel_rfl) (by kernel_rfl) (fun _ _ _ h => h) (Or.inl ⟨by rfl, fun w_ hS_ => by (first | (go_simp; done) | (go_simp; rfl))⟩) (rowCell Zc (81 + i) HPH.out) ?_
              try simp only [Act.put, List.getElem_toArray, List.getElem_cons_zero, List.getElem_cons_succ, List.setIfInBounds_toArray, List.set_cons_zero, List.set_cons_succ]
              refine wpAnyH_take (i := 2) (v := .bool true) rfl (by kernel_rfl) (by kernel_rfl) (by kernel_rfl) (fun _ _ _ h => h) (Or.inl ⟨by rfl, fun w_ hS_ => by (first | (go_simp; done) | (go_simp; rfl))⟩) (rowCell Zc (81 + i) HPH.out) ?_
              try simp only [Act.put, List.getElem_toArray, List.getElem_cons_zero, List.getElem_cons_succ, List.setIfInBounds_toArray, List.set_cons_zero, List.set_cons_succ]
              refine wpAnyH_take (i := 3) (v := .pointer (some ⟨gc, 0, none⟩)) rfl (by kernel_rfl) (by kernel_rfl) (by kernel_rfl) (fun _ _ _ h => h) (Or.inl ⟨by rfl, fun w_ hS_ => by (first | (go_simp; done) | (go_simp; rfl))⟩) (rowCell Zc (81 + i) HPH.out) ?_
              try simp only [Act.put, List.getElem_toArray, List.getElem_cons_zero, List.getElem_cons_succ, List.setIfInBounds_toArray, List.set_cons_zero, List.set_cons_succ]
              refine wpAnyH_take (i := 4) (v := .int .i64 ((i : Int))) rfl (by kernel_rfl) (by kernel_rfl) (by kernel_rfl) (fun _ _ _ h => h) (Or.inl ⟨by rfl, fun w_ hS_ => by (first | (go_simp; done) | (go_simp; rfl))⟩) (rowCell Zc (81 + i) HPH.out) ?_
              try simp only [Act.put, List.getElem_toArray, List.getElem_cons_zero, List.getElem_cons_succ, List.setIfInBounds_toArray, List.set_cons_zero, List.set_cons_succ]
              refine wpAnyH_take (i := 5) (v := .pointer (some ⟨gc, 0, none⟩)) rfl (by kernel_rfl) (by kernel_rfl) (by kernel_rfl) (fun _ _ _ h => h) (Or.inl ⟨by rfl, fun w_ hS_ => by (first | (go_simp; done) | (go_simp; rfl))⟩) (rowCell Zc (81 + i) HPH.out) ?_
              try simp only [Act.put, List.getElem_toArray, List.getElem_cons_zero, List.getElem_cons_succ, List.setIfInBounds_toArray, List.set_cons_zero, List.set_cons_succ]
              refine wpAnyH_take (i := 6) (v := .pointer (some ⟨gc, 81, none⟩)) rfl (by kernel_rfl) (by kernel_rfl) (by kernel_rfl) (fun _ _ _ h => h) (Or.inl ⟨by rfl, fun w_ hS_ => by (first | (go_simp; done) | (go_simp; rfl))⟩) (rowCell Zc (81 + i) HPH.out) ?_
              try simp only [Act.put, List.getElem_toArray, List.getElem_cons_zero, List.getElem_cons_succ, List.setIfInBounds_toArray, List.set_cons_zero, List.set_cons_succ]
              refine wpAnyH_take (i := 7) (v := .pointer (some ⟨gc, 81 + i, none⟩)) rfl (by kernel_rfl) (by kernel_rfl) (by kernel_rfl) (fun _ _ _ h => h) (Or.inl ⟨by rfl, fun w_ hS_ => by (first | (go_simp; done) | (go_simp; rfl))⟩) (rowCell Zc (81 + i) HPH.out) ?_
              try simp only [Act.put, List.getElem_toArray, List.getElem_cons_zero, List.getElem_cons_succ, List.setIfInBounds_toArray, List.set_cons_zero, List.set_cons_succ]
              refine wpAnyH_take (i := 8) (v := .pointer (some ⟨hh, 0, none⟩)) rfl (by kernel_rfl) (by kernel_rfl) (by kernel_rfl) (fun _ _ _ h => h) (Or.inl ⟨by rfl, fun w_ hS_ => by (have c_ := hS_; first | (go_simp; done) | (go_simp; rfl))⟩) (rowCell Zc (81 + i) HPH.out) ?_
              try simp only [Act.put, List.getElem_toArray, List.getElem_cons_zero, List.getElem_cons_succ, List.setIfInBounds_toArray, List.set_cons_zero, List.set_cons_succ]
              refine wpAnyH_take (i := 9) (v := .int .i64 ((j : Int))) rfl (by kernel_rfl) (by kernel_rfl) (by kernel_rfl) (fun _ _ _ h => h) (Or.inl ⟨by rfl, fun w_ hS_ => by (first | (go_simp; done) | (go_simp; rfl))⟩) (rowCell Zc (81 + i) HPH.out) ?_
              try simp only [Act.put, List.getElem_toArray, List.getElem_cons_zero, List.getElem_cons_succ, List.setIfInBounds_toArray, List.set_cons_zero, List.set_cons_succ]
              refine wpAnyH_take (i := 10) (v := .pointer (some ⟨gc, 0, none⟩)) rfl (by kernel_rfl) (by kernel_rfl) (by kernel_rfl) (fun _ _ _ h => h) (Or.inl ⟨by rfl, fun w_ hS_ => by (first | (go_simp; done) | (go_simp; rfl))⟩) (rowCell Zc (81 + i) HPH.out) ?_
              try simp only [Act.put, List.getElem_toArray, List.getElem_cons_zero, List.getElem_cons_succ, List.setIfInBounds_toArray, List.set_cons_zero, List.set_cons_succ]
              refine wpAnyH_take (i := 11) (v := .int .i64 ((i : Int))) rfl (by kernel_rfl) (by kernel_rfl) (by kernel_rfl) (fun _ _ _ h => h) (Or.inl ⟨by rfl, fun w_ hS_ => by (first | (go_simp; done) | (go_simp; rfl))⟩) (rowCell Zc (81 + i) HPH.out) ?_
              try simp only [Act.put, List.getElem_toArray, List.getElem_cons_zero, List.getElem_cons_succ, List.setIfInBounds_toArray, List.set_cons_zero, List.set_cons_succ]
              refine wpAnyH_take (i := 12) (v := .pointer (some ⟨gc, 0, none⟩)) rfl (by kernel_rfl) (by kernel_rfl) (by kernel_rfl) (fun _ _ _ h => h) (Or.inl ⟨by rfl, fun w_ hS_ => by (first | (go_simp; done) | (go_simp; rfl))⟩) (rowCell Zc (81 + i) HPH.out) ?_
              try simp only [Act.put, List.getElem_toArray, List.getElem_cons_zero, List.getElem_cons_succ, List.setIfInBounds_toArray, List.set_cons_zero, List.set_cons_succ]
              refine wpAnyH_take (i := 13) (v := .pointer (some ⟨gc, 81, none⟩)) rfl (by kernel_rfl) (by kernel_rfl) (by kernel_rfl) (fun _ _ _ h => h) (Or.inl ⟨by rfl, fun w_ hS_ => by (first | (go_simp; done) | (go_simp; rfl))⟩) (rowCell Zc (81 + i) HPH.out) ?_
              try simp only [Act.put, List.getElem_toArray, List.getElem_cons_zero, List.getElem_cons_succ, List.setIfInBounds_toArray, List.set_cons_zero, List.set_cons_succ]
              refine wpAnyH_take (i := 14) (v := .pointer (some ⟨gc, 81 + i, none⟩)) rfl (by kernel_rfl) (by kernel_rfl) (by kernel_rfl) (fun _ _ _ h => h) (Or.inl ⟨by rfl, fun w_ hS_ => by (first | (go_simp; done) | (go_simp; rfl))⟩) (rowCell Zc (81 + i) HPH.out) ?_
              try simp only [Act.put, List.getElem_toArray, List.getElem_cons_zero, List.getElem_cons_succ, List.setIfInBounds_toArray, List.set_cons_zero, List.set_cons_succ]
              refine wpAnyH_take (i := 15) (v := .pointer (some ⟨hh, 0, none⟩)) rfl (by kernel_rfl) (by kernel_rfl) (by kernel_rfl) (fun _ _ _ h => h) (Or.inl ⟨by rfl, fun w_ hS_ => by (have c_ := hS_; first | (go_simp; done) | (go_simp; rfl))⟩) (rowCell Zc (81 + i) HPH.out) ?_
              try simp only [Act.put, List.getElem_toArray, List.getElem_cons_zero, List.getElem_cons_succ, List.setIfInBounds_toArray, List.set_cons_zero, List.set_cons_succ]
              refine wpAnyH_take (i := 17) (v := .int .i64 l0.sl) rfl (by kernel_rfl) (by kernel_rfl) (by kernel_rfl) (fun _ _ _ h => h) (Or.inl ⟨by rfl, fun w_ hS_ => by (first | (go_simp; done) | (go_simp; rfl))⟩) (rowCell Zc (81 + i) HPH.out) ?_
              try simp only [Act.put, List.getElem_toArray, List.getElem_cons_zero, List.getElem_cons_succ, List.setIfInBounds_toArray, List.set_cons_zero, List.set_cons_succ]
              refine wpAnyH_ready (rs := [16]) (by kernel_rfl) (by simp) ?_
              refine AllReadyH.cons rfl (fun K hK => ?_) AllReadyH.nil
              rw [if_pos (by rfl)]
              go_simp
              go_wp2_with (go_at_call 43; refine (lballot y8 hh l' Zl).mono ?_; rintro e y9 ⟨rfl, t⟩)
              have Zc := hpB Zc t
              have Zl := hpB Zl t
              have Zy := hpB Zy t
              have hu := ownBelow hu t
              have ee := ee.trans (t.mono (Nat.le_trans hB ee.size))
              have ff := ogBelow ff t
              clear t
              refine hK.out _ _ (rowCell Zc (81 + i) HPH.out) (fun hH => ?_)
              clear hK K hH
              try simp only [Act.put, List.getElem_toArray, List.getElem_cons_zero, List.getElem_cons_succ, List.setIfInBounds_toArray, List.set_cons_zero, List.set_cons_succ]
              refine wpAnyH_ready (rs := [18]) (by kernel_rfl) (by simp) ?_
              refine AllReadyH.cons rfl (fun K hK => ?_) AllReadyH.nil
              rw [if_pos (by rfl)]
              go_simp
              go_wp2_with (go_at_call 38; refine (HLV.out y9 Zl).mono ?_; rintro e y10 ⟨⟨b_, rfl, HB_⟩, Zm_, t_⟩)
              have Zc := ogHeapG Zc t_ hgh
              have Zy := ogHeapG Zy t_ (by omega)
              have hu := hu.kept t_ (Or.inr (lgKind hu Zl (by decide)))
              have ff := ogGrown ff t_ (Or.inl (Or.inr rfl))
              have ee := ee.grown t_ (Nat.le_trans hB ee.size) (fun g_ e_ => by injection e_ with e_; omega)
              clear Zl t_
              have Zl : y10.heap[hh]? = some (.cells (l'.vote (j : Int) l'.br l'.bn l0.sl).cells.toArray 144) := Zm_
              clear Zm_
              have HB_ := Lib.hid HB_
              refine hK.out _ _ (rowCell Zc (81 + i) HPH.out) (fun hH => ?_)
              clear hK K hH
              try simp only [Act.put, List.getElem_toArray, List.getElem_cons_zero, List.getElem_cons_succ, List.setIfInBounds_toArray, List.set_cons_zero, List.set_cons_succ]
              refine wpAnyH_take (i := 19) (v := .bool b_) rfl (by kernel_rfl) (by kernel_rfl) (by kernel_rfl) (fun _ _ _ h => h) (Or.inl ⟨by rfl, fun w_ hS_ => by (first | (go_simp; done) | (go_simp; rfl))⟩) (rowCell Zc (81 + i) HPH.out) ?_
              try simp only [Act.put, List.getElem_toArray, List.getElem_cons_zero, List.getElem_cons_succ, List.setIfInBounds_toArray, List.set_cons_zero, List.set_cons_succ]
              refine wpAnyH_done (by kernel_rfl) ?_ _
              have hu : y10.ownsRow B 39 16 (.slice (l'.vote (j : Int) l'.br l'.bn l0.sl).A (l'.vote (j : Int) l'.br l'.bn l0.sl).l.length (l'.vote (j : Int) l'.br l'.bn l0.sl).c) (l'.vote (j : Int) l'.br l'.bn l0.sl).l.length (acCells (l'.vote (j : Int) l'.br l'.bn l0.sl).l) := by rw [HVS.out.2.2.2.2.2.2.1, HVS.out.2.2.2.2.2.1, HVS.out.2.2.2.2.2.2.2]; exact hu
              clear HLV
              have HP2 : Hid (Cinv n t (Px.upd A' j (a.vote l'.br l'.bn l0.sl l0.x)) (updF L i (l'.vote (j : Int) l'.br l'.bn l0.sl)) X P1 V2 ∧ (l'.vote (j : Int) l'.br l'.bn l0.sl).sl = l0.sl ∧ (l'.vote (j : Int) l'.br l'.bn l0.sl).x = l0.x ∧ (l'.vote (j : Int) l'.br l'.bn l0.sl).l = l0.l ∧ (l'.vote (j : Int) l'.br l'.bn l0.sl).A = l0.A ∧ (l'.vote (j : Int) l'.br l'.bn l0.sl).c = l0.c ∧ (l'.vote (j : Int) l'.br l'.bn l0.sl).n = (n : Int)) := by
                obtain ⟨p1, p2, p3, p4, p5, p6, p7⟩ := HP.out
                obtain ⟨s1, s2, s3, s4, s5, s6, s7, s8⟩ := HVS.out
                exact ⟨HV2.out, s4.trans p2, s5.trans p3, s6.trans p4, s7.trans p5, s8.trans p6, s1.trans p7⟩
              cases b_ with
              | false =>
                go_wp2_with fail
                go_roundw
                case rel => exact ⟨j + 1, (Px.upd A' j (a.vote l'.br l'.bn l0.sl l0.x)), (l'.vote (j : Int) l'.br l'.bn l0.sl), V2, by omega, by go_num, HP2, Zc, Zl, Zy, hu, ff, ee⟩
                case measure => simp [intOf]; omega
              | true =>
                have HBB := HB_.out rfl
                have hmj : Q.majB (l'.vote (j : Int) l'.br l'.bn l0.sl).vt (n : Int) = true := by
                  have e_ : (l'.vote (j : Int) l'.br l'.bn l0.sl).vt = Q.addN l'.vt (j : Int) := by unfold Ld.vote; rw [HBB.1]; rfl
                  rw [e_, ← HP.out.2.2.2.2.2.2]; exact HBB.2
                have hd9 := HV2.out.done h5 hi (by rw [updF_same, HP2.out.2.1]; exact hs0) (by rw [updF_same]; exact hmj)
                rw [updF_same, updF_updF, HP2.out.2.1, HP2.out.2.2.1] at hd9
                have hds : (l'.vote (j : Int) l'.br l'.bn l0.sl).dones = true := by unfold Ld.dones; rw [decide_eq_false (by rw [HP2.out.2.1]; exact hs0), HP2.out.2.2.2.2.2.2, hmj]; rfl
                have hpw : (l'.vote (j : Int) l'.br l'.bn l0.sl).vt < 18446744073709551616 := by have := (HV2.out.ld i hi).pw.2; rw [updF_same] at this; exact this
                have hsr : 0 ≤ (l'.vote (j : Int) l'.br l'.bn l0.sl).sl ∧ (l'.vote (j : Int) l'.br l'.bn l0.sl).sl ≤ 1000000 := by have := (HV2.out.ld i hi).slr; rw [updF_same] at this; exact this
                have hdl : (l'.vote (j : Int) l'.br l'.bn l0.sl).done.A = none ∧ (l'.vote (j : Int) l'.br l'.bn l0.sl).done.l = [] ∧ (l'.vote (j : Int) l'.br l'.bn l0.sl).done.c = 0 := by unfold Ld.done; rw [hds]; exact ⟨rfl, rfl, rfl⟩
                have HDL := Lib.hid hdl
                have HD9 := Lib.hid hd9
                have HDC := Lib.hid (fun z (hz : LdAt z hh (l'.vote (j : Int) l'.br l'.bn l0.sl)) => ldone z hh (l'.vote (j : Int) l'.br l'.bn l0.sl) hz hpw hsr.1 hsr.2)
                rw [hds] at HDC
                clear HBB hmj hd9 hds hpw hsr hdl HB_
                have cH := rowCell Zc (81 + i) HPH.out
                go_wp2_with fail
                refine (HDC.out y10 Zl).mono ?_
                rintro e y11 ⟨rfl, Zm_, t_⟩
                have Zc := ogHeapG Zc t_ hgh
                have Zy := ogHeapG Zy t_ (by omega)
                have hu := hu.kept t_ (Or.inr (lgKind hu Zl (by decide)))
                have ff := ogGrown ff t_ (Or.inl (Or.inr rfl))
                have ee := ee.grown t_ (Nat.le_trans hB ee.size) (fun g_ e_ => by injection e_ with e_; omega)
                clear Zl t_ hu cH
                have Zl : y11.heap[hh]? = some (.cells (l'.vote (j : Int) l'.br l'.bn l0.sl).done.cells.toArray 144) := Zm_
                clear Zm_
                have hu : y11.ownsRow B 39 16 (rowv (l'.vote (j : Int) l'.br l'.bn l0.sl).done) (l'.vote (j : Int) l'.br l'.bn l0.sl).done.l.length (acCells (l'.vote (j : Int) l'.br l'.bn l0.sl).done.l) := by unfold rowv; rw [HDL.out.1, HDL.out.2.1, HDL.out.2.2]; exact World.ownsRow_nil _ _ _ _
                have HCR := Lib.hid (HMV.out _ (l'.vote (j : Int) l'.br l'.bn l0.sl).done (Px.upd A' j (a.vote l'.br l'.bn l0.sl l0.x)) ff Zc Zl hu (fun g hg => by unfold rowv at hg; rw [HDL.out.1, HDL.out.2.1, HDL.out.2.2] at hg; cases hg))
                clear hu
                try dsimp only
                rename_i hK
                refine hK _ _ ?_
                clear hK
                have cS := rowCell Zc (1 + i * 16 + 2) (crA n (Px.upd A' j (a.vote l'.br l'.bn l0.sl l0.x)) (fun j => pv (H j)) S (k + 1) i (by omega) 2 (.int .i64 ((Px.upd A' j (a.vote l'.br l'.bn l0.sl l0.x)) i).sl) rfl)
                generalize hsi : ((Px.upd A' j (a.vote l'.br l'.bn l0.sl l0.x)) i).sl = si at cS
                have HSI := Lib.hid hsi
                clear hsi
                by_cases hq : si = l0.sl
                · have hq1 : (si == l0.sl) = true := by rw [hq]; simp
                  go_upto_region 15 with fail
                  clear cS hq1
                  have hlr := HD9.out.1.more.learn hi (by have := (HD9.out.1.ac i hi).2.1; omega) (by omega) HD9.out.2.1 (by obtain ⟨p, hp, r1, r2, r3⟩ := HD9.out.2.2.2.2; exact ⟨p, hp, by rw [r1, HSI.out, hq], r2, r3⟩)
                  have HLR := Lib.hid hlr
                  have HCL := Lib.hid (fun z (hz : CrewAt z B gc n (Px.upd A' j (a.vote l'.br l'.bn l0.sl l0.x)) H (updF L i (l'.vote (j : Int) l'.br l'.bn l0.sl).done) S X (k + 1)) (he : Below B w z) => clearn B gc n i (k + 1) (Px.upd A' j (a.vote l'.br l'.bn l0.sl l0.x)) H (updF L i (l'.vote (j : Int) l'.br l'.bn l0.sl).done) S X l0.x z hz (by omega) (HD9.out.1.ac i hi).1 hlx (fun z' hz' => HT.out z' (he.trans hz')) hlr.1)
                  clear hlr
                  refine wp_region_lit ?_
                  iterate 27 (first | with_reducible refine isLoad (ty := 37) rfl ?_ | go_step)
                  refine wpList_load_mid rfl 37 _ rfl (gy) 0 rfl (l0.x.cells) _ (rowAt Zy) Tryd.underlying37 rfl sizeCm ?_
                  go_wp2_with fail
                  refine (HCL.out y11 HCR.out ee).mono ?_
                  rintro e z99 ⟨rfl, ⟨v9, hcr9⟩, t_⟩
                  try dsimp only
                  rename_i hK
                  refine hK _ _ ?_
                  clear hK
                  go_wp2_with fail
                  go_ret
                  exact ⟨rfl, ⟨_, _, _, _, P1, V2, hcr9, HLR.out.2⟩, ee.trans t_⟩
                · have hq1 : (si == l0.sl) = false := by simpa using hq
                  obtain ⟨kk, hk1, hk2⟩ := HD9.out.1.known hi HD9.out.2.2.1 (by have := HD9.out.2.2.2.1; rw [HSI.out] at this ⊢; omega) HD9.out.2.2.2.2
                  obtain ⟨D1, d1, c1, HR1⟩ := HCR.out.list (j := i) (by omega)
                  obtain ⟨gs, rfl, hgs, hrs⟩ := HR1 kk _ hk2
                  obtain ⟨wq, hwq⟩ : ∃ wq, wq = y11 := ⟨_, rfl⟩
                  have e2 : Below wq.heap.size wq y11 := by rw [hwq]; exact Below.refl _ _
                  rw [← hwq] at hgs hrs c1
                  have HCQ : Hid (CrewAt wq B gc n (Px.upd A' j (a.vote l'.br l'.bn l0.sl l0.x)) H (updF L i (l'.vote (j : Int) l'.br l'.bn l0.sl).done) S X (k + 1)) := by rw [hwq]; exact HCR.out
                  have hcq1 := Lib.hid c1
                  have hgq : gc < wq.heap.size := World.block_lt_of_cell? wq _ hcq1.out
                  have hkl := (List.getElem?_eq_some_iff.1 hk2).1
                  have hge : l0.sl ≤ ((X i).length : Int) := by omega
                  have hwk : IntKind.i64.wrap (l0.sl - 1) = (kk : Int) := by rw [IntKind.wrap_i64]; omega
                  have hk0 : (0 : Int) ≤ (kk : Int) := by omega
                  have hk9 : (kk : Int) < ((X i).length : Int) := by omega
                  have HSM := Lib.hid (fun z => c_csame3 l0.x l0.x z z.heap.size (Nat.le_refl _) (okFlat HFX.out) (okFlat HFX.out))
                  rw [show SameC l0.x l0.x = true from SameC.refl _] at HSM
                  go_upto_region 16 with fail
                  clear cS hq1 c1 HR1 hwq hk1 hk2
                  have Zc : y11.drew.heap[gc]? = some (.cells (crC n (Px.upd A' j (a.vote l'.br l'.bn l0.sl l0.x)) (fun j => pv (H j)) S (k + 1)).toArray 122) := Zc
                  have Zl : y11.drew.heap[hh]? = some (.cells (l'.vote (j : Int) l'.br l'.bn l0.sl).done.cells.toArray 144) := Zl
                  have Zy : y11.drew.heap[gy]? = some (.cells l0.x.cells.toArray 37) := Zy
                  have ee := belowDrewS ee
                  have e2 := belowDrewS e2
                  have ff := ogDrew ff
                  refine wp_region_held_drew (S := fun z' => z'.cell? ⟨gc, 86 + i, none⟩ = some (.slice (some ⟨gs, 0, none⟩) ((X i).length) d1) ∧ z'.rangeAt gs (kk * 10) l0.x.cells ∧ z'.rangeAt gy (0) l0.x.cells) (by kernel_rfl) ⟨((e2.cell (p := ⟨gc, 86 + i, none⟩) hgq).trans hcq1.out), (rangeB hrs e2 hgs), (rowAt Zy)⟩ (fun hH => ?_)
                  clear hH
                  generalize y11.drew = y12 at Zc Zl Zy ee e2 ff ⊢
                  refine wpAnyH_take (i := 0) (v := .pointer (some ⟨gc, 0, none⟩)) rfl (by kernel_rfl) (by kernel_rfl) (by kernel_rfl) (fun _ _ _ h => h) (Or.inl ⟨by rfl, fun w_ hS_ => by (first | (go_simp; done) | (go_simp; rfl))⟩) ⟨((e2.cell (p := ⟨gc, 86 + i, none⟩) hgq).trans hcq1.out), (rangeB hrs e2 hgs), (rowAt Zy)⟩ ?_
                  try simp only [Act.put, List.getElem_toArray, List.getElem_cons_zero, List.getElem_cons_succ, List.setIfInBounds_toArray, List.set_cons_zero, List.set_cons_succ]
                  refine wpAnyH_take (i := 1) (v := .int .i64 ((i : Int))) rfl (by kernel_rfl) (by kernel_rfl) (by kernel_rfl) (fun _ _ _ h => h) (Or.inl ⟨by rfl, fun w_ hS_ => by (first | (go_simp; done) | (go_simp; rfl))⟩) ⟨((e2.cell (p := ⟨gc, 86 + i, none⟩) hgq).trans hcq1.out), (rangeB hrs e2 hgs), (rowAt Zy)⟩ ?_
                  try simp only [Act.put, List.getElem_toArray, List.getElem_cons_zero, List.getElem_cons_succ, List.setIfInBounds_toArray, List.set_cons_zero, List.set_cons_succ]
                  refine wpAnyH_take (i := 2) (v := .pointer (some ⟨gc, 0, none⟩)) rfl (by kernel_rfl) (by kernel_rfl) (by kernel_rfl) (fun _ _ _ h => h) (Or.inl ⟨by rfl, fun w_ hS_ => by (first | (go_simp; done) | (go_simp; rfl))⟩) ⟨((e2.cell (p := ⟨gc, 86 + i, none⟩) hgq).trans hcq1.out), (rangeB hrs e2 hgs), (rowAt Zy)⟩ ?_
                  try simp only [Act.put, List.getElem_toArray, List.getElem_cons_zero, List.getElem_cons_succ, List.setIfInBounds_toArray, List.set_cons_zero, List.set_cons_succ]
                  refine wpAnyH_take (i := 3) (v := .pointer (some ⟨gc, 86, none⟩)) rfl (by kernel_rfl) (by kernel_rfl) (by kernel_rfl) (fun _ _ _ h => h) (Or.inl ⟨by rfl, fun w_ hS_ => by (first | (go_simp; done) | (go_simp; rfl))⟩) ⟨((e2.cell (p := ⟨gc, 86 + i, none⟩) hgq).trans hcq1.out), (rangeB hrs e2 hgs), (rowAt Zy)⟩ ?_
                  try simp only [Act.put, List.getElem_toArray, List.getElem_cons_zero, List.getElem_cons_succ, List.setIfInBounds_toArray, List.set_cons_zero, List.set_cons_succ]
                  refine wpAnyH_take (i := 4) (v := .pointer (some ⟨gc, 86 + i, none⟩)) rfl (by kernel_rfl) (by kernel_rfl) (by kernel_rfl) (fun _ _ _ h => h) (Or.inl ⟨by rfl, fun w_ hS_ => by (first | (go_simp; done) | (go_simp; rfl))⟩) ⟨((e2.cell (p := ⟨gc, 86 + i, none⟩) hgq).trans hcq1.out), (rangeB hrs e2 hgs), (rowAt Zy)⟩ ?_
                  try simp only [Act.put, List.getElem_toArray, List.getElem_cons_zero, List.getElem_cons_succ, List.setIfInBounds_toArray, List.set_cons_zero, List.set_cons_succ]
                  refine wpAnyH_take (i := 5) (v := .slice (some ⟨gs, 0, none⟩) ((X i).length) d1) rfl (by kernel_rfl) (by kernel_rfl) (by kernel_rfl) (fun _ _ _ h => h) (Or.inl ⟨by rfl, fun w_ hS_ => by (have c_ := hS_.1; first | (go_simp; done) | (go_simp; rfl))⟩) ⟨((e2.cell (p := ⟨gc, 86 + i, none⟩) hgq).trans hcq1.out), (rangeB hrs e2 hgs), (rowAt Zy)⟩ ?_
                  try simp only [Act.put, List.getElem_toArray, List.getElem_cons_zero, List.getElem_cons_succ, List.setIfInBounds_toArray, List.set_cons_zero, List.set_cons_succ]
                  refine wpAnyH_take (i := 6) (v := .int .i64 (((X i).length : Int))) rfl (by kernel_rfl) (by kernel_rfl) (by kernel_rfl) (fun _ _ _ h => h) (Or.inl ⟨by rfl, fun w_ hS_ => by (first | (go_simp; done) | (go_simp; rfl))⟩) ⟨((e2.cell (p := ⟨gc, 86 + i, none⟩) hgq).trans hcq1.out), (rangeB hrs e2 hgs), (rowAt Zy)⟩ ?_
                  try simp only [Act.put, List.getElem_toArray, List.getElem_cons_zero, List.getElem_cons_succ, List.setIfInBounds_toArray, List.set_cons_zero, List.set_cons_succ]
                  refine wpAnyH_take (i := 7) (v := .int .i64 l0.sl) rfl (by kernel_rfl) (by kernel_rfl) (by kernel_rfl) (fun _ _ _ h => h) (Or.inl ⟨by rfl, fun w_ hS_ => by (first | (go_simp; done) | (go_simp; rfl))⟩) ⟨((e2.cell (p := ⟨gc, 86 + i, none⟩) hgq).trans hcq1.out), (rangeB hrs e2 hgs), (rowAt Zy)⟩ ?_
                  try simp only [Act.put, List.getElem_toArray, List.getElem_cons_zero, List.getElem_cons_succ, List.setIfInBounds_toArray, List.set_cons_zero, List.set_cons_succ]
                  refine wpAnyH_take (i := 8) (v := .bool true) rfl (by kernel_rfl) (by kernel_rfl) (by kernel_rfl) (fun _ _ _ h => h) (Or.inl ⟨by rfl, fun w_ hS_ => by (first | (go_simp; done) | (go_simp; rfl))⟩) ⟨((e2.cell (p := ⟨gc, 86 + i, none⟩) hgq).trans hcq1.out), (rangeB hrs e2 hgs), (rowAt Zy)⟩ ?_
                  try simp only [Act.put, List.getElem_toArray, List.getElem_cons_zero, List.getElem_cons_succ, List.setIfInBounds_toArray, List.set_cons_zero, List.set_cons_succ]
                  refine wpAnyH_take (i := 9) (v := .bool true) rfl (by kernel_rfl) (by kernel_rfl) (by kernel_rfl) (fun _ _ _ h => h) (Or.inl ⟨by rfl, fun w_ hS_ => by (first | (go_simp; done) | (go_simp; rfl))⟩) ⟨((e2.cell (p := ⟨gc, 86 + i, none⟩) hgq).trans hcq1.out), (rangeB hrs e2 hgs), (rowAt Zy)⟩ ?_
                  try simp only [Act.put, List.getElem_toArray, List.getElem_cons_zero, List.getElem_cons_succ, List.setIfInBounds_toArray, List.set_cons_zero, List.set_cons_succ]
                  refine wpAnyH_take (i := 10) (v := .pointer (some ⟨gc, 0, none⟩)) rfl (by kernel_rfl) (by kernel_rfl) (by kernel_rfl) (fun _ _ _ h => h) (Or.inl ⟨by rfl, fun w_ hS_ => by (first | (go_simp; done) | (go_simp; rfl))⟩) ⟨((e2.cell (p := ⟨gc, 86 + i, none⟩) hgq).trans hcq1.out), (rangeB hrs e2 hgs), (rowAt Zy)⟩ ?_
                  try simp only [Act.put, List.getElem_toArray, List.getElem_cons_zero, List.getElem_cons_succ, List.setIfInBounds_toArray, List.set_cons_zero, List.set_cons_succ]
                  refine wpAnyH_take (i := 11) (v := .int .i64 ((i : Int))) rfl (by kernel_rfl) (by kernel_rfl) (by kernel_rfl) (fun _ _ _ h => h) (Or.inl ⟨by rfl, fun w_ hS_ => by (first | (go_simp; done) | (go_simp; rfl))⟩) ⟨((e2.cell (p := ⟨gc, 86 + i, none⟩) hgq).trans hcq1.out), (rangeB hrs e2 hgs), (rowAt Zy)⟩ ?_
                  try simp only [Act.put, List.getElem_toArray, List.getElem_cons_zero, List.getElem_cons_succ, List.setIfInBounds_toArray, List.set_cons_zero, List.set_cons_succ]
                  refine wpAnyH_take (i := 12) (v := .pointer (some ⟨gc, 0, none⟩)) rfl (by kernel_rfl) (by kernel_rfl) (by kernel_rfl) (fun _ _ _ h => h) (Or.inl ⟨by rfl, fun w_ hS_ => by (first | (go_simp; done) | (go_simp; rfl))⟩) ⟨((e2.cell (p := ⟨gc, 86 + i, none⟩) hgq).trans hcq1.out), (rangeB hrs e2 hgs), (rowAt Zy)⟩ ?_
                  try simp only [Act.put, List.getElem_toArray, List.getElem_cons_zero, List.getElem_cons_succ, List.setIfInBounds_toArray, List.set_cons_zero, List.set_cons_succ]
                  refine wpAnyH_take (i := 13) (v := .pointer (some ⟨gc, 86, none⟩)) rfl (by kernel_rfl) (by kernel_rfl) (by kernel_rfl) (fun _ _ _ h => h) (Or.inl ⟨by rfl, fun w_ hS_ => by (first | (go_simp; done) | (go_simp; rfl))⟩) ⟨((e2.cell (p := ⟨gc, 86 + i, none⟩) hgq).trans hcq1.out), (rangeB hrs e2 hgs), (rowAt Zy)⟩ ?_
                  try simp only [Act.put, List.getElem_toArray, List.getElem_cons_zero, List.getElem_cons_succ, List.setIfInBounds_toArray, List.set_cons_zero, List.set_cons_succ]
                  refine wpAnyH_take (i := 14) (v := .pointer (some ⟨gc, 86 + i, none⟩)) rfl (by kernel_rfl) (by kernel_rfl) (by kernel_rfl) (fun _ _ _ h => h) (Or.inl ⟨by rfl, fun w_ hS_ => by (first | (go_simp; done) | (go_simp; rfl))⟩) ⟨((e2.cell (p := ⟨gc, 86 + i, none⟩) hgq).trans hcq1.out), (rangeB hrs e2 hgs), (rowAt Zy)⟩ ?_
                  try simp only [Act.put, List.getElem_toArray, List.getElem_cons_zero, List.getElem_cons_succ, List.setIfInBounds_toArray, List.set_cons_zero, List.set_cons_succ]
                  refine wpAnyH_take (i := 15) (v := .slice (some ⟨gs, 0, none⟩) ((X i).length) d1) rfl (by kernel_rfl) (by kernel_rfl) (by kernel_rfl) (fun _ _ _ h => h) (Or.inl ⟨by rfl, fun w_ hS_ => by (have c_ := hS_.1; first | (go_simp; done) | (go_simp; rfl))⟩) ⟨((e2.cell (p := ⟨gc, 86 + i, none⟩) hgq).trans hcq1.out), (rangeB hrs e2 hgs), (rowAt Zy)⟩ ?_
                  try simp only [Act.put, List.getElem_toArray, List.getElem_cons_zero, List.getElem_cons_succ, List.setIfInBounds_toArray, List.set_cons_zero, List.set_cons_succ]
                  refine wpAnyH_take (i := 16) (v := .int .i64 l0.sl) rfl (by kernel_rfl) (by kernel_rfl) (by kernel_rfl) (fun _ _ _ h => h) (Or.inl ⟨by rfl, fun w_ hS_ => by (first | (go_simp; done) | (go_simp; rfl))⟩) ⟨((e2.cell (p := ⟨gc, 86 + i, none⟩) hgq).trans hcq1.out), (rangeB hrs e2 hgs), (rowAt Zy)⟩ ?_
                  try simp only [Act.put, List.getElem_toArray, List.getElem_cons_zero, List.getElem_cons_succ, List.setIfInBounds_toArray, List.set_cons_zero, List.set_cons_succ]
                  refine wpAnyH_take (i := 17) (v := .int .i64 ((kk : Int))) rfl (by kernel_rfl) (by kernel_rfl) (by kernel_rfl) (fun _ _ _ h => h) (Or.inl ⟨by rfl, fun w_ hS_ => by (first | (go_simp; done) | (go_simp; rfl))⟩) ⟨((e2.cell (p := ⟨gc, 86 + i, none⟩) hgq).trans hcq1.out), (rangeB hrs e2 hgs), (rowAt Zy)⟩ ?_
                  try simp only [Act.put, List.getElem_toArray, List.getElem_cons_zero, List.getElem_cons_succ, List.setIfInBounds_toArray, List.set_cons_zero, List.set_cons_succ]
                  refine wpAnyH_take (i := 18) (v := .pointer (some ⟨gs, kk * 10, none⟩)) rfl (by kernel_rfl) (by kernel_rfl) (by kernel_rfl) (fun _ _ _ h => h) (Or.inl ⟨by rfl, fun w_ hS_ => by (first | (go_simp; done) | (go_simp; rfl))⟩) ⟨((e2.cell (p := ⟨gc, 86 + i, none⟩) hgq).trans hcq1.out), (rangeB hrs e2 hgs), (rowAt Zy)⟩ ?_
                  try simp only [Act.put, List.getElem_toArray, List.getElem_cons_zero, List.getElem_cons_succ, List.setIfInBounds_toArray, List.set_cons_zero, List.set_cons_succ]
                  refine wpAnyH_take (i := 19) (v := .agg (l0.x.cells).toArray) rfl (by kernel_rfl) (by kernel_rfl) (by kernel_rfl) (fun _ _ _ h => h) (yieldsIf_load_mid (by rfl) 37 _ rfl (gs) (kk * 10) rfl (l0.x.cells) _ (fun _ h => h.2.1) Tryd.underlying37 rfl sizeCm) ⟨((e2.cell (p := ⟨gc, 86 + i, none⟩) hgq).trans hcq1.out), (rangeB hrs e2 hgs), (rowAt Zy)⟩ ?_
                  try simp only [Act.put, List.getElem_toArray, List.getElem_cons_zero, List.getElem_cons_succ, List.setIfInBounds_toArray, List.set_cons_zero, List.set_cons_succ]
                  refine wpAnyH_take (i := 20) (v := .agg (l0.x.cells).toArray) rfl (by kernel_rfl) (by kernel_rfl) (by kernel_rfl) (fun _ _ _ h => h) (yieldsIf_load_mid (by rfl) 37 _ rfl (gy) (0) rfl (l0.x.cells) _ (fun _ h => h.2.2) Tryd.underlying37 rfl sizeCm) ⟨((e2.cell (p := ⟨gc, 86 + i, none⟩) hgq).trans hcq1.out), (rangeB hrs e2 hgs), (rowAt Zy)⟩ ?_
                  try simp only [Act.put, List.getElem_toArray, List.getElem_cons_zero, List.getElem_cons_succ, List.setIfInBounds_toArray, List.set_cons_zero, List.set_cons_succ]
                  refine wpAnyH_ready (rs := [21]) (by kernel_rfl) (by simp) ?_
                  refine AllReadyH.cons rfl (fun K hK => ?_) AllReadyH.nil
                  rw [if_pos (by rfl)]
                  go_simp
                  go_wp2_with (go_at_call 32; refine (HSM.out y12).mono ?_; rintro e y13 ⟨rfl, t⟩)
                  have Zc := hpB Zc t
                  have Zl := hpB Zl t
                  have Zy := hpB Zy t
                  have ee := ee.trans (t.mono (Nat.le_trans hB ee.size))
                  have e2 := e2.trans (t.mono e2.size)
                  have ff := ogBelow ff t
                  clear t
                  refine hK.out _ _ ⟨((e2.cell (p := ⟨gc, 86 + i, none⟩) hgq).trans hcq1.out), (rangeB hrs e2 hgs), (rowAt Zy)⟩ (fun hH => ?_)
                  clear hK K hH
                  try simp only [Act.put, List.getElem_toArray, List.getElem_cons_zero, List.getElem_cons_succ, List.setIfInBounds_toArray, List.set_cons_zero, List.set_cons_succ]
                  refine wpAnyH_take (i := 22) (v := .bool true) rfl (by kernel_rfl) (by kernel_rfl) (by kernel_rfl) (fun _ _ _ h => h) (Or.inl ⟨by rfl, fun w_ hS_ => by (first | (go_simp; done) | (go_simp; rfl))⟩) ⟨((e2.cell (p := ⟨gc, 86 + i, none⟩) hgq).trans hcq1.out), (rangeB hrs e2 hgs), (rowAt Zy)⟩ ?_
                  try simp only [Act.put, List.getElem_toArray, List.getElem_cons_zero, List.getElem_cons_succ, List.setIfInBounds_toArray, List.set_cons_zero, List.set_cons_succ]
                  refine wpAnyH_take (i := 23) (v := .bool true) rfl (by kernel_rfl) (by kernel_rfl) (by kernel_rfl) (fun _ _ _ h => h) (Or.inl ⟨by rfl, fun w_ hS_ => by (first | (go_simp; done) | (go_simp; rfl))⟩) ⟨((e2.cell (p := ⟨gc, 86 + i, none⟩) hgq).trans hcq1.out), (rangeB hrs e2 hgs), (rowAt Zy)⟩ ?_
                  try simp only [Act.put, List.getElem_toArray, List.getElem_cons_zero, List.getElem_cons_succ, List.setIfInBounds_toArray, List.set_cons_zero, List.set_cons_succ]
                  refine wpAnyH_done (by kernel_rfl) ?_ _
                  go_wp2_with fail
                  go_ret
                  exact ⟨rfl, ⟨_, _, _, _, P1, V2, HCQ.out.below e2, HD9.out.1.more⟩, ee⟩
            · have hw3 : ((a.how l'.br l'.bn l0.sl l0.x) == 3) = false := by simpa using hw
              have HP2 : Hid (Cinv n t (Px.upd A' j (a.vote l'.br l'.bn l0.sl l0.x)) (updF L i l') X P1 V' ∧ l'.sl = l0.sl ∧ l'.x = l0.x ∧ l'.l = l0.l ∧ l'.A = l0.A ∧ l'.c = l0.c ∧ l'.n = (n : Int)) := by
                obtain ⟨p1, p2⟩ := HP.out
                refine ⟨?_, p2⟩
                rw [HA.out] at hw ⊢
                rw [Cinv.voteNo (n := n) (t := t) hw]; exact p1
              have Zc : y7.drew.heap[gc]? = some (.cells (crC n (Px.upd A' j (a.vote l'.br l'.bn l0.sl l0.x)) (fun j => pv (H j)) S (k + 1)).toArray 122) := Zc
              have Zl : y7.drew.heap[hh]? = some (.cells l'.cells.toArray 144) := Zl
              have Zy : y7.drew.heap[gy]? = some (.cells l0.x.cells.toArray 37) := Zy
              have hu := World.ownsRow.drew hu
              have ee := belowDrewS ee
              have ff := ogDrew ff
              refine wp_region_held_drew (S := fun z' => True) (by kernel_rfl) trivial (fun hH => ?_)
              clear hH
              generalize y7.drew = y8 at Zc Zl Zy hu ee ff ⊢
              refine wpAnyH_take (i := 0) (v := .int .i64 ((a.how l'.br l'.bn l0.sl l0.x))) rfl (by kernel_rfl) (by kernel_rfl) (by kernel_rfl) (fun _ _ _ h => h) (Or.inl ⟨by rfl, fun w_ hS_ => by (first | (go_simp; done) | (go_simp; rfl))⟩) trivial ?_
              try simp only [Act.put, List.getElem_toArray, List.getElem_cons_zero, List.getElem_cons_succ, List.setIfInBounds_toArray, List.set_cons_zero, List.set_cons_succ]
              refine wpAnyH_take (i := 1) (v := .bool false) rfl (by kernel_rfl) (by kernel_rfl) (by kernel_rfl) (fun _ _ _ h => h) (Or.inl ⟨by rfl, fun w_ hS_ => by (first | (go_simp; done) | (go_simp; rfl))⟩) trivial ?_
              try simp only [Act.put, List.getElem_toArray, List.getElem_cons_zero, List.getElem_cons_succ, List.setIfInBounds_toArray, List.set_cons_zero, List.set_cons_succ]
              refine wpAnyH_take (i := 2) (v := .bool false) rfl (by kernel_rfl) (by kernel_rfl) (by kernel_rfl) (fun _ _ _ h => h) (Or.inl ⟨by rfl, fun w_ hS_ => by (first | (go_simp; done) | (go_simp; rfl))⟩) trivial ?_
              try simp only [Act.put, List.getElem_toArray, List.getElem_cons_zero, List.getElem_cons_succ, List.setIfInBounds_toArray, List.set_cons_zero, List.set_cons_succ]
              refine wpAnyH_take (i := 3) (v := undef) rfl (by kernel_rfl) (by kernel_rfl) (by kernel_rfl) (fun _ _ _ h => h) (Or.inr ⟨by rfl, rfl⟩) trivial ?_
              try simp only [Act.put, List.getElem_toArray, List.getElem_cons_zero, List.getElem_cons_succ, List.setIfInBounds_toArray, List.set_cons_zero, List.set_cons_succ]
              refine wpAnyH_take (i := 4) (v := undef) rfl (by kernel_rfl) (by kernel_rfl) (by kernel_rfl) (fun _ _ _ h => h) (Or.inr ⟨by rfl, rfl⟩) trivial ?_
              try simp only [Act.put, List.getElem_toArray, List.getElem_cons_zero, List.getElem_cons_succ, List.setIfInBounds_toArray, List.set_cons_zero, List.set_cons_succ]
              refine wpAnyH_take (i := 5) (v := undef) rfl (by kernel_rfl) (by kernel_rfl) (by kernel_rfl) (fun _ _ _ h => h) (Or.inr ⟨by rfl, rfl⟩) trivial ?_
              try simp only [Act.put, List.getElem_toArray, List.getElem_cons_zero, List.getElem_cons_succ, List.setIfInBounds_toArray, List.set_cons_zero, List.set_cons_succ]
              refine wpAnyH_take (i := 6) (v := undef) rfl (by kernel_rfl) (by kernel_rfl) (by kernel_rfl) (fun _ _ _ h => h) (Or.inr ⟨by rfl, rfl⟩) trivial ?_
              try simp only [Act.put, List.getElem_toArray, List.getElem_cons_zero, List.getElem_cons_succ, List.setIfInBounds_toArray, List.set_cons_zero, List.set_cons_succ]
              refine wpAnyH_take (i := 7) (v := undef) rfl (by kernel_rfl) (by kernel_rfl) (by kernel_rfl) (fun _ _ _ h => h) (Or.inr ⟨by rfl, rfl⟩) trivial ?_
              try simp only [Act.put, List.getElem_toArray, List.getElem_cons_zero, List.getElem_cons_succ, List.setIfInBounds_toArray, List.set_cons_zero, List.set_cons_succ]
              refine wpAnyH_take (i := 8) (v := undef) rfl (by kernel_rfl) (by kernel_rfl) (by kernel_rfl) (fun _ _ _ h => h) (Or.inr ⟨by rfl, rfl⟩) trivial ?_
              try simp only [Act.put, List.getElem_toArray, List.getElem_cons_zero, List.getElem_cons_succ, List.setIfInBounds_toArray, List.set_cons_zero, List.set_cons_succ]
              refine wpAnyH_take (i := 9) (v := undef) rfl (by kernel_rfl) (by kernel_rfl) (by kernel_rfl) (fun _ _ _ h => h) (Or.inr ⟨by rfl, rfl⟩) trivial ?_
              try simp only [Act.put, List.getElem_toArray, List.getElem_cons_zero, List.getElem_cons_succ, List.setIfInBounds_toArray, List.set_cons_zero, List.set_cons_succ]
              refine wpAnyH_take (i := 10) (v := undef) rfl (by kernel_rfl) (by kernel_rfl) (by kernel_rfl) (fun _ _ _ h => h) (Or.inr ⟨by rfl, rfl⟩) trivial ?_
              try simp only [Act.put, List.getElem_toArray, List.getElem_cons_zero, List.getElem_cons_succ, List.setIfInBounds_toArray, List.set_cons_zero, List.set_cons_succ]
              refine wpAnyH_take (i := 11) (v := undef) rfl (by kernel_rfl) (by kernel_rfl) (by kernel_rfl) (fun _ _ _ h => h) (Or.inr ⟨by rfl, rfl⟩) trivial ?_
              try simp only [Act.put, List.getElem_toArray, List.getElem_cons_zero, List.getElem_cons_succ, List.setIfInBounds_toArray, List.set_cons_zero, List.set_cons_succ]
              refine wpAnyH_take (i := 12) (v := undef) rfl (by kernel_rfl) (by kernel_rfl) (by kernel_rfl) (fun _ _ _ h => h) (Or.inr ⟨by rfl, rfl⟩) trivial ?_
              try simp only [Act.put, List.getElem_toArray, List.getElem_cons_zero, List.getElem_cons_succ, List.setIfInBounds_toArray, List.set_cons_zero, List.set_cons_succ]
              refine wpAnyH_take (i := 13) (v := undef) rfl (by kernel_rfl) (by kernel_rfl) (by kernel_rfl) (fun _ _ _ h => h) (Or.inr ⟨by rfl, rfl⟩) trivial ?_
              try simp only [Act.put, List.getElem_toArray, List.getElem_cons_zero, List.getElem_cons_succ, List.setIfInBounds_toArray, List.set_cons_zero, List.set_cons_succ]
              refine wpAnyH_take (i := 14) (v := undef) rfl (by kernel_rfl) (by kernel_rfl) (by kernel_rfl) (fun _ _ _ h => h) (Or.inr ⟨by rfl, rfl⟩) trivial ?_
              try simp only [Act.put, List.getElem_toArray, List.getElem_cons_zero, List.getElem_cons_succ, List.setIfInBounds_toArray, List.set_cons_zero, List.set_cons_succ]
              refine wpAnyH_take (i := 15) (v := undef) rfl (by kernel_rfl) (by kernel_rfl) (by kernel_rfl) (fun _ _ _ h => h) (Or.inr ⟨by rfl, rfl⟩) trivial ?_
              try simp only [Act.put, List.getElem_toArray, List.getElem_cons_zero, List.getElem_cons_succ, List.setIfInBounds_toArray, List.set_cons_zero, List.set_cons_succ]
              refine wpAnyH_take (i := 16) (v := undef) rfl (by kernel_rfl) (by kernel_rfl) (by kernel_rfl) (fun _ _ _ h => h) (Or.inr ⟨by rfl, rfl⟩) trivial ?_
              try simp only [Act.put, List.getElem_toArray, List.getElem_cons_zero, List.getElem_cons_succ, List.setIfInBounds_toArray, List.set_cons_zero, List.set_cons_succ]
              refine wpAnyH_take (i := 17) (v := undef) rfl (by kernel_rfl) (by kernel_rfl) (by kernel_rfl) (fun _ _ _ h => h) (Or.inr ⟨by rfl, rfl⟩) trivial ?_
              try simp only [Act.put, List.getElem_toArray, List.getElem_cons_zero, List.getElem_cons_succ, List.setIfInBounds_toArray, List.set_cons_zero, List.set_cons_succ]
              refine wpAnyH_take (i := 18) (v := undef) rfl (by kernel_rfl) (by kernel_rfl) (by kernel_rfl) (fun _ _ _ h => h) (Or.inr ⟨by rfl, rfl⟩) trivial ?_
              try simp only [Act.put, List.getElem_toArray, List.getElem_cons_zero, List.getElem_cons_succ, List.setIfInBounds_toArray, List.set_cons_zero, List.set_cons_succ]
              refine wpAnyH_take (i := 19) (v := .bool false) rfl (by kernel_rfl) (by kernel_rfl) (by kernel_rfl) (fun _ _ _ h => h) (Or.inl ⟨by rfl, fun w_ hS_ => by (first | (go_simp; done) | (go_simp; rfl))⟩) trivial ?_
              try simp only [Act.put, List.getElem_toArray, List.getElem_cons_zero, List.getElem_cons_succ, List.setIfInBounds_toArray, List.set_cons_zero, List.set_cons_succ]
              refine wpAnyH_done (by kernel_rfl) ?_ _
              go_wp2_with fail
              go_roundw
              case rel => exact ⟨j + 1, (Px.upd A' j (a.vote l'.br l'.bn l0.sl l0.x)), l', V', by omega, by go_num, HP2, Zc, Zl, Zy, hu, ff, ee⟩
              case measure => simp [intOf]; omega
      · have hnj : n = j := by omega
        go_wp2_with fail
        go_ret
        exact ⟨rfl, ⟨A', _, S, X, P1, V', HMV.out _ l' A' ff Zc Zl hu (fun g hg => .inl (by rw [← hg]; unfold rowv; rw [HP.out.2.2.2.1, HP.out.2.2.2.2.1, HP.out.2.2.2.2.2.1, HRI.out.2.2.1, HRI.out.2.1, HRI.out.2.2.2])), HP.out.1.more⟩, ee⟩
end Go.Proofs.YtbahooohkigcnaaDoor
