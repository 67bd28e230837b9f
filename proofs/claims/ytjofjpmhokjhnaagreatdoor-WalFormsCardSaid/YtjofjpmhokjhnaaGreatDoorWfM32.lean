import Derived.Test.YtjofjpmhokjhnaaGreatDoorWfM27
import Derived.Test.YtjofjpmhokjhnaaGreatDoorWfM5
import Derived.Test.YtjofjpmhokjhnaaGreatDoorWfM6
import Derived.Test.YtjofjpmhokjhnaaGreatDoorWfM29
import Derived.Test.YtjofjpmhokjhnaaGreatDoorWfM31
set_option linter.unusedSimpArgs false
set_option linter.unusedVariables false
namespace Go.Proofs.YtjofjpmhokjhnaaGreatDoor
set_option maxRecDepth 20000
open Go.RowKit T
theorem text_tight (l t : List UInt8) (n : Nat) (h : t.length ≤ n) : (C.putText l t).length ≤ l.length + 2 + n := by
 unfold C.putText; simp only [List.length_append, C.be_len, List.length_take]; omega
theorem vput_tight (l : List UInt8) (k : Int) (b : Nat) (t : List UInt8) (h : V.formed k b t = true) : (V.put l k b t).length ≤ l.length + 58 := by
 have h0 := put_len2 l 0 1
 have h1 := put_len2 l 1 1
 have h2 := put_len2 (C.put l 1 1) b 8
 have h3 := put_len2 l 2 1
 have ht : t.length ≤ 40 := by
  unfold V.formed at h
  split at h
  ·have := of_decide_eq_true h; rw [this.2]; exact Nat.zero_le _
  split at h
  ·have := of_decide_eq_true h; rw [this.1]; exact Nat.zero_le _
  split at h
  ·rw [Bool.and_eq_true] at h; exact (of_decide_eq_true h.1).2
  ·cases h
 have h4 := text_tight (C.put l 2 1) t 40 ht
 unfold V.put
 grind
theorem rfold_tight (rs : List Rd1) (l : List UInt8) (h : ∀ x ∈ rs, x.1.length ≤ 12) : (rs.foldl rput l).length ≤ l.length + rs.length * 22 := by
 induction rs generalizing l with
 | nil => simp
 | cons r rs ih =>
   have h1 := ih (rput l r) (fun x hx => h x (by simp [hx]))
   have h2 := text_tight l r.1 12 (h r (by simp))
   have h3 := put_len2 (C.putText l r.1) r.2 8
   have h4 : (rput l r).length ≤ l.length + 22 := by unfold rput; omega
   simp only [List.foldl_cons, List.length_cons]; omega
theorem wfold_tight (ws : List Wr1) (l : List UInt8) (h : ∀ x ∈ ws, x.1.length ≤ 12 ∧ V.formed x.2.1 x.2.2.1 x.2.2.2 = true) : (ws.foldl wput l).length ≤ l.length + ws.length * 72 := by
 induction ws generalizing l with
 | nil => simp
 | cons r ws ih =>
   have h1 := ih (wput l r) (fun x hx => h x (by simp [hx]))
   have h2 := text_tight l r.1 12 (h r (by simp)).1
   have h3 := vput_tight (C.putText l r.1) r.2.1 r.2.2.1 r.2.2.2 (h r (by simp)).2
   have h4 : (wput l r).length ≤ l.length + 72 := by unfold wput; omega
   simp only [List.foldl_cons, List.length_cons]; omega
theorem cput_tight (l : List UInt8) (x : Cm) : (cput l x).length ≤ l.length + 620 := by
 unfold cput
 cases hf : x.formed with
 | false => simp
 | true =>
   rw [cond_true]
   split
   ·unfold tput
    have h1 := put_len2 l 1 1
    cases ht : formed x.s x.q x.rs x.ws with
    | false => rw [cond_false]; omega
    | true =>
      rw [cond_true]
      obtain ⟨f1, f2, f3⟩ := formed_few ht
      obtain ⟨g1, g2⟩ := formed_all ht
      have a1 := idput_len (C.put l 1 1) x.s x.q
      have a2 := put_len2 (idput (C.put l 1 1) x.s x.q) x.rs.length 1
      have a3 := rfold_tight x.rs (C.put (idput (C.put l 1 1) x.s x.q) x.rs.length 1) g1
      have a4 := put_len2 (x.rs.foldl rput (C.put (idput (C.put l 1 1) x.s x.q) x.rs.length 1)) x.ws.length 1
      have a5 := wfold_tight x.ws (C.put (x.rs.foldl rput (C.put (idput (C.put l 1 1) x.s x.q) x.rs.length 1)) x.ws.length 1) g2
      omega
   split
   ·have h1 := put_len2 l 2 1
    have h2 := idput_len (C.put l 2 1) x.i x.j
    have h3 := put_len2 (idput (C.put l 2 1) x.i x.j) x.g.toNat 1
    have h4 := put_len2 (C.put (idput (C.put l 2 1) x.i x.j) x.g.toNat 1) x.st 8
    omega
   split
   ·have h1 := put_len2 l 3 1
    have h2 := idput_len (C.put l 3 1) x.i x.j
    have h3 := put_len2 (idput (C.put l 3 1) x.i x.j) x.g.toNat 1
    have h4 := put_len2 (C.put (idput (C.put l 3 1) x.i x.j) x.g.toNat 1) (if x.y = true then 1 else 0) 1
    omega
   ·have h1 := put_len2 l 0 1
    omega
theorem rcwr_len {x : Rc} (hf : x.formed = true) : x.wr.length ≤ 680 + x.dt.length ∧ x.wr.length ≤ 60000 := by
 obtain ⟨lo, s1, s2, s3, s4, s5⟩ := rc_sound hf
 have h1 := put_len2 [] (T.nz x.kd) 1
 have h2 := B.put_len (C.put [] (T.nz x.kd) 1) x.br x.bn
 have h3 := put_len2 (B.put (C.put [] (T.nz x.kd) 1) x.br x.bn) (T.nz x.sl) 4
 have h4 := cput_tight (C.put (B.put (C.put [] (T.nz x.kd) 1) x.br x.bn) (T.nz x.sl) 4) x.c
 have h5 := put_len2 (C.put [] (T.nz x.kd) 1) (T.nz x.sl) 4
 have h6 := cput_tight (C.put (C.put [] (T.nz x.kd) 1) (T.nz x.sl) 4) x.c
 have h7 := put_len2 (C.put (C.put [] (T.nz x.kd) 1) (T.nz x.sl) 4) x.dt.length 4
 have h0 : ([] : List UInt8).length = 0 := rfl
 unfold T.Rc.wr
 split
 ·omega
 split
 ·omega
 split
 ·omega
 ·rw [List.length_append]; omega
namespace T
def told : List (List UInt8) → List Rc
 | [] => []
 | b :: bs => bif rcok b then rcm b :: told bs else []
def tend : List (List UInt8) → Nat
 | [] => 0
 | b :: bs => bif rcok b then 8 + b.length + tend bs else 0
def Rc.frame (x : Rc) : List UInt8 × Nat := if x.formed = true then F.wrap x.wr else ([], 2)
def added (d : Dk) (x : Rc) : Nat × Dk := if x.formed = true then D.append d (F.wrap x.wr).1 else (2, d)
def opened (d : Dk) : List Rc × Nat × Dk :=
 if d.down = true then ([], 8, d)
 else if tend (F.all d.b).1 < d.b.length then
  (if (D.replace d (d.b.take (tend (F.all d.b).1))).1 = 0 then told (F.all d.b).1 else [], (D.replace d (d.b.take (tend (F.all d.b).1))).1, (D.replace d (d.b.take (tend (F.all d.b).1))).2)
 else (told (F.all d.b).1, 0, d)
def Rc.good (x : Rc) : Prop := x.formed = true ∧ x.br < 4294967296 ∧ Fits x.c
def cats (xs : List Rc) : List UInt8 := F.cat (xs.map Rc.wr)
def reads (xs : List Rc) : List Rc := xs.map fun x => rcm x.wr
end T
theorem cats_snoc (xs : List Rc) (x : Rc) : cats (xs ++ [x]) = cats xs ++ (F.wrap x.wr).1 := by unfold T.cats; rw [List.map_append]; exact F.cat_snoc _ _
end Go.Proofs.YtjofjpmhokjhnaaGreatDoor
namespace Go.Proofs.YtjofjpmhokjhnaaGreatDoor
set_option maxRecDepth 20001
open Go.RowKit T
theorem zero_formed : Cm.zero.formed = true := by decide +kernel
theorem rformed_eq (x : Rc) : x.rformed = x.formed := by
 rw [Bool.eq_iff_iff]
 have e0 : ∀ y : Cm, SameC y y = true := SameC_self
 have e1 : SameC x.c Cm.zero = true → x.c.formed = true := fun h => by rw [SameC.formed h]; exact zero_formed
 unfold T.Rc.rformed T.Rc.formed T.Rc.only T.Rc.same
 have b0 : B.formed 0 = true := by decide
 by_cases k1 : x.kd = 1
 ·simp [k1, e0, Rc.zero]
  grind
 by_cases k2 : x.kd = 2
 ·simp [k1, k2, e0, Rc.zero]
  grind
 by_cases k3 : x.kd = 3
 ·simp [k1, k2, k3, e0, Rc.zero]
  grind
 by_cases k4 : x.kd = 4
 ·simp [k1, k2, k3, k4, e0, Rc.zero]
  grind
 ·simp [k1, k2, k3, k4, Rc.zero]
theorem rwformed_any (x : Rc) (w : World) (B0 : Nat) (hB : B0 ≤ w.heap.size) (ok : RcOk w B0 x) : Calls Tryz.prog 14 #[.agg x.cells.toArray] w fun e w' => e = .returned (.bool x.formed) ∧ Below w.heap.size w w' := by
 have h := rwformed0 x w B0 hB ok
 rw [rformed_eq] at h
 exact h
theorem rcData' {w : World} {B : Nat} {x : Rc} (ok : RcOk w B x) : SlB w B (.slice x.D x.dt.length x.dc) x.dt := ⟨x.D, x.dc, rfl, ok.dl, ok.dm, ok.dn, ok.d⟩
def WroteO (w : World) (f : Bool) (l : List UInt8) (e : Ending) (w' : World) : Prop :=
 ∃ v m x, e = .returned (.tuple #[v, .int .i64 x]) ∧ OwnB w' w.heap.size v m ∧ x = (bif f then 0 else 2) ∧ m = (bif f then l else [])
set_option maxHeartbeats 25600000 in
theorem rwwrite_any (x : Rc) (w : World) (B0 : Nat) (hB : B0 ≤ w.heap.size) (ok : RcOk w B0 x) (hdt : x.dt.length ≤ 100000000) :
 Calls Tryz.prog 9 #[.agg x.cells.toArray] w fun e w' => WroteO w x.formed x.wr e w' ∧ Below w.heap.size w w' := by
 have ee : Below w.heap.size w w := Below.refl _ _
 go_enter Tryz.func9, Tryz.ntmps9
 refine wp_seq_k fun K1 hK1 => ?_
 refine wp_region_lit ?_
 with_reducible refine ww (.pointer (some ⟨w.heap.size, 0, none⟩)) (w.alloc (.cells (x.cells).toArray 47)) ?_
 try simp only [zP]
 have sz_g2 := ee.size
 have sz_ := ee.size
 have ee := ee.alloc ee.size (.cells (x.cells).toArray 47)
 have Zb1 := hpN w (.cells (x.cells).toArray 47) rfl
 obtain ⟨z1, hz_⟩ : ∃ z_ : World, z_ = w.alloc (.cells (x.cells).toArray 47) := ⟨_, rfl⟩
 rw [← hz_] at Zb1 ee ⊢
 clear hz_
 obtain ⟨g2, hg_g2⟩ : ∃ g_, g_ = w.heap.size := ⟨_, rfl⟩
 have hB_g2 : w.heap.size ≤ g2 := by rw [hg_g2]; exact sz_g2
 rw [← hg_g2] at Zb1 ⊢
 clear hg_g2
 with_reducible
  refine wv (.slice none 0 0) ?_
  refine wv (.int .i64 0) ?_
 try simp only [zP]
 refine wpList_nil ?_
 refine hK1 _ _ ?_
 refine wp_seq_k fun K3 hK3 => ?_
 refine wp_seq_k fun K4 hK4 => ?_
 refine wp_region_lit ?_
 with_reducible
  refine wg (g2) (0) (x.cells) (rowAt Zb1) Tryz.underlying47 ?_
  try simp only [zP]
  refine wc 14 #[.agg (x.cells).toArray] (rwformed_any x z1 B0 (Nat.le_trans hB ee.size) (ok.below ee hB)) ?_
 rintro e z2 ⟨rfl, t⟩
 refine ⟨_, rfl, ?_⟩
 have Zb1 := hpB Zb1 t
 have ee := ee.trans (t.mono ee.size)
 clear t
 generalize hb5 : x.formed = b5
 try simp only [zP]
 cases b5
 ·with_reducible refine wv (.bool true) ?_
  try simp only [zP]
  refine wpList_nil ?_
  refine hK4 _ _ ?_
  refine wp_cond_true (by kernel_rfl) ?_
  refine wp_seq_k fun K6 hK6 => ?_
  refine wp_region_lit ?_
  with_reducible
   refine wv (.slice none 0 0) ?_
   refine wv (.int .i64 2) ?_
  try simp only [zP]
  refine wpList_nil ?_
  refine hK6 _ _ ?_
  refine wp_ret ?_
  refine then_ret ?_
  exact bodyPost_ret (v := .tuple #[.slice none 0 0, .int .i64 2]) (by kernel_rfl) rfl ⟨⟨_, [], 2, rfl, OwnB.nil, by rw [hb5]; rfl, by rw [hb5]; rfl⟩, ee⟩
 with_reducible refine wv (.bool false) ?_
 try simp only [zP]
 refine wpList_nil ?_
 refine hK4 _ _ ?_
 refine wp_cond_false (by kernel_rfl) ?_
 refine wp_skip ?_
 refine hK3 _ _ ?_
 rcases rc_kd hb5 with k1 | k2 | k3 | k4
 ·refine wp_seq_k fun K7 hK7 => ?_
  refine wp_region_lit ?_
  with_reducible
   refine wv (.pointer (some ⟨g2, 0, none⟩)) ?_
   refine wl (.int .i64 x.kd) ⟨g2, 0, none⟩ (rowCell Zb1 (0) rfl) Tryz.underlying3 ?_
   try simp only [zP]
   refine wq (.int .u8 (((UInt8.ofNat (T.nz x.kd)).toNat : Int))) (okIntP ((wrap8nz x.kd) : IntKind.u8.wrap x.kd = ((UInt8.ofNat (T.nz x.kd)).toNat : Int)) (by kernel_rfl)) ?_
   refine ww (.slice (some ⟨z2.heap.size, 0, none⟩) 1 1) (z2.alloc (.cells #[.int .u8 (((UInt8.ofNat (T.nz x.kd)).toNat : Int))] 5)) ?_
  try simp only [zP]
  have sz_g8 := ee.size
  have lZb1 := (Array.getElem?_eq_some_iff.1 Zb1).1
  have sz_ := ee.size
  have Zb1 := hpA Zb1 (.cells #[.int .u8 (((UInt8.ofNat (T.nz x.kd)).toNat : Int))] 5)
  have ee := ee.alloc ee.size (.cells #[.int .u8 (((UInt8.ofNat (T.nz x.kd)).toNat : Int))] 5)
  have Zs11 := hpN z2 (.cells #[.int .u8 (((UInt8.ofNat (T.nz x.kd)).toNat : Int))] 5) rfl
  obtain ⟨z3, hz_⟩ : ∃ z_ : World, z_ = z2.alloc (.cells #[.int .u8 (((UInt8.ofNat (T.nz x.kd)).toNat : Int))] 5) := ⟨_, rfl⟩
  rw [← hz_] at Zb1 Zs11 ee ⊢
  clear hz_
  obtain ⟨g8, hg_g8⟩ : ∃ g_, g_ = z2.heap.size := ⟨_, rfl⟩
  have n_g8_Zb1 : g2 < g8 := by rw [hg_g8]; exact lZb1
  have hB_g8 : w.heap.size ≤ g8 := by rw [hg_g8]; exact sz_g8
  rw [← hg_g8] at Zs11 ⊢
  clear hg_g8 lZb1
  with_reducible refine wv (.slice (some ⟨g8, 0, none⟩) 1 1) ?_
  try simp only [zP]
  refine wpList_nil ?_
  refine hK7 _ _ ?_
  refine wp_seq_k fun K9 hK9 => ?_
  have O : OwnB z3 w.heap.size (.slice (some ⟨g8, 0, none⟩) 1 1) (C.put [] (T.nz x.kd) 1) := by rw [← put_oneN]; exact ownOne Zs11 rfl hB_g8
  clear Zs11
  refine wp_seq_k fun K10 hK10 => ?_
  refine wp_region_lit ?_
  with_reducible
   refine wv (.pointer (some ⟨g2, 0, none⟩)) ?_
   refine wl (.int .i64 x.kd) ⟨g2, 0, none⟩ (rowCell Zb1 (0) rfl) Tryz.underlying3 ?_
   refine wb (.bool true) (.int .i64 x.kd) (.int .i64 2) 3 (run_leqI (show (decide (x.kd ≤ 2)) = true from by rw [k1]; decide)) ?_
  try simp only [zP]
  refine wpList_nil ?_
  refine hK10 _ _ ?_
  refine wp_cond_true (by kernel_rfl) ?_
  refine wp_region_lit ?_
  with_reducible
   refine wv (.slice (some ⟨g8, 0, none⟩) 1 1) ?_
   refine wv (.pointer (some ⟨g2, 1, none⟩)) ?_
   refine wg (g2) (1) ([.int .u32 (x.br : Int), .int .i64 x.bn]) (rowMid Zb1 (1) (partOf 1 (by kernel_rfl))) Tryz.underlying44 ?_
   try simp only [zP]
   refine wc 35 #[.slice (some ⟨g8, 0, none⟩) 1 1, .agg ([.int .u32 (x.br : Int), .int .i64 x.bn]).toArray] (rp_bal O (by have h0_ := put_len2 [] (T.nz x.kd) 1; simp only [List.length_nil] at *; omega) (B1 := w.heap.size) ee.size x.br x.bn ok.br) ?_
  rintro e z4 ⟨r1, rfl, O_, t⟩
  refine ⟨_, rfl, ?_⟩
  clear O
  have Zb1 := hpB Zb1 t
  have ee := ee.trans (t.mono ee.size)
  clear t
  have O := O_
  clear O_
  try simp only [zP]
  with_reducible refine wv (r1) ?_
  try simp only [zP]
  refine wpList_nil ?_
  refine hK9 _ _ ?_
  refine wp_seq_k fun K11 hK11 => ?_
  refine wp_seq_k fun K12 hK12 => ?_
  refine wp_region_lit ?_
  with_reducible
   refine wv (.pointer (some ⟨g2, 0, none⟩)) ?_
   refine wl (.int .i64 x.kd) ⟨g2, 0, none⟩ (rowCell Zb1 (0) rfl) Tryz.underlying3 ?_
   refine wb (.bool false) (.int .i64 x.kd) (.int .i64 2) 3 (run_geqI (show (decide (x.kd ≥ 2)) = false from by rw [k1]; decide)) ?_
  try simp only [zP]
  refine wpList_nil ?_
  refine hK12 _ _ ?_
  refine wp_cond_false (by kernel_rfl) ?_
  refine wp_skip ?_
  refine hK11 _ _ ?_
  refine wp_seq_k fun K13 hK13 => ?_
  refine wp_seq_k fun K14 hK14 => ?_
  refine wp_region_lit ?_
  with_reducible
   refine wv (.pointer (some ⟨g2, 0, none⟩)) ?_
   refine wl (.int .i64 x.kd) ⟨g2, 0, none⟩ (rowCell Zb1 (0) rfl) Tryz.underlying3 ?_
   refine wb (.bool false) (.int .i64 x.kd) (.int .i64 2) 3 (run_eqlI (show (decide (x.kd = 2)) = false from by rw [k1]; decide)) ?_
   refine wv (.bool false) ?_
   refine wv (.pointer (some ⟨g2, 0, none⟩)) ?_
   refine wl (.int .i64 x.kd) ⟨g2, 0, none⟩ (rowCell Zb1 (0) rfl) Tryz.underlying3 ?_
   refine wb (.bool false) (.int .i64 x.kd) (.int .i64 3) 3 (run_eqlI (show (decide (x.kd = 3)) = false from by rw [k1]; decide)) ?_
   refine wv (.bool false) ?_
  try simp only [zP]
  refine wpList_nil ?_
  refine hK14 _ _ ?_
  refine wp_cond_false (by kernel_rfl) ?_
  refine wp_skip ?_
  refine hK13 _ _ ?_
  refine wp_seq_k fun K15 hK15 => ?_
  refine wp_seq_k fun K16 hK16 => ?_
  refine wp_region_lit ?_
  with_reducible
   refine wv (.pointer (some ⟨g2, 0, none⟩)) ?_
   refine wl (.int .i64 x.kd) ⟨g2, 0, none⟩ (rowCell Zb1 (0) rfl) Tryz.underlying3 ?_
   refine wb (.bool false) (.int .i64 x.kd) (.int .i64 4) 3 (run_eqlI (show (decide (x.kd = 4)) = false from by rw [k1]; decide)) ?_
  try simp only [zP]
  refine wpList_nil ?_
  refine hK16 _ _ ?_
  refine wp_cond_false (by kernel_rfl) ?_
  refine wp_skip ?_
  refine hK15 _ _ ?_
  refine wp_seq_k fun K17 hK17 => ?_
  refine wp_region_lit ?_
  iterate 2 (with_reducible refine wv (r1) ?_)
  with_reducible refine wv (.int .i64 0) ?_
  try simp only [zP]
  refine wpList_nil ?_
  refine hK17 _ _ ?_
  refine wp_ret ?_
  have hwr : x.wr = (B.put (C.put [] (T.nz x.kd) 1) x.br x.bn) := by unfold T.Rc.wr; simp [k1]
  exact bodyPost_ret (v := .tuple #[r1, .int .i64 0]) (by kernel_rfl) rfl ⟨⟨_, x.wr, 0, rfl, (by rw [hwr]; exact O), by rw [hb5]; rfl, by rw [hb5]; rfl⟩, ee⟩
 ·refine wp_seq_k fun K18 hK18 => ?_
  refine wp_region_lit ?_
  with_reducible
   refine wv (.pointer (some ⟨g2, 0, none⟩)) ?_
   refine wl (.int .i64 x.kd) ⟨g2, 0, none⟩ (rowCell Zb1 (0) rfl) Tryz.underlying3 ?_
   try simp only [zP]
   refine wq (.int .u8 (((UInt8.ofNat (T.nz x.kd)).toNat : Int))) (okIntP ((wrap8nz x.kd) : IntKind.u8.wrap x.kd = ((UInt8.ofNat (T.nz x.kd)).toNat : Int)) (by kernel_rfl)) ?_
   refine ww (.slice (some ⟨z2.heap.size, 0, none⟩) 1 1) (z2.alloc (.cells #[.int .u8 (((UInt8.ofNat (T.nz x.kd)).toNat : Int))] 5)) ?_
  try simp only [zP]
  have sz_g19 := ee.size
  have lZb1 := (Array.getElem?_eq_some_iff.1 Zb1).1
  have sz_ := ee.size
  have Zb1 := hpA Zb1 (.cells #[.int .u8 (((UInt8.ofNat (T.nz x.kd)).toNat : Int))] 5)
  have ee := ee.alloc ee.size (.cells #[.int .u8 (((UInt8.ofNat (T.nz x.kd)).toNat : Int))] 5)
  have Zs11 := hpN z2 (.cells #[.int .u8 (((UInt8.ofNat (T.nz x.kd)).toNat : Int))] 5) rfl
  obtain ⟨z3, hz_⟩ : ∃ z_ : World, z_ = z2.alloc (.cells #[.int .u8 (((UInt8.ofNat (T.nz x.kd)).toNat : Int))] 5) := ⟨_, rfl⟩
  rw [← hz_] at Zb1 Zs11 ee ⊢
  clear hz_
  obtain ⟨g19, hg_g19⟩ : ∃ g_, g_ = z2.heap.size := ⟨_, rfl⟩
  have n_g19_Zb1 : g2 < g19 := by rw [hg_g19]; exact lZb1
  have hB_g19 : w.heap.size ≤ g19 := by rw [hg_g19]; exact sz_g19
  rw [← hg_g19] at Zs11 ⊢
  clear hg_g19 lZb1
  with_reducible refine wv (.slice (some ⟨g19, 0, none⟩) 1 1) ?_
  try simp only [zP]
  refine wpList_nil ?_
  refine hK18 _ _ ?_
  refine wp_seq_k fun K20 hK20 => ?_
  have O : OwnB z3 w.heap.size (.slice (some ⟨g19, 0, none⟩) 1 1) (C.put [] (T.nz x.kd) 1) := by rw [← put_oneN]; exact ownOne Zs11 rfl hB_g19
  clear Zs11
  refine wp_seq_k fun K21 hK21 => ?_
  refine wp_region_lit ?_
  with_reducible
   refine wv (.pointer (some ⟨g2, 0, none⟩)) ?_
   refine wl (.int .i64 x.kd) ⟨g2, 0, none⟩ (rowCell Zb1 (0) rfl) Tryz.underlying3 ?_
   refine wb (.bool true) (.int .i64 x.kd) (.int .i64 2) 3 (run_leqI (show (decide (x.kd ≤ 2)) = true from by rw [k2]; decide)) ?_
  try simp only [zP]
  refine wpList_nil ?_
  refine hK21 _ _ ?_
  refine wp_cond_true (by kernel_rfl) ?_
  refine wp_region_lit ?_
  with_reducible
   refine wv (.slice (some ⟨g19, 0, none⟩) 1 1) ?_
   refine wv (.pointer (some ⟨g2, 1, none⟩)) ?_
   refine wg (g2) (1) ([.int .u32 (x.br : Int), .int .i64 x.bn]) (rowMid Zb1 (1) (partOf 1 (by kernel_rfl))) Tryz.underlying44 ?_
   try simp only [zP]
   refine wc 35 #[.slice (some ⟨g19, 0, none⟩) 1 1, .agg ([.int .u32 (x.br : Int), .int .i64 x.bn]).toArray] (rp_bal O (by have h0_ := put_len2 [] (T.nz x.kd) 1; simp only [List.length_nil] at *; omega) (B1 := w.heap.size) ee.size x.br x.bn ok.br) ?_
  rintro e z4 ⟨r2, rfl, O_, t⟩
  refine ⟨_, rfl, ?_⟩
  clear O
  have Zb1 := hpB Zb1 t
  have ee := ee.trans (t.mono ee.size)
  clear t
  have O := O_
  clear O_
  try simp only [zP]
  with_reducible refine wv (r2) ?_
  try simp only [zP]
  refine wpList_nil ?_
  refine hK20 _ _ ?_
  refine wp_seq_k fun K22 hK22 => ?_
  refine wp_seq_k fun K23 hK23 => ?_
  refine wp_region_lit ?_
  with_reducible
   refine wv (.pointer (some ⟨g2, 0, none⟩)) ?_
   refine wl (.int .i64 x.kd) ⟨g2, 0, none⟩ (rowCell Zb1 (0) rfl) Tryz.underlying3 ?_
   refine wb (.bool true) (.int .i64 x.kd) (.int .i64 2) 3 (run_geqI (show (decide (x.kd ≥ 2)) = true from by rw [k2]; decide)) ?_
  try simp only [zP]
  refine wpList_nil ?_
  refine hK23 _ _ ?_
  refine wp_cond_true (by kernel_rfl) ?_
  refine wp_region_lit ?_
  with_reducible
   refine wv (r2) ?_
   refine wv (.pointer (some ⟨g2, 3, none⟩)) ?_
   refine wl (.int .i64 x.sl) ⟨g2, 3, none⟩ (rowCell Zb1 (3) rfl) Tryz.underlying3 ?_
   try simp only [zP]
   refine wq (.int .u64 ((T.nz x.sl : Int))) (okIntP ((wrapU x.sl) : IntKind.u64.wrap x.sl = (T.nz x.sl : Int)) (by kernel_rfl)) ?_
   try simp only [zP]
   refine wc 36 #[r2, .int .u64 ((T.nz x.sl : Int)), .int .i64 4] (rp_put O (by have h0_ := put_len2 [] (T.nz x.kd) 1; have h1_ := B.put_len (C.put [] (T.nz x.kd) 1) x.br x.bn; simp only [List.length_nil] at *; omega) (B := w.heap.size) ee.size (T.nz x.sl) (nz_lt _) 4 (by omega) (by omega)) ?_
  rintro e z5 ⟨r3, rfl, O_, t⟩
  refine ⟨_, rfl, ?_⟩
  clear O
  have Zb1 := hpB Zb1 t
  have ee := ee.trans (t.mono ee.size)
  clear t
  have O := O_
  clear O_
  try simp only [zP]
  with_reducible refine wv (r3) ?_
  try simp only [zP]
  refine wpList_nil ?_
  refine hK22 _ _ ?_
  refine wp_seq_k fun K24 hK24 => ?_
  refine wp_seq_k fun K25 hK25 => ?_
  refine wp_region_lit ?_
  with_reducible
   refine wv (.pointer (some ⟨g2, 0, none⟩)) ?_
   refine wl (.int .i64 x.kd) ⟨g2, 0, none⟩ (rowCell Zb1 (0) rfl) Tryz.underlying3 ?_
   refine wb (.bool true) (.int .i64 x.kd) (.int .i64 2) 3 (run_eqlI (show (decide (x.kd = 2)) = true from by rw [k2]; decide)) ?_
   refine wv (.bool true) ?_
  iterate 3 (with_reducible refine wk ?_)
  with_reducible refine wv (.bool true) ?_
  try simp only [zP]
  refine wpList_nil ?_
  refine hK25 _ _ ?_
  refine wp_cond_true (by kernel_rfl) ?_
  refine wp_region_lit ?_
  with_reducible
   refine wv (r3) ?_
   refine wv (.pointer (some ⟨g2, 4, none⟩)) ?_
   refine wg (g2) (4) (x.c.cells) (rowMid Zb1 (4) (partOf 4 (by kernel_rfl))) Tryz.underlying45 ?_
   try simp only [zP]
   refine wc 37 #[r3, .agg (x.c.cells).toArray] (rp_cmd O (by have h0_ := put_len2 [] (T.nz x.kd) 1; have h1_ := B.put_len (C.put [] (T.nz x.kd) 1) x.br x.bn; have h2_ := put_len2 (B.put (C.put [] (T.nz x.kd) 1) x.br x.bn) (T.nz x.sl) 4; simp only [List.length_nil] at *; omega) (B := w.heap.size) ee.size x.c ((ok.below ee hB).c.more (Nat.le_trans hB ee.size))) ?_
  rintro e z6 ⟨r4, rfl, O_, t⟩
  refine ⟨_, rfl, ?_⟩
  clear O
  have Zb1 := hpB Zb1 t
  have ee := ee.trans (t.mono ee.size)
  clear t
  have O := O_
  clear O_
  try simp only [zP]
  with_reducible refine wv (r4) ?_
  try simp only [zP]
  refine wpList_nil ?_
  refine hK24 _ _ ?_
  refine wp_seq_k fun K26 hK26 => ?_
  refine wp_seq_k fun K27 hK27 => ?_
  refine wp_region_lit ?_
  with_reducible
   refine wv (.pointer (some ⟨g2, 0, none⟩)) ?_
   refine wl (.int .i64 x.kd) ⟨g2, 0, none⟩ (rowCell Zb1 (0) rfl) Tryz.underlying3 ?_
   refine wb (.bool false) (.int .i64 x.kd) (.int .i64 4) 3 (run_eqlI (show (decide (x.kd = 4)) = false from by rw [k2]; decide)) ?_
  try simp only [zP]
  refine wpList_nil ?_
  refine hK27 _ _ ?_
  refine wp_cond_false (by kernel_rfl) ?_
  refine wp_skip ?_
  refine hK26 _ _ ?_
  refine wp_seq_k fun K28 hK28 => ?_
  refine wp_region_lit ?_
  iterate 2 (with_reducible refine wv (r4) ?_)
  with_reducible refine wv (.int .i64 0) ?_
  try simp only [zP]
  refine wpList_nil ?_
  refine hK28 _ _ ?_
  refine wp_ret ?_
  have hwr : x.wr = (cput (C.put (B.put (C.put [] (T.nz x.kd) 1) x.br x.bn) (T.nz x.sl) 4) x.c) := by unfold T.Rc.wr; simp [k2]
  exact bodyPost_ret (v := .tuple #[r4, .int .i64 0]) (by kernel_rfl) rfl ⟨⟨_, x.wr, 0, rfl, (by rw [hwr]; exact O), by rw [hb5]; rfl, by rw [hb5]; rfl⟩, ee⟩
 ·refine wp_seq_k fun K29 hK29 => ?_
  refine wp_region_lit ?_
  with_reducible
   refine wv (.pointer (some ⟨g2, 0, none⟩)) ?_
   refine wl (.int .i64 x.kd) ⟨g2, 0, none⟩ (rowCell Zb1 (0) rfl) Tryz.underlying3 ?_
   try simp only [zP]
   refine wq (.int .u8 (((UInt8.ofNat (T.nz x.kd)).toNat : Int))) (okIntP ((wrap8nz x.kd) : IntKind.u8.wrap x.kd = ((UInt8.ofNat (T.nz x.kd)).toNat : Int)) (by kernel_rfl)) ?_
   refine ww (.slice (some ⟨z2.heap.size, 0, none⟩) 1 1) (z2.alloc (.cells #[.int .u8 (((UInt8.ofNat (T.nz x.kd)).toNat : Int))] 5)) ?_
  try simp only [zP]
  have sz_g30 := ee.size
  have lZb1 := (Array.getElem?_eq_some_iff.1 Zb1).1
  have sz_ := ee.size
  have Zb1 := hpA Zb1 (.cells #[.int .u8 (((UInt8.ofNat (T.nz x.kd)).toNat : Int))] 5)
  have ee := ee.alloc ee.size (.cells #[.int .u8 (((UInt8.ofNat (T.nz x.kd)).toNat : Int))] 5)
  have Zs11 := hpN z2 (.cells #[.int .u8 (((UInt8.ofNat (T.nz x.kd)).toNat : Int))] 5) rfl
  obtain ⟨z3, hz_⟩ : ∃ z_ : World, z_ = z2.alloc (.cells #[.int .u8 (((UInt8.ofNat (T.nz x.kd)).toNat : Int))] 5) := ⟨_, rfl⟩
  rw [← hz_] at Zb1 Zs11 ee ⊢
  clear hz_
  obtain ⟨g30, hg_g30⟩ : ∃ g_, g_ = z2.heap.size := ⟨_, rfl⟩
  have n_g30_Zb1 : g2 < g30 := by rw [hg_g30]; exact lZb1
  have hB_g30 : w.heap.size ≤ g30 := by rw [hg_g30]; exact sz_g30
  rw [← hg_g30] at Zs11 ⊢
  clear hg_g30 lZb1
  with_reducible refine wv (.slice (some ⟨g30, 0, none⟩) 1 1) ?_
  try simp only [zP]
  refine wpList_nil ?_
  refine hK29 _ _ ?_
  refine wp_seq_k fun K31 hK31 => ?_
  have O : OwnB z3 w.heap.size (.slice (some ⟨g30, 0, none⟩) 1 1) (C.put [] (T.nz x.kd) 1) := by rw [← put_oneN]; exact ownOne Zs11 rfl hB_g30
  clear Zs11
  refine wp_seq_k fun K32 hK32 => ?_
  refine wp_region_lit ?_
  with_reducible
   refine wv (.pointer (some ⟨g2, 0, none⟩)) ?_
   refine wl (.int .i64 x.kd) ⟨g2, 0, none⟩ (rowCell Zb1 (0) rfl) Tryz.underlying3 ?_
   refine wb (.bool false) (.int .i64 x.kd) (.int .i64 2) 3 (run_leqI (show (decide (x.kd ≤ 2)) = false from by rw [k3]; decide)) ?_
  try simp only [zP]
  refine wpList_nil ?_
  refine hK32 _ _ ?_
  refine wp_cond_false (by kernel_rfl) ?_
  refine wp_skip ?_
  refine hK31 _ _ ?_
  refine wp_seq_k fun K33 hK33 => ?_
  refine wp_seq_k fun K34 hK34 => ?_
  refine wp_region_lit ?_
  with_reducible
   refine wv (.pointer (some ⟨g2, 0, none⟩)) ?_
   refine wl (.int .i64 x.kd) ⟨g2, 0, none⟩ (rowCell Zb1 (0) rfl) Tryz.underlying3 ?_
   refine wb (.bool true) (.int .i64 x.kd) (.int .i64 2) 3 (run_geqI (show (decide (x.kd ≥ 2)) = true from by rw [k3]; decide)) ?_
  try simp only [zP]
  refine wpList_nil ?_
  refine hK34 _ _ ?_
  refine wp_cond_true (by kernel_rfl) ?_
  refine wp_region_lit ?_
  with_reducible
   refine wv (.slice (some ⟨g30, 0, none⟩) 1 1) ?_
   refine wv (.pointer (some ⟨g2, 3, none⟩)) ?_
   refine wl (.int .i64 x.sl) ⟨g2, 3, none⟩ (rowCell Zb1 (3) rfl) Tryz.underlying3 ?_
   try simp only [zP]
   refine wq (.int .u64 ((T.nz x.sl : Int))) (okIntP ((wrapU x.sl) : IntKind.u64.wrap x.sl = (T.nz x.sl : Int)) (by kernel_rfl)) ?_
   try simp only [zP]
   refine wc 36 #[.slice (some ⟨g30, 0, none⟩) 1 1, .int .u64 ((T.nz x.sl : Int)), .int .i64 4] (rp_put O (by have h0_ := put_len2 [] (T.nz x.kd) 1; simp only [List.length_nil] at *; omega) (B := w.heap.size) ee.size (T.nz x.sl) (nz_lt _) 4 (by omega) (by omega)) ?_
  rintro e z4 ⟨r5, rfl, O_, t⟩
  refine ⟨_, rfl, ?_⟩
  clear O
  have Zb1 := hpB Zb1 t
  have ee := ee.trans (t.mono ee.size)
  clear t
  have O := O_
  clear O_
  try simp only [zP]
  with_reducible refine wv (r5) ?_
  try simp only [zP]
  refine wpList_nil ?_
  refine hK33 _ _ ?_
  refine wp_seq_k fun K35 hK35 => ?_
  refine wp_seq_k fun K36 hK36 => ?_
  refine wp_region_lit ?_
  with_reducible
   refine wv (.pointer (some ⟨g2, 0, none⟩)) ?_
   refine wl (.int .i64 x.kd) ⟨g2, 0, none⟩ (rowCell Zb1 (0) rfl) Tryz.underlying3 ?_
   refine wb (.bool false) (.int .i64 x.kd) (.int .i64 2) 3 (run_eqlI (show (decide (x.kd = 2)) = false from by rw [k3]; decide)) ?_
   refine wv (.bool false) ?_
   refine wv (.pointer (some ⟨g2, 0, none⟩)) ?_
   refine wl (.int .i64 x.kd) ⟨g2, 0, none⟩ (rowCell Zb1 (0) rfl) Tryz.underlying3 ?_
   refine wb (.bool true) (.int .i64 x.kd) (.int .i64 3) 3 (run_eqlI (show (decide (x.kd = 3)) = true from by rw [k3]; decide)) ?_
   refine wv (.bool true) ?_
  try simp only [zP]
  refine wpList_nil ?_
  refine hK36 _ _ ?_
  refine wp_cond_true (by kernel_rfl) ?_
  refine wp_region_lit ?_
  with_reducible
   refine wv (r5) ?_
   refine wv (.pointer (some ⟨g2, 4, none⟩)) ?_
   refine wg (g2) (4) (x.c.cells) (rowMid Zb1 (4) (partOf 4 (by kernel_rfl))) Tryz.underlying45 ?_
   try simp only [zP]
   refine wc 37 #[r5, .agg (x.c.cells).toArray] (rp_cmd O (by have h0_ := put_len2 [] (T.nz x.kd) 1; have h1_ := put_len2 (C.put [] (T.nz x.kd) 1) (T.nz x.sl) 4; simp only [List.length_nil] at *; omega) (B := w.heap.size) ee.size x.c ((ok.below ee hB).c.more (Nat.le_trans hB ee.size))) ?_
  rintro e z5 ⟨r6, rfl, O_, t⟩
  refine ⟨_, rfl, ?_⟩
  clear O
  have Zb1 := hpB Zb1 t
  have ee := ee.trans (t.mono ee.size)
  clear t
  have O := O_
  clear O_
  try simp only [zP]
  with_reducible refine wv (r6) ?_
  try simp only [zP]
  refine wpList_nil ?_
  refine hK35 _ _ ?_
  refine wp_seq_k fun K37 hK37 => ?_
  refine wp_seq_k fun K38 hK38 => ?_
  refine wp_region_lit ?_
  with_reducible
   refine wv (.pointer (some ⟨g2, 0, none⟩)) ?_
   refine wl (.int .i64 x.kd) ⟨g2, 0, none⟩ (rowCell Zb1 (0) rfl) Tryz.underlying3 ?_
   refine wb (.bool false) (.int .i64 x.kd) (.int .i64 4) 3 (run_eqlI (show (decide (x.kd = 4)) = false from by rw [k3]; decide)) ?_
  try simp only [zP]
  refine wpList_nil ?_
  refine hK38 _ _ ?_
  refine wp_cond_false (by kernel_rfl) ?_
  refine wp_skip ?_
  refine hK37 _ _ ?_
  refine wp_seq_k fun K39 hK39 => ?_
  refine wp_region_lit ?_
  iterate 2 (with_reducible refine wv (r6) ?_)
  with_reducible refine wv (.int .i64 0) ?_
  try simp only [zP]
  refine wpList_nil ?_
  refine hK39 _ _ ?_
  refine wp_ret ?_
  have hwr : x.wr = (cput (C.put (C.put [] (T.nz x.kd) 1) (T.nz x.sl) 4) x.c) := by unfold T.Rc.wr; simp [k3]
  exact bodyPost_ret (v := .tuple #[r6, .int .i64 0]) (by kernel_rfl) rfl ⟨⟨_, x.wr, 0, rfl, (by rw [hwr]; exact O), by rw [hb5]; rfl, by rw [hb5]; rfl⟩, ee⟩
 ·refine wp_seq_k fun K40 hK40 => ?_
  refine wp_region_lit ?_
  with_reducible
   refine wv (.pointer (some ⟨g2, 0, none⟩)) ?_
   refine wl (.int .i64 x.kd) ⟨g2, 0, none⟩ (rowCell Zb1 (0) rfl) Tryz.underlying3 ?_
   try simp only [zP]
   refine wq (.int .u8 (((UInt8.ofNat (T.nz x.kd)).toNat : Int))) (okIntP ((wrap8nz x.kd) : IntKind.u8.wrap x.kd = ((UInt8.ofNat (T.nz x.kd)).toNat : Int)) (by kernel_rfl)) ?_
   refine ww (.slice (some ⟨z2.heap.size, 0, none⟩) 1 1) (z2.alloc (.cells #[.int .u8 (((UInt8.ofNat (T.nz x.kd)).toNat : Int))] 5)) ?_
  try simp only [zP]
  have sz_g41 := ee.size
  have lZb1 := (Array.getElem?_eq_some_iff.1 Zb1).1
  have sz_ := ee.size
  have Zb1 := hpA Zb1 (.cells #[.int .u8 (((UInt8.ofNat (T.nz x.kd)).toNat : Int))] 5)
  have ee := ee.alloc ee.size (.cells #[.int .u8 (((UInt8.ofNat (T.nz x.kd)).toNat : Int))] 5)
  have Zs11 := hpN z2 (.cells #[.int .u8 (((UInt8.ofNat (T.nz x.kd)).toNat : Int))] 5) rfl
  obtain ⟨z3, hz_⟩ : ∃ z_ : World, z_ = z2.alloc (.cells #[.int .u8 (((UInt8.ofNat (T.nz x.kd)).toNat : Int))] 5) := ⟨_, rfl⟩
  rw [← hz_] at Zb1 Zs11 ee ⊢
  clear hz_
  obtain ⟨g41, hg_g41⟩ : ∃ g_, g_ = z2.heap.size := ⟨_, rfl⟩
  have n_g41_Zb1 : g2 < g41 := by rw [hg_g41]; exact lZb1
  have hB_g41 : w.heap.size ≤ g41 := by rw [hg_g41]; exact sz_g41
  rw [← hg_g41] at Zs11 ⊢
  clear hg_g41 lZb1
  with_reducible refine wv (.slice (some ⟨g41, 0, none⟩) 1 1) ?_
  try simp only [zP]
  refine wpList_nil ?_
  refine hK40 _ _ ?_
  refine wp_seq_k fun K42 hK42 => ?_
  have O : OwnB z3 w.heap.size (.slice (some ⟨g41, 0, none⟩) 1 1) (C.put [] (T.nz x.kd) 1) := by rw [← put_oneN]; exact ownOne Zs11 rfl hB_g41
  clear Zs11
  refine wp_seq_k fun K43 hK43 => ?_
  refine wp_region_lit ?_
  with_reducible
   refine wv (.pointer (some ⟨g2, 0, none⟩)) ?_
   refine wl (.int .i64 x.kd) ⟨g2, 0, none⟩ (rowCell Zb1 (0) rfl) Tryz.underlying3 ?_
   refine wb (.bool false) (.int .i64 x.kd) (.int .i64 2) 3 (run_leqI (show (decide (x.kd ≤ 2)) = false from by rw [k4]; decide)) ?_
  try simp only [zP]
  refine wpList_nil ?_
  refine hK43 _ _ ?_
  refine wp_cond_false (by kernel_rfl) ?_
  refine wp_skip ?_
  refine hK42 _ _ ?_
  refine wp_seq_k fun K44 hK44 => ?_
  refine wp_seq_k fun K45 hK45 => ?_
  refine wp_region_lit ?_
  with_reducible
   refine wv (.pointer (some ⟨g2, 0, none⟩)) ?_
   refine wl (.int .i64 x.kd) ⟨g2, 0, none⟩ (rowCell Zb1 (0) rfl) Tryz.underlying3 ?_
   refine wb (.bool true) (.int .i64 x.kd) (.int .i64 2) 3 (run_geqI (show (decide (x.kd ≥ 2)) = true from by rw [k4]; decide)) ?_
  try simp only [zP]
  refine wpList_nil ?_
  refine hK45 _ _ ?_
  refine wp_cond_true (by kernel_rfl) ?_
  refine wp_region_lit ?_
  with_reducible
   refine wv (.slice (some ⟨g41, 0, none⟩) 1 1) ?_
   refine wv (.pointer (some ⟨g2, 3, none⟩)) ?_
   refine wl (.int .i64 x.sl) ⟨g2, 3, none⟩ (rowCell Zb1 (3) rfl) Tryz.underlying3 ?_
   try simp only [zP]
   refine wq (.int .u64 ((T.nz x.sl : Int))) (okIntP ((wrapU x.sl) : IntKind.u64.wrap x.sl = (T.nz x.sl : Int)) (by kernel_rfl)) ?_
   try simp only [zP]
   refine wc 36 #[.slice (some ⟨g41, 0, none⟩) 1 1, .int .u64 ((T.nz x.sl : Int)), .int .i64 4] (rp_put O (by have h0_ := put_len2 [] (T.nz x.kd) 1; simp only [List.length_nil] at *; omega) (B := w.heap.size) ee.size (T.nz x.sl) (nz_lt _) 4 (by omega) (by omega)) ?_
  rintro e z4 ⟨r7, rfl, O_, t⟩
  refine ⟨_, rfl, ?_⟩
  clear O
  have Zb1 := hpB Zb1 t
  have ee := ee.trans (t.mono ee.size)
  clear t
  have O := O_
  clear O_
  try simp only [zP]
  with_reducible refine wv (r7) ?_
  try simp only [zP]
  refine wpList_nil ?_
  refine hK44 _ _ ?_
  refine wp_seq_k fun K46 hK46 => ?_
  refine wp_seq_k fun K47 hK47 => ?_
  refine wp_region_lit ?_
  with_reducible
   refine wv (.pointer (some ⟨g2, 0, none⟩)) ?_
   refine wl (.int .i64 x.kd) ⟨g2, 0, none⟩ (rowCell Zb1 (0) rfl) Tryz.underlying3 ?_
   refine wb (.bool false) (.int .i64 x.kd) (.int .i64 2) 3 (run_eqlI (show (decide (x.kd = 2)) = false from by rw [k4]; decide)) ?_
   refine wv (.bool false) ?_
   refine wv (.pointer (some ⟨g2, 0, none⟩)) ?_
   refine wl (.int .i64 x.kd) ⟨g2, 0, none⟩ (rowCell Zb1 (0) rfl) Tryz.underlying3 ?_
   refine wb (.bool false) (.int .i64 x.kd) (.int .i64 3) 3 (run_eqlI (show (decide (x.kd = 3)) = false from by rw [k4]; decide)) ?_
   refine wv (.bool false) ?_
  try simp only [zP]
  refine wpList_nil ?_
  refine hK47 _ _ ?_
  refine wp_cond_false (by kernel_rfl) ?_
  refine wp_skip ?_
  refine hK46 _ _ ?_
  refine wp_seq_k fun K48 hK48 => ?_
  refine wp_seq_k fun K49 hK49 => ?_
  refine wp_region_lit ?_
  with_reducible
   refine wv (.pointer (some ⟨g2, 0, none⟩)) ?_
   refine wl (.int .i64 x.kd) ⟨g2, 0, none⟩ (rowCell Zb1 (0) rfl) Tryz.underlying3 ?_
   refine wb (.bool true) (.int .i64 x.kd) (.int .i64 4) 3 (run_eqlI (show (decide (x.kd = 4)) = true from by rw [k4]; decide)) ?_
  try simp only [zP]
  refine wpList_nil ?_
  refine hK49 _ _ ?_
  refine wp_cond_true (by kernel_rfl) ?_
  refine wp_seq_k fun K50 hK50 => ?_
  refine wp_region_lit ?_
  with_reducible
   refine wv (r7) ?_
   refine wv (.pointer (some ⟨g2, 14, none⟩)) ?_
   refine wl (.slice x.D x.dt.length x.dc) ⟨g2, 14, none⟩ (rowCell Zb1 (14) rfl) Tryz.underlying34 ?_
   refine wv (.int .i64 ((x.dt.length : Int))) ?_
   try simp only [zP]
   refine wq (.int .u64 ((x.dt.length : Int))) (okIntP ((wrapOf (by omega)) : IntKind.u64.wrap ((x.dt.length : Int)) = (x.dt.length : Int)) (by kernel_rfl)) ?_
   try simp only [zP]
   refine wc 36 #[r7, .int .u64 ((x.dt.length : Int)), .int .i64 4] (rp_put O (by have h0_ := put_len2 [] (T.nz x.kd) 1; have h1_ := put_len2 (C.put [] (T.nz x.kd) 1) (T.nz x.sl) 4; simp only [List.length_nil] at *; omega) (B := w.heap.size) ee.size (x.dt.length) (by omega) 4 (by omega) (by omega)) ?_
  rintro e z5 ⟨r8, rfl, O_, t⟩
  refine ⟨_, rfl, ?_⟩
  clear O
  have Zb1 := hpB Zb1 t
  have ee := ee.trans (t.mono ee.size)
  clear t
  have O := O_
  clear O_
  try simp only [zP]
  with_reducible refine wv (r8) ?_
  try simp only [zP]
  refine wpList_nil ?_
  refine hK50 _ _ ?_
  refine wp_region_lit ?_
  with_reducible
   refine wv (r8) ?_
   refine wv (.pointer (some ⟨g2, 14, none⟩)) ?_
   refine wl (.slice x.D x.dt.length x.dc) ⟨g2, 14, none⟩ (rowCell Zb1 (14) rfl) Tryz.underlying34 ?_
   try simp only [zP]
   refine wa8 (.tmp 48) (.tmp 50) O (rcData' (ok.below ee hB)) (by have h0_ := put_len2 [] (T.nz x.kd) 1; have h1_ := put_len2 (C.put [] (T.nz x.kd) 1) (T.nz x.sl) 4; have h2_ := put_len2 (C.put (C.put [] (T.nz x.kd) 1) (T.nz x.sl) 4) (x.dt.length) 4; simp only [List.length_nil] at *; omega) (by omega) ee.size ?_
  intro v_ z6 O_ g_
  have Zb1 := heapKind O g_ (by decide) Zb1
  have ee := ee.grown g_ ee.size (fun i_ h_ => by have := (O.lt i_ h_).1; omega)
  clear g_ O
  have O := O_
  clear O_
  obtain ⟨a51, e_a51⟩ : ∃ q_, q_ = v_ := ⟨_, rfl⟩
  subst e_a51
  with_reducible refine wv (a51) ?_
  try simp only [zP]
  refine wpList_nil ?_
  refine hK48 _ _ ?_
  refine wp_seq_k fun K52 hK52 => ?_
  refine wp_region_lit ?_
  iterate 2 (with_reducible refine wv (a51) ?_)
  with_reducible refine wv (.int .i64 0) ?_
  try simp only [zP]
  refine wpList_nil ?_
  refine hK52 _ _ ?_
  refine wp_ret ?_
  have hwr : x.wr = ((C.put (C.put (C.put [] (T.nz x.kd) 1) (T.nz x.sl) 4) (x.dt.length) 4) ++ x.dt) := by unfold T.Rc.wr; simp [k4]
  exact bodyPost_ret (v := .tuple #[a51, .int .i64 0]) (by kernel_rfl) rfl ⟨⟨_, x.wr, 0, rfl, (by rw [hwr]; exact O), by rw [hb5]; rfl, by rw [hb5]; rfl⟩, ee⟩
end Go.Proofs.YtjofjpmhokjhnaaGreatDoor
