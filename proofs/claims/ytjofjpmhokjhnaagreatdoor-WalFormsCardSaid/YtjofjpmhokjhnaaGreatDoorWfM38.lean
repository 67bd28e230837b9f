import Derived.Test.YtjofjpmhokjhnaaGreatDoorWfM13
import Derived.Test.YtjofjpmhokjhnaaGreatDoorWfM32
import Derived.Test.YtjofjpmhokjhnaaGreatDoorWfM36
import Derived.Test.YtjofjpmhokjhnaaGreatDoorWfM37
import Derived.Test.YtjofjpmhokjhnaaGreatDoorWfM9
import Derived.Test.YtjofjpmhokjhnaaGreatDoorWfM6
set_option linter.unusedSimpArgs false
set_option linter.unusedVariables false
namespace Go.Proofs.YtjofjpmhokjhnaaGreatDoor
set_option maxRecDepth 20000
open Go.RowKit T
namespace T
def rrcm (l : List UInt8) : Rc :=
 if rk l = 1 then { Rc.zero with kd := rk l, br := (B.take (C.take 1 (l, false)).2).1.1, bn := ((B.take (C.take 1 (l, false)).2).1.2 : Int) }
 else if rk l = 2 then { Rc.zero with kd := rk l, br := (B.take (C.take 1 (l, false)).2).1.1, bn := ((B.take (C.take 1 (l, false)).2).1.2 : Int), sl := ((C.take 4 (B.take (C.take 1 (l, false)).2).2).1 : Int), c := (rctake (C.take 4 (B.take (C.take 1 (l, false)).2).2).2).1 }
 else if rk l = 3 then { Rc.zero with kd := rk l, sl := ((C.take 4 (C.take 1 (l, false)).2).1 : Int), c := (rctake (C.take 4 (C.take 1 (l, false)).2).2).1 }
 else if rk l = 4 then { Rc.zero with kd := rk l, sl := ((C.take 4 (C.take 1 (l, false)).2).1 : Int), dt := restOf (C.take 4 (C.take 4 (C.take 1 (l, false)).2).2).2 }
 else { Rc.zero with kd := rk l, sl := (if rk l < 2 then 0 else ((C.take 4 (C.take 1 (l, false)).2).1 : Int)) }
def rrcok (l : List UInt8) : Bool := (rrcm l).formed && decide (l = (rrcm l).wr)
end T
def RReadR (l : List UInt8) (e : Ending) (w' : World) : Prop :=
 ∃ n x, e = .returned (.tuple #[.agg n.cells.toArray, .int .i64 x]) ∧ RcOk w' w'.heap.size n ∧ x = (bif rrcok l then 0 else 2) ∧ LikeR n (bif rrcok l then rrcm l else Rc.zero)
theorem rrcok_yes {m : Rc} {l l1 : List UInt8} {x : Int} (lk : LikeR m (rrcm l)) (hx : x = (bif m.formed then 0 else 2)) (hl : l1 = (bif m.formed then m.wr else [])) (h0 : x = 0) (he : l = l1) : rrcok l = true := by
 unfold rrcok
 cases hf : m.formed with
 | false => rw [hf] at hx; simp at hx; omega
 | true => rw [hf] at hl; rw [← lk.formed, ← lk.wr, hf, he, hl]; simp
theorem rrcok_no {m : Rc} {l l1 : List UInt8} {x : Int} (lk : LikeR m (rrcm l)) (hx : x = (bif m.formed then 0 else 2)) (hl : l1 = (bif m.formed then m.wr else [])) (h : ¬ x = 0 ∨ x = 0 ∧ ¬ l = l1) : rrcok l = false := by
 unfold rrcok
 cases hf : m.formed with
 | false => rw [← lk.formed, hf]; rfl
 | true =>
   rw [hf] at hl hx
   simp only [cond_true] at hl hx
   rcases h with h | ⟨_, h⟩
   ·exact absurd hx h
   ·rw [← lk.wr, ← hl]; simp [h]
theorem rrcm_data (l : List UInt8) : (rrcm l).dt.length ≤ l.length := by
 have h1 := take_left 1 (l, false)
 have h2 := take_left 4 (C.take 1 (l, false)).2
 have h3 := take_left 4 (C.take 4 (C.take 1 (l, false)).2).2
 simp only at h1
 unfold rrcm
 split
 ·exact Nat.zero_le _
 split
 ·exact Nat.zero_le _
 split
 ·exact Nat.zero_le _
 split
 ·show (restOf _).length ≤ _
  unfold restOf
  split
  ·exact Nat.zero_le _
  ·omega
 ·exact Nat.zero_le _
theorem refAtCell {z : World} {B g c : Nat} {A : Option Addr} {full : List UInt8} {s : C.St} (h : RefF z B g A c full s) : ∃ at_ : Nat, z.cell? ⟨g, 1, none⟩ = some (.int .i64 (at_ : Int)) ∧ z.cell? ⟨g, 2, none⟩ = some (.bool s.2) ∧ at_ ≤ full.length ∧ s.1 = full.drop at_ := by
 obtain ⟨at_, hb, h1, h2, h3, hr, hB, hl⟩ := h
 have c1 := cellAt hb 1
 have c2 := cellAt hb 2
 exact ⟨at_, by simpa using c1, by simpa using c2, h1, hl⟩
theorem rcOk3 {z : World} {B g a b d : Nat} {m : Ms} (ck : CtN z B g a b d m) (x : Rc) (hc : x.c = m.c) (hb : x.br < 4294967296) (o : SlB z z.heap.size (.slice x.D x.dt.length x.dc) x.dt) : RcOk z z.heap.size x := by
 obtain ⟨A, c, e1, e2, e3, e4, e5⟩ := o
 injection e1 with e6 e7 e8
 subst e6; subst e8
 exact ⟨by rw [hc]; exact ck z (fun i hB hi _ _ _ _ => rfl), e5, e2, e3, e4, hb⟩
theorem exec_slice_lf {a : Act} {o : Oper} {w : World} (x lo : Operand) {A : Option Addr} {len cap k : Nat} (ho : o.op = .slice 34 x (some lo) none none) (hx : a.eval x = .slice A len cap) (hh : a.eval lo = .int .i64 (k : Int)) (h2 : k ≤ len) :
 (execOp a.eval o).run Tryz.prog w = .ok (.value (.slice (if cap = k then A else A.map (·.add k)) (len - k) (cap - k))) w := exec_slice_l x lo ho hx hh h2
theorem rbtake_w (B0 g : Nat) (s : C.St) (w : World) (h : RefAt w B0 g s) : Calls Tryz.prog 45 #[.pointer (some ⟨g, 0, none⟩)] w fun e w' => e = .returned (.agg [.int .u32 ((B.take s).1.1 : Int), .int .i64 ((B.take s).1.2 : Int)].toArray) ∧ RefAt w' B0 g (B.take s).2 ∧ w.grownBy w' (some g) := rbtake_any B0 g s w h
theorem SlB.rdOf {w : World} {B c : Nat} {A : Option Addr} {l : List UInt8} (h : SlB w B (.slice A l.length c) l) : Rd w B A (bc l) := by
 obtain ⟨A', c', e, _, _, _, r⟩ := h
 injection e with e1 e2 e3
 subst e1
 exact r
set_option maxHeartbeats 25600000 in
theorem rwread_any (A : Option Addr) (cp : Nat) (l : List UInt8) (w : World) (hb : SlB w w.heap.size (.slice A l.length cp) l) (hl : l.length ≤ 100000000) (hlc : l.length ≤ cp) :
 Calls Tryz.prog 12 #[.slice A l.length cp] w fun e w' => RReadR l e w' ∧ Below w.heap.size w w' := by
 have ee : Below w.heap.size w w := Below.refl _ _
 go_enter Tryz.func12, Tryz.ntmps12
 refine wp_seq_k fun K1 hK1 => ?_
 refine wp_region_lit ?_
 with_reducible refine ww (.pointer (some ⟨w.heap.size, 0, none⟩)) (w.alloc (.cells #[.int .i64 0, .int .u32 0, .int .i64 0, .int .i64 0, .int .i64 0, .int .i64 0, .int .i64 0, .slice none 0 0, .slice none 0 0, .int .i64 0, .int .i64 0, .int .i64 0, .int .u64 0, .bool false, .slice none 0 0] 47)) ?_
 try simp only [zP]
 have sz_g2 := ee.size
 have sz_ := ee.size
 have ee := ee.alloc ee.size (.cells #[.int .i64 0, .int .u32 0, .int .i64 0, .int .i64 0, .int .i64 0, .int .i64 0, .int .i64 0, .slice none 0 0, .slice none 0 0, .int .i64 0, .int .i64 0, .int .i64 0, .int .u64 0, .bool false, .slice none 0 0] 47)
 have Zv2 := hpN w (.cells #[.int .i64 0, .int .u32 0, .int .i64 0, .int .i64 0, .int .i64 0, .int .i64 0, .int .i64 0, .slice none 0 0, .slice none 0 0, .int .i64 0, .int .i64 0, .int .i64 0, .int .u64 0, .bool false, .slice none 0 0] 47) rfl
 obtain ⟨z1, hz_⟩ : ∃ z_ : World, z_ = w.alloc (.cells #[.int .i64 0, .int .u32 0, .int .i64 0, .int .i64 0, .int .i64 0, .int .i64 0, .int .i64 0, .slice none 0 0, .slice none 0 0, .int .i64 0, .int .i64 0, .int .i64 0, .int .u64 0, .bool false, .slice none 0 0] 47) := ⟨_, rfl⟩
 rw [← hz_] at Zv2 ee ⊢
 clear hz_
 obtain ⟨g2, hg_g2⟩ : ∃ g_, g_ = w.heap.size := ⟨_, rfl⟩
 have hB_g2 : w.heap.size ≤ g2 := by rw [hg_g2]; exact sz_g2
 rw [← hg_g2] at Zv2 ⊢
 clear hg_g2
 with_reducible refine wv (.int .i64 0) ?_
 try simp only [zP]
 refine wpList_nil ?_
 refine hK1 _ _ ?_
 refine wp_seq_k fun K3 hK3 => ?_
 refine wp_region_lit ?_
 with_reducible
  refine wv (.slice A l.length cp) ?_
  refine wv (.agg ([.slice A l.length cp, .int .i64 0, .bool false]).toArray) ?_
  refine ww (.pointer (some ⟨z1.heap.size, 0, none⟩)) (z1.alloc (.cells ([.slice A l.length cp, .int .i64 0, .bool false]).toArray 104)) ?_
 try simp only [zP]
 have sz_g4 := ee.size
 have lZv2 := (Array.getElem?_eq_some_iff.1 Zv2).1
 have sz_ := ee.size
 have Zv2 := hpA Zv2 (.cells ([.slice A l.length cp, .int .i64 0, .bool false]).toArray 104)
 have ee := ee.alloc ee.size (.cells ([.slice A l.length cp, .int .i64 0, .bool false]).toArray 104)
 have Zb10 := hpN z1 (.cells ([.slice A l.length cp, .int .i64 0, .bool false]).toArray 104) rfl
 obtain ⟨z2, hz_⟩ : ∃ z_ : World, z_ = z1.alloc (.cells ([.slice A l.length cp, .int .i64 0, .bool false]).toArray 104) := ⟨_, rfl⟩
 rw [← hz_] at Zv2 Zb10 ee ⊢
 clear hz_
 obtain ⟨g4, hg_g4⟩ : ∃ g_, g_ = z1.heap.size := ⟨_, rfl⟩
 have n_g4_Zv2 : g2 < g4 := by rw [hg_g4]; exact lZv2
 have hB_g4 : w.heap.size ≤ g4 := by rw [hg_g4]; exact sz_g4
 rw [← hg_g4] at Zb10 ⊢
 clear hg_g4 lZv2
 with_reducible refine wv (.pointer (some ⟨g4, 0, none⟩)) ?_
 try simp only [zP]
 refine wpList_nil ?_
 refine hK3 _ _ ?_
 have rr : RefF z2 w.heap.size g4 A cp l (l, false) := RefF.new Zb10 (Nat.le_trans hl (by decide)) hlc ((hb.belowM ee (Nat.le_refl _)).rdOf) hB_g4
 clear Zb10
 have hgB : w.heap.size ≤ g4 := hB_g4
 refine wp_seq_k fun K5 hK5 => ?_
 refine wp_region_lit ?_
 with_reducible
  refine wv (.pointer (some ⟨g4, 0, none⟩)) ?_
  try simp only [zP]
  refine wc 44 #[.pointer (some ⟨g4, 0, none⟩), .int .i64 1] (rtakeF_any A cp l w.heap.size g4 1 (l, false) z2 rr) ?_
 rintro e z3 ⟨rfl, rr_, g_⟩
 refine ⟨_, rfl, ?_⟩
 have Zv2 := heapG Zv2 g_ (by omega)
 have ee := ee.grown g_ ee.size (fun i_ h_ => by injection h_ with h_; omega)
 clear rr g_
 have rr := rr_
 clear rr_
 try simp only [zP]
 with_reducible
  refine wq (.int .i64 ((rk l))) (okIntP ((w1k l) : IntKind.i64.wrap (((C.take 1 (l, false)).1 : Int)) = (rk l)) (by kernel_rfl)) ?_
  refine wv (.agg (({ Rc.zero with kd := rk l } : Rc).cells).toArray) ?_
  refine ww (.pointer (some ⟨z3.heap.size, 0, none⟩)) (z3.alloc (.cells #[.int .i64 0, .int .u32 0, .int .i64 0, .int .i64 0, .int .i64 0, .int .i64 0, .int .i64 0, .slice none 0 0, .slice none 0 0, .int .i64 0, .int .i64 0, .int .i64 0, .int .u64 0, .bool false, .slice none 0 0] 47)) ?_
 try simp only [zP]
 have sz_g6 := ee.size
 have lrr := rr.lt.1
 have rr := RefF.alloc rr (.cells #[.int .i64 0, .int .u32 0, .int .i64 0, .int .i64 0, .int .i64 0, .int .i64 0, .int .i64 0, .slice none 0 0, .slice none 0 0, .int .i64 0, .int .i64 0, .int .i64 0, .int .u64 0, .bool false, .slice none 0 0] 47)
 have lZv2 := (Array.getElem?_eq_some_iff.1 Zv2).1
 have sz_ := ee.size
 have Zv2 := hpA Zv2 (.cells #[.int .i64 0, .int .u32 0, .int .i64 0, .int .i64 0, .int .i64 0, .int .i64 0, .int .i64 0, .slice none 0 0, .slice none 0 0, .int .i64 0, .int .i64 0, .int .i64 0, .int .u64 0, .bool false, .slice none 0 0] 47)
 have ee := ee.alloc ee.size (.cells #[.int .i64 0, .int .u32 0, .int .i64 0, .int .i64 0, .int .i64 0, .int .i64 0, .int .i64 0, .slice none 0 0, .slice none 0 0, .int .i64 0, .int .i64 0, .int .i64 0, .int .u64 0, .bool false, .slice none 0 0] 47)
 have Zv5 := hpN z3 (.cells #[.int .i64 0, .int .u32 0, .int .i64 0, .int .i64 0, .int .i64 0, .int .i64 0, .int .i64 0, .slice none 0 0, .slice none 0 0, .int .i64 0, .int .i64 0, .int .i64 0, .int .u64 0, .bool false, .slice none 0 0] 47) rfl
 obtain ⟨z4, hz_⟩ : ∃ z_ : World, z_ = z3.alloc (.cells #[.int .i64 0, .int .u32 0, .int .i64 0, .int .i64 0, .int .i64 0, .int .i64 0, .int .i64 0, .slice none 0 0, .slice none 0 0, .int .i64 0, .int .i64 0, .int .i64 0, .int .u64 0, .bool false, .slice none 0 0] 47) := ⟨_, rfl⟩
 rw [← hz_] at Zv2 Zv5 ee rr ⊢
 clear hz_
 obtain ⟨g6, hg_g6⟩ : ∃ g_, g_ = z3.heap.size := ⟨_, rfl⟩
 have n_g6_Zv2 : g2 < g6 := by rw [hg_g6]; exact lZv2
 have n_g6_rr : g4 < g6 := by rw [hg_g6]; exact lrr
 clear lrr
 have hB_g6 : w.heap.size ≤ g6 := by rw [hg_g6]; exact sz_g6
 rw [← hg_g6] at Zv5 ⊢
 clear hg_g6 lZv2
 refine wpList_store_row rfl 47 _ _ rfl (g6) (({ Rc.zero with kd := rk l } : Rc).cells).toArray rfl rfl 47 _ Zv5 sizeRr (by rfl) (Rc.one _) ?_
 have rr := RefF.row (k := g6) (cs := (({ Rc.zero with kd := rk l } : Rc).cells).toArray) rr (by omega) (by omega)
 have N_ := setRow_heap z4 (g6) _ (({ Rc.zero with kd := rk l } : Rc).cells).toArray _ _ Zv5
 have ee := belowSet (cs := (({ Rc.zero with kd := rk l } : Rc).cells).toArray) ee Zv5 (by omega)
 have Zv2 := hpR Zv2 (g' := g6) (by omega) (({ Rc.zero with kd := rk l } : Rc).cells).toArray
 clear Zv5
 have Zv5 := N_
 clear N_
 obtain ⟨z5, hz_⟩ : ∃ z_ : World, z_ = z4.setRow (g6) (({ Rc.zero with kd := rk l } : Rc).cells).toArray := ⟨_, rfl⟩
 rw [← hz_] at Zv2 Zv5 ee rr ⊢
 clear hz_
 try simp only [zP]
 refine wpList_nil ?_
 refine hK5 _ _ ?_
 refine wp_tail 4 fun K7 hK7 gK7 => ?_
 have hjK7 : ∀ (u15 u16 u17 u18 u19 u20 u21 u22 u23 u24 u25 u26 u27 u28 u29 u30 u31 u32 u33 u34 u35 u36 u37 u38 u39 u40 u41 u42 u43 u44 u45 u46 u47 u48 u49 u50 u51 u52 u53 u54 u55 u56 u57 u58 u59 u60 : Value) (m : Rc) (q : Ms) (zj7 : World), zj7.heap[g2]? = some (.cells #[.int .i64 0, .int .u32 0, .int .i64 0, .int .i64 0, .int .i64 0, .int .i64 0, .int .i64 0, .slice none 0 0, .slice none 0 0, .int .i64 0, .int .i64 0, .int .i64 0, .int .u64 0, .bool false, .slice none 0 0] 47 (0, 0)) → zj7.heap[g6]? = some (.cells (m.cells).toArray 47 (0, 0)) → Below w.heap.size w zj7 → CtN zj7 w.heap.size g4 g6 g2 g2 q → m.c = q.c → m.br < 4294967296 → SlB w w.heap.size (.slice m.D m.dt.length m.dc) m.dt → LikeR m (rrcm l) → K7 ⟨#[.slice A l.length cp, undef, .pointer (some ⟨g2, 0, none⟩), .int .i64 0, .pointer (some ⟨g4, 0, none⟩), .pointer (some ⟨g6, 0, none⟩), undef, undef, .slice A l.length cp, .agg ([.slice A l.length cp, .int .i64 0, .bool false]).toArray, .pointer (some ⟨g4, 0, none⟩), .pointer (some ⟨g4, 0, none⟩), .int .u64 (((C.take 1 (l, false)).1 : Int)), .int .i64 ((rk l)), .agg (({ Rc.zero with kd := rk l } : Rc).cells).toArray, u15, u16, u17, u18, u19, u20, u21, u22, u23, u24, u25, u26, u27, u28, u29, u30, u31, u32, u33, u34, u35, u36, u37, u38, u39, u40, u41, u42, u43, u44, u45, u46, u47, u48, u49, u50, u51, u52, u53, u54, u55, u56, u57, u58, u59, u60, undef, undef, undef, undef, undef, undef, undef, undef, undef, undef, undef, undef, undef, undef, undef], []⟩ zj7 := by
  clear Zv2 Zv5 ee
  intro u15 u16 u17 u18 u19 u20 u21 u22 u23 u24 u25 u26 u27 u28 u29 u30 u31 u32 u33 u34 u35 u36 u37 u38 u39 u40 u41 u42 u43 u44 u45 u46 u47 u48 u49 u50 u51 u52 u53 u54 u55 u56 u57 u58 u59 u60 m q zj7 Zv2 Zv5 ee ck hmc hmb hmd lk
  refine hK7 _ _ ?_
  refine wp_seq_k fun K9 hK9 => ?_
  refine wp_region_lit ?_
  with_reducible refine wg (g6) (0) (m.cells) (rowAt Zv5) Tryz.underlying47 ?_
  try simp only [zP]
  have okr : RcOk zj7 zj7.heap.size m := rcOk3 ck m hmc hmb ((hmd.belowM ee (Nat.le_refl _)).more ee.size)
  have hdt : (m).dt.length ≤ 100000000 := by rw [lk.dt]; exact Nat.le_trans (rrcm_data l) hl
  with_reducible refine wc 9 #[.agg (m.cells).toArray] (rwwrite_any m zj7 zj7.heap.size (Nat.le_refl _) okr hdt) ?_
  rintro e z6 ⟨⟨v1, l1, x1, rfl, O1, hx1, hl1⟩, t⟩
  refine ⟨_, rfl, ?_⟩
  have ck := ck.below t
  have Zv2 := hpB Zv2 t
  have Zv5 := hpB Zv5 t
  have ee := ee.trans (t.mono ee.size)
  clear t
  try simp only [zP]
  with_reducible
   refine wv (.tuple #[v1, .int .i64 x1]) ?_
   iterate 2 ((refine wv (v1) ?_);(refine wv (.int .i64 x1) ?_))
  try simp only [zP]
  refine wpList_nil ?_
  refine hK9 _ _ ?_
  refine wp_seq_k fun K10 hK10 => ?_
  have hl1b : l1.length ≤ 1099511627776 := by
   rw [hl1]
   cases hf : (m).formed with
   | false => simp
   | true => rw [cond_true]; exact Nat.le_trans (rcwr_len hf).2 (by decide)
  refine wp_seq_k fun K11 hK11 => ?_
  refine wp_region_lit ?_
  with_reducible refine wv (.int .i64 x1) ?_
  try simp only [zP]
  obtain ⟨b12, hb12⟩ : ∃ d_ : Bool, (decide (x1 = 0)) = d_ := ⟨_, rfl⟩
  cases b12
  ·have pb12 : ¬ (x1 = 0) := of_decide_eq_false hb12
   with_reducible
    refine wb (.bool true) (.int .i64 x1) (.int .i64 0) 40 (run_neqI hb12) ?_
    refine wv (.bool true) ?_
   iterate 4 (with_reducible refine wk ?_)
   with_reducible refine wv (.bool true) ?_
   try simp only [zP]
   refine wpList_nil ?_
   refine hK11 _ _ ?_
   refine wp_cond_true (by kernel_rfl) ?_
   refine wp_seq_k fun K13 hK13 => ?_
   refine wp_region_lit ?_
   with_reducible refine wv (.agg (Rc.zero.cells).toArray) ?_
   try simp only [zP]
   refine wpList_store_row rfl 47 _ _ rfl (g2) (Rc.zero.cells).toArray rfl rfl 47 _ Zv2 sizeRr (by rfl) (Rc.one _) ?_
   have ck := ck.rowB (Rc.zero.cells).toArray
   have N_ := setRow_heap z6 (g2) _ (Rc.zero.cells).toArray _ _ Zv2
   have O1 := ogOwnR (cs := (Rc.zero.cells).toArray) O1 (ogKind O1 Zv2 (by decide))
   have ee := belowSet (cs := (Rc.zero.cells).toArray) ee Zv2 (by omega)
   have Zv5 := hpR Zv5 (g' := g2) (by omega) (Rc.zero.cells).toArray
   clear Zv2
   have Zv2 := N_
   clear N_
   obtain ⟨z7, hz_⟩ : ∃ z_ : World, z_ = z6.setRow (g2) (Rc.zero.cells).toArray := ⟨_, rfl⟩
   rw [← hz_] at Zv2 Zv5 O1 ee ck ⊢
   clear hz_
   try simp only [zP]
   with_reducible refine wv (.int .i64 2) ?_
   try simp only [zP]
   refine wpList_nil ?_
   refine hK13 _ _ ?_
   refine wp_ret ?_
   refine then_ret ?_
   have hok : rrcok l = false := rrcok_no lk hx1 hl1 (Or.inl (of_decide_eq_false hb12))
   exact bodyPost_ret (v := .tuple #[.agg ((Rc.zero.cells)).toArray, .int .i64 2]) (res_ct rfl (by kernel_rfl) (by kernel_rfl) Zv2 Tryz.underlying47 rfl sizeRr) rfl ⟨⟨Rc.zero, 2, rfl, rcZero, by rw [hok]; rfl, by rw [hok]; exact LikeR.refl _⟩, ee⟩
  have pb12 : x1 = 0 := of_decide_eq_true hb12
  have eb12 : x1 = 0 := of_decide_eq_true hb12
  with_reducible
   refine wb (.bool false) (.int .i64 x1) (.int .i64 0) 40 (run_neqI hb12) ?_
   refine wv (.bool false) ?_
   refine wv (.slice A l.length cp) ?_
   refine wv (v1) ?_
   try simp only [zP]
   refine wc 17 #[.slice A l.length cp, v1] (samed_s (hb.belowM ee (Nat.le_refl _)) (SlB.ofOwn O1) (by omega) hl1b) ?_
  rintro e z7 ⟨rfl, t⟩
  refine ⟨_, rfl, ?_⟩
  have ck := ck.below t
  have Zv2 := hpB Zv2 t
  have Zv5 := hpB Zv5 t
  have O1 := ownBelow O1 t
  have ee := ee.trans (t.mono ee.size)
  clear t
  generalize hb14 : decide (l = l1) = b14
  try simp only [zP]
  cases b14
  ·with_reducible refine wv (.bool true) ?_
   try simp only [zP]
   with_reducible refine wv (.bool true) ?_
   try simp only [zP]
   refine wpList_nil ?_
   refine hK11 _ _ ?_
   refine wp_cond_true (by kernel_rfl) ?_
   refine wp_seq_k fun K15 hK15 => ?_
   refine wp_region_lit ?_
   with_reducible refine wv (.agg (Rc.zero.cells).toArray) ?_
   try simp only [zP]
   refine wpList_store_row rfl 47 _ _ rfl (g2) (Rc.zero.cells).toArray rfl rfl 47 _ Zv2 sizeRr (by rfl) (Rc.one _) ?_
   have ck := ck.rowB (Rc.zero.cells).toArray
   have N_ := setRow_heap z7 (g2) _ (Rc.zero.cells).toArray _ _ Zv2
   have O1 := ogOwnR (cs := (Rc.zero.cells).toArray) O1 (ogKind O1 Zv2 (by decide))
   have ee := belowSet (cs := (Rc.zero.cells).toArray) ee Zv2 (by omega)
   have Zv5 := hpR Zv5 (g' := g2) (by omega) (Rc.zero.cells).toArray
   clear Zv2
   have Zv2 := N_
   clear N_
   obtain ⟨z8, hz_⟩ : ∃ z_ : World, z_ = z7.setRow (g2) (Rc.zero.cells).toArray := ⟨_, rfl⟩
   rw [← hz_] at Zv2 Zv5 O1 ee ck ⊢
   clear hz_
   try simp only [zP]
   with_reducible refine wv (.int .i64 2) ?_
   try simp only [zP]
   refine wpList_nil ?_
   refine hK15 _ _ ?_
   refine wp_ret ?_
   refine then_ret ?_
   have hok : rrcok l = false := rrcok_no lk hx1 hl1 (Or.inr ⟨of_decide_eq_true hb12, of_decide_eq_false hb14⟩)
   exact bodyPost_ret (v := .tuple #[.agg ((Rc.zero.cells)).toArray, .int .i64 2]) (res_ct rfl (by kernel_rfl) (by kernel_rfl) Zv2 Tryz.underlying47 rfl sizeRr) rfl ⟨⟨Rc.zero, 2, rfl, rcZero, by rw [hok]; rfl, by rw [hok]; exact LikeR.refl _⟩, ee⟩
  iterate 2 (with_reducible refine wv (.bool false) ?_)
  try simp only [zP]
  refine wpList_nil ?_
  refine hK11 _ _ ?_
  refine wp_cond_false (by kernel_rfl) ?_
  refine wp_skip ?_
  refine hK10 _ _ ?_
  refine wp_seq_k fun K16 hK16 => ?_
  refine wp_region_lit ?_
  with_reducible refine wg (g6) (0) (m.cells) (rowAt Zv5) Tryz.underlying47 ?_
  try simp only [zP]
  refine wpList_store_row rfl 47 _ _ rfl (g2) (m.cells).toArray rfl rfl 47 _ Zv2 sizeRr (by rfl) (Rc.one _) ?_
  have ck := ck.rowB (m.cells).toArray
  have N_ := setRow_heap z7 (g2) _ (m.cells).toArray _ _ Zv2
  have O1 := ogOwnR (cs := (m.cells).toArray) O1 (ogKind O1 Zv2 (by decide))
  have ee := belowSet (cs := (m.cells).toArray) ee Zv2 (by omega)
  have Zv5 := hpR Zv5 (g' := g2) (by omega) (m.cells).toArray
  clear Zv2
  have Zv2 := N_
  clear N_
  obtain ⟨z8, hz_⟩ : ∃ z_ : World, z_ = z7.setRow (g2) (m.cells).toArray := ⟨_, rfl⟩
  rw [← hz_] at Zv2 Zv5 O1 ee ck ⊢
  clear hz_
  try simp only [zP]
  with_reducible refine wv (.int .i64 0) ?_
  try simp only [zP]
  refine wpList_nil ?_
  refine hK16 _ _ ?_
  refine wp_ret ?_
  have hok : rrcok l = true := rrcok_yes lk hx1 hl1 (of_decide_eq_true hb12) (of_decide_eq_true hb14)
  exact bodyPost_ret (v := .tuple #[.agg ((m.cells)).toArray, .int .i64 0]) (res_ct rfl (by kernel_rfl) (by kernel_rfl) Zv2 Tryz.underlying47 rfl sizeRr) rfl ⟨⟨m, 0, rfl, (rcOk3 ck m hmc hmb ((hmd.belowM ee (Nat.le_refl _)).more ee.size)), by rw [hok]; rfl, by rw [hok]; exact lk⟩, ee⟩
 refine wp_seq_k fun K17 hK17 => ?_
 by_cases q1 : rk l = 1
 ·have ck := CtN.zero z5 w.heap.size g4 g6 g2 g2 0
  refine wp_seq_k fun K18 hK18 => ?_
  refine wp_region_lit ?_
  with_reducible
   refine wv (.pointer (some ⟨g6, 0, none⟩)) ?_
   refine wl (.int .i64 ((rk l))) ⟨g6, 0, none⟩ (rowCell Zv5 (0) rfl) Tryz.underlying3 ?_
   refine wb (.bool true) (.int .i64 ((rk l))) (.int .i64 1) 3 (run_eqlI (show (decide ((rk l) = 1)) = true from by rw [q1]; decide)) ?_
   refine wv (.bool true) ?_
  iterate 3 (with_reducible refine wk ?_)
  with_reducible refine wv (.bool true) ?_
  try simp only [zP]
  refine wpList_nil ?_
  refine hK18 _ _ ?_
  refine wp_cond_true (by kernel_rfl) ?_
  refine wp_region_lit ?_
  with_reducible refine wv (.pointer (some ⟨g4, 0, none⟩)) ?_
  try simp only [zP]
  have rr := rr.ref
  with_reducible refine wc 45 #[.pointer (some ⟨g4, 0, none⟩)] (rbtake_w w.heap.size g4 (C.take 1 (l, false)).2 z5 rr) ?_
  rintro e z6 ⟨rfl, rr_, g_⟩
  refine ⟨_, rfl, ?_⟩
  have Zv2 := heapG Zv2 g_ (by omega)
  have Zv5 := heapG Zv5 g_ (by omega)
  have ee := ee.grown g_ ee.size (fun i_ h_ => by injection h_ with h_; omega)
  have ck := ck.rdr g_
  clear rr g_
  have rr := rr_
  clear rr_
  try simp only [zP]
  with_reducible refine wv (.pointer (some ⟨g6, 1, none⟩)) ?_
  try simp only [zP]
  refine wpList_storeC 44 (g6) (1) (.agg ([.int .u32 ((B.take (C.take 1 (l, false)).2).1.1 : Int), .int .i64 ((B.take (C.take 1 (l, false)).2).1.2 : Int)]).toArray) ([.int .u32 ((B.take (C.take 1 (l, false)).2).1.1 : Int), .int .i64 ((B.take (C.take 1 (l, false)).2).1.2 : Int)]) (rowThere Zv5 (Nat.le_of_ble_eq_true (by kernel_rfl))) (by kernel_rfl) sizeBr (allOf (by kernel_rfl)) _ _ (by kernel_rfl) rfl (by kernel_rfl) (by kernel_rfl) ?_
  have rr := RefAt.setN (k := g6) (by omega) (by omega) ([.int .u32 ((B.take (C.take 1 (l, false)).2).1.1 : Int), .int .i64 ((B.take (C.take 1 (l, false)).2).1.2 : Int)]) (1) z6 rr
  have ck := ck.cells ([.int .u32 ((B.take (C.take 1 (l, false)).2).1.1 : Int), .int .i64 ((B.take (C.take 1 (l, false)).2).1.2 : Int)]) (1)
  have N_ : (z6.setCells (g6) (1) ([.int .u32 ((B.take (C.take 1 (l, false)).2).1.1 : Int), .int .i64 ((B.take (C.take 1 (l, false)).2).1.2 : Int)])).heap[g6]? = some (.cells (({ Rc.zero with kd := rk l, br := (B.take (C.take 1 (l, false)).2).1.1, bn := ((B.take (C.take 1 (l, false)).2).1.2 : Int) } : Rc).cells).toArray 47) := hpC ([.int .u32 ((B.take (C.take 1 (l, false)).2).1.1 : Int), .int .i64 ((B.take (C.take 1 (l, false)).2).1.2 : Int)]) (1) _ z6 Zv5
  have ee := belowC (g := g6) (by omega) ([.int .u32 ((B.take (C.take 1 (l, false)).2).1.1 : Int), .int .i64 ((B.take (C.take 1 (l, false)).2).1.2 : Int)]) (1) z6 ee
  have Zv2 := hpCo (g' := g6) (by omega) ([.int .u32 ((B.take (C.take 1 (l, false)).2).1.1 : Int), .int .i64 ((B.take (C.take 1 (l, false)).2).1.2 : Int)]) (1) z6 Zv2
  clear Zv5
  have Zv5 := N_
  clear N_
  skip
  obtain ⟨z7, hz_⟩ : ∃ z_ : World, z_ = z6.setCells (g6) (1) ([.int .u32 ((B.take (C.take 1 (l, false)).2).1.1 : Int), .int .i64 ((B.take (C.take 1 (l, false)).2).1.2 : Int)]) := ⟨_, rfl⟩
  rw [← hz_] at Zv2 Zv5 ee rr ck ⊢
  clear hz_
  try simp only [zP]
  refine wpList_nil ?_
  refine hK17 _ _ ?_
  refine wp_seq_k fun K19 hK19 => ?_
  refine wp_seq_k fun K20 hK20 => ?_
  refine wp_region_lit ?_
  with_reducible
   refine wv (.pointer (some ⟨g6, 0, none⟩)) ?_
   refine wl (.int .i64 ((rk l))) ⟨g6, 0, none⟩ (rowCell Zv5 (0) rfl) Tryz.underlying3 ?_
   refine wb (.bool false) (.int .i64 ((rk l))) (.int .i64 2) 3 (run_geqI (show (decide ((rk l) ≥ 2)) = false from by rw [q1]; decide)) ?_
  try simp only [zP]
  refine wpList_nil ?_
  refine hK20 _ _ ?_
  refine wp_cond_false (by kernel_rfl) ?_
  refine wp_skip ?_
  refine hK19 _ _ ?_
  refine wp_seq_k fun K21 hK21 => ?_
  refine wp_seq_k fun K22 hK22 => ?_
  refine wp_region_lit ?_
  with_reducible
   refine wv (.pointer (some ⟨g6, 0, none⟩)) ?_
   refine wl (.int .i64 ((rk l))) ⟨g6, 0, none⟩ (rowCell Zv5 (0) rfl) Tryz.underlying3 ?_
   refine wb (.bool false) (.int .i64 ((rk l))) (.int .i64 2) 3 (run_eqlI (show (decide ((rk l) = 2)) = false from by rw [q1]; decide)) ?_
   refine wv (.bool false) ?_
   refine wv (.pointer (some ⟨g6, 0, none⟩)) ?_
   refine wl (.int .i64 ((rk l))) ⟨g6, 0, none⟩ (rowCell Zv5 (0) rfl) Tryz.underlying3 ?_
   refine wb (.bool false) (.int .i64 ((rk l))) (.int .i64 3) 3 (run_eqlI (show (decide ((rk l) = 3)) = false from by rw [q1]; decide)) ?_
   refine wv (.bool false) ?_
  try simp only [zP]
  refine wpList_nil ?_
  refine hK22 _ _ ?_
  refine wp_cond_false (by kernel_rfl) ?_
  refine wp_skip ?_
  refine hK21 _ _ ?_
  refine wp_seq_k fun K23 hK23 => ?_
  refine wp_seq_k fun K24 hK24 => ?_
  refine wp_region_lit ?_
  with_reducible
   refine wv (.pointer (some ⟨g6, 0, none⟩)) ?_
   refine wl (.int .i64 ((rk l))) ⟨g6, 0, none⟩ (rowCell Zv5 (0) rfl) Tryz.underlying3 ?_
   refine wb (.bool false) (.int .i64 ((rk l))) (.int .i64 4) 3 (run_eqlI (show (decide ((rk l) = 4)) = false from by rw [q1]; decide)) ?_
  try simp only [zP]
  refine wpList_nil ?_
  refine hK24 _ _ ?_
  refine wp_cond_false (by kernel_rfl) ?_
  refine wp_skip ?_
  refine hK23 _ _ ?_
  have lk : LikeR ({ Rc.zero with kd := rk l, br := (B.take (C.take 1 (l, false)).2).1.1, bn := ((B.take (C.take 1 (l, false)).2).1.2 : Int) } : Rc) (rrcm l) := by
   unfold T.rrcm
   rw [if_pos (by omega : rk l = 1)]
   exact { kd := rfl, br := rfl, bn := rfl, sl := rfl, c := SameC_self _, dt := rfl }
  refine gK7 _ _ ?_
  exact hjK7 _ _ _ _ _ _ _ _ _ _ _ _ _ _ _ _ _ _ _ _ _ _ _ _ _ _ _ _ _ _ _ _ _ _ _ _ _ _ _ _ _ _ _ _ _ _ ({ Rc.zero with kd := rk l, br := (B.take (C.take 1 (l, false)).2).1.1, bn := ((B.take (C.take 1 (l, false)).2).1.2 : Int) } : Rc) _ _ Zv2 Zv5 ee ck rfl (btake_lt _).1 SlB.nil lk
 by_cases q2 : rk l = 2
 ·have ck := CtN.zero z5 w.heap.size g4 g6 g2 g2 0
  refine wp_seq_k fun K25 hK25 => ?_
  refine wp_region_lit ?_
  with_reducible
   refine wv (.pointer (some ⟨g6, 0, none⟩)) ?_
   refine wl (.int .i64 ((rk l))) ⟨g6, 0, none⟩ (rowCell Zv5 (0) rfl) Tryz.underlying3 ?_
   refine wb (.bool false) (.int .i64 ((rk l))) (.int .i64 1) 3 (run_eqlI (show (decide ((rk l) = 1)) = false from by rw [q2]; decide)) ?_
   refine wv (.bool false) ?_
   refine wv (.pointer (some ⟨g6, 0, none⟩)) ?_
   refine wl (.int .i64 ((rk l))) ⟨g6, 0, none⟩ (rowCell Zv5 (0) rfl) Tryz.underlying3 ?_
   refine wb (.bool true) (.int .i64 ((rk l))) (.int .i64 2) 3 (run_eqlI (show (decide ((rk l) = 2)) = true from by rw [q2]; decide)) ?_
   refine wv (.bool true) ?_
  try simp only [zP]
  refine wpList_nil ?_
  refine hK25 _ _ ?_
  refine wp_cond_true (by kernel_rfl) ?_
  refine wp_region_lit ?_
  with_reducible refine wv (.pointer (some ⟨g4, 0, none⟩)) ?_
  try simp only [zP]
  have rr := rr.ref
  with_reducible refine wc 45 #[.pointer (some ⟨g4, 0, none⟩)] (rbtake_w w.heap.size g4 (C.take 1 (l, false)).2 z5 rr) ?_
  rintro e z6 ⟨rfl, rr_, g_⟩
  refine ⟨_, rfl, ?_⟩
  have Zv2 := heapG Zv2 g_ (by omega)
  have Zv5 := heapG Zv5 g_ (by omega)
  have ee := ee.grown g_ ee.size (fun i_ h_ => by injection h_ with h_; omega)
  have ck := ck.rdr g_
  clear rr g_
  have rr := rr_
  clear rr_
  try simp only [zP]
  with_reducible refine wv (.pointer (some ⟨g6, 1, none⟩)) ?_
  try simp only [zP]
  refine wpList_storeC 44 (g6) (1) (.agg ([.int .u32 ((B.take (C.take 1 (l, false)).2).1.1 : Int), .int .i64 ((B.take (C.take 1 (l, false)).2).1.2 : Int)]).toArray) ([.int .u32 ((B.take (C.take 1 (l, false)).2).1.1 : Int), .int .i64 ((B.take (C.take 1 (l, false)).2).1.2 : Int)]) (rowThere Zv5 (Nat.le_of_ble_eq_true (by kernel_rfl))) (by kernel_rfl) sizeBr (allOf (by kernel_rfl)) _ _ (by kernel_rfl) rfl (by kernel_rfl) (by kernel_rfl) ?_
  have rr := RefAt.setN (k := g6) (by omega) (by omega) ([.int .u32 ((B.take (C.take 1 (l, false)).2).1.1 : Int), .int .i64 ((B.take (C.take 1 (l, false)).2).1.2 : Int)]) (1) z6 rr
  have ck := ck.cells ([.int .u32 ((B.take (C.take 1 (l, false)).2).1.1 : Int), .int .i64 ((B.take (C.take 1 (l, false)).2).1.2 : Int)]) (1)
  have N_ : (z6.setCells (g6) (1) ([.int .u32 ((B.take (C.take 1 (l, false)).2).1.1 : Int), .int .i64 ((B.take (C.take 1 (l, false)).2).1.2 : Int)])).heap[g6]? = some (.cells (({ Rc.zero with kd := rk l, br := (B.take (C.take 1 (l, false)).2).1.1, bn := ((B.take (C.take 1 (l, false)).2).1.2 : Int) } : Rc).cells).toArray 47) := hpC ([.int .u32 ((B.take (C.take 1 (l, false)).2).1.1 : Int), .int .i64 ((B.take (C.take 1 (l, false)).2).1.2 : Int)]) (1) _ z6 Zv5
  have ee := belowC (g := g6) (by omega) ([.int .u32 ((B.take (C.take 1 (l, false)).2).1.1 : Int), .int .i64 ((B.take (C.take 1 (l, false)).2).1.2 : Int)]) (1) z6 ee
  have Zv2 := hpCo (g' := g6) (by omega) ([.int .u32 ((B.take (C.take 1 (l, false)).2).1.1 : Int), .int .i64 ((B.take (C.take 1 (l, false)).2).1.2 : Int)]) (1) z6 Zv2
  clear Zv5
  have Zv5 := N_
  clear N_
  skip
  obtain ⟨z7, hz_⟩ : ∃ z_ : World, z_ = z6.setCells (g6) (1) ([.int .u32 ((B.take (C.take 1 (l, false)).2).1.1 : Int), .int .i64 ((B.take (C.take 1 (l, false)).2).1.2 : Int)]) := ⟨_, rfl⟩
  rw [← hz_] at Zv2 Zv5 ee rr ck ⊢
  clear hz_
  try simp only [zP]
  refine wpList_nil ?_
  refine hK17 _ _ ?_
  refine wp_seq_k fun K26 hK26 => ?_
  refine wp_seq_k fun K27 hK27 => ?_
  refine wp_region_lit ?_
  with_reducible
   refine wv (.pointer (some ⟨g6, 0, none⟩)) ?_
   refine wl (.int .i64 ((rk l))) ⟨g6, 0, none⟩ (rowCell Zv5 (0) rfl) Tryz.underlying3 ?_
   refine wb (.bool true) (.int .i64 ((rk l))) (.int .i64 2) 3 (run_geqI (show (decide ((rk l) ≥ 2)) = true from by rw [q2]; decide)) ?_
  try simp only [zP]
  refine wpList_nil ?_
  refine hK27 _ _ ?_
  refine wp_cond_true (by kernel_rfl) ?_
  refine wp_region_lit ?_
  with_reducible
   refine wv (.pointer (some ⟨g4, 0, none⟩)) ?_
   try simp only [zP]
   refine wc 44 #[.pointer (some ⟨g4, 0, none⟩), .int .i64 4] (rtake_any w.heap.size g4 4 (B.take (C.take 1 (l, false)).2).2 z7 rr) ?_
  rintro e z8 ⟨rfl, rr_, g_⟩
  refine ⟨_, rfl, ?_⟩
  have Zv2 := heapG Zv2 g_ (by omega)
  have Zv5 := heapG Zv5 g_ (by omega)
  have ee := ee.grown g_ ee.size (fun i_ h_ => by injection h_ with h_; omega)
  have ck := ck.rdr g_
  clear rr g_
  have rr := rr_
  clear rr_
  try simp only [zP]
  with_reducible
   refine wq (.int .i64 (((C.take 4 (B.take (C.take 1 (l, false)).2).2).1 : Int))) (okIntP ((w4 (B.take (C.take 1 (l, false)).2).2) : IntKind.i64.wrap (((C.take 4 (B.take (C.take 1 (l, false)).2).2).1 : Int)) = ((C.take 4 (B.take (C.take 1 (l, false)).2).2).1 : Int)) (by kernel_rfl)) ?_
   refine wv (.pointer (some ⟨g6, 3, none⟩)) ?_
  try simp only [zP]
  refine wpList_storeC 3 (g6) (3) (.int .i64 (((C.take 4 (B.take (C.take 1 (l, false)).2).2).1 : Int))) ([.int .i64 (((C.take 4 (B.take (C.take 1 (l, false)).2).2).1 : Int))]) (rowThere Zv5 (Nat.le_of_ble_eq_true (by kernel_rfl))) (by kernel_rfl) (by kernel_rfl) (all1 rfl) _ _ (by kernel_rfl) rfl (by kernel_rfl) (by kernel_rfl) ?_
  have rr := RefAt.setN (k := g6) (by omega) (by omega) ([.int .i64 (((C.take 4 (B.take (C.take 1 (l, false)).2).2).1 : Int))]) (3) z8 rr
  have ck := ck.cells ([.int .i64 (((C.take 4 (B.take (C.take 1 (l, false)).2).2).1 : Int))]) (3)
  have N_ : (z8.setCells (g6) (3) ([.int .i64 (((C.take 4 (B.take (C.take 1 (l, false)).2).2).1 : Int))])).heap[g6]? = some (.cells (({ Rc.zero with kd := rk l, br := (B.take (C.take 1 (l, false)).2).1.1, bn := ((B.take (C.take 1 (l, false)).2).1.2 : Int), sl := ((C.take 4 (B.take (C.take 1 (l, false)).2).2).1 : Int) } : Rc).cells).toArray 47) := hpC ([.int .i64 (((C.take 4 (B.take (C.take 1 (l, false)).2).2).1 : Int))]) (3) _ z8 Zv5
  have ee := belowC (g := g6) (by omega) ([.int .i64 (((C.take 4 (B.take (C.take 1 (l, false)).2).2).1 : Int))]) (3) z8 ee
  have Zv2 := hpCo (g' := g6) (by omega) ([.int .i64 (((C.take 4 (B.take (C.take 1 (l, false)).2).2).1 : Int))]) (3) z8 Zv2
  clear Zv5
  have Zv5 := N_
  clear N_
  skip
  obtain ⟨z9, hz_⟩ : ∃ z_ : World, z_ = z8.setCells (g6) (3) ([.int .i64 (((C.take 4 (B.take (C.take 1 (l, false)).2).2).1 : Int))]) := ⟨_, rfl⟩
  rw [← hz_] at Zv2 Zv5 ee rr ck ⊢
  clear hz_
  try simp only [zP]
  refine wpList_nil ?_
  refine hK26 _ _ ?_
  refine wp_seq_k fun K28 hK28 => ?_
  refine wp_seq_k fun K29 hK29 => ?_
  refine wp_region_lit ?_
  with_reducible
   refine wv (.pointer (some ⟨g6, 0, none⟩)) ?_
   refine wl (.int .i64 ((rk l))) ⟨g6, 0, none⟩ (rowCell Zv5 (0) rfl) Tryz.underlying3 ?_
   refine wb (.bool true) (.int .i64 ((rk l))) (.int .i64 2) 3 (run_eqlI (show (decide ((rk l) = 2)) = true from by rw [q2]; decide)) ?_
   refine wv (.bool true) ?_
  iterate 3 (with_reducible refine wk ?_)
  with_reducible refine wv (.bool true) ?_
  try simp only [zP]
  refine wpList_nil ?_
  refine hK29 _ _ ?_
  refine wp_cond_true (by kernel_rfl) ?_
  refine wp_region_lit ?_
  with_reducible refine wv (.pointer (some ⟨g4, 0, none⟩)) ?_
  try simp only [zP]
  have lz_Zv2 := ltAt Zv2
  have lz_Zv5 := ltAt Zv5
  have lz_rr := rr.lt.1
  have lz_B := ee.size
  with_reducible refine wc 46 #[.pointer (some ⟨g4, 0, none⟩)] (rtakec_fresh w.heap.size g4 z9 (C.take 4 (B.take (C.take 1 (l, false)).2).2).2 rr) ?_
  rintro e z10 ⟨⟨y, rfl, hy, fy⟩, rr_, g_⟩
  refine ⟨_, rfl, ?_⟩
  have Zv2 := heapG Zv2 g_ (by omega)
  have Zv5 := heapG Zv5 g_ (by omega)
  have ee := ee.grown g_ ee.size (fun i_ h_ => by injection h_ with h_; omega)
  have ck := ck.rdr g_
  clear rr g_
  have rr := rr_
  clear rr_
  have ck := CtN.newC ck fy lz_B lz_rr lz_Zv5 lz_Zv2 lz_Zv2
  try simp only [zP]
  with_reducible refine wv (.pointer (some ⟨g6, 4, none⟩)) ?_
  try simp only [zP]
  refine wpList_storeC 45 (g6) (4) (.agg (y.cells).toArray) (y.cells) (rowThere Zv5 (Nat.le_of_ble_eq_true (by kernel_rfl))) (by kernel_rfl) sizeCr (allOf (by kernel_rfl)) _ _ (by kernel_rfl) rfl (by kernel_rfl) (by kernel_rfl) ?_
  have rr := RefAt.setN (k := g6) (by omega) (by omega) (y.cells) (4) z10 rr
  have ck := ck.cells (y.cells) (4)
  have N_ : (z10.setCells (g6) (4) (y.cells)).heap[g6]? = some (.cells (({ Rc.zero with kd := rk l, br := (B.take (C.take 1 (l, false)).2).1.1, bn := ((B.take (C.take 1 (l, false)).2).1.2 : Int), sl := ((C.take 4 (B.take (C.take 1 (l, false)).2).2).1 : Int), c := y } : Rc).cells).toArray 47) := hpC (y.cells) (4) _ z10 Zv5
  have ee := belowC (g := g6) (by omega) (y.cells) (4) z10 ee
  have Zv2 := hpCo (g' := g6) (by omega) (y.cells) (4) z10 Zv2
  clear Zv5
  have Zv5 := N_
  clear N_
  skip
  obtain ⟨z11, hz_⟩ : ∃ z_ : World, z_ = z10.setCells (g6) (4) (y.cells) := ⟨_, rfl⟩
  rw [← hz_] at Zv2 Zv5 ee rr ck ⊢
  clear hz_
  try simp only [zP]
  refine wpList_nil ?_
  refine hK28 _ _ ?_
  refine wp_seq_k fun K30 hK30 => ?_
  refine wp_seq_k fun K31 hK31 => ?_
  refine wp_region_lit ?_
  with_reducible
   refine wv (.pointer (some ⟨g6, 0, none⟩)) ?_
   refine wl (.int .i64 ((rk l))) ⟨g6, 0, none⟩ (rowCell Zv5 (0) rfl) Tryz.underlying3 ?_
   refine wb (.bool false) (.int .i64 ((rk l))) (.int .i64 4) 3 (run_eqlI (show (decide ((rk l) = 4)) = false from by rw [q2]; decide)) ?_
  try simp only [zP]
  refine wpList_nil ?_
  refine hK31 _ _ ?_
  refine wp_cond_false (by kernel_rfl) ?_
  refine wp_skip ?_
  refine hK30 _ _ ?_
  have lk : LikeR ({ Rc.zero with kd := rk l, br := (B.take (C.take 1 (l, false)).2).1.1, bn := ((B.take (C.take 1 (l, false)).2).1.2 : Int), sl := ((C.take 4 (B.take (C.take 1 (l, false)).2).2).1 : Int), c := y } : Rc) (rrcm l) := by
   unfold T.rrcm
   rw [if_neg (by omega : ¬ rk l = 1), if_pos (by omega : rk l = 2)]
   exact { kd := rfl, br := rfl, bn := rfl, sl := rfl, c := hy, dt := rfl }
  refine gK7 _ _ ?_
  exact hjK7 _ _ _ _ _ _ _ _ _ _ _ _ _ _ _ _ _ _ _ _ _ _ _ _ _ _ _ _ _ _ _ _ _ _ _ _ _ _ _ _ _ _ _ _ _ _ ({ Rc.zero with kd := rk l, br := (B.take (C.take 1 (l, false)).2).1.1, bn := ((B.take (C.take 1 (l, false)).2).1.2 : Int), sl := ((C.take 4 (B.take (C.take 1 (l, false)).2).2).1 : Int), c := y } : Rc) _ _ Zv2 Zv5 ee ck rfl (btake_lt _).1 SlB.nil lk
 by_cases q3 : rk l = 3
 ·have ck := CtN.zero z5 w.heap.size g4 g6 g2 g2 0
  refine wp_seq_k fun K32 hK32 => ?_
  refine wp_region_lit ?_
  with_reducible
   refine wv (.pointer (some ⟨g6, 0, none⟩)) ?_
   refine wl (.int .i64 ((rk l))) ⟨g6, 0, none⟩ (rowCell Zv5 (0) rfl) Tryz.underlying3 ?_
   refine wb (.bool false) (.int .i64 ((rk l))) (.int .i64 1) 3 (run_eqlI (show (decide ((rk l) = 1)) = false from by rw [q3]; decide)) ?_
   refine wv (.bool false) ?_
   refine wv (.pointer (some ⟨g6, 0, none⟩)) ?_
   refine wl (.int .i64 ((rk l))) ⟨g6, 0, none⟩ (rowCell Zv5 (0) rfl) Tryz.underlying3 ?_
   refine wb (.bool false) (.int .i64 ((rk l))) (.int .i64 2) 3 (run_eqlI (show (decide ((rk l) = 2)) = false from by rw [q3]; decide)) ?_
   refine wv (.bool false) ?_
  try simp only [zP]
  refine wpList_nil ?_
  refine hK32 _ _ ?_
  refine wp_cond_false (by kernel_rfl) ?_
  refine wp_skip ?_
  refine hK17 _ _ ?_
  refine wp_seq_k fun K33 hK33 => ?_
  refine wp_seq_k fun K34 hK34 => ?_
  refine wp_region_lit ?_
  with_reducible
   refine wv (.pointer (some ⟨g6, 0, none⟩)) ?_
   refine wl (.int .i64 ((rk l))) ⟨g6, 0, none⟩ (rowCell Zv5 (0) rfl) Tryz.underlying3 ?_
   refine wb (.bool true) (.int .i64 ((rk l))) (.int .i64 2) 3 (run_geqI (show (decide ((rk l) ≥ 2)) = true from by rw [q3]; decide)) ?_
  try simp only [zP]
  refine wpList_nil ?_
  refine hK34 _ _ ?_
  refine wp_cond_true (by kernel_rfl) ?_
  refine wp_region_lit ?_
  with_reducible
   refine wv (.pointer (some ⟨g4, 0, none⟩)) ?_
   try simp only [zP]
   refine wc 44 #[.pointer (some ⟨g4, 0, none⟩), .int .i64 4] (rtakeF_any A cp l w.heap.size g4 4 (C.take 1 (l, false)).2 z5 rr) ?_
  rintro e z6 ⟨rfl, rr_, g_⟩
  refine ⟨_, rfl, ?_⟩
  have Zv2 := heapG Zv2 g_ (by omega)
  have Zv5 := heapG Zv5 g_ (by omega)
  have ee := ee.grown g_ ee.size (fun i_ h_ => by injection h_ with h_; omega)
  have ck := ck.rdr g_
  clear rr g_
  have rr := rr_
  clear rr_
  try simp only [zP]
  with_reducible
   refine wq (.int .i64 (((C.take 4 (C.take 1 (l, false)).2).1 : Int))) (okIntP ((w4 (C.take 1 (l, false)).2) : IntKind.i64.wrap (((C.take 4 (C.take 1 (l, false)).2).1 : Int)) = ((C.take 4 (C.take 1 (l, false)).2).1 : Int)) (by kernel_rfl)) ?_
   refine wv (.pointer (some ⟨g6, 3, none⟩)) ?_
  try simp only [zP]
  refine wpList_storeC 3 (g6) (3) (.int .i64 (((C.take 4 (C.take 1 (l, false)).2).1 : Int))) ([.int .i64 (((C.take 4 (C.take 1 (l, false)).2).1 : Int))]) (rowThere Zv5 (Nat.le_of_ble_eq_true (by kernel_rfl))) (by kernel_rfl) (by kernel_rfl) (all1 rfl) _ _ (by kernel_rfl) rfl (by kernel_rfl) (by kernel_rfl) ?_
  have rr := RefF.setN (k := g6) (by omega) (by omega) ([.int .i64 (((C.take 4 (C.take 1 (l, false)).2).1 : Int))]) (3) z6 rr
  have ck := ck.cells ([.int .i64 (((C.take 4 (C.take 1 (l, false)).2).1 : Int))]) (3)
  have N_ : (z6.setCells (g6) (3) ([.int .i64 (((C.take 4 (C.take 1 (l, false)).2).1 : Int))])).heap[g6]? = some (.cells (({ Rc.zero with kd := rk l, sl := ((C.take 4 (C.take 1 (l, false)).2).1 : Int) } : Rc).cells).toArray 47) := hpC ([.int .i64 (((C.take 4 (C.take 1 (l, false)).2).1 : Int))]) (3) _ z6 Zv5
  have ee := belowC (g := g6) (by omega) ([.int .i64 (((C.take 4 (C.take 1 (l, false)).2).1 : Int))]) (3) z6 ee
  have Zv2 := hpCo (g' := g6) (by omega) ([.int .i64 (((C.take 4 (C.take 1 (l, false)).2).1 : Int))]) (3) z6 Zv2
  clear Zv5
  have Zv5 := N_
  clear N_
  skip
  obtain ⟨z7, hz_⟩ : ∃ z_ : World, z_ = z6.setCells (g6) (3) ([.int .i64 (((C.take 4 (C.take 1 (l, false)).2).1 : Int))]) := ⟨_, rfl⟩
  rw [← hz_] at Zv2 Zv5 ee rr ck ⊢
  clear hz_
  try simp only [zP]
  refine wpList_nil ?_
  refine hK33 _ _ ?_
  refine wp_seq_k fun K35 hK35 => ?_
  refine wp_seq_k fun K36 hK36 => ?_
  refine wp_region_lit ?_
  with_reducible
   refine wv (.pointer (some ⟨g6, 0, none⟩)) ?_
   refine wl (.int .i64 ((rk l))) ⟨g6, 0, none⟩ (rowCell Zv5 (0) rfl) Tryz.underlying3 ?_
   refine wb (.bool false) (.int .i64 ((rk l))) (.int .i64 2) 3 (run_eqlI (show (decide ((rk l) = 2)) = false from by rw [q3]; decide)) ?_
   refine wv (.bool false) ?_
   refine wv (.pointer (some ⟨g6, 0, none⟩)) ?_
   refine wl (.int .i64 ((rk l))) ⟨g6, 0, none⟩ (rowCell Zv5 (0) rfl) Tryz.underlying3 ?_
   refine wb (.bool true) (.int .i64 ((rk l))) (.int .i64 3) 3 (run_eqlI (show (decide ((rk l) = 3)) = true from by rw [q3]; decide)) ?_
   refine wv (.bool true) ?_
  try simp only [zP]
  refine wpList_nil ?_
  refine hK36 _ _ ?_
  refine wp_cond_true (by kernel_rfl) ?_
  refine wp_region_lit ?_
  with_reducible refine wv (.pointer (some ⟨g4, 0, none⟩)) ?_
  try simp only [zP]
  have rr := rr.ref
  have lz_Zv2 := ltAt Zv2
  have lz_Zv5 := ltAt Zv5
  have lz_rr := rr.lt.1
  have lz_B := ee.size
  with_reducible refine wc 46 #[.pointer (some ⟨g4, 0, none⟩)] (rtakec_fresh w.heap.size g4 z7 (C.take 4 (C.take 1 (l, false)).2).2 rr) ?_
  rintro e z8 ⟨⟨y, rfl, hy, fy⟩, rr_, g_⟩
  refine ⟨_, rfl, ?_⟩
  have Zv2 := heapG Zv2 g_ (by omega)
  have Zv5 := heapG Zv5 g_ (by omega)
  have ee := ee.grown g_ ee.size (fun i_ h_ => by injection h_ with h_; omega)
  have ck := ck.rdr g_
  clear rr g_
  have rr := rr_
  clear rr_
  have ck := CtN.newC ck fy lz_B lz_rr lz_Zv5 lz_Zv2 lz_Zv2
  try simp only [zP]
  with_reducible refine wv (.pointer (some ⟨g6, 4, none⟩)) ?_
  try simp only [zP]
  refine wpList_storeC 45 (g6) (4) (.agg (y.cells).toArray) (y.cells) (rowThere Zv5 (Nat.le_of_ble_eq_true (by kernel_rfl))) (by kernel_rfl) sizeCr (allOf (by kernel_rfl)) _ _ (by kernel_rfl) rfl (by kernel_rfl) (by kernel_rfl) ?_
  have rr := RefAt.setN (k := g6) (by omega) (by omega) (y.cells) (4) z8 rr
  have ck := ck.cells (y.cells) (4)
  have N_ : (z8.setCells (g6) (4) (y.cells)).heap[g6]? = some (.cells (({ Rc.zero with kd := rk l, sl := ((C.take 4 (C.take 1 (l, false)).2).1 : Int), c := y } : Rc).cells).toArray 47) := hpC (y.cells) (4) _ z8 Zv5
  have ee := belowC (g := g6) (by omega) (y.cells) (4) z8 ee
  have Zv2 := hpCo (g' := g6) (by omega) (y.cells) (4) z8 Zv2
  clear Zv5
  have Zv5 := N_
  clear N_
  skip
  obtain ⟨z9, hz_⟩ : ∃ z_ : World, z_ = z8.setCells (g6) (4) (y.cells) := ⟨_, rfl⟩
  rw [← hz_] at Zv2 Zv5 ee rr ck ⊢
  clear hz_
  try simp only [zP]
  refine wpList_nil ?_
  refine hK35 _ _ ?_
  refine wp_seq_k fun K37 hK37 => ?_
  refine wp_seq_k fun K38 hK38 => ?_
  refine wp_region_lit ?_
  with_reducible
   refine wv (.pointer (some ⟨g6, 0, none⟩)) ?_
   refine wl (.int .i64 ((rk l))) ⟨g6, 0, none⟩ (rowCell Zv5 (0) rfl) Tryz.underlying3 ?_
   refine wb (.bool false) (.int .i64 ((rk l))) (.int .i64 4) 3 (run_eqlI (show (decide ((rk l) = 4)) = false from by rw [q3]; decide)) ?_
  try simp only [zP]
  refine wpList_nil ?_
  refine hK38 _ _ ?_
  refine wp_cond_false (by kernel_rfl) ?_
  refine wp_skip ?_
  refine hK37 _ _ ?_
  have lk : LikeR ({ Rc.zero with kd := rk l, sl := ((C.take 4 (C.take 1 (l, false)).2).1 : Int), c := y } : Rc) (rrcm l) := by
   unfold T.rrcm
   rw [if_neg (by omega : ¬ rk l = 1), if_neg (by omega : ¬ rk l = 2), if_pos (by omega : rk l = 3)]
   exact { kd := rfl, br := rfl, bn := rfl, sl := rfl, c := hy, dt := rfl }
  refine gK7 _ _ ?_
  exact hjK7 _ _ _ _ _ _ _ _ _ _ _ _ _ _ _ _ _ _ _ _ _ _ _ _ _ _ _ _ _ _ _ _ _ _ _ _ _ _ _ _ _ _ _ _ _ _ ({ Rc.zero with kd := rk l, sl := ((C.take 4 (C.take 1 (l, false)).2).1 : Int), c := y } : Rc) _ _ Zv2 Zv5 ee ck rfl (by show 0 < 4294967296; decide) SlB.nil lk
 by_cases q4 : rk l = 4
 ·have ck := CtN.zero z5 w.heap.size g4 g6 g2 g2 0
  refine wp_seq_k fun K39 hK39 => ?_
  refine wp_region_lit ?_
  with_reducible
   refine wv (.pointer (some ⟨g6, 0, none⟩)) ?_
   refine wl (.int .i64 ((rk l))) ⟨g6, 0, none⟩ (rowCell Zv5 (0) rfl) Tryz.underlying3 ?_
   refine wb (.bool false) (.int .i64 ((rk l))) (.int .i64 1) 3 (run_eqlI (show (decide ((rk l) = 1)) = false from by rw [q4]; decide)) ?_
   refine wv (.bool false) ?_
   refine wv (.pointer (some ⟨g6, 0, none⟩)) ?_
   refine wl (.int .i64 ((rk l))) ⟨g6, 0, none⟩ (rowCell Zv5 (0) rfl) Tryz.underlying3 ?_
   refine wb (.bool false) (.int .i64 ((rk l))) (.int .i64 2) 3 (run_eqlI (show (decide ((rk l) = 2)) = false from by rw [q4]; decide)) ?_
   refine wv (.bool false) ?_
  try simp only [zP]
  refine wpList_nil ?_
  refine hK39 _ _ ?_
  refine wp_cond_false (by kernel_rfl) ?_
  refine wp_skip ?_
  refine hK17 _ _ ?_
  refine wp_seq_k fun K40 hK40 => ?_
  refine wp_seq_k fun K41 hK41 => ?_
  refine wp_region_lit ?_
  with_reducible
   refine wv (.pointer (some ⟨g6, 0, none⟩)) ?_
   refine wl (.int .i64 ((rk l))) ⟨g6, 0, none⟩ (rowCell Zv5 (0) rfl) Tryz.underlying3 ?_
   refine wb (.bool true) (.int .i64 ((rk l))) (.int .i64 2) 3 (run_geqI (show (decide ((rk l) ≥ 2)) = true from by rw [q4]; decide)) ?_
  try simp only [zP]
  refine wpList_nil ?_
  refine hK41 _ _ ?_
  refine wp_cond_true (by kernel_rfl) ?_
  refine wp_region_lit ?_
  with_reducible
   refine wv (.pointer (some ⟨g4, 0, none⟩)) ?_
   try simp only [zP]
   refine wc 44 #[.pointer (some ⟨g4, 0, none⟩), .int .i64 4] (rtakeF_any A cp l w.heap.size g4 4 (C.take 1 (l, false)).2 z5 rr) ?_
  rintro e z6 ⟨rfl, rr_, g_⟩
  refine ⟨_, rfl, ?_⟩
  have Zv2 := heapG Zv2 g_ (by omega)
  have Zv5 := heapG Zv5 g_ (by omega)
  have ee := ee.grown g_ ee.size (fun i_ h_ => by injection h_ with h_; omega)
  have ck := ck.rdr g_
  clear rr g_
  have rr := rr_
  clear rr_
  try simp only [zP]
  with_reducible
   refine wq (.int .i64 (((C.take 4 (C.take 1 (l, false)).2).1 : Int))) (okIntP ((w4 (C.take 1 (l, false)).2) : IntKind.i64.wrap (((C.take 4 (C.take 1 (l, false)).2).1 : Int)) = ((C.take 4 (C.take 1 (l, false)).2).1 : Int)) (by kernel_rfl)) ?_
   refine wv (.pointer (some ⟨g6, 3, none⟩)) ?_
  try simp only [zP]
  refine wpList_storeC 3 (g6) (3) (.int .i64 (((C.take 4 (C.take 1 (l, false)).2).1 : Int))) ([.int .i64 (((C.take 4 (C.take 1 (l, false)).2).1 : Int))]) (rowThere Zv5 (Nat.le_of_ble_eq_true (by kernel_rfl))) (by kernel_rfl) (by kernel_rfl) (all1 rfl) _ _ (by kernel_rfl) rfl (by kernel_rfl) (by kernel_rfl) ?_
  have rr := RefF.setN (k := g6) (by omega) (by omega) ([.int .i64 (((C.take 4 (C.take 1 (l, false)).2).1 : Int))]) (3) z6 rr
  have ck := ck.cells ([.int .i64 (((C.take 4 (C.take 1 (l, false)).2).1 : Int))]) (3)
  have N_ : (z6.setCells (g6) (3) ([.int .i64 (((C.take 4 (C.take 1 (l, false)).2).1 : Int))])).heap[g6]? = some (.cells (({ Rc.zero with kd := rk l, sl := ((C.take 4 (C.take 1 (l, false)).2).1 : Int) } : Rc).cells).toArray 47) := hpC ([.int .i64 (((C.take 4 (C.take 1 (l, false)).2).1 : Int))]) (3) _ z6 Zv5
  have ee := belowC (g := g6) (by omega) ([.int .i64 (((C.take 4 (C.take 1 (l, false)).2).1 : Int))]) (3) z6 ee
  have Zv2 := hpCo (g' := g6) (by omega) ([.int .i64 (((C.take 4 (C.take 1 (l, false)).2).1 : Int))]) (3) z6 Zv2
  clear Zv5
  have Zv5 := N_
  clear N_
  skip
  obtain ⟨z7, hz_⟩ : ∃ z_ : World, z_ = z6.setCells (g6) (3) ([.int .i64 (((C.take 4 (C.take 1 (l, false)).2).1 : Int))]) := ⟨_, rfl⟩
  rw [← hz_] at Zv2 Zv5 ee rr ck ⊢
  clear hz_
  try simp only [zP]
  refine wpList_nil ?_
  refine hK40 _ _ ?_
  refine wp_seq_k fun K42 hK42 => ?_
  refine wp_seq_k fun K43 hK43 => ?_
  refine wp_region_lit ?_
  with_reducible
   refine wv (.pointer (some ⟨g6, 0, none⟩)) ?_
   refine wl (.int .i64 ((rk l))) ⟨g6, 0, none⟩ (rowCell Zv5 (0) rfl) Tryz.underlying3 ?_
   refine wb (.bool false) (.int .i64 ((rk l))) (.int .i64 2) 3 (run_eqlI (show (decide ((rk l) = 2)) = false from by rw [q4]; decide)) ?_
   refine wv (.bool false) ?_
   refine wv (.pointer (some ⟨g6, 0, none⟩)) ?_
   refine wl (.int .i64 ((rk l))) ⟨g6, 0, none⟩ (rowCell Zv5 (0) rfl) Tryz.underlying3 ?_
   refine wb (.bool false) (.int .i64 ((rk l))) (.int .i64 3) 3 (run_eqlI (show (decide ((rk l) = 3)) = false from by rw [q4]; decide)) ?_
   refine wv (.bool false) ?_
  try simp only [zP]
  refine wpList_nil ?_
  refine hK43 _ _ ?_
  refine wp_cond_false (by kernel_rfl) ?_
  refine wp_skip ?_
  refine hK42 _ _ ?_
  refine wp_seq_k fun K44 hK44 => ?_
  refine wp_seq_k fun K45 hK45 => ?_
  refine wp_region_lit ?_
  with_reducible
   refine wv (.pointer (some ⟨g6, 0, none⟩)) ?_
   refine wl (.int .i64 ((rk l))) ⟨g6, 0, none⟩ (rowCell Zv5 (0) rfl) Tryz.underlying3 ?_
   refine wb (.bool true) (.int .i64 ((rk l))) (.int .i64 4) 3 (run_eqlI (show (decide ((rk l) = 4)) = true from by rw [q4]; decide)) ?_
  try simp only [zP]
  refine wpList_nil ?_
  refine hK45 _ _ ?_
  refine wp_cond_true (by kernel_rfl) ?_
  refine wp_seq_k fun K46 hK46 => ?_
  refine wp_region_lit ?_
  with_reducible
   refine wv (.pointer (some ⟨g4, 0, none⟩)) ?_
   try simp only [zP]
   refine wc 44 #[.pointer (some ⟨g4, 0, none⟩), .int .i64 4] (rtakeF_any A cp l w.heap.size g4 4 (C.take 4 (C.take 1 (l, false)).2).2 z7 rr) ?_
  rintro e z8 ⟨rfl, rr_, g_⟩
  refine ⟨_, rfl, ?_⟩
  have Zv2 := heapG Zv2 g_ (by omega)
  have Zv5 := heapG Zv5 g_ (by omega)
  have ee := ee.grown g_ ee.size (fun i_ h_ => by injection h_ with h_; omega)
  have ck := ck.rdr g_
  clear rr g_
  have rr := rr_
  clear rr_
  try simp only [zP]
  refine wpList_nil ?_
  refine hK46 _ _ ?_
  obtain ⟨k1, hk1, hk2, hk3, hk4⟩ := refAtCell rr
  obtain ⟨b47, hb47⟩ : ∃ q : Bool, (C.take 4 (C.take 4 (C.take 1 (l, false)).2).2).2.2 = q := ⟨_, rfl⟩
  rw [hb47] at hk2
  refine wp_seq_k fun K48 hK48 => ?_
  refine wp_region_lit ?_
  iterate 2 (with_reducible refine wv (.pointer (some ⟨g4, 0, none⟩)) ?_)
  with_reducible
   refine wv (.pointer (some ⟨g4, 2, none⟩)) ?_
   refine wl (.bool b47) ⟨g4, 2, none⟩ hk2 Tryz.underlying4 ?_
  try simp only [zP]
  cases b47
  ·with_reducible refine wv (.bool true) ?_
   try simp only [zP]
   refine wpList_nil ?_
   refine hK48 _ _ ?_
   refine wp_cond_true (by kernel_rfl) ?_
   obtain ⟨A2, hA2⟩ : ∃ q_, q_ = (if cp = k1 then A else A.map (·.add k1)) := ⟨_, rfl⟩
   have hrest : restOf (C.take 4 (C.take 4 (C.take 1 (l, false)).2).2).2 = l.drop k1 := by unfold restOf; rw [hb47, hk4]; rfl
   have hrl : (restOf (C.take 4 (C.take 4 (C.take 1 (l, false)).2).2).2).length = l.length - k1 := by rw [hrest, List.length_drop]
   have hs2 := slSuf hb (k := k1) hk3
   rw [← hA2, ← hrest] at hs2
   refine wp_region_lit ?_
   with_reducible refine wv (.slice A l.length cp) ?_
   iterate 2 (with_reducible refine wv (.pointer (some ⟨g4, 0, none⟩)) ?_)
   with_reducible
    refine wv (.pointer (some ⟨g4, 1, none⟩)) ?_
    refine wl (.int .i64 ((k1 : Int))) ⟨g4, 1, none⟩ hk1 Tryz.underlying3 ?_
    try simp only [zP]
    refine wq (.slice A2 (restOf (C.take 4 (C.take 4 (C.take 1 (l, false)).2).2).2).length (cp - k1)) (by rw [hrl, hA2]; exact exec_slice_lf (.tmp 54) (.tmp 58) (A := A) (len := l.length) (cap := cp) (k := k1) rfl rfl rfl hk3) ?_
    refine wv (.pointer (some ⟨g6, 14, none⟩)) ?_
   try simp only [zP]
   refine wpList_storeC 34 (g6) (14) (.slice A2 (restOf (C.take 4 (C.take 4 (C.take 1 (l, false)).2).2).2).length (cp - k1)) ([.slice A2 (restOf (C.take 4 (C.take 4 (C.take 1 (l, false)).2).2).2).length (cp - k1)]) (rowThere Zv5 (Nat.le_of_ble_eq_true (by kernel_rfl))) (by kernel_rfl) (by kernel_rfl) (all1 rfl) _ _ (by kernel_rfl) rfl (by kernel_rfl) (by kernel_rfl) ?_
   have rr := RefF.setN (k := g6) (by omega) (by omega) ([.slice A2 (restOf (C.take 4 (C.take 4 (C.take 1 (l, false)).2).2).2).length (cp - k1)]) (14) z8 rr
   have ck := ck.cells ([.slice A2 (restOf (C.take 4 (C.take 4 (C.take 1 (l, false)).2).2).2).length (cp - k1)]) (14)
   have N_ : (z8.setCells (g6) (14) ([.slice A2 (restOf (C.take 4 (C.take 4 (C.take 1 (l, false)).2).2).2).length (cp - k1)])).heap[g6]? = some (.cells (({ Rc.zero with kd := rk l, sl := ((C.take 4 (C.take 1 (l, false)).2).1 : Int), dt := restOf (C.take 4 (C.take 4 (C.take 1 (l, false)).2).2).2, D := A2, dc := cp - k1 } : Rc).cells).toArray 47) := hpC ([.slice A2 (restOf (C.take 4 (C.take 4 (C.take 1 (l, false)).2).2).2).length (cp - k1)]) (14) _ z8 Zv5
   have ee := belowC (g := g6) (by omega) ([.slice A2 (restOf (C.take 4 (C.take 4 (C.take 1 (l, false)).2).2).2).length (cp - k1)]) (14) z8 ee
   have Zv2 := hpCo (g' := g6) (by omega) ([.slice A2 (restOf (C.take 4 (C.take 4 (C.take 1 (l, false)).2).2).2).length (cp - k1)]) (14) z8 Zv2
   clear Zv5
   have Zv5 := N_
   clear N_
   skip
   obtain ⟨z9, hz_⟩ : ∃ z_ : World, z_ = z8.setCells (g6) (14) ([.slice A2 (restOf (C.take 4 (C.take 4 (C.take 1 (l, false)).2).2).2).length (cp - k1)]) := ⟨_, rfl⟩
   rw [← hz_] at Zv2 Zv5 ee rr ck ⊢
   clear hz_
   try simp only [zP]
   refine wpList_nil ?_
   refine hK44 _ _ ?_
   have lk : LikeR ({ Rc.zero with kd := rk l, sl := ((C.take 4 (C.take 1 (l, false)).2).1 : Int), dt := restOf (C.take 4 (C.take 4 (C.take 1 (l, false)).2).2).2, D := A2, dc := cp - k1 } : Rc) (rrcm l) := by
    unfold T.rrcm
    rw [if_neg (by omega : ¬ rk l = 1), if_neg (by omega : ¬ rk l = 2), if_neg (by omega : ¬ rk l = 3), if_pos (by omega : rk l = 4)]
    exact { kd := rfl, br := rfl, bn := rfl, sl := rfl, c := SameC_self _, dt := rfl }
   refine gK7 _ _ ?_
   exact hjK7 _ _ _ _ _ _ _ _ _ _ _ _ _ _ _ _ _ _ _ _ _ _ _ _ _ _ _ _ _ _ _ _ _ _ _ _ _ _ _ _ _ _ _ _ _ _ ({ Rc.zero with kd := rk l, sl := ((C.take 4 (C.take 1 (l, false)).2).1 : Int), dt := restOf (C.take 4 (C.take 4 (C.take 1 (l, false)).2).2).2, D := A2, dc := cp - k1 } : Rc) _ _ Zv2 Zv5 ee ck rfl (by show 0 < 4294967296; decide) (by show SlB _ _ (.slice A2 (restOf (C.take 4 (C.take 4 (C.take 1 (l, false)).2).2).2).length (cp - k1)) _; rw [hrl]; exact hs2) lk
  with_reducible refine wv (.bool false) ?_
  try simp only [zP]
  refine wpList_nil ?_
  refine hK48 _ _ ?_
  refine wp_cond_false (by kernel_rfl) ?_
  refine wp_skip ?_
  refine hK44 _ _ ?_
  have lk : LikeR ({ Rc.zero with kd := rk l, sl := ((C.take 4 (C.take 1 (l, false)).2).1 : Int) } : Rc) (rrcm l) := by
   unfold T.rrcm
   rw [if_neg (by omega : ¬ rk l = 1), if_neg (by omega : ¬ rk l = 2), if_neg (by omega : ¬ rk l = 3), if_pos (by omega : rk l = 4)]
   exact { kd := rfl, br := rfl, bn := rfl, sl := rfl, c := SameC_self _, dt := (by show [] = restOf _; unfold restOf; rw [hb47]; rfl) }
  refine gK7 _ _ ?_
  exact hjK7 _ _ _ _ _ _ _ _ _ _ _ _ _ _ _ _ _ _ _ _ _ _ _ _ _ _ _ _ _ _ _ _ _ _ _ _ _ _ _ _ _ _ _ _ _ _ ({ Rc.zero with kd := rk l, sl := ((C.take 4 (C.take 1 (l, false)).2).1 : Int) } : Rc) _ _ Zv2 Zv5 ee ck rfl (by show 0 < 4294967296; decide) SlB.nil lk
 have ck := CtN.zero z5 w.heap.size g4 g6 g2 g2 0
 refine wp_seq_k fun K49 hK49 => ?_
 refine wp_region_lit ?_
 with_reducible
  refine wv (.pointer (some ⟨g6, 0, none⟩)) ?_
  refine wl (.int .i64 ((rk l))) ⟨g6, 0, none⟩ (rowCell Zv5 (0) rfl) Tryz.underlying3 ?_
  refine wb (.bool false) (.int .i64 ((rk l))) (.int .i64 1) 3 (run_eqlI ((decide_eq_false q1) : (decide ((rk l) = 1)) = false)) ?_
  refine wv (.bool false) ?_
  refine wv (.pointer (some ⟨g6, 0, none⟩)) ?_
  refine wl (.int .i64 ((rk l))) ⟨g6, 0, none⟩ (rowCell Zv5 (0) rfl) Tryz.underlying3 ?_
  refine wb (.bool false) (.int .i64 ((rk l))) (.int .i64 2) 3 (run_eqlI ((decide_eq_false q2) : (decide ((rk l) = 2)) = false)) ?_
  refine wv (.bool false) ?_
 try simp only [zP]
 refine wpList_nil ?_
 refine hK49 _ _ ?_
 refine wp_cond_false (by kernel_rfl) ?_
 refine wp_skip ?_
 refine hK17 _ _ ?_
 refine wp_seq_k fun K50 hK50 => ?_
 refine wp_seq_k fun K51 hK51 => ?_
 refine wp_region_lit ?_
 with_reducible
  refine wv (.pointer (some ⟨g6, 0, none⟩)) ?_
  refine wl (.int .i64 ((rk l))) ⟨g6, 0, none⟩ (rowCell Zv5 (0) rfl) Tryz.underlying3 ?_
 try simp only [zP]
 obtain ⟨b52, hb52⟩ : ∃ d_ : Bool, (decide ((rk l) ≥ 2)) = d_ := ⟨_, rfl⟩
 with_reducible refine wb (.bool b52) (.int .i64 ((rk l))) (.int .i64 2) 3 (run_geqI hb52) ?_
 try simp only [zP]
 refine wpList_nil ?_
 refine hK51 _ _ ?_
 cases b52
 ·have pb52 : ¬ ((rk l) ≥ 2) := of_decide_eq_false hb52
  refine wp_cond_false (by kernel_rfl) ?_
  refine wp_skip ?_
  refine hK50 _ _ ?_
  refine wp_seq_k fun K53 hK53 => ?_
  refine wp_seq_k fun K54 hK54 => ?_
  refine wp_region_lit ?_
  with_reducible
   refine wv (.pointer (some ⟨g6, 0, none⟩)) ?_
   refine wl (.int .i64 ((rk l))) ⟨g6, 0, none⟩ (rowCell Zv5 (0) rfl) Tryz.underlying3 ?_
   refine wb (.bool false) (.int .i64 ((rk l))) (.int .i64 2) 3 (run_eqlI ((decide_eq_false q2) : (decide ((rk l) = 2)) = false)) ?_
   refine wv (.bool false) ?_
   refine wv (.pointer (some ⟨g6, 0, none⟩)) ?_
   refine wl (.int .i64 ((rk l))) ⟨g6, 0, none⟩ (rowCell Zv5 (0) rfl) Tryz.underlying3 ?_
   refine wb (.bool false) (.int .i64 ((rk l))) (.int .i64 3) 3 (run_eqlI ((decide_eq_false q3) : (decide ((rk l) = 3)) = false)) ?_
   refine wv (.bool false) ?_
  try simp only [zP]
  refine wpList_nil ?_
  refine hK54 _ _ ?_
  refine wp_cond_false (by kernel_rfl) ?_
  refine wp_skip ?_
  refine hK53 _ _ ?_
  refine wp_seq_k fun K55 hK55 => ?_
  refine wp_seq_k fun K56 hK56 => ?_
  refine wp_region_lit ?_
  with_reducible
   refine wv (.pointer (some ⟨g6, 0, none⟩)) ?_
   refine wl (.int .i64 ((rk l))) ⟨g6, 0, none⟩ (rowCell Zv5 (0) rfl) Tryz.underlying3 ?_
   refine wb (.bool false) (.int .i64 ((rk l))) (.int .i64 4) 3 (run_eqlI ((decide_eq_false q4) : (decide ((rk l) = 4)) = false)) ?_
  try simp only [zP]
  refine wpList_nil ?_
  refine hK56 _ _ ?_
  refine wp_cond_false (by kernel_rfl) ?_
  refine wp_skip ?_
  refine hK55 _ _ ?_
  have lk : LikeR ({ Rc.zero with kd := rk l } : Rc) (rrcm l) := by
   unfold T.rrcm
   first | rw [if_neg (by omega : ¬ rk l = 1), if_neg (by omega : ¬ rk l = 2), if_neg (by omega : ¬ rk l = 3), if_neg (by omega : ¬ rk l = 4), if_pos (by omega : rk l < 2)] | rw [if_neg (by omega : ¬ rk l = 1), if_neg (by omega : ¬ rk l = 2), if_neg (by omega : ¬ rk l = 3), if_neg (by omega : ¬ rk l = 4), if_neg (by omega : ¬ rk l < 2)]
   exact { kd := rfl, br := rfl, bn := rfl, sl := rfl, c := SameC_self _, dt := rfl }
  refine gK7 _ _ ?_
  exact hjK7 _ _ _ _ _ _ _ _ _ _ _ _ _ _ _ _ _ _ _ _ _ _ _ _ _ _ _ _ _ _ _ _ _ _ _ _ _ _ _ _ _ _ _ _ _ _ ({ Rc.zero with kd := rk l } : Rc) _ _ Zv2 Zv5 ee ck rfl (by show 0 < 4294967296; decide) SlB.nil lk
 have pb52 : (rk l) ≥ 2 := of_decide_eq_true hb52
 refine wp_cond_true (by kernel_rfl) ?_
 refine wp_region_lit ?_
 with_reducible
  refine wv (.pointer (some ⟨g4, 0, none⟩)) ?_
  try simp only [zP]
  refine wc 44 #[.pointer (some ⟨g4, 0, none⟩), .int .i64 4] (rtakeF_any A cp l w.heap.size g4 4 (C.take 1 (l, false)).2 z5 rr) ?_
 rintro e z6 ⟨rfl, rr_, g_⟩
 refine ⟨_, rfl, ?_⟩
 have Zv2 := heapG Zv2 g_ (by omega)
 have Zv5 := heapG Zv5 g_ (by omega)
 have ee := ee.grown g_ ee.size (fun i_ h_ => by injection h_ with h_; omega)
 have ck := ck.rdr g_
 clear rr g_
 have rr := rr_
 clear rr_
 try simp only [zP]
 with_reducible
  refine wq (.int .i64 (((C.take 4 (C.take 1 (l, false)).2).1 : Int))) (okIntP ((w4 (C.take 1 (l, false)).2) : IntKind.i64.wrap (((C.take 4 (C.take 1 (l, false)).2).1 : Int)) = ((C.take 4 (C.take 1 (l, false)).2).1 : Int)) (by kernel_rfl)) ?_
  refine wv (.pointer (some ⟨g6, 3, none⟩)) ?_
 try simp only [zP]
 refine wpList_storeC 3 (g6) (3) (.int .i64 (((C.take 4 (C.take 1 (l, false)).2).1 : Int))) ([.int .i64 (((C.take 4 (C.take 1 (l, false)).2).1 : Int))]) (rowThere Zv5 (Nat.le_of_ble_eq_true (by kernel_rfl))) (by kernel_rfl) (by kernel_rfl) (all1 rfl) _ _ (by kernel_rfl) rfl (by kernel_rfl) (by kernel_rfl) ?_
 have rr := RefF.setN (k := g6) (by omega) (by omega) ([.int .i64 (((C.take 4 (C.take 1 (l, false)).2).1 : Int))]) (3) z6 rr
 have ck := ck.cells ([.int .i64 (((C.take 4 (C.take 1 (l, false)).2).1 : Int))]) (3)
 have N_ : (z6.setCells (g6) (3) ([.int .i64 (((C.take 4 (C.take 1 (l, false)).2).1 : Int))])).heap[g6]? = some (.cells (({ Rc.zero with kd := rk l, sl := ((C.take 4 (C.take 1 (l, false)).2).1 : Int) } : Rc).cells).toArray 47) := hpC ([.int .i64 (((C.take 4 (C.take 1 (l, false)).2).1 : Int))]) (3) _ z6 Zv5
 have ee := belowC (g := g6) (by omega) ([.int .i64 (((C.take 4 (C.take 1 (l, false)).2).1 : Int))]) (3) z6 ee
 have Zv2 := hpCo (g' := g6) (by omega) ([.int .i64 (((C.take 4 (C.take 1 (l, false)).2).1 : Int))]) (3) z6 Zv2
 clear Zv5
 have Zv5 := N_
 clear N_
 skip
 obtain ⟨z7, hz_⟩ : ∃ z_ : World, z_ = z6.setCells (g6) (3) ([.int .i64 (((C.take 4 (C.take 1 (l, false)).2).1 : Int))]) := ⟨_, rfl⟩
 rw [← hz_] at Zv2 Zv5 ee rr ck ⊢
 clear hz_
 try simp only [zP]
 refine wpList_nil ?_
 refine hK50 _ _ ?_
 refine wp_seq_k fun K57 hK57 => ?_
 refine wp_seq_k fun K58 hK58 => ?_
 refine wp_region_lit ?_
 with_reducible
  refine wv (.pointer (some ⟨g6, 0, none⟩)) ?_
  refine wl (.int .i64 ((rk l))) ⟨g6, 0, none⟩ (rowCell Zv5 (0) rfl) Tryz.underlying3 ?_
  refine wb (.bool false) (.int .i64 ((rk l))) (.int .i64 2) 3 (run_eqlI ((decide_eq_false q2) : (decide ((rk l) = 2)) = false)) ?_
  refine wv (.bool false) ?_
  refine wv (.pointer (some ⟨g6, 0, none⟩)) ?_
  refine wl (.int .i64 ((rk l))) ⟨g6, 0, none⟩ (rowCell Zv5 (0) rfl) Tryz.underlying3 ?_
  refine wb (.bool false) (.int .i64 ((rk l))) (.int .i64 3) 3 (run_eqlI ((decide_eq_false q3) : (decide ((rk l) = 3)) = false)) ?_
  refine wv (.bool false) ?_
 try simp only [zP]
 refine wpList_nil ?_
 refine hK58 _ _ ?_
 refine wp_cond_false (by kernel_rfl) ?_
 refine wp_skip ?_
 refine hK57 _ _ ?_
 refine wp_seq_k fun K59 hK59 => ?_
 refine wp_seq_k fun K60 hK60 => ?_
 refine wp_region_lit ?_
 with_reducible
  refine wv (.pointer (some ⟨g6, 0, none⟩)) ?_
  refine wl (.int .i64 ((rk l))) ⟨g6, 0, none⟩ (rowCell Zv5 (0) rfl) Tryz.underlying3 ?_
  refine wb (.bool false) (.int .i64 ((rk l))) (.int .i64 4) 3 (run_eqlI ((decide_eq_false q4) : (decide ((rk l) = 4)) = false)) ?_
 try simp only [zP]
 refine wpList_nil ?_
 refine hK60 _ _ ?_
 refine wp_cond_false (by kernel_rfl) ?_
 refine wp_skip ?_
 refine hK59 _ _ ?_
 have lk : LikeR ({ Rc.zero with kd := rk l, sl := ((C.take 4 (C.take 1 (l, false)).2).1 : Int) } : Rc) (rrcm l) := by
  unfold T.rrcm
  first | rw [if_neg (by omega : ¬ rk l = 1), if_neg (by omega : ¬ rk l = 2), if_neg (by omega : ¬ rk l = 3), if_neg (by omega : ¬ rk l = 4), if_pos (by omega : rk l < 2)] | rw [if_neg (by omega : ¬ rk l = 1), if_neg (by omega : ¬ rk l = 2), if_neg (by omega : ¬ rk l = 3), if_neg (by omega : ¬ rk l = 4), if_neg (by omega : ¬ rk l < 2)]
  exact { kd := rfl, br := rfl, bn := rfl, sl := rfl, c := SameC_self _, dt := rfl }
 refine gK7 _ _ ?_
 exact hjK7 _ _ _ _ _ _ _ _ _ _ _ _ _ _ _ _ _ _ _ _ _ _ _ _ _ _ _ _ _ _ _ _ _ _ _ _ _ _ _ _ _ _ _ _ _ _ ({ Rc.zero with kd := rk l, sl := ((C.take 4 (C.take 1 (l, false)).2).1 : Int) } : Rc) _ _ Zv2 Zv5 ee ck rfl (by show 0 < 4294967296; decide) SlB.nil lk
end Go.Proofs.YtjofjpmhokjhnaaGreatDoor
