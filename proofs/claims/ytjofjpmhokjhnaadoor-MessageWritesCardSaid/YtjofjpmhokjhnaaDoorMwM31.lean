/- The law MessageWrites. Conditions: what lies, lies below. (Printed by gen_msg.py.) -/
import Derived.Test.YtjofjpmhokjhnaaDoorMwM25
import Derived.Test.YtjofjpmhokjhnaaDoorMwM29
import Derived.Test.YtjofjpmhokjhnaaDoorMwM30
namespace Go.Proofs.YtjofjpmhokjhnaaDoor
set_option maxRecDepth 20000
open Go.RowKit T
set_option linter.unusedSimpArgs false
set_option linter.unusedVariables false

theorem wrap8nz (x : Int) : IntKind.u8.wrap x = ((UInt8.ofNat (T.nz x)).toNat : Int) := by
 show x % 256 = _
 rw [UInt8.toNat_ofNat']
 unfold T.nz; omega
theorem put_oneN (l : List UInt8) (x : Nat) : l ++ [UInt8.ofNat x] = C.put l x 1 := (put_one l x).symm
/-- an owned slice of these bytes, the base given -/
def GotW (w : World) (B : Nat) (l : List UInt8) (e : Ending) (w' : World) : Prop := ∃ v, e = .returned v ∧ OwnB w' B v l ∧ Below w.heap.size w w'
theorem GotW.of {w : World} {B : Nat} {l : List UInt8} {e : Ending} {w' : World} (h : MadeB w l e w') (hB : B ≤ w.heap.size) : GotW w B l e w' := by
 obtain ⟨v, h1, h2, h3⟩ := h
 exact ⟨v, h1, OwnB.mono h2 hB, h3⟩
section
variable {z : World} {base B : Nat} {v : Value} {l : List UInt8}
theorem rp_put (h : OwnB z base v l) (hl : l.length ≤ 549755813888) (hB : B ≤ z.heap.size) (x : Nat) (hx : x < 18446744073709551616) (n : Int) (hn1 : -1000 ≤ n) (hn2 : n ≤ 1000) : Calls Tryd.prog 70 #[v, .int .u64 (x : Int), .int .i64 n] z (GotW z B (C.put l x n)) :=
 (rput_o h hl x hx n hn1 hn2).mono fun _ _ h => GotW.of h hB
theorem rp_text (h : OwnB z base v l) (hl : l.length ≤ 274877906944) (hB : B ≤ z.heap.size) (s : ByteArray) (hs : s.size ≤ 9223372036854775807) : Calls Tryd.prog 75 #[v, .string s] z (GotW z B (C.putText l s.data.toList)) :=
 (rputtext_o h hl s hs).mono fun _ _ h => GotW.of h hB
theorem rp_val (h : OwnB z base v l) (hl : l.length ≤ 137438953472) (hB : B ≤ z.heap.size) (k : Int) (b : Nat) (t : ByteArray) (bb : b < 18446744073709551616) (hs : t.size ≤ 9223372036854775807) : Calls Tryd.prog 76 #[v, .agg #[.int .i64 k, .int .u64 (b : Int), .string t]] z (GotW z B (V.put l k b t.data.toList)) :=
 (rvput_o h hl k b t bb hs).mono fun _ _ h => GotW.of h hB
theorem rp_cmd (h : OwnB z base v l) (hl : l.length ≤ 2147483648) (hB : B ≤ z.heap.size) (x : Cm) (ok : CmOk z z.heap.size x) : Calls Tryd.prog 72 #[v, .agg x.cells.toArray] z (GotW z B (cput l x)) :=
 (rcput_s (SlB.ofOwn h) hl (Nat.le_refl _) x ok).mono fun _ _ h => GotW.of h hB
theorem rp_txn (h : OwnB z base v l) (hl : l.length ≤ 4294967296) (hB : B ≤ z.heap.size) (x : Tn) (ok : TxOk z z.heap.size x.rs x.ws x.A1 x.c1 x.A2 x.c2) : Calls Tryd.prog 73 #[v, .agg x.cells.toArray] z (GotW z B (tput l x.s x.q x.rs x.ws)) :=
 (rtput_s (SlB.ofOwn h) hl (Nat.le_refl _) x.s x.q x.rs x.ws x.A1 x.c1 x.A2 x.c2 ok).mono fun _ _ h => GotW.of h hB
theorem rp_id (h : OwnB z base v l) (hl : l.length ≤ 4294967296) (hB : B ≤ z.heap.size) (s q : Int) : Calls Tryd.prog 74 #[v, .agg #[.int .i64 s, .int .i64 q]] z (GotW z B (idput l s q)) :=
 (rputid_s (SlB.ofOwn h) hl (Nat.le_refl _) s q).mono fun _ _ h => GotW.of h hB
end
set_option maxHeartbeats 25600000 in
theorem rbput_o {w : World} {base : Nat} {v : Value} {l : List UInt8} (O : OwnB w base v l) (hl : l.length ≤ 274877906944) (r : Nat) (n : Int) (hx : r < 4294967296) :
  Calls Tryd.prog 69 #[v, .agg #[.int .u32 (r : Int), .int .i64 n]] w fun e w' => GotW w w.heap.size (B.put l r n) e w' := by
 have ee : Below w.heap.size w w := Below.refl _ _
 go_enter Tryd.func69, Tryd.ntmps69
 refine wp_seq_k fun K1 hK1 => ?_
 refine wp_region_lit ?_
 with_reducible refine ww (.pointer (some ⟨w.heap.size, 0, none⟩)) (w.alloc (.cells ([.int .u32 (r : Int), .int .i64 n]).toArray 44)) ?_
 try simp only [nP, nN, nA, n0, nS]
 have sz_g2 := ee.size
 have sz_ := ee.size
 have O := O.alloc (.cells ([.int .u32 (r : Int), .int .i64 n]).toArray 44)
 have ee := ee.alloc ee.size (.cells ([.int .u32 (r : Int), .int .i64 n]).toArray 44)
 have Zb3 := hpN w (.cells ([.int .u32 (r : Int), .int .i64 n]).toArray 44) rfl
 generalize w.alloc (.cells ([.int .u32 (r : Int), .int .i64 n]).toArray 44) = z1 at Zb3 O ee ⊢
 obtain ⟨g2, hg_g2⟩ : ∃ g_, g_ = w.heap.size := ⟨_, rfl⟩
 have hB_g2 : w.heap.size ≤ g2 := by rw [hg_g2]; exact sz_g2
 rw [← hg_g2] at Zb3 ⊢
 clear hg_g2
 with_reducible refine wv (.slice none 0 0) ?_
 try simp only [nP, nN, nA, n0, nS]
 refine wpList_nil ?_
 refine hK1 _ _ ?_
 refine wp_seq_k fun K3 hK3 => ?_
 refine wp_region_lit ?_
 with_reducible refine wv (v) ?_
 try simp only [nP, nN, nA, n0, nS]
 with_reducible refine wv (.pointer (some ⟨g2, 0, none⟩)) ?_
 try simp only [nP, nN, nA, n0, nS]
 with_reducible refine wl (.int .u32 ((r : Int))) ⟨g2, 0, none⟩ (rowCell Zb3 (0) rfl) Tryd.underlying22 ?_
 try simp only [nP, nN, nA, n0, nS]
 with_reducible refine wq (.int .u64 ((r : Int))) (okIntP ((wrapOf (by omega)) : IntKind.u64.wrap ((r : Int)) = (r : Int)) (by kernel_rfl)) ?_
 try simp only [nP, nN, nA, n0, nS]
 with_reducible refine wc 70 #[v, .int .u64 ((r : Int)), .int .i64 4] (rp_put O (by omega) (B := w.heap.size) ee.size r (by omega) 4 (by omega) (by omega)) ?_
 rintro e z2 ⟨r1, rfl, O_, t⟩
 refine ⟨_, rfl, ?_⟩
 clear O
 have Zb3 := hpB Zb3 t
 have ee := ee.trans (t.mono ee.size)
 clear t
 have O := O_
 clear O_
 try simp only [nP, nN, nA, n0, nS]
 with_reducible refine wv (r1) ?_
 try simp only [nP, nN, nA, n0, nS]
 refine wpList_nil ?_
 refine hK3 _ _ ?_
 refine wp_seq_k fun K4 hK4 => ?_
 refine wp_region_lit ?_
 with_reducible refine wv (r1) ?_
 try simp only [nP, nN, nA, n0, nS]
 with_reducible refine wv (.pointer (some ⟨g2, 1, none⟩)) ?_
 try simp only [nP, nN, nA, n0, nS]
 with_reducible refine wl (.int .i64 n) ⟨g2, 1, none⟩ (rowCell Zb3 (1) rfl) Tryd.underlying3 ?_
 try simp only [nP, nN, nA, n0, nS]
 with_reducible refine wq (.int .u8 (((UInt8.ofNat (T.nz n)).toNat : Int))) (okIntP ((wrap8nz n) : IntKind.u8.wrap n = ((UInt8.ofNat (T.nz n)).toNat : Int)) (by kernel_rfl)) ?_
 try simp only [nP, nN, nA, n0, nS]
 with_reducible refine ww (.slice (some ⟨z2.heap.size, 0, none⟩) 1 1) (z2.alloc (.cells #[.int .u8 (((UInt8.ofNat (T.nz n)).toNat : Int))] 5)) ?_
 try simp only [nP, nN, nA, n0, nS]
 have sz_g5 := ee.size
 have lZb3 := (Array.getElem?_eq_some_iff.1 Zb3).1
 have sz_ := ee.size
 have ne_O_Zs15 : r1.ownBlock ≠ some (z2.heap.size) := fun hb_ => by have hh_ := (O.lt _ hb_).2; omega
 have Zb3 := hpA Zb3 (.cells #[.int .u8 (((UInt8.ofNat (T.nz n)).toNat : Int))] 5)
 have O := O.alloc (.cells #[.int .u8 (((UInt8.ofNat (T.nz n)).toNat : Int))] 5)
 have ee := ee.alloc ee.size (.cells #[.int .u8 (((UInt8.ofNat (T.nz n)).toNat : Int))] 5)
 have Zs15 := hpN z2 (.cells #[.int .u8 (((UInt8.ofNat (T.nz n)).toNat : Int))] 5) rfl
 generalize z2.alloc (.cells #[.int .u8 (((UInt8.ofNat (T.nz n)).toNat : Int))] 5) = z3 at Zb3 Zs15 O ee ⊢
 obtain ⟨g5, hg_g5⟩ : ∃ g_, g_ = z2.heap.size := ⟨_, rfl⟩
 have n_g5_Zb3 : g2 < g5 := by rw [hg_g5]; exact lZb3
 have hB_g5 : w.heap.size ≤ g5 := by rw [hg_g5]; exact sz_g5
 rw [← hg_g5] at Zs15 ⊢
 clear hg_g5 lZb3
 with_reducible refine wa8 (.tmp 11) (.tmp 15) O (slOne Zs15 rfl) (by have := put_len2 l r 4; omega) (by simp) ee.size ?_
 intro v_ z4 O_ g_
 have Zb3 := heapKind O g_ (by decide) Zb3
 clear Zs15
 have ee := ee.grown g_ ee.size (fun i_ h_ => (O.lt i_ h_).1)
 clear g_ O
 have O := O_
 clear O_
 obtain ⟨a6, e_a6⟩ : ∃ q_, q_ = v_ := ⟨_, rfl⟩
 subst e_a6
 with_reducible refine wv (a6) ?_
 try simp only [nP, nN, nA, n0, nS]
 refine wpList_nil ?_
 refine hK4 _ _ ?_
 refine wp_ret ?_
 exact bodyPost_ret (v := a6) (by kernel_rfl) rfl ⟨_, rfl, by unfold B.put; rw [← put_oneN]; exact O, ee⟩
theorem rp_bal {z : World} {base B1 : Nat} {v : Value} {l : List UInt8} (h : OwnB z base v l) (hl : l.length ≤ 274877906944) (hB : B1 ≤ z.heap.size) (r : Nat) (n : Int) (hx : r < 4294967296) : Calls Tryd.prog 69 #[v, .agg #[.int .u32 (r : Int), .int .i64 n]] z (GotW z B1 (B.put l r n)) :=
 (rbput_o h hl r n hx).mono fun _ _ ⟨v, h1, h2, h3⟩ => ⟨v, h1, h2.mono hB, h3⟩
theorem grownAny {w w' : World} (hb : Below w.heap.size w w') (r : Option Nat) : w.grownBy w' r := ⟨hb.os, hb.tape, hb.output, hb.size, fun k hk _ => hb.block k hk⟩
/-- the owned slice v is grown -/
def GrewW (w : World) (B : Nat) (u : Value) (l : List UInt8) (e : Ending) (w' : World) : Prop := ∃ v, e = .returned v ∧ OwnB w' B v l ∧ w.grownBy w' u.ownBlock
set_option maxHeartbeats 25600000 in
theorem flag_o {w : World} {base : Nat} {v : Value} {l : List UInt8} (O : OwnB w base v l) (hb : base ≤ w.heap.size) (hl : l.length ≤ 274877906944) (x : Bool) :
  Calls Tryd.prog 71 #[v, .bool x] w fun e w' => GrewW w base v (C.put l (T.bit x) 1) e w' := by
 have e2 : Below w.heap.size w w := Below.refl _ _
 have ee : Below base w w := Below.refl _ _
 go_enter Tryd.func71, Tryd.ntmps71
 refine wp_seq_k fun K1 hK1 => ?_
 refine wp_region_lit ?_
 with_reducible refine wv (.slice none 0 0) ?_
 try simp only [nP, nN, nA, n0, nS]
 refine wpList_nil ?_
 refine hK1 _ _ ?_
 refine wp_seq_k fun K2 hK2 => ?_
 refine wp_seq_k fun K3 hK3 => ?_
 refine wp_region_lit ?_
 with_reducible refine wv (.bool x) ?_
 try simp only [nP, nN, nA, n0, nS]
 refine wpList_nil ?_
 refine hK3 _ _ ?_
 cases x
 ·refine wp_cond_false (by kernel_rfl) ?_
  refine wp_skip ?_
  refine hK2 _ _ ?_
  refine wp_seq_k fun K4 hK4 => ?_
  refine wp_region_lit ?_
  with_reducible refine wv (v) ?_
  try simp only [nP, nN, nA, n0, nS]
  with_reducible refine ww (.slice (some ⟨w.heap.size, 0, none⟩) 1 1) (w.alloc (.cells #[.int .u8 0] 5)) ?_
  try simp only [nP, nN, nA, n0, nS]
  have sz_g5 := ee.size
  have sz_ := ee.size
  have ne_O_Zs10 : v.ownBlock ≠ some (w.heap.size) := fun hb_ => by have hh_ := (O.lt _ hb_).2; omega
  have O := O.alloc (.cells #[.int .u8 0] 5)
  have ee := ee.alloc (Nat.le_trans hb ee.size) (.cells #[.int .u8 0] 5)
  have e2 := e2.alloc e2.size (.cells #[.int .u8 0] 5)
  have Zs10 := hpN w (.cells #[.int .u8 0] 5) rfl
  generalize w.alloc (.cells #[.int .u8 0] 5) = z1 at Zs10 O ee e2 ⊢
  obtain ⟨g5, hg_g5⟩ : ∃ g_, g_ = w.heap.size := ⟨_, rfl⟩
  have hB_g5 : w.heap.size ≤ g5 := by rw [hg_g5]; exact sz_g5
  rw [← hg_g5] at Zs10 ⊢
  clear hg_g5
  with_reducible refine wa8 (.tmp 9) (.tmp 10) O (slOne (b := 0) Zs10 rfl) (by omega) (by simp) (Nat.le_trans hb ee.size) ?_
  intro v_ z2 O_ g_
  clear Zs10
  have ee := ee.grown g_ (Nat.le_trans hb ee.size) (fun i_ h_ => (O.lt i_ h_).1)
  have hgr := grownTrans (grownAny e2 _) g_
  clear g_ O
  have O := O_
  clear O_
  obtain ⟨a6, e_a6⟩ : ∃ q_, q_ = v_ := ⟨_, rfl⟩
  subst e_a6
  with_reducible refine wv (a6) ?_
  try simp only [nP, nN, nA, n0, nS]
  refine wpList_nil ?_
  refine hK4 _ _ ?_
  refine wp_ret ?_
  exact bodyPost_ret (v := a6) (by kernel_rfl) rfl ⟨_, rfl, by rw [put_one]; exact O, hgr⟩
 refine wp_cond_true (by kernel_rfl) ?_
 refine wp_seq_k fun K7 hK7 => ?_
 refine wp_region_lit ?_
 with_reducible refine wv (v) ?_
 try simp only [nP, nN, nA, n0, nS]
 with_reducible refine ww (.slice (some ⟨w.heap.size, 0, none⟩) 1 1) (w.alloc (.cells #[.int .u8 1] 5)) ?_
 try simp only [nP, nN, nA, n0, nS]
 have sz_g8 := ee.size
 have sz_ := ee.size
 have ne_O_Zs7 : v.ownBlock ≠ some (w.heap.size) := fun hb_ => by have hh_ := (O.lt _ hb_).2; omega
 have O := O.alloc (.cells #[.int .u8 1] 5)
 have ee := ee.alloc (Nat.le_trans hb ee.size) (.cells #[.int .u8 1] 5)
 have e2 := e2.alloc e2.size (.cells #[.int .u8 1] 5)
 have Zs7 := hpN w (.cells #[.int .u8 1] 5) rfl
 generalize w.alloc (.cells #[.int .u8 1] 5) = z1 at Zs7 O ee e2 ⊢
 obtain ⟨g8, hg_g8⟩ : ∃ g_, g_ = w.heap.size := ⟨_, rfl⟩
 have hB_g8 : w.heap.size ≤ g8 := by rw [hg_g8]; exact sz_g8
 rw [← hg_g8] at Zs7 ⊢
 clear hg_g8
 with_reducible refine wa8 (.tmp 6) (.tmp 7) O (slOne (b := 1) Zs7 rfl) (by omega) (by simp) (Nat.le_trans hb ee.size) ?_
 intro v_ z2 O_ g_
 clear Zs7
 have ee := ee.grown g_ (Nat.le_trans hb ee.size) (fun i_ h_ => (O.lt i_ h_).1)
 have hgr := grownTrans (grownAny e2 _) g_
 clear g_ O
 have O := O_
 clear O_
 obtain ⟨a9, e_a9⟩ : ∃ q_, q_ = v_ := ⟨_, rfl⟩
 subst e_a9
 with_reducible refine wv (a9) ?_
 try simp only [nP, nN, nA, n0, nS]
 refine wpList_nil ?_
 refine hK7 _ _ ?_
 refine wp_ret ?_
 refine then_ret ?_
 exact bodyPost_ret (v := a9) (by kernel_rfl) rfl ⟨_, rfl, by rw [put_one]; exact O, hgr⟩
end Go.Proofs.YtjofjpmhokjhnaaDoor

namespace Go.Proofs.YtjofjpmhokjhnaaDoor
set_option maxRecDepth 20001
open Go.RowKit T
set_option linter.unusedSimpArgs false
set_option linter.unusedVariables false

theorem SameC_refl (x : Cm) : SameC x x = true := by unfold SameC; simp
theorem SameT_refl (x : Tn) : SameT x x = true := by unfold SameT; simp
theorem SameC_comm (x y : Cm) : SameC x y = SameC y x := by
 unfold SameC; rw [decide_eq_decide]
 constructor <;> (rintro ⟨h1, ⟨h2, h3⟩, h4, h5, h6, h7, h8, h9, h10⟩; exact ⟨h1.symm, ⟨h2.symm, h3.symm⟩, h4.symm, h5.symm, h6.symm, h7.symm, h8.symm, h9.symm, h10.symm⟩)
theorem SameT_comm (x y : Tn) : SameT x y = SameT y x := by
 unfold SameT; rw [decide_eq_decide]
 constructor <;> (rintro ⟨h1, h2, h3, h4⟩; exact ⟨h1.symm, h2.symm, h3.symm, h4.symm⟩)
theorem fields_1 : fieldsOf 1 = [66] := by decide
theorem fields_2 : fieldsOf 2 = [66, 83, 72] := by decide
theorem fields_3 : fieldsOf 3 = [66] := by decide
theorem fields_4 : fieldsOf 4 = [66, 83, 67] := by decide
theorem fields_5 : fieldsOf 5 = [66, 83] := by decide
theorem fields_6 : fieldsOf 6 = [83, 67] := by decide
theorem fields_7 : fieldsOf 7 = [83] := by decide
theorem fields_8 : fieldsOf 8 = [84] := by decide
theorem fields_9 : fieldsOf 9 = [73, 71, 80] := by decide
theorem fields_10 : fieldsOf 10 = [73, 71, 89] := by decide
theorem fields_11 : fieldsOf 11 = [73, 71, 80, 89] := by decide
theorem fields_12 : fieldsOf 12 = [80, 78, 75] := by decide
theorem fields_13 : fieldsOf 13 = [71, 80, 78, 75, 86, 88, 69] := by decide
theorem fields_14 : fieldsOf 14 = [78] := by decide
theorem fields_15 : fieldsOf 15 = [83, 68] := by decide
theorem only_1 (m : Ms) (h : m.kd = 1) : m.only = { Ms.zero 1 with br := m.br, bn := m.bn } := by
 unfold Ms.only
 rw [h, fields_1]
 simp [List.foldl, Ms.put]
theorem only_2 (m : Ms) (h : m.kd = 2) : m.only = (if m.ha then { Ms.zero 2 with br := m.br, bn := m.bn, sl := m.sl, ha := true, vr := m.vr, vn := m.vn, c := m.c } else { Ms.zero 2 with br := m.br, bn := m.bn, sl := m.sl }) := by
 unfold Ms.only
 rw [h, fields_2]
 cases hb : m.ha <;> simp [List.foldl, Ms.put, hb, Ms.zero]
theorem only_3 (m : Ms) (h : m.kd = 3) : m.only = { Ms.zero 3 with br := m.br, bn := m.bn } := by
 unfold Ms.only
 rw [h, fields_3]
 simp [List.foldl, Ms.put]
theorem only_4 (m : Ms) (h : m.kd = 4) : m.only = { Ms.zero 4 with br := m.br, bn := m.bn, sl := m.sl, c := m.c } := by
 unfold Ms.only
 rw [h, fields_4]
 simp [List.foldl, Ms.put]
theorem only_5 (m : Ms) (h : m.kd = 5) : m.only = { Ms.zero 5 with br := m.br, bn := m.bn, sl := m.sl } := by
 unfold Ms.only
 rw [h, fields_5]
 simp [List.foldl, Ms.put]
theorem only_6 (m : Ms) (h : m.kd = 6) : m.only = { Ms.zero 6 with sl := m.sl, c := m.c } := by
 unfold Ms.only
 rw [h, fields_6]
 simp [List.foldl, Ms.put]
theorem only_7 (m : Ms) (h : m.kd = 7) : m.only = { Ms.zero 7 with sl := m.sl } := by
 unfold Ms.only
 rw [h, fields_7]
 simp [List.foldl, Ms.put]
theorem only_8 (m : Ms) (h : m.kd = 8) : m.only = { Ms.zero 8 with t := m.t } := by
 unfold Ms.only
 rw [h, fields_8]
 simp [List.foldl, Ms.put]
theorem only_9 (m : Ms) (h : m.kd = 9) : m.only = { Ms.zero 9 with ii := m.ii, ij := m.ij, g := m.g, st := m.st } := by
 unfold Ms.only
 rw [h, fields_9]
 simp [List.foldl, Ms.put]
theorem only_10 (m : Ms) (h : m.kd = 10) : m.only = { Ms.zero 10 with ii := m.ii, ij := m.ij, g := m.g, ye := m.ye } := by
 unfold Ms.only
 rw [h, fields_10]
 simp [List.foldl, Ms.put]
theorem only_11 (m : Ms) (h : m.kd = 11) : m.only = { Ms.zero 11 with ii := m.ii, ij := m.ij, g := m.g, st := m.st, ye := m.ye } := by
 unfold Ms.only
 rw [h, fields_11]
 simp [List.foldl, Ms.put]
theorem only_12 (m : Ms) (h : m.kd = 12) : m.only = { Ms.zero 12 with st := m.st, nu := m.nu, ky := m.ky } := by
 unfold Ms.only
 rw [h, fields_12]
 simp [List.foldl, Ms.put]
theorem only_13 (m : Ms) (h : m.kd = 13) : m.only = { Ms.zero 13 with g := m.g, st := m.st, nu := m.nu, ky := m.ky, ve := m.ve, vk := m.vk, vb := m.vb, vt := m.vt, er := m.er } := by
 unfold Ms.only
 rw [h, fields_13]
 simp [List.foldl, Ms.put]
theorem only_14 (m : Ms) (h : m.kd = 14) : m.only = { Ms.zero 14 with nu := m.nu } := by
 unfold Ms.only
 rw [h, fields_14]
 simp [List.foldl, Ms.put]
theorem only_15 (m : Ms) (h : m.kd = 15) : m.only = { Ms.zero 15 with sl := m.sl, dt := m.dt, D := m.D, dc := m.dc } := by
 unfold Ms.only
 rw [h, fields_15]
 simp [List.foldl, Ms.put]
set_option maxHeartbeats 4000000
theorem fkd_1 (m : Ms) (h : m.kd = 1) : m.formed = m.rformed := by
 rw [Bool.eq_iff_iff]
 unfold T.Ms.formed T.Ms.fit T.Ms.sound T.Ms.rformed T.Ms.rfirst T.Ms.rsecond
 rw [only_1 m h, SameC_comm m.c Cm.zero, SameT_comm m.t Tn.zero]
 unfold T.Ms.same
 simp only [h, fields_1, Tn.formed, T.uB, T.uS, T.uH, T.uC, T.uT, T.uI, T.uG, T.uP, T.uY, T.uN, T.uK, T.uV, T.uD, Ms.zero]
 cases hh : m.ha <;> simp [SameC_refl, SameT_refl, Lib.toList_data] <;> (try simp only [decide_eq_true_eq]) <;> grind
theorem fkd_2 (m : Ms) (h : m.kd = 2) : m.formed = m.rformed := by
 rw [Bool.eq_iff_iff]
 unfold T.Ms.formed T.Ms.fit T.Ms.sound T.Ms.rformed T.Ms.rfirst T.Ms.rsecond
 rw [only_2 m h, SameC_comm m.c Cm.zero, SameT_comm m.t Tn.zero]
 unfold T.Ms.same
 simp only [h, fields_2, Tn.formed, T.uB, T.uS, T.uH, T.uC, T.uT, T.uI, T.uG, T.uP, T.uY, T.uN, T.uK, T.uV, T.uD, Ms.zero]
 cases hh : m.ha <;> simp [SameC_refl, SameT_refl, Lib.toList_data] <;> (try simp only [decide_eq_true_eq]) <;> grind
theorem fkd_3 (m : Ms) (h : m.kd = 3) : m.formed = m.rformed := by
 rw [Bool.eq_iff_iff]
 unfold T.Ms.formed T.Ms.fit T.Ms.sound T.Ms.rformed T.Ms.rfirst T.Ms.rsecond
 rw [only_3 m h, SameC_comm m.c Cm.zero, SameT_comm m.t Tn.zero]
 unfold T.Ms.same
 simp only [h, fields_3, Tn.formed, T.uB, T.uS, T.uH, T.uC, T.uT, T.uI, T.uG, T.uP, T.uY, T.uN, T.uK, T.uV, T.uD, Ms.zero]
 cases hh : m.ha <;> simp [SameC_refl, SameT_refl, Lib.toList_data] <;> (try simp only [decide_eq_true_eq]) <;> grind
theorem fkd_4 (m : Ms) (h : m.kd = 4) : m.formed = m.rformed := by
 rw [Bool.eq_iff_iff]
 unfold T.Ms.formed T.Ms.fit T.Ms.sound T.Ms.rformed T.Ms.rfirst T.Ms.rsecond
 rw [only_4 m h, SameC_comm m.c Cm.zero, SameT_comm m.t Tn.zero]
 unfold T.Ms.same
 simp only [h, fields_4, Tn.formed, T.uB, T.uS, T.uH, T.uC, T.uT, T.uI, T.uG, T.uP, T.uY, T.uN, T.uK, T.uV, T.uD, Ms.zero]
 cases hh : m.ha <;> simp [SameC_refl, SameT_refl, Lib.toList_data] <;> (try simp only [decide_eq_true_eq]) <;> grind
theorem fkd_5 (m : Ms) (h : m.kd = 5) : m.formed = m.rformed := by
 rw [Bool.eq_iff_iff]
 unfold T.Ms.formed T.Ms.fit T.Ms.sound T.Ms.rformed T.Ms.rfirst T.Ms.rsecond
 rw [only_5 m h, SameC_comm m.c Cm.zero, SameT_comm m.t Tn.zero]
 unfold T.Ms.same
 simp only [h, fields_5, Tn.formed, T.uB, T.uS, T.uH, T.uC, T.uT, T.uI, T.uG, T.uP, T.uY, T.uN, T.uK, T.uV, T.uD, Ms.zero]
 cases hh : m.ha <;> simp [SameC_refl, SameT_refl, Lib.toList_data] <;> (try simp only [decide_eq_true_eq]) <;> grind
theorem fkd_6 (m : Ms) (h : m.kd = 6) : m.formed = m.rformed := by
 rw [Bool.eq_iff_iff]
 unfold T.Ms.formed T.Ms.fit T.Ms.sound T.Ms.rformed T.Ms.rfirst T.Ms.rsecond
 rw [only_6 m h, SameC_comm m.c Cm.zero, SameT_comm m.t Tn.zero]
 unfold T.Ms.same
 simp only [h, fields_6, Tn.formed, T.uB, T.uS, T.uH, T.uC, T.uT, T.uI, T.uG, T.uP, T.uY, T.uN, T.uK, T.uV, T.uD, Ms.zero]
 cases hh : m.ha <;> simp [SameC_refl, SameT_refl, Lib.toList_data] <;> (try simp only [decide_eq_true_eq]) <;> grind
theorem fkd_7 (m : Ms) (h : m.kd = 7) : m.formed = m.rformed := by
 rw [Bool.eq_iff_iff]
 unfold T.Ms.formed T.Ms.fit T.Ms.sound T.Ms.rformed T.Ms.rfirst T.Ms.rsecond
 rw [only_7 m h, SameC_comm m.c Cm.zero, SameT_comm m.t Tn.zero]
 unfold T.Ms.same
 simp only [h, fields_7, Tn.formed, T.uB, T.uS, T.uH, T.uC, T.uT, T.uI, T.uG, T.uP, T.uY, T.uN, T.uK, T.uV, T.uD, Ms.zero]
 cases hh : m.ha <;> simp [SameC_refl, SameT_refl, Lib.toList_data] <;> (try simp only [decide_eq_true_eq]) <;> grind
theorem fkd_8 (m : Ms) (h : m.kd = 8) : m.formed = m.rformed := by
 rw [Bool.eq_iff_iff]
 unfold T.Ms.formed T.Ms.fit T.Ms.sound T.Ms.rformed T.Ms.rfirst T.Ms.rsecond
 rw [only_8 m h, SameC_comm m.c Cm.zero, SameT_comm m.t Tn.zero]
 unfold T.Ms.same
 simp only [h, fields_8, Tn.formed, T.uB, T.uS, T.uH, T.uC, T.uT, T.uI, T.uG, T.uP, T.uY, T.uN, T.uK, T.uV, T.uD, Ms.zero]
 cases hh : m.ha <;> simp [SameC_refl, SameT_refl, Lib.toList_data] <;> (try simp only [decide_eq_true_eq]) <;> grind
theorem fkd_9 (m : Ms) (h : m.kd = 9) : m.formed = m.rformed := by
 rw [Bool.eq_iff_iff]
 unfold T.Ms.formed T.Ms.fit T.Ms.sound T.Ms.rformed T.Ms.rfirst T.Ms.rsecond
 rw [only_9 m h, SameC_comm m.c Cm.zero, SameT_comm m.t Tn.zero]
 unfold T.Ms.same
 simp only [h, fields_9, Tn.formed, T.uB, T.uS, T.uH, T.uC, T.uT, T.uI, T.uG, T.uP, T.uY, T.uN, T.uK, T.uV, T.uD, Ms.zero]
 cases hh : m.ha <;> simp [SameC_refl, SameT_refl, Lib.toList_data] <;> (try simp only [decide_eq_true_eq]) <;> grind
theorem fkd_10 (m : Ms) (h : m.kd = 10) : m.formed = m.rformed := by
 rw [Bool.eq_iff_iff]
 unfold T.Ms.formed T.Ms.fit T.Ms.sound T.Ms.rformed T.Ms.rfirst T.Ms.rsecond
 rw [only_10 m h, SameC_comm m.c Cm.zero, SameT_comm m.t Tn.zero]
 unfold T.Ms.same
 simp only [h, fields_10, Tn.formed, T.uB, T.uS, T.uH, T.uC, T.uT, T.uI, T.uG, T.uP, T.uY, T.uN, T.uK, T.uV, T.uD, Ms.zero]
 cases hh : m.ha <;> simp [SameC_refl, SameT_refl, Lib.toList_data] <;> (try simp only [decide_eq_true_eq]) <;> grind
theorem fkd_11 (m : Ms) (h : m.kd = 11) : m.formed = m.rformed := by
 rw [Bool.eq_iff_iff]
 unfold T.Ms.formed T.Ms.fit T.Ms.sound T.Ms.rformed T.Ms.rfirst T.Ms.rsecond
 rw [only_11 m h, SameC_comm m.c Cm.zero, SameT_comm m.t Tn.zero]
 unfold T.Ms.same
 simp only [h, fields_11, Tn.formed, T.uB, T.uS, T.uH, T.uC, T.uT, T.uI, T.uG, T.uP, T.uY, T.uN, T.uK, T.uV, T.uD, Ms.zero]
 cases hh : m.ha <;> simp [SameC_refl, SameT_refl, Lib.toList_data] <;> (try simp only [decide_eq_true_eq]) <;> grind
theorem fkd_12 (m : Ms) (h : m.kd = 12) : m.formed = m.rformed := by
 rw [Bool.eq_iff_iff]
 unfold T.Ms.formed T.Ms.fit T.Ms.sound T.Ms.rformed T.Ms.rfirst T.Ms.rsecond
 rw [only_12 m h, SameC_comm m.c Cm.zero, SameT_comm m.t Tn.zero]
 unfold T.Ms.same
 simp only [h, fields_12, Tn.formed, T.uB, T.uS, T.uH, T.uC, T.uT, T.uI, T.uG, T.uP, T.uY, T.uN, T.uK, T.uV, T.uD, Ms.zero]
 cases hh : m.ha <;> simp [SameC_refl, SameT_refl, Lib.toList_data] <;> (try simp only [decide_eq_true_eq]) <;> grind
theorem fkd_13 (m : Ms) (h : m.kd = 13) : m.formed = m.rformed := by
 rw [Bool.eq_iff_iff]
 unfold T.Ms.formed T.Ms.fit T.Ms.sound T.Ms.rformed T.Ms.rfirst T.Ms.rsecond
 rw [only_13 m h, SameC_comm m.c Cm.zero, SameT_comm m.t Tn.zero]
 unfold T.Ms.same
 simp only [h, fields_13, Tn.formed, T.uB, T.uS, T.uH, T.uC, T.uT, T.uI, T.uG, T.uP, T.uY, T.uN, T.uK, T.uV, T.uD, Ms.zero]
 cases hh : m.ha <;> simp [SameC_refl, SameT_refl, Lib.toList_data] <;> (try simp only [decide_eq_true_eq]) <;> grind
theorem fkd_14 (m : Ms) (h : m.kd = 14) : m.formed = m.rformed := by
 rw [Bool.eq_iff_iff]
 unfold T.Ms.formed T.Ms.fit T.Ms.sound T.Ms.rformed T.Ms.rfirst T.Ms.rsecond
 rw [only_14 m h, SameC_comm m.c Cm.zero, SameT_comm m.t Tn.zero]
 unfold T.Ms.same
 simp only [h, fields_14, Tn.formed, T.uB, T.uS, T.uH, T.uC, T.uT, T.uI, T.uG, T.uP, T.uY, T.uN, T.uK, T.uV, T.uD, Ms.zero]
 cases hh : m.ha <;> simp [SameC_refl, SameT_refl, Lib.toList_data] <;> (try simp only [decide_eq_true_eq]) <;> grind
theorem fkd_15 (m : Ms) (h : m.kd = 15) : m.formed = m.rformed := by
 rw [Bool.eq_iff_iff]
 unfold T.Ms.formed T.Ms.fit T.Ms.sound T.Ms.rformed T.Ms.rfirst T.Ms.rsecond
 rw [only_15 m h, SameC_comm m.c Cm.zero, SameT_comm m.t Tn.zero]
 unfold T.Ms.same
 simp only [h, fields_15, Tn.formed, T.uB, T.uS, T.uH, T.uC, T.uT, T.uI, T.uG, T.uP, T.uY, T.uN, T.uK, T.uV, T.uD, Ms.zero]
 cases hh : m.ha <;> simp [SameC_refl, SameT_refl, Lib.toList_data] <;> (try simp only [decide_eq_true_eq]) <;> grind
/-- what both sides call formed is the same -/
theorem formed_eq (m : Ms) : m.formed = m.rformed := by
 by_cases k1 : m.kd = 1
 ·exact fkd_1 m k1
 by_cases k2 : m.kd = 2
 ·exact fkd_2 m k2
 by_cases k3 : m.kd = 3
 ·exact fkd_3 m k3
 by_cases k4 : m.kd = 4
 ·exact fkd_4 m k4
 by_cases k5 : m.kd = 5
 ·exact fkd_5 m k5
 by_cases k6 : m.kd = 6
 ·exact fkd_6 m k6
 by_cases k7 : m.kd = 7
 ·exact fkd_7 m k7
 by_cases k8 : m.kd = 8
 ·exact fkd_8 m k8
 by_cases k9 : m.kd = 9
 ·exact fkd_9 m k9
 by_cases k10 : m.kd = 10
 ·exact fkd_10 m k10
 by_cases k11 : m.kd = 11
 ·exact fkd_11 m k11
 by_cases k12 : m.kd = 12
 ·exact fkd_12 m k12
 by_cases k13 : m.kd = 13
 ·exact fkd_13 m k13
 by_cases k14 : m.kd = 14
 ·exact fkd_14 m k14
 by_cases k15 : m.kd = 15
 ·exact fkd_15 m k15
 have hf : fieldsOf m.kd = [] := by unfold fieldsOf; simp only [k1, k2, k3, k4, k5, k6, k7, k8, k9, k10, k11, k12, k13, k14, k15, if_false, or_self]
 have h1 : m.formed = false := by unfold T.Ms.formed T.Ms.fit; rw [hf]; simp
 have h2 : m.rformed = false := by
  unfold T.Ms.rformed
  by_cases q : m.kd < 1
  ·simp [q]
  ·have : m.kd > 15 := by omega
   simp [this]
 rw [h1, h2]
end Go.Proofs.YtjofjpmhokjhnaaDoor

namespace Go.Proofs.YtjofjpmhokjhnaaDoor
set_option maxRecDepth 20001
open Go.RowKit T
set_option linter.unusedSimpArgs false
set_option linter.unusedVariables false

theorem rmformed_f (m : Ms) (w : World) (B0 : Nat) (hB : B0 ≤ w.heap.size) (ok : MsOk w B0 m) : Calls Tryd.prog 14 #[.agg m.cells.toArray] w fun e w' => e = .returned (.bool m.formed) ∧ Below w.heap.size w w' := by
 have h := rmformed_any m w B0 hB ok
 rw [← formed_eq] at h
 exact h
end Go.Proofs.YtjofjpmhokjhnaaDoor

namespace Go.Proofs.YtjofjpmhokjhnaaDoor
set_option maxRecDepth 20001
open Go.RowKit T
set_option linter.unusedSimpArgs false
set_option linter.unusedVariables false

namespace T
/-- what the reference has written so far -/
def Ms.rl0 (m : Ms) : List UInt8 := [UInt8.ofNat (T.nz m.kd)]
def Ms.rl1 (m : Ms) : List UInt8 := bif T.uB m.kd then B.put m.rl0 m.br m.bn else m.rl0
def Ms.rl2 (m : Ms) : List UInt8 := bif T.uS m.kd then C.put m.rl1 (T.nz m.sl) 4 else m.rl1
def Ms.rl3 (m : Ms) : List UInt8 := bif T.uH m.kd then C.put m.rl2 (T.bit m.ha) 1 else m.rl2
def Ms.rl4 (m : Ms) : List UInt8 := bif m.ha then B.put m.rl3 m.vr m.vn else m.rl3
def Ms.rl5 (m : Ms) : List UInt8 := bif m.ha || T.uC m.kd then cput m.rl4 m.c else m.rl4
def Ms.rl6 (m : Ms) : List UInt8 := bif T.uT m.kd then tput m.rl5 m.t.s m.t.q m.t.rs m.t.ws else m.rl5
def Ms.rl7 (m : Ms) : List UInt8 := bif T.uI m.kd then idput m.rl6 m.ii m.ij else m.rl6
def Ms.rl8 (m : Ms) : List UInt8 := bif T.uG m.kd then C.put m.rl7 (T.nz m.g) 1 else m.rl7
def Ms.rl9 (m : Ms) : List UInt8 := bif T.uP m.kd then C.put m.rl8 m.st 8 else m.rl8
def Ms.rl10 (m : Ms) : List UInt8 := bif T.uY m.kd then C.put m.rl9 (T.bit m.ye) 1 else m.rl9
def Ms.rl11 (m : Ms) : List UInt8 := bif T.uN m.kd then C.put m.rl10 (T.nz m.nu) 4 else m.rl10
def Ms.rl12 (m : Ms) : List UInt8 := bif T.uK m.kd then C.putText m.rl11 m.ky.data.toList else m.rl11
def Ms.rl13 (m : Ms) : List UInt8 := bif T.uV m.kd then C.put (V.put (C.put m.rl12 m.ve 8) m.vk m.vb m.vt.data.toList) (T.nz m.er) 1 else m.rl12
def Ms.rl14 (m : Ms) : List UInt8 := bif T.uD m.kd then C.put m.rl13 m.dt.length 4 ++ m.dt else m.rl13
end T
theorem rl_len0 (m : Ms) (h : m.dt.length ≤ 70000) : m.rl0.length ≤ 16 + 0 * 1800000 := by unfold T.Ms.rl0; simp
theorem rl_len1 (m : Ms) (h : m.dt.length ≤ 70000) : m.rl1.length ≤ 16 + 1 * 1800000 := by
 have h_ := rl_len0 m h
 have h0_ := B.put_len m.rl0 m.br m.bn
 unfold T.Ms.rl1
 cases T.uB m.kd <;> simp only [cond_true, cond_false] <;> omega
theorem rl_len2 (m : Ms) (h : m.dt.length ≤ 70000) : m.rl2.length ≤ 16 + 2 * 1800000 := by
 have h_ := rl_len1 m h
 have h0_ := put_len2 m.rl1 (T.nz m.sl) 4
 unfold T.Ms.rl2
 cases T.uS m.kd <;> simp only [cond_true, cond_false] <;> omega
theorem rl_len3 (m : Ms) (h : m.dt.length ≤ 70000) : m.rl3.length ≤ 16 + 3 * 1800000 := by
 have h_ := rl_len2 m h
 have h0_ := put_len2 m.rl2 (T.bit m.ha) 1
 unfold T.Ms.rl3
 cases T.uH m.kd <;> simp only [cond_true, cond_false] <;> omega
theorem rl_len4 (m : Ms) (h : m.dt.length ≤ 70000) : m.rl4.length ≤ 16 + 4 * 1800000 := by
 have h_ := rl_len3 m h
 have h0_ := B.put_len m.rl3 m.vr m.vn
 unfold T.Ms.rl4
 cases m.ha <;> simp only [cond_true, cond_false] <;> omega
theorem rl_len5 (m : Ms) (h : m.dt.length ≤ 70000) : m.rl5.length ≤ 16 + 5 * 1800000 := by
 have h_ := rl_len4 m h
 have h0_ := cput_len m.rl4 m.c
 unfold T.Ms.rl5
 cases m.ha || T.uC m.kd <;> simp only [cond_true, cond_false] <;> omega
theorem rl_len6 (m : Ms) (h : m.dt.length ≤ 70000) : m.rl6.length ≤ 16 + 6 * 1800000 := by
 have h_ := rl_len5 m h
 have h0_ := tput_len m.rl5 m.t.s m.t.q m.t.rs m.t.ws
 unfold T.Ms.rl6
 cases T.uT m.kd <;> simp only [cond_true, cond_false] <;> omega
theorem rl_len7 (m : Ms) (h : m.dt.length ≤ 70000) : m.rl7.length ≤ 16 + 7 * 1800000 := by
 have h_ := rl_len6 m h
 have h0_ := idput_len m.rl6 m.ii m.ij
 unfold T.Ms.rl7
 cases T.uI m.kd <;> simp only [cond_true, cond_false] <;> omega
theorem rl_len8 (m : Ms) (h : m.dt.length ≤ 70000) : m.rl8.length ≤ 16 + 8 * 1800000 := by
 have h_ := rl_len7 m h
 have h0_ := put_len2 m.rl7 (T.nz m.g) 1
 unfold T.Ms.rl8
 cases T.uG m.kd <;> simp only [cond_true, cond_false] <;> omega
theorem rl_len9 (m : Ms) (h : m.dt.length ≤ 70000) : m.rl9.length ≤ 16 + 9 * 1800000 := by
 have h_ := rl_len8 m h
 have h0_ := put_len2 m.rl8 m.st 8
 unfold T.Ms.rl9
 cases T.uP m.kd <;> simp only [cond_true, cond_false] <;> omega
theorem rl_len10 (m : Ms) (h : m.dt.length ≤ 70000) : m.rl10.length ≤ 16 + 10 * 1800000 := by
 have h_ := rl_len9 m h
 have h0_ := put_len2 m.rl9 (T.bit m.ye) 1
 unfold T.Ms.rl10
 cases T.uY m.kd <;> simp only [cond_true, cond_false] <;> omega
theorem rl_len11 (m : Ms) (h : m.dt.length ≤ 70000) : m.rl11.length ≤ 16 + 11 * 1800000 := by
 have h_ := rl_len10 m h
 have h0_ := put_len2 m.rl10 (T.nz m.nu) 4
 unfold T.Ms.rl11
 cases T.uN m.kd <;> simp only [cond_true, cond_false] <;> omega
theorem rl_len12 (m : Ms) (h : m.dt.length ≤ 70000) : m.rl12.length ≤ 16 + 12 * 1800000 := by
 have h_ := rl_len11 m h
 have h0_ := puttext_len m.rl11 m.ky.data.toList
 unfold T.Ms.rl12
 cases T.uK m.kd <;> simp only [cond_true, cond_false] <;> omega
theorem rl_len13 (m : Ms) (h : m.dt.length ≤ 70000) : m.rl13.length ≤ 16 + 13 * 1800000 := by
 have h_ := rl_len12 m h
 have h0_ := put_len2 m.rl12 m.ve 8
 have h1_ := V.put_len (C.put m.rl12 m.ve 8) m.vk m.vb m.vt.data.toList
 have h2_ := put_len2 (V.put (C.put m.rl12 m.ve 8) m.vk m.vb m.vt.data.toList) (T.nz m.er) 1
 unfold T.Ms.rl13
 cases T.uV m.kd <;> simp only [cond_true, cond_false] <;> omega
set_option maxHeartbeats 25600000 in
theorem rmwrite_any (m : Ms) (w : World) (B0 : Nat) (hB : B0 ≤ w.heap.size) (ok : MsOk w B0 m) (hdt : m.dt.length ≤ 70000) :
  Calls Tryd.prog 21 #[.agg m.cells.toArray] w fun e w' => Wrote m.formed m.rl14 e w' ∧ Below w.heap.size w w' := by
 have ee : Below w.heap.size w w := Below.refl _ _
 go_enter Tryd.func21, Tryd.ntmps21
 refine wp_seq_k fun K1 hK1 => ?_
 refine wp_region_lit ?_
 with_reducible refine ww (.pointer (some ⟨w.heap.size, 0, none⟩)) (w.alloc (.cells (m.cells).toArray 47)) ?_
 try simp only [nP, nN, nA, n0, nS]
 have sz_g2 := ee.size
 have sz_ := ee.size
 have ee := ee.alloc ee.size (.cells (m.cells).toArray 47)
 have Zb1 := hpN w (.cells (m.cells).toArray 47) rfl
 generalize w.alloc (.cells (m.cells).toArray 47) = z1 at Zb1 ee ⊢
 obtain ⟨g2, hg_g2⟩ : ∃ g_, g_ = w.heap.size := ⟨_, rfl⟩
 have hB_g2 : w.heap.size ≤ g2 := by rw [hg_g2]; exact sz_g2
 rw [← hg_g2] at Zb1 ⊢
 clear hg_g2
 with_reducible refine wv (.slice none 0 0) ?_
 try simp only [nP, nN, nA, n0, nS]
 with_reducible refine wv (.int .i64 0) ?_
 try simp only [nP, nN, nA, n0, nS]
 refine wpList_nil ?_
 refine hK1 _ _ ?_
 refine wp_seq_k fun K3 hK3 => ?_
 refine wp_seq_k fun K4 hK4 => ?_
 refine wp_region_lit ?_
 with_reducible refine wg (g2) (0) (m.cells) (rowAt Zb1) Tryd.underlying47 ?_
 try simp only [nP, nN, nA, n0, nS]
 with_reducible refine wc 14 #[.agg (m.cells).toArray] (rmformed_f m z1 B0 (Nat.le_trans hB ee.size) (ok.below ee hB)) ?_
 rintro e z2 ⟨rfl, t⟩
 refine ⟨_, rfl, ?_⟩
 have Zb1 := hpB Zb1 t
 have ee := ee.trans (t.mono ee.size)
 clear t
 generalize hb5 : m.formed = b5
 try simp only [nP, nN, nA, n0, nS]
 cases b5
 ·with_reducible refine wv (.bool true) ?_
  try simp only [nP, nN, nA, n0, nS]
  refine wpList_nil ?_
  refine hK4 _ _ ?_
  refine wp_cond_true (by kernel_rfl) ?_
  refine wp_seq_k fun K6 hK6 => ?_
  refine wp_region_lit ?_
  with_reducible refine wv (.slice none 0 0) ?_
  try simp only [nP, nN, nA, n0, nS]
  with_reducible refine wv (.int .i64 2) ?_
  try simp only [nP, nN, nA, n0, nS]
  refine wpList_nil ?_
  refine hK6 _ _ ?_
  refine wp_ret ?_
  refine then_ret ?_
  exact bodyPost_ret (v := .tuple #[.slice none 0 0, .int .i64 2]) (by kernel_rfl) rfl ⟨⟨_, [], 2, rfl, SlB.nil, by rw [hb5]; rfl, by rw [hb5]; rfl⟩, ee⟩
 with_reducible refine wv (.bool false) ?_
 try simp only [nP, nN, nA, n0, nS]
 refine wpList_nil ?_
 refine hK4 _ _ ?_
 refine wp_cond_false (by kernel_rfl) ?_
 refine wp_skip ?_
 refine hK3 _ _ ?_
 refine wp_seq_k fun K7 hK7 => ?_
 refine wp_region_lit ?_
 with_reducible refine wv (.pointer (some ⟨g2, 0, none⟩)) ?_
 try simp only [nP, nN, nA, n0, nS]
 with_reducible refine wl (.int .i64 m.kd) ⟨g2, 0, none⟩ (rowCell Zb1 (0) rfl) Tryd.underlying3 ?_
 try simp only [nP, nN, nA, n0, nS]
 with_reducible refine wv (.int .i64 m.kd) ?_
 try simp only [nP, nN, nA, n0, nS]
 refine wpList_nil ?_
 refine hK7 _ _ ?_
 refine wp_seq_k fun K8 hK8 => ?_
 refine wp_region_lit ?_
 with_reducible refine wv (.int .i64 m.kd) ?_
 try simp only [nP, nN, nA, n0, nS]
 with_reducible refine wq (.int .u8 (((UInt8.ofNat (T.nz m.kd)).toNat : Int))) (okIntP ((wrap8nz m.kd) : IntKind.u8.wrap m.kd = ((UInt8.ofNat (T.nz m.kd)).toNat : Int)) (by kernel_rfl)) ?_
 try simp only [nP, nN, nA, n0, nS]
 with_reducible refine ww (.slice (some ⟨z2.heap.size, 0, none⟩) 1 1) (z2.alloc (.cells #[.int .u8 (((UInt8.ofNat (T.nz m.kd)).toNat : Int))] 5)) ?_
 try simp only [nP, nN, nA, n0, nS]
 have sz_g9 := ee.size
 have lZb1 := (Array.getElem?_eq_some_iff.1 Zb1).1
 have sz_ := ee.size
 have Zb1 := hpA Zb1 (.cells #[.int .u8 (((UInt8.ofNat (T.nz m.kd)).toNat : Int))] 5)
 have ee := ee.alloc ee.size (.cells #[.int .u8 (((UInt8.ofNat (T.nz m.kd)).toNat : Int))] 5)
 have Zs13 := hpN z2 (.cells #[.int .u8 (((UInt8.ofNat (T.nz m.kd)).toNat : Int))] 5) rfl
 generalize z2.alloc (.cells #[.int .u8 (((UInt8.ofNat (T.nz m.kd)).toNat : Int))] 5) = z3 at Zb1 Zs13 ee ⊢
 obtain ⟨g9, hg_g9⟩ : ∃ g_, g_ = z2.heap.size := ⟨_, rfl⟩
 have n_g9_Zb1 : g2 < g9 := by rw [hg_g9]; exact lZb1
 have hB_g9 : w.heap.size ≤ g9 := by rw [hg_g9]; exact sz_g9
 rw [← hg_g9] at Zs13 ⊢
 clear hg_g9 lZb1
 with_reducible refine wv (.slice (some ⟨g9, 0, none⟩) 1 1) ?_
 try simp only [nP, nN, nA, n0, nS]
 refine wpList_nil ?_
 refine hK8 _ _ ?_
 refine wp_seq_k fun K10 hK10 => ?_
 have O : OwnB z3 w.heap.size (.slice (some ⟨g9, 0, none⟩) 1 1) m.rl0 := ownOne Zs13 rfl hB_g9
 clear Zs13
 have hjK10 : ∀ (u14 u15 u16 u17 u18 u19 : Value) (v : Value) (zj10 : World), zj10.heap[g2]? = some (.cells (m.cells).toArray 47 (0, 0)) → Below w.heap.size w zj10 → OwnB zj10 w.heap.size v m.rl1 → K10 ⟨#[.agg (m.cells).toArray, .pointer (some ⟨g2, 0, none⟩), .slice none 0 0, .int .i64 0, .int .i64 m.kd, v, .agg (m.cells).toArray, .bool true, .bool false, .pointer (some ⟨g2, 0, none⟩), .int .i64 m.kd, .int .i64 m.kd, .int .u8 (((UInt8.ofNat (T.nz m.kd)).toNat : Int)), .slice (some ⟨g9, 0, none⟩) 1 1, u14, u15, u16, u17, u18, u19, undef, undef, undef, undef, undef, undef, undef, undef, undef, undef, undef, undef, undef, undef, undef, undef, undef, undef, undef, undef, undef, undef, undef, undef, undef, undef, undef, undef, undef, undef, undef, undef, undef, undef, undef, undef, undef, undef, undef, undef, undef, undef, undef, undef, undef, undef, undef, undef, undef, undef, undef, undef, undef, undef, undef, undef, undef, undef, undef, undef, undef, undef, undef, undef, undef, undef, undef, undef, undef, undef, undef, undef, undef, undef, undef, undef, undef, undef, undef, undef, undef, undef, undef, undef, undef, undef, undef, undef, undef, undef, undef, undef, undef, undef, undef, undef, undef, undef, undef, undef, undef, undef, undef], []⟩ zj10 := by
  clear Zb1 ee O
  intro u14 u15 u16 u17 u18 u19 v zj10 Zb1 ee O
  refine hK10 _ _ ?_
  refine wp_seq_k fun K12 hK12 => ?_
  have hjK12 : ∀ (u20 u21 u22 u23 u24 u25 u26 : Value) (v : Value) (zj12 : World), zj12.heap[g2]? = some (.cells (m.cells).toArray 47 (0, 0)) → Below w.heap.size w zj12 → OwnB zj12 w.heap.size v m.rl2 → K12 ⟨#[.agg (m.cells).toArray, .pointer (some ⟨g2, 0, none⟩), .slice none 0 0, .int .i64 0, .int .i64 m.kd, v, .agg (m.cells).toArray, .bool true, .bool false, .pointer (some ⟨g2, 0, none⟩), .int .i64 m.kd, .int .i64 m.kd, .int .u8 (((UInt8.ofNat (T.nz m.kd)).toNat : Int)), .slice (some ⟨g9, 0, none⟩) 1 1, u14, u15, u16, u17, u18, u19, u20, u21, u22, u23, u24, u25, u26, undef, undef, undef, undef, undef, undef, undef, undef, undef, undef, undef, undef, undef, undef, undef, undef, undef, undef, undef, undef, undef, undef, undef, undef, undef, undef, undef, undef, undef, undef, undef, undef, undef, undef, undef, undef, undef, undef, undef, undef, undef, undef, undef, undef, undef, undef, undef, undef, undef, undef, undef, undef, undef, undef, undef, undef, undef, undef, undef, undef, undef, undef, undef, undef, undef, undef, undef, undef, undef, undef, undef, undef, undef, undef, undef, undef, undef, undef, undef, undef, undef, undef, undef, undef, undef, undef, undef, undef, undef, undef, undef, undef, undef, undef, undef, undef], []⟩ zj12 := by
   clear Zb1 ee O
   intro u20 u21 u22 u23 u24 u25 u26 v zj12 Zb1 ee O
   refine hK12 _ _ ?_
   refine wp_seq_k fun K14 hK14 => ?_
   have hjK14 : ∀ (u27 u28 u29 u30 u31 u32 : Value) (v : Value) (zj14 : World), zj14.heap[g2]? = some (.cells (m.cells).toArray 47 (0, 0)) → Below w.heap.size w zj14 → OwnB zj14 w.heap.size v m.rl3 → K14 ⟨#[.agg (m.cells).toArray, .pointer (some ⟨g2, 0, none⟩), .slice none 0 0, .int .i64 0, .int .i64 m.kd, v, .agg (m.cells).toArray, .bool true, .bool false, .pointer (some ⟨g2, 0, none⟩), .int .i64 m.kd, .int .i64 m.kd, .int .u8 (((UInt8.ofNat (T.nz m.kd)).toNat : Int)), .slice (some ⟨g9, 0, none⟩) 1 1, u14, u15, u16, u17, u18, u19, u20, u21, u22, u23, u24, u25, u26, u27, u28, u29, u30, u31, u32, undef, undef, undef, undef, undef, undef, undef, undef, undef, undef, undef, undef, undef, undef, undef, undef, undef, undef, undef, undef, undef, undef, undef, undef, undef, undef, undef, undef, undef, undef, undef, undef, undef, undef, undef, undef, undef, undef, undef, undef, undef, undef, undef, undef, undef, undef, undef, undef, undef, undef, undef, undef, undef, undef, undef, undef, undef, undef, undef, undef, undef, undef, undef, undef, undef, undef, undef, undef, undef, undef, undef, undef, undef, undef, undef, undef, undef, undef, undef, undef, undef, undef, undef, undef, undef, undef, undef, undef, undef, undef], []⟩ zj14 := by
    clear Zb1 ee O
    intro u27 u28 u29 u30 u31 u32 v zj14 Zb1 ee O
    refine hK14 _ _ ?_
    refine wp_seq_k fun K16 hK16 => ?_
    have hjK16 : ∀ (u33 u34 u35 u36 u37 u38 : Value) (v : Value) (zj16 : World), zj16.heap[g2]? = some (.cells (m.cells).toArray 47 (0, 0)) → Below w.heap.size w zj16 → OwnB zj16 w.heap.size v m.rl4 → K16 ⟨#[.agg (m.cells).toArray, .pointer (some ⟨g2, 0, none⟩), .slice none 0 0, .int .i64 0, .int .i64 m.kd, v, .agg (m.cells).toArray, .bool true, .bool false, .pointer (some ⟨g2, 0, none⟩), .int .i64 m.kd, .int .i64 m.kd, .int .u8 (((UInt8.ofNat (T.nz m.kd)).toNat : Int)), .slice (some ⟨g9, 0, none⟩) 1 1, u14, u15, u16, u17, u18, u19, u20, u21, u22, u23, u24, u25, u26, u27, u28, u29, u30, u31, u32, u33, u34, u35, u36, u37, u38, undef, undef, undef, undef, undef, undef, undef, undef, undef, undef, undef, undef, undef, undef, undef, undef, undef, undef, undef, undef, undef, undef, undef, undef, undef, undef, undef, undef, undef, undef, undef, undef, undef, undef, undef, undef, undef, undef, undef, undef, undef, undef, undef, undef, undef, undef, undef, undef, undef, undef, undef, undef, undef, undef, undef, undef, undef, undef, undef, undef, undef, undef, undef, undef, undef, undef, undef, undef, undef, undef, undef, undef, undef, undef, undef, undef, undef, undef, undef, undef, undef, undef, undef, undef], []⟩ zj16 := by
     clear Zb1 ee O
     intro u33 u34 u35 u36 u37 u38 v zj16 Zb1 ee O
     refine hK16 _ _ ?_
     refine wp_seq_k fun K18 hK18 => ?_
     have hjK18 : ∀ (u39 u40 u41 u42 u43 u44 u45 u46 u47 u48 : Value) (v : Value) (zj18 : World), zj18.heap[g2]? = some (.cells (m.cells).toArray 47 (0, 0)) → Below w.heap.size w zj18 → OwnB zj18 w.heap.size v m.rl5 → K18 ⟨#[.agg (m.cells).toArray, .pointer (some ⟨g2, 0, none⟩), .slice none 0 0, .int .i64 0, .int .i64 m.kd, v, .agg (m.cells).toArray, .bool true, .bool false, .pointer (some ⟨g2, 0, none⟩), .int .i64 m.kd, .int .i64 m.kd, .int .u8 (((UInt8.ofNat (T.nz m.kd)).toNat : Int)), .slice (some ⟨g9, 0, none⟩) 1 1, u14, u15, u16, u17, u18, u19, u20, u21, u22, u23, u24, u25, u26, u27, u28, u29, u30, u31, u32, u33, u34, u35, u36, u37, u38, u39, u40, u41, u42, u43, u44, u45, u46, u47, u48, undef, undef, undef, undef, undef, undef, undef, undef, undef, undef, undef, undef, undef, undef, undef, undef, undef, undef, undef, undef, undef, undef, undef, undef, undef, undef, undef, undef, undef, undef, undef, undef, undef, undef, undef, undef, undef, undef, undef, undef, undef, undef, undef, undef, undef, undef, undef, undef, undef, undef, undef, undef, undef, undef, undef, undef, undef, undef, undef, undef, undef, undef, undef, undef, undef, undef, undef, undef, undef, undef, undef, undef, undef, undef], []⟩ zj18 := by
      clear Zb1 ee O
      intro u39 u40 u41 u42 u43 u44 u45 u46 u47 u48 v zj18 Zb1 ee O
      refine hK18 _ _ ?_
      refine wp_seq_k fun K20 hK20 => ?_
      have hjK20 : ∀ (u49 u50 u51 u52 u53 u54 : Value) (v : Value) (zj20 : World), zj20.heap[g2]? = some (.cells (m.cells).toArray 47 (0, 0)) → Below w.heap.size w zj20 → OwnB zj20 w.heap.size v m.rl6 → K20 ⟨#[.agg (m.cells).toArray, .pointer (some ⟨g2, 0, none⟩), .slice none 0 0, .int .i64 0, .int .i64 m.kd, v, .agg (m.cells).toArray, .bool true, .bool false, .pointer (some ⟨g2, 0, none⟩), .int .i64 m.kd, .int .i64 m.kd, .int .u8 (((UInt8.ofNat (T.nz m.kd)).toNat : Int)), .slice (some ⟨g9, 0, none⟩) 1 1, u14, u15, u16, u17, u18, u19, u20, u21, u22, u23, u24, u25, u26, u27, u28, u29, u30, u31, u32, u33, u34, u35, u36, u37, u38, u39, u40, u41, u42, u43, u44, u45, u46, u47, u48, u49, u50, u51, u52, u53, u54, undef, undef, undef, undef, undef, undef, undef, undef, undef, undef, undef, undef, undef, undef, undef, undef, undef, undef, undef, undef, undef, undef, undef, undef, undef, undef, undef, undef, undef, undef, undef, undef, undef, undef, undef, undef, undef, undef, undef, undef, undef, undef, undef, undef, undef, undef, undef, undef, undef, undef, undef, undef, undef, undef, undef, undef, undef, undef, undef, undef, undef, undef, undef, undef, undef, undef, undef, undef], []⟩ zj20 := by
       clear Zb1 ee O
       intro u49 u50 u51 u52 u53 u54 v zj20 Zb1 ee O
       refine hK20 _ _ ?_
       refine wp_seq_k fun K22 hK22 => ?_
       have hjK22 : ∀ (u55 u56 u57 u58 u59 u60 : Value) (v : Value) (zj22 : World), zj22.heap[g2]? = some (.cells (m.cells).toArray 47 (0, 0)) → Below w.heap.size w zj22 → OwnB zj22 w.heap.size v m.rl7 → K22 ⟨#[.agg (m.cells).toArray, .pointer (some ⟨g2, 0, none⟩), .slice none 0 0, .int .i64 0, .int .i64 m.kd, v, .agg (m.cells).toArray, .bool true, .bool false, .pointer (some ⟨g2, 0, none⟩), .int .i64 m.kd, .int .i64 m.kd, .int .u8 (((UInt8.ofNat (T.nz m.kd)).toNat : Int)), .slice (some ⟨g9, 0, none⟩) 1 1, u14, u15, u16, u17, u18, u19, u20, u21, u22, u23, u24, u25, u26, u27, u28, u29, u30, u31, u32, u33, u34, u35, u36, u37, u38, u39, u40, u41, u42, u43, u44, u45, u46, u47, u48, u49, u50, u51, u52, u53, u54, u55, u56, u57, u58, u59, u60, undef, undef, undef, undef, undef, undef, undef, undef, undef, undef, undef, undef, undef, undef, undef, undef, undef, undef, undef, undef, undef, undef, undef, undef, undef, undef, undef, undef, undef, undef, undef, undef, undef, undef, undef, undef, undef, undef, undef, undef, undef, undef, undef, undef, undef, undef, undef, undef, undef, undef, undef, undef, undef, undef, undef, undef, undef, undef, undef, undef, undef, undef], []⟩ zj22 := by
        clear Zb1 ee O
        intro u55 u56 u57 u58 u59 u60 v zj22 Zb1 ee O
        refine hK22 _ _ ?_
        refine wp_seq_k fun K24 hK24 => ?_
        have hjK24 : ∀ (u61 u62 u63 u64 u65 u66 u67 u68 : Value) (v : Value) (zj24 : World), zj24.heap[g2]? = some (.cells (m.cells).toArray 47 (0, 0)) → Below w.heap.size w zj24 → OwnB zj24 w.heap.size v m.rl8 → K24 ⟨#[.agg (m.cells).toArray, .pointer (some ⟨g2, 0, none⟩), .slice none 0 0, .int .i64 0, .int .i64 m.kd, v, .agg (m.cells).toArray, .bool true, .bool false, .pointer (some ⟨g2, 0, none⟩), .int .i64 m.kd, .int .i64 m.kd, .int .u8 (((UInt8.ofNat (T.nz m.kd)).toNat : Int)), .slice (some ⟨g9, 0, none⟩) 1 1, u14, u15, u16, u17, u18, u19, u20, u21, u22, u23, u24, u25, u26, u27, u28, u29, u30, u31, u32, u33, u34, u35, u36, u37, u38, u39, u40, u41, u42, u43, u44, u45, u46, u47, u48, u49, u50, u51, u52, u53, u54, u55, u56, u57, u58, u59, u60, u61, u62, u63, u64, u65, u66, u67, u68, undef, undef, undef, undef, undef, undef, undef, undef, undef, undef, undef, undef, undef, undef, undef, undef, undef, undef, undef, undef, undef, undef, undef, undef, undef, undef, undef, undef, undef, undef, undef, undef, undef, undef, undef, undef, undef, undef, undef, undef, undef, undef, undef, undef, undef, undef, undef, undef, undef, undef, undef, undef, undef, undef], []⟩ zj24 := by
         clear Zb1 ee O
         intro u61 u62 u63 u64 u65 u66 u67 u68 v zj24 Zb1 ee O
         refine hK24 _ _ ?_
         refine wp_seq_k fun K26 hK26 => ?_
         have hjK26 : ∀ (u69 u70 u71 u72 u73 u74 : Value) (v : Value) (zj26 : World), zj26.heap[g2]? = some (.cells (m.cells).toArray 47 (0, 0)) → Below w.heap.size w zj26 → OwnB zj26 w.heap.size v m.rl9 → K26 ⟨#[.agg (m.cells).toArray, .pointer (some ⟨g2, 0, none⟩), .slice none 0 0, .int .i64 0, .int .i64 m.kd, v, .agg (m.cells).toArray, .bool true, .bool false, .pointer (some ⟨g2, 0, none⟩), .int .i64 m.kd, .int .i64 m.kd, .int .u8 (((UInt8.ofNat (T.nz m.kd)).toNat : Int)), .slice (some ⟨g9, 0, none⟩) 1 1, u14, u15, u16, u17, u18, u19, u20, u21, u22, u23, u24, u25, u26, u27, u28, u29, u30, u31, u32, u33, u34, u35, u36, u37, u38, u39, u40, u41, u42, u43, u44, u45, u46, u47, u48, u49, u50, u51, u52, u53, u54, u55, u56, u57, u58, u59, u60, u61, u62, u63, u64, u65, u66, u67, u68, u69, u70, u71, u72, u73, u74, undef, undef, undef, undef, undef, undef, undef, undef, undef, undef, undef, undef, undef, undef, undef, undef, undef, undef, undef, undef, undef, undef, undef, undef, undef, undef, undef, undef, undef, undef, undef, undef, undef, undef, undef, undef, undef, undef, undef, undef, undef, undef, undef, undef, undef, undef, undef, undef], []⟩ zj26 := by
          clear Zb1 ee O
          intro u69 u70 u71 u72 u73 u74 v zj26 Zb1 ee O
          refine hK26 _ _ ?_
          refine wp_seq_k fun K28 hK28 => ?_
          have hjK28 : ∀ (u75 u76 u77 u78 u79 u80 : Value) (v : Value) (zj28 : World), zj28.heap[g2]? = some (.cells (m.cells).toArray 47 (0, 0)) → Below w.heap.size w zj28 → OwnB zj28 w.heap.size v m.rl10 → K28 ⟨#[.agg (m.cells).toArray, .pointer (some ⟨g2, 0, none⟩), .slice none 0 0, .int .i64 0, .int .i64 m.kd, v, .agg (m.cells).toArray, .bool true, .bool false, .pointer (some ⟨g2, 0, none⟩), .int .i64 m.kd, .int .i64 m.kd, .int .u8 (((UInt8.ofNat (T.nz m.kd)).toNat : Int)), .slice (some ⟨g9, 0, none⟩) 1 1, u14, u15, u16, u17, u18, u19, u20, u21, u22, u23, u24, u25, u26, u27, u28, u29, u30, u31, u32, u33, u34, u35, u36, u37, u38, u39, u40, u41, u42, u43, u44, u45, u46, u47, u48, u49, u50, u51, u52, u53, u54, u55, u56, u57, u58, u59, u60, u61, u62, u63, u64, u65, u66, u67, u68, u69, u70, u71, u72, u73, u74, u75, u76, u77, u78, u79, u80, undef, undef, undef, undef, undef, undef, undef, undef, undef, undef, undef, undef, undef, undef, undef, undef, undef, undef, undef, undef, undef, undef, undef, undef, undef, undef, undef, undef, undef, undef, undef, undef, undef, undef, undef, undef, undef, undef, undef, undef, undef, undef], []⟩ zj28 := by
           clear Zb1 ee O
           intro u75 u76 u77 u78 u79 u80 v zj28 Zb1 ee O
           refine hK28 _ _ ?_
           refine wp_seq_k fun K30 hK30 => ?_
           have hjK30 : ∀ (u81 u82 u83 u84 u85 u86 u87 : Value) (v : Value) (zj30 : World), zj30.heap[g2]? = some (.cells (m.cells).toArray 47 (0, 0)) → Below w.heap.size w zj30 → OwnB zj30 w.heap.size v m.rl11 → K30 ⟨#[.agg (m.cells).toArray, .pointer (some ⟨g2, 0, none⟩), .slice none 0 0, .int .i64 0, .int .i64 m.kd, v, .agg (m.cells).toArray, .bool true, .bool false, .pointer (some ⟨g2, 0, none⟩), .int .i64 m.kd, .int .i64 m.kd, .int .u8 (((UInt8.ofNat (T.nz m.kd)).toNat : Int)), .slice (some ⟨g9, 0, none⟩) 1 1, u14, u15, u16, u17, u18, u19, u20, u21, u22, u23, u24, u25, u26, u27, u28, u29, u30, u31, u32, u33, u34, u35, u36, u37, u38, u39, u40, u41, u42, u43, u44, u45, u46, u47, u48, u49, u50, u51, u52, u53, u54, u55, u56, u57, u58, u59, u60, u61, u62, u63, u64, u65, u66, u67, u68, u69, u70, u71, u72, u73, u74, u75, u76, u77, u78, u79, u80, u81, u82, u83, u84, u85, u86, u87, undef, undef, undef, undef, undef, undef, undef, undef, undef, undef, undef, undef, undef, undef, undef, undef, undef, undef, undef, undef, undef, undef, undef, undef, undef, undef, undef, undef, undef, undef, undef, undef, undef, undef, undef], []⟩ zj30 := by
            clear Zb1 ee O
            intro u81 u82 u83 u84 u85 u86 u87 v zj30 Zb1 ee O
            refine hK30 _ _ ?_
            refine wp_seq_k fun K32 hK32 => ?_
            have hjK32 : ∀ (u88 u89 u90 u91 u92 u93 : Value) (v : Value) (zj32 : World), zj32.heap[g2]? = some (.cells (m.cells).toArray 47 (0, 0)) → Below w.heap.size w zj32 → OwnB zj32 w.heap.size v m.rl12 → K32 ⟨#[.agg (m.cells).toArray, .pointer (some ⟨g2, 0, none⟩), .slice none 0 0, .int .i64 0, .int .i64 m.kd, v, .agg (m.cells).toArray, .bool true, .bool false, .pointer (some ⟨g2, 0, none⟩), .int .i64 m.kd, .int .i64 m.kd, .int .u8 (((UInt8.ofNat (T.nz m.kd)).toNat : Int)), .slice (some ⟨g9, 0, none⟩) 1 1, u14, u15, u16, u17, u18, u19, u20, u21, u22, u23, u24, u25, u26, u27, u28, u29, u30, u31, u32, u33, u34, u35, u36, u37, u38, u39, u40, u41, u42, u43, u44, u45, u46, u47, u48, u49, u50, u51, u52, u53, u54, u55, u56, u57, u58, u59, u60, u61, u62, u63, u64, u65, u66, u67, u68, u69, u70, u71, u72, u73, u74, u75, u76, u77, u78, u79, u80, u81, u82, u83, u84, u85, u86, u87, u88, u89, u90, u91, u92, u93, undef, undef, undef, undef, undef, undef, undef, undef, undef, undef, undef, undef, undef, undef, undef, undef, undef, undef, undef, undef, undef, undef, undef, undef, undef, undef, undef, undef, undef], []⟩ zj32 := by
             clear Zb1 ee O
             intro u88 u89 u90 u91 u92 u93 v zj32 Zb1 ee O
             refine hK32 _ _ ?_
             refine wp_seq_k fun K34 hK34 => ?_
             have hjK34 : ∀ (u94 u95 u96 u97 u98 u99 u100 u101 u102 u103 u104 u105 u106 u107 u108 u109 : Value) (v : Value) (zj34 : World), zj34.heap[g2]? = some (.cells (m.cells).toArray 47 (0, 0)) → Below w.heap.size w zj34 → OwnB zj34 w.heap.size v m.rl13 → K34 ⟨#[.agg (m.cells).toArray, .pointer (some ⟨g2, 0, none⟩), .slice none 0 0, .int .i64 0, .int .i64 m.kd, v, .agg (m.cells).toArray, .bool true, .bool false, .pointer (some ⟨g2, 0, none⟩), .int .i64 m.kd, .int .i64 m.kd, .int .u8 (((UInt8.ofNat (T.nz m.kd)).toNat : Int)), .slice (some ⟨g9, 0, none⟩) 1 1, u14, u15, u16, u17, u18, u19, u20, u21, u22, u23, u24, u25, u26, u27, u28, u29, u30, u31, u32, u33, u34, u35, u36, u37, u38, u39, u40, u41, u42, u43, u44, u45, u46, u47, u48, u49, u50, u51, u52, u53, u54, u55, u56, u57, u58, u59, u60, u61, u62, u63, u64, u65, u66, u67, u68, u69, u70, u71, u72, u73, u74, u75, u76, u77, u78, u79, u80, u81, u82, u83, u84, u85, u86, u87, u88, u89, u90, u91, u92, u93, u94, u95, u96, u97, u98, u99, u100, u101, u102, u103, u104, u105, u106, u107, u108, u109, undef, undef, undef, undef, undef, undef, undef, undef, undef, undef, undef, undef, undef], []⟩ zj34 := by
              clear Zb1 ee O
              intro u94 u95 u96 u97 u98 u99 u100 u101 u102 u103 u104 u105 u106 u107 u108 u109 v zj34 Zb1 ee O
              refine hK34 _ _ ?_
              refine wp_seq_k fun K36 hK36 => ?_
              have hjK36 : ∀ (u110 u111 u112 u113 u114 u115 u116 u117 u118 u119 u120 u121 : Value) (v : Value) (zj36 : World), zj36.heap[g2]? = some (.cells (m.cells).toArray 47 (0, 0)) → Below w.heap.size w zj36 → OwnB zj36 w.heap.size v m.rl14 → K36 ⟨#[.agg (m.cells).toArray, .pointer (some ⟨g2, 0, none⟩), .slice none 0 0, .int .i64 0, .int .i64 m.kd, v, .agg (m.cells).toArray, .bool true, .bool false, .pointer (some ⟨g2, 0, none⟩), .int .i64 m.kd, .int .i64 m.kd, .int .u8 (((UInt8.ofNat (T.nz m.kd)).toNat : Int)), .slice (some ⟨g9, 0, none⟩) 1 1, u14, u15, u16, u17, u18, u19, u20, u21, u22, u23, u24, u25, u26, u27, u28, u29, u30, u31, u32, u33, u34, u35, u36, u37, u38, u39, u40, u41, u42, u43, u44, u45, u46, u47, u48, u49, u50, u51, u52, u53, u54, u55, u56, u57, u58, u59, u60, u61, u62, u63, u64, u65, u66, u67, u68, u69, u70, u71, u72, u73, u74, u75, u76, u77, u78, u79, u80, u81, u82, u83, u84, u85, u86, u87, u88, u89, u90, u91, u92, u93, u94, u95, u96, u97, u98, u99, u100, u101, u102, u103, u104, u105, u106, u107, u108, u109, u110, u111, u112, u113, u114, u115, u116, u117, u118, u119, u120, u121, undef], []⟩ zj36 := by
               clear Zb1 ee O
               intro u110 u111 u112 u113 u114 u115 u116 u117 u118 u119 u120 u121 v zj36 Zb1 ee O
               refine hK36 _ _ ?_
               refine wp_seq_k fun K38 hK38 => ?_
               refine wp_region_lit ?_
               with_reducible refine wv (v) ?_
               try simp only [nP, nN, nA, n0, nS]
               with_reducible refine wv (v) ?_
               try simp only [nP, nN, nA, n0, nS]
               with_reducible refine wv (.int .i64 0) ?_
               try simp only [nP, nN, nA, n0, nS]
               refine wpList_nil ?_
               refine hK38 _ _ ?_
               refine wp_ret ?_
               exact bodyPost_ret (v := .tuple #[v, .int .i64 0]) (by kernel_rfl) rfl ⟨⟨_, m.rl14, 0, rfl, SlB.ofOwn O, by rw [hb5]; rfl, by rw [hb5]; rfl⟩, ee⟩
              refine wp_seq_k fun K39 hK39 => ?_
              refine wp_region_lit ?_
              with_reducible refine wv (.int .i64 m.kd) ?_
              try simp only [nP, nN, nA, n0, nS]
              with_reducible refine wc 52 #[.int .i64 m.kd, .string ((⟨#[100, 97, 116, 97]⟩ : ByteArray))] (uses_D m.kd zj34) ?_
              rintro e z4 ⟨rfl, hw_⟩
              refine ⟨_, rfl, ?_⟩
              rw [← hw_]
              clear hw_ z4
              generalize hb40 : T.uD m.kd = b40
              try simp only [nP, nN, nA, n0, nS]
              refine wpList_nil ?_
              refine hK39 _ _ ?_
              cases b40
              ·refine wp_cond_false (by kernel_rfl) ?_
               refine wp_skip ?_
               exact hjK36 _ _ _ _ _ _ _ _ _ _ _ _ v _ Zb1 ee (by unfold T.Ms.rl14; rw [hb40]; exact O)
              refine wp_cond_true (by kernel_rfl) ?_
              refine wp_seq_k fun K41 hK41 => ?_
              refine wp_region_lit ?_
              with_reducible refine wv (v) ?_
              try simp only [nP, nN, nA, n0, nS]
              with_reducible refine wv (.pointer (some ⟨g2, 33, none⟩)) ?_
              try simp only [nP, nN, nA, n0, nS]
              with_reducible refine wl (.slice m.D m.dt.length m.dc) ⟨g2, 33, none⟩ (rowCell Zb1 (33) rfl) Tryd.underlying37 ?_
              try simp only [nP, nN, nA, n0, nS]
              with_reducible refine wv (.int .i64 ((m.dt.length : Int))) ?_
              try simp only [nP, nN, nA, n0, nS]
              with_reducible refine wq (.int .u64 ((m.dt.length : Int))) (okIntP ((wrapOf (by omega)) : IntKind.u64.wrap ((m.dt.length : Int)) = (m.dt.length : Int)) (by kernel_rfl)) ?_
              try simp only [nP, nN, nA, n0, nS]
              with_reducible refine wc 70 #[v, .int .u64 ((m.dt.length : Int)), .int .i64 4] (rp_put O (by have h_ := rl_len13 m hdt; omega) (B := w.heap.size) ee.size (m.dt.length) (by omega) 4 (by omega) (by omega)) ?_
              rintro e z5 ⟨r1, rfl, O_, t⟩
              refine ⟨_, rfl, ?_⟩
              clear O
              have Zb1 := hpB Zb1 t
              have ee := ee.trans (t.mono ee.size)
              clear t
              have O := O_
              clear O_
              try simp only [nP, nN, nA, n0, nS]
              with_reducible refine wv (r1) ?_
              try simp only [nP, nN, nA, n0, nS]
              refine wpList_nil ?_
              refine hK41 _ _ ?_
              refine wp_region_lit ?_
              with_reducible refine wv (r1) ?_
              try simp only [nP, nN, nA, n0, nS]
              with_reducible refine wv (.pointer (some ⟨g2, 33, none⟩)) ?_
              try simp only [nP, nN, nA, n0, nS]
              with_reducible refine wl (.slice m.D m.dt.length m.dc) ⟨g2, 33, none⟩ (rowCell Zb1 (33) rfl) Tryd.underlying37 ?_
              try simp only [nP, nN, nA, n0, nS]
              with_reducible refine wa8 (.tmp 118) (.tmp 120) O (msData (ok.below ee hB)) (by have h_ := rl_len13 m hdt; have h0_ := put_len2 m.rl13 (m.dt.length) 4; omega) (by omega) ee.size ?_
              intro v_ z6 O_ g_
              have Zb1 := heapKind O g_ (by decide) Zb1
              have ee := ee.grown g_ ee.size (fun i_ h_ => (O.lt i_ h_).1)
              clear g_ O
              have O := O_
              clear O_
              obtain ⟨a42, e_a42⟩ : ∃ q_, q_ = v_ := ⟨_, rfl⟩
              subst e_a42
              with_reducible refine wv (a42) ?_
              try simp only [nP, nN, nA, n0, nS]
              refine wpList_nil ?_
              exact hjK36 _ _ _ _ _ _ _ _ _ _ _ _ a42 _ Zb1 ee (by unfold T.Ms.rl14; rw [hb40]; exact O)
             refine wp_seq_k fun K43 hK43 => ?_
             refine wp_region_lit ?_
             with_reducible refine wv (.int .i64 m.kd) ?_
             try simp only [nP, nN, nA, n0, nS]
             with_reducible refine wc 52 #[.int .i64 m.kd, .string ((⟨#[118, 97, 108, 117, 101]⟩ : ByteArray))] (uses_V m.kd zj32) ?_
             rintro e z4 ⟨rfl, hw_⟩
             refine ⟨_, rfl, ?_⟩
             rw [← hw_]
             clear hw_ z4
             generalize hb44 : T.uV m.kd = b44
             try simp only [nP, nN, nA, n0, nS]
             refine wpList_nil ?_
             refine hK43 _ _ ?_
             cases b44
             ·refine wp_cond_false (by kernel_rfl) ?_
              refine wp_skip ?_
              exact hjK34 _ _ _ _ _ _ _ _ _ _ _ _ _ _ _ _ v _ Zb1 ee (by unfold T.Ms.rl13; rw [hb44]; exact O)
             refine wp_cond_true (by kernel_rfl) ?_
             refine wp_seq_k fun K45 hK45 => ?_
             refine wp_region_lit ?_
             with_reducible refine wv (v) ?_
             try simp only [nP, nN, nA, n0, nS]
             with_reducible refine wv (.pointer (some ⟨g2, 28, none⟩)) ?_
             try simp only [nP, nN, nA, n0, nS]
             with_reducible refine wl (.int .u64 ((m.ve : Int))) ⟨g2, 28, none⟩ (rowCell Zb1 (28) rfl) Tryd.underlying31 ?_
             try simp only [nP, nN, nA, n0, nS]
             with_reducible refine wc 70 #[v, .int .u64 ((m.ve : Int)), .int .i64 8] (rp_put O (by have h_ := rl_len12 m hdt; omega) (B := w.heap.size) ee.size (m.ve) ok.ve 8 (by omega) (by omega)) ?_
             rintro e z5 ⟨r1, rfl, O_, t⟩
             refine ⟨_, rfl, ?_⟩
             clear O
             have Zb1 := hpB Zb1 t
             have ee := ee.trans (t.mono ee.size)
             clear t
             have O := O_
             clear O_
             try simp only [nP, nN, nA, n0, nS]
             with_reducible refine wv (r1) ?_
             try simp only [nP, nN, nA, n0, nS]
             refine wpList_nil ?_
             refine hK45 _ _ ?_
             refine wp_seq_k fun K46 hK46 => ?_
             refine wp_region_lit ?_
             with_reducible refine wv (r1) ?_
             try simp only [nP, nN, nA, n0, nS]
             with_reducible refine wv (.pointer (some ⟨g2, 29, none⟩)) ?_
             try simp only [nP, nN, nA, n0, nS]
             with_reducible refine wg (g2) (29) ([.int .i64 m.vk, .int .u64 (m.vb : Int), .string m.vt]) (rowMid Zb1 (29) (partOf 29 (by kernel_rfl))) Tryd.underlying35 ?_
             try simp only [nP, nN, nA, n0, nS]
             with_reducible refine wc 76 #[r1, .agg ([.int .i64 m.vk, .int .u64 (m.vb : Int), .string m.vt]).toArray] (rp_val O (by have h_ := rl_len12 m hdt; have h0_ := put_len2 m.rl12 (m.ve) 8; omega) (B := w.heap.size) ee.size m.vk m.vb m.vt ok.vb ok.ts) ?_
             rintro e z6 ⟨r2, rfl, O_, t⟩
             refine ⟨_, rfl, ?_⟩
             clear O
             have Zb1 := hpB Zb1 t
             have ee := ee.trans (t.mono ee.size)
             clear t
             have O := O_
             clear O_
             try simp only [nP, nN, nA, n0, nS]
             with_reducible refine wv (r2) ?_
             try simp only [nP, nN, nA, n0, nS]
             refine wpList_nil ?_
             refine hK46 _ _ ?_
             refine wp_region_lit ?_
             with_reducible refine wv (r2) ?_
             try simp only [nP, nN, nA, n0, nS]
             with_reducible refine wv (.pointer (some ⟨g2, 32, none⟩)) ?_
             try simp only [nP, nN, nA, n0, nS]
             with_reducible refine wl (.int .i64 m.er) ⟨g2, 32, none⟩ (rowCell Zb1 (32) rfl) Tryd.underlying36 ?_
             try simp only [nP, nN, nA, n0, nS]
             with_reducible refine wq (.int .u8 (((UInt8.ofNat (T.nz m.er)).toNat : Int))) (okIntP ((wrap8nz m.er) : IntKind.u8.wrap m.er = ((UInt8.ofNat (T.nz m.er)).toNat : Int)) (by kernel_rfl)) ?_
             try simp only [nP, nN, nA, n0, nS]
             with_reducible refine ww (.slice (some ⟨z6.heap.size, 0, none⟩) 1 1) (z6.alloc (.cells #[.int .u8 (((UInt8.ofNat (T.nz m.er)).toNat : Int))] 5)) ?_
             try simp only [nP, nN, nA, n0, nS]
             have sz_g47 := ee.size
             have lZb1 := (Array.getElem?_eq_some_iff.1 Zb1).1
             have sz_ := ee.size
             have ne_O_Zs108 : r2.ownBlock ≠ some (z6.heap.size) := fun hb_ => by have hh_ := (O.lt _ hb_).2; omega
             have Zb1 := hpA Zb1 (.cells #[.int .u8 (((UInt8.ofNat (T.nz m.er)).toNat : Int))] 5)
             have O := O.alloc (.cells #[.int .u8 (((UInt8.ofNat (T.nz m.er)).toNat : Int))] 5)
             have ee := ee.alloc ee.size (.cells #[.int .u8 (((UInt8.ofNat (T.nz m.er)).toNat : Int))] 5)
             have Zs108 := hpN z6 (.cells #[.int .u8 (((UInt8.ofNat (T.nz m.er)).toNat : Int))] 5) rfl
             generalize z6.alloc (.cells #[.int .u8 (((UInt8.ofNat (T.nz m.er)).toNat : Int))] 5) = z7 at Zb1 Zs108 O ee ⊢
             obtain ⟨g47, hg_g47⟩ : ∃ g_, g_ = z6.heap.size := ⟨_, rfl⟩
             have n_g47_Zb1 : g2 < g47 := by rw [hg_g47]; exact lZb1
             have hB_g47 : w.heap.size ≤ g47 := by rw [hg_g47]; exact sz_g47
             rw [← hg_g47] at Zs108 ⊢
             clear hg_g47 lZb1
             with_reducible refine wa8 (.tmp 104) (.tmp 108) O (slOne Zs108 rfl) (by have h_ := rl_len12 m hdt; have h0_ := put_len2 m.rl12 (m.ve) 8; have h1_ := V.put_len (C.put m.rl12 (m.ve) 8) m.vk m.vb m.vt.data.toList; omega) (by simp) ee.size ?_
             intro v_ z8 O_ g_
             have Zb1 := heapKind O g_ (by decide) Zb1
             clear Zs108
             have ee := ee.grown g_ ee.size (fun i_ h_ => (O.lt i_ h_).1)
             clear g_ O
             have O := O_
             clear O_
             obtain ⟨a48, e_a48⟩ : ∃ q_, q_ = v_ := ⟨_, rfl⟩
             subst e_a48
             rw [put_oneN] at O
             with_reducible refine wv (a48) ?_
             try simp only [nP, nN, nA, n0, nS]
             refine wpList_nil ?_
             exact hjK34 _ _ _ _ _ _ _ _ _ _ _ _ _ _ _ _ a48 _ Zb1 ee (by unfold T.Ms.rl13; rw [hb44]; exact O)
            refine wp_seq_k fun K49 hK49 => ?_
            refine wp_region_lit ?_
            with_reducible refine wv (.int .i64 m.kd) ?_
            try simp only [nP, nN, nA, n0, nS]
            with_reducible refine wc 52 #[.int .i64 m.kd, .string ((⟨#[107, 101, 121]⟩ : ByteArray))] (uses_K m.kd zj30) ?_
            rintro e z4 ⟨rfl, hw_⟩
            refine ⟨_, rfl, ?_⟩
            rw [← hw_]
            clear hw_ z4
            generalize hb50 : T.uK m.kd = b50
            try simp only [nP, nN, nA, n0, nS]
            refine wpList_nil ?_
            refine hK49 _ _ ?_
            cases b50
            ·refine wp_cond_false (by kernel_rfl) ?_
             refine wp_skip ?_
             exact hjK32 _ _ _ _ _ _ v _ Zb1 ee (by unfold T.Ms.rl12; rw [hb50]; exact O)
            refine wp_cond_true (by kernel_rfl) ?_
            refine wp_region_lit ?_
            with_reducible refine wv (v) ?_
            try simp only [nP, nN, nA, n0, nS]
            with_reducible refine wv (.pointer (some ⟨g2, 27, none⟩)) ?_
            try simp only [nP, nN, nA, n0, nS]
            with_reducible refine wl (.string m.ky) ⟨g2, 27, none⟩ (rowCell Zb1 (27) rfl) Tryd.underlying9 ?_
            try simp only [nP, nN, nA, n0, nS]
            with_reducible refine wc 75 #[v, .string m.ky] (rp_text O (by have h_ := rl_len11 m hdt; omega) (B := w.heap.size) ee.size m.ky ok.ks) ?_
            rintro e z5 ⟨r1, rfl, O_, t⟩
            refine ⟨_, rfl, ?_⟩
            clear O
            have Zb1 := hpB Zb1 t
            have ee := ee.trans (t.mono ee.size)
            clear t
            have O := O_
            clear O_
            try simp only [nP, nN, nA, n0, nS]
            with_reducible refine wv (r1) ?_
            try simp only [nP, nN, nA, n0, nS]
            refine wpList_nil ?_
            exact hjK32 _ _ _ _ _ _ r1 _ Zb1 ee (by unfold T.Ms.rl12; rw [hb50]; exact O)
           refine wp_seq_k fun K51 hK51 => ?_
           refine wp_region_lit ?_
           with_reducible refine wv (.int .i64 m.kd) ?_
           try simp only [nP, nN, nA, n0, nS]
           with_reducible refine wc 52 #[.int .i64 m.kd, .string ((⟨#[110, 117, 109, 98, 101, 114]⟩ : ByteArray))] (uses_N m.kd zj28) ?_
           rintro e z4 ⟨rfl, hw_⟩
           refine ⟨_, rfl, ?_⟩
           rw [← hw_]
           clear hw_ z4
           generalize hb52 : T.uN m.kd = b52
           try simp only [nP, nN, nA, n0, nS]
           refine wpList_nil ?_
           refine hK51 _ _ ?_
           cases b52
           ·refine wp_cond_false (by kernel_rfl) ?_
            refine wp_skip ?_
            exact hjK30 _ _ _ _ _ _ _ v _ Zb1 ee (by unfold T.Ms.rl11; rw [hb52]; exact O)
           refine wp_cond_true (by kernel_rfl) ?_
           refine wp_region_lit ?_
           with_reducible refine wv (v) ?_
           try simp only [nP, nN, nA, n0, nS]
           with_reducible refine wv (.pointer (some ⟨g2, 26, none⟩)) ?_
           try simp only [nP, nN, nA, n0, nS]
           with_reducible refine wl (.int .i64 m.nu) ⟨g2, 26, none⟩ (rowCell Zb1 (26) rfl) Tryd.underlying3 ?_
           try simp only [nP, nN, nA, n0, nS]
           with_reducible refine wq (.int .u64 ((T.nz m.nu : Int))) (okIntP ((wrapU m.nu) : IntKind.u64.wrap m.nu = (T.nz m.nu : Int)) (by kernel_rfl)) ?_
           try simp only [nP, nN, nA, n0, nS]
           with_reducible refine wc 70 #[v, .int .u64 ((T.nz m.nu : Int)), .int .i64 4] (rp_put O (by have h_ := rl_len10 m hdt; omega) (B := w.heap.size) ee.size (T.nz m.nu) (nz_lt _) 4 (by omega) (by omega)) ?_
           rintro e z5 ⟨r1, rfl, O_, t⟩
           refine ⟨_, rfl, ?_⟩
           clear O
           have Zb1 := hpB Zb1 t
           have ee := ee.trans (t.mono ee.size)
           clear t
           have O := O_
           clear O_
           try simp only [nP, nN, nA, n0, nS]
           with_reducible refine wv (r1) ?_
           try simp only [nP, nN, nA, n0, nS]
           refine wpList_nil ?_
           exact hjK30 _ _ _ _ _ _ _ r1 _ Zb1 ee (by unfold T.Ms.rl11; rw [hb52]; exact O)
          refine wp_seq_k fun K53 hK53 => ?_
          refine wp_region_lit ?_
          with_reducible refine wv (.int .i64 m.kd) ?_
          try simp only [nP, nN, nA, n0, nS]
          with_reducible refine wc 52 #[.int .i64 m.kd, .string ((⟨#[121, 101, 115]⟩ : ByteArray))] (uses_Y m.kd zj26) ?_
          rintro e z4 ⟨rfl, hw_⟩
          refine ⟨_, rfl, ?_⟩
          rw [← hw_]
          clear hw_ z4
          generalize hb54 : T.uY m.kd = b54
          try simp only [nP, nN, nA, n0, nS]
          refine wpList_nil ?_
          refine hK53 _ _ ?_
          cases b54
          ·refine wp_cond_false (by kernel_rfl) ?_
           refine wp_skip ?_
           exact hjK28 _ _ _ _ _ _ v _ Zb1 ee (by unfold T.Ms.rl10; rw [hb54]; exact O)
          refine wp_cond_true (by kernel_rfl) ?_
          refine wp_region_lit ?_
          with_reducible refine wv (v) ?_
          try simp only [nP, nN, nA, n0, nS]
          with_reducible refine wv (.pointer (some ⟨g2, 25, none⟩)) ?_
          try simp only [nP, nN, nA, n0, nS]
          with_reducible refine wl (.bool m.ye) ⟨g2, 25, none⟩ (rowCell Zb1 (25) rfl) Tryd.underlying4 ?_
          generalize hb55 : m.ye = b55
          try simp only [nP, nN, nA, n0, nS]
          with_reducible refine wc 71 #[v, .bool b55] (flag_o O ee.size (by have h_ := rl_len9 m hdt; omega) b55) ?_
          rintro e z5 ⟨r1, rfl, O_, g_⟩
          refine ⟨_, rfl, ?_⟩
          have Zb1 := heapKind O g_ (by decide) Zb1
          have ee := ee.grown g_ ee.size (fun i_ h_ => (O.lt i_ h_).1)
          clear g_ O
          have O := O_
          clear O_
          try simp only [nP, nN, nA, n0, nS]
          with_reducible refine wv (r1) ?_
          try simp only [nP, nN, nA, n0, nS]
          refine wpList_nil ?_
          exact hjK28 _ _ _ _ _ _ r1 _ Zb1 ee (by unfold T.Ms.rl10; rw [hb54, hb55]; exact O)
         refine wp_seq_k fun K56 hK56 => ?_
         refine wp_region_lit ?_
         with_reducible refine wv (.int .i64 m.kd) ?_
         try simp only [nP, nN, nA, n0, nS]
         with_reducible refine wc 52 #[.int .i64 m.kd, .string ((⟨#[115, 116, 97, 109, 112]⟩ : ByteArray))] (uses_P m.kd zj24) ?_
         rintro e z4 ⟨rfl, hw_⟩
         refine ⟨_, rfl, ?_⟩
         rw [← hw_]
         clear hw_ z4
         generalize hb57 : T.uP m.kd = b57
         try simp only [nP, nN, nA, n0, nS]
         refine wpList_nil ?_
         refine hK56 _ _ ?_
         cases b57
         ·refine wp_cond_false (by kernel_rfl) ?_
          refine wp_skip ?_
          exact hjK26 _ _ _ _ _ _ v _ Zb1 ee (by unfold T.Ms.rl9; rw [hb57]; exact O)
         refine wp_cond_true (by kernel_rfl) ?_
         refine wp_region_lit ?_
         with_reducible refine wv (v) ?_
         try simp only [nP, nN, nA, n0, nS]
         with_reducible refine wv (.pointer (some ⟨g2, 24, none⟩)) ?_
         try simp only [nP, nN, nA, n0, nS]
         with_reducible refine wl (.int .u64 ((m.st : Int))) ⟨g2, 24, none⟩ (rowCell Zb1 (24) rfl) Tryd.underlying31 ?_
         try simp only [nP, nN, nA, n0, nS]
         with_reducible refine wc 70 #[v, .int .u64 ((m.st : Int)), .int .i64 8] (rp_put O (by have h_ := rl_len8 m hdt; omega) (B := w.heap.size) ee.size (m.st) ok.st 8 (by omega) (by omega)) ?_
         rintro e z5 ⟨r1, rfl, O_, t⟩
         refine ⟨_, rfl, ?_⟩
         clear O
         have Zb1 := hpB Zb1 t
         have ee := ee.trans (t.mono ee.size)
         clear t
         have O := O_
         clear O_
         try simp only [nP, nN, nA, n0, nS]
         with_reducible refine wv (r1) ?_
         try simp only [nP, nN, nA, n0, nS]
         refine wpList_nil ?_
         exact hjK26 _ _ _ _ _ _ r1 _ Zb1 ee (by unfold T.Ms.rl9; rw [hb57]; exact O)
        refine wp_seq_k fun K58 hK58 => ?_
        refine wp_region_lit ?_
        with_reducible refine wv (.int .i64 m.kd) ?_
        try simp only [nP, nN, nA, n0, nS]
        with_reducible refine wc 52 #[.int .i64 m.kd, .string ((⟨#[103, 114, 111, 117, 112]⟩ : ByteArray))] (uses_G m.kd zj22) ?_
        rintro e z4 ⟨rfl, hw_⟩
        refine ⟨_, rfl, ?_⟩
        rw [← hw_]
        clear hw_ z4
        generalize hb59 : T.uG m.kd = b59
        try simp only [nP, nN, nA, n0, nS]
        refine wpList_nil ?_
        refine hK58 _ _ ?_
        cases b59
        ·refine wp_cond_false (by kernel_rfl) ?_
         refine wp_skip ?_
         exact hjK24 _ _ _ _ _ _ _ _ v _ Zb1 ee (by unfold T.Ms.rl8; rw [hb59]; exact O)
        refine wp_cond_true (by kernel_rfl) ?_
        refine wp_region_lit ?_
        with_reducible refine wv (v) ?_
        try simp only [nP, nN, nA, n0, nS]
        with_reducible refine wv (.pointer (some ⟨g2, 23, none⟩)) ?_
        try simp only [nP, nN, nA, n0, nS]
        with_reducible refine wl (.int .i64 m.g) ⟨g2, 23, none⟩ (rowCell Zb1 (23) rfl) Tryd.underlying3 ?_
        try simp only [nP, nN, nA, n0, nS]
        with_reducible refine wq (.int .u8 (((UInt8.ofNat (T.nz m.g)).toNat : Int))) (okIntP ((wrap8nz m.g) : IntKind.u8.wrap m.g = ((UInt8.ofNat (T.nz m.g)).toNat : Int)) (by kernel_rfl)) ?_
        try simp only [nP, nN, nA, n0, nS]
        with_reducible refine ww (.slice (some ⟨zj22.heap.size, 0, none⟩) 1 1) (zj22.alloc (.cells #[.int .u8 (((UInt8.ofNat (T.nz m.g)).toNat : Int))] 5)) ?_
        try simp only [nP, nN, nA, n0, nS]
        have sz_g60 := ee.size
        have lZb1 := (Array.getElem?_eq_some_iff.1 Zb1).1
        have sz_ := ee.size
        have ne_O_Zs67 : v.ownBlock ≠ some (zj22.heap.size) := fun hb_ => by have hh_ := (O.lt _ hb_).2; omega
        have Zb1 := hpA Zb1 (.cells #[.int .u8 (((UInt8.ofNat (T.nz m.g)).toNat : Int))] 5)
        have O := O.alloc (.cells #[.int .u8 (((UInt8.ofNat (T.nz m.g)).toNat : Int))] 5)
        have ee := ee.alloc ee.size (.cells #[.int .u8 (((UInt8.ofNat (T.nz m.g)).toNat : Int))] 5)
        have Zs67 := hpN zj22 (.cells #[.int .u8 (((UInt8.ofNat (T.nz m.g)).toNat : Int))] 5) rfl
        generalize zj22.alloc (.cells #[.int .u8 (((UInt8.ofNat (T.nz m.g)).toNat : Int))] 5) = z5 at Zb1 Zs67 O ee ⊢
        obtain ⟨g60, hg_g60⟩ : ∃ g_, g_ = zj22.heap.size := ⟨_, rfl⟩
        have n_g60_Zb1 : g2 < g60 := by rw [hg_g60]; exact lZb1
        have hB_g60 : w.heap.size ≤ g60 := by rw [hg_g60]; exact sz_g60
        rw [← hg_g60] at Zs67 ⊢
        clear hg_g60 lZb1
        with_reducible refine wa8 (.tmp 63) (.tmp 67) O (slOne Zs67 rfl) (by have h_ := rl_len7 m hdt; omega) (by simp) ee.size ?_
        intro v_ z6 O_ g_
        have Zb1 := heapKind O g_ (by decide) Zb1
        clear Zs67
        have ee := ee.grown g_ ee.size (fun i_ h_ => (O.lt i_ h_).1)
        clear g_ O
        have O := O_
        clear O_
        obtain ⟨a61, e_a61⟩ : ∃ q_, q_ = v_ := ⟨_, rfl⟩
        subst e_a61
        rw [put_oneN] at O
        with_reducible refine wv (a61) ?_
        try simp only [nP, nN, nA, n0, nS]
        refine wpList_nil ?_
        exact hjK24 _ _ _ _ _ _ _ _ a61 _ Zb1 ee (by unfold T.Ms.rl8; rw [hb59]; exact O)
       refine wp_seq_k fun K62 hK62 => ?_
       refine wp_region_lit ?_
       with_reducible refine wv (.int .i64 m.kd) ?_
       try simp only [nP, nN, nA, n0, nS]
       with_reducible refine wc 52 #[.int .i64 m.kd, .string ((⟨#[105, 100]⟩ : ByteArray))] (uses_I m.kd zj20) ?_
       rintro e z4 ⟨rfl, hw_⟩
       refine ⟨_, rfl, ?_⟩
       rw [← hw_]
       clear hw_ z4
       generalize hb63 : T.uI m.kd = b63
       try simp only [nP, nN, nA, n0, nS]
       refine wpList_nil ?_
       refine hK62 _ _ ?_
       cases b63
       ·refine wp_cond_false (by kernel_rfl) ?_
        refine wp_skip ?_
        exact hjK22 _ _ _ _ _ _ v _ Zb1 ee (by unfold T.Ms.rl7; rw [hb63]; exact O)
       refine wp_cond_true (by kernel_rfl) ?_
       refine wp_region_lit ?_
       with_reducible refine wv (v) ?_
       try simp only [nP, nN, nA, n0, nS]
       with_reducible refine wv (.pointer (some ⟨g2, 21, none⟩)) ?_
       try simp only [nP, nN, nA, n0, nS]
       with_reducible refine wg (g2) (21) ([.int .i64 m.ii, .int .i64 m.ij]) (rowMid Zb1 (21) (partOf 21 (by kernel_rfl))) Tryd.underlying26 ?_
       try simp only [nP, nN, nA, n0, nS]
       with_reducible refine wc 74 #[v, .agg ([.int .i64 m.ii, .int .i64 m.ij]).toArray] (rp_id O (by have h_ := rl_len6 m hdt; omega) (B := w.heap.size) ee.size m.ii m.ij) ?_
       rintro e z5 ⟨r1, rfl, O_, t⟩
       refine ⟨_, rfl, ?_⟩
       clear O
       have Zb1 := hpB Zb1 t
       have ee := ee.trans (t.mono ee.size)
       clear t
       have O := O_
       clear O_
       try simp only [nP, nN, nA, n0, nS]
       with_reducible refine wv (r1) ?_
       try simp only [nP, nN, nA, n0, nS]
       refine wpList_nil ?_
       exact hjK22 _ _ _ _ _ _ r1 _ Zb1 ee (by unfold T.Ms.rl7; rw [hb63]; exact O)
      refine wp_seq_k fun K64 hK64 => ?_
      refine wp_region_lit ?_
      with_reducible refine wv (.int .i64 m.kd) ?_
      try simp only [nP, nN, nA, n0, nS]
      with_reducible refine wc 52 #[.int .i64 m.kd, .string ((⟨#[116, 120, 110]⟩ : ByteArray))] (uses_T m.kd zj18) ?_
      rintro e z4 ⟨rfl, hw_⟩
      refine ⟨_, rfl, ?_⟩
      rw [← hw_]
      clear hw_ z4
      generalize hb65 : T.uT m.kd = b65
      try simp only [nP, nN, nA, n0, nS]
      refine wpList_nil ?_
      refine hK64 _ _ ?_
      cases b65
      ·refine wp_cond_false (by kernel_rfl) ?_
       refine wp_skip ?_
       exact hjK20 _ _ _ _ _ _ v _ Zb1 ee (by unfold T.Ms.rl6; rw [hb65]; exact O)
      refine wp_cond_true (by kernel_rfl) ?_
      refine wp_region_lit ?_
      with_reducible refine wv (v) ?_
      try simp only [nP, nN, nA, n0, nS]
      with_reducible refine wv (.pointer (some ⟨g2, 17, none⟩)) ?_
      try simp only [nP, nN, nA, n0, nS]
      with_reducible refine wg (g2) (17) (m.t.cells) (rowMid Zb1 (17) (partOf 17 (by kernel_rfl))) Tryd.underlying30 ?_
      try simp only [nP, nN, nA, n0, nS]
      with_reducible refine wc 73 #[v, .agg (m.t.cells).toArray] (rp_txn O (by have h_ := rl_len5 m hdt; omega) (B := w.heap.size) ee.size m.t ((ok.below ee hB).t.more (Nat.le_trans hB ee.size))) ?_
      rintro e z5 ⟨r1, rfl, O_, t⟩
      refine ⟨_, rfl, ?_⟩
      clear O
      have Zb1 := hpB Zb1 t
      have ee := ee.trans (t.mono ee.size)
      clear t
      have O := O_
      clear O_
      try simp only [nP, nN, nA, n0, nS]
      with_reducible refine wv (r1) ?_
      try simp only [nP, nN, nA, n0, nS]
      refine wpList_nil ?_
      exact hjK20 _ _ _ _ _ _ r1 _ Zb1 ee (by unfold T.Ms.rl6; rw [hb65]; exact O)
     refine wp_seq_k fun K66 hK66 => ?_
     refine wp_region_lit ?_
     with_reducible refine wv (.pointer (some ⟨g2, 4, none⟩)) ?_
     try simp only [nP, nN, nA, n0, nS]
     with_reducible refine wl (.bool m.ha) ⟨g2, 4, none⟩ (rowCell Zb1 (4) rfl) Tryd.underlying4 ?_
     generalize hb67 : m.ha = b67
     try simp only [nP, nN, nA, n0, nS]
     with_reducible refine wv (.bool b67) ?_
     try simp only [nP, nN, nA, n0, nS]
     cases b67
     ·with_reducible refine wv (.int .i64 m.kd) ?_
      try simp only [nP, nN, nA, n0, nS]
      with_reducible refine wc 52 #[.int .i64 m.kd, .string ((⟨#[99, 111, 109, 109, 97, 110, 100]⟩ : ByteArray))] (uses_C m.kd zj16) ?_
      rintro e z4 ⟨rfl, hw_⟩
      refine ⟨_, rfl, ?_⟩
      rw [← hw_]
      clear hw_ z4
      generalize hb68 : T.uC m.kd = b68
      try simp only [nP, nN, nA, n0, nS]
      with_reducible refine wv (.bool b68) ?_
      try simp only [nP, nN, nA, n0, nS]
      refine wpList_nil ?_
      refine hK66 _ _ ?_
      cases b68
      ·refine wp_cond_false (by kernel_rfl) ?_
       refine wp_skip ?_
       exact hjK18 _ _ _ _ _ _ _ _ _ _ v _ Zb1 ee (by unfold T.Ms.rl5; rw [hb67, hb68]; exact O)
      refine wp_cond_true (by kernel_rfl) ?_
      refine wp_region_lit ?_
      with_reducible refine wv (v) ?_
      try simp only [nP, nN, nA, n0, nS]
      with_reducible refine wv (.pointer (some ⟨g2, 7, none⟩)) ?_
      try simp only [nP, nN, nA, n0, nS]
      with_reducible refine wg (g2) (7) (m.c.cells) (rowMid Zb1 (7) (partOf 7 (by kernel_rfl))) Tryd.underlying45 ?_
      try simp only [nP, nN, nA, n0, nS]
      with_reducible refine wc 72 #[v, .agg (m.c.cells).toArray] (rp_cmd O (by have h_ := rl_len4 m hdt; omega) (B := w.heap.size) ee.size m.c ((ok.below ee hB).c.more (Nat.le_trans hB ee.size))) ?_
      rintro e z5 ⟨r1, rfl, O_, t⟩
      refine ⟨_, rfl, ?_⟩
      clear O
      have Zb1 := hpB Zb1 t
      have ee := ee.trans (t.mono ee.size)
      clear t
      have O := O_
      clear O_
      try simp only [nP, nN, nA, n0, nS]
      with_reducible refine wv (r1) ?_
      try simp only [nP, nN, nA, n0, nS]
      refine wpList_nil ?_
      exact hjK18 _ _ _ _ _ _ _ _ _ _ r1 _ Zb1 ee (by unfold T.Ms.rl5; rw [hb67, hb68]; exact O)
     with_reducible refine wk ?_
     try simp only [nP, nN, nA, n0, nS]
     with_reducible refine wk ?_
     try simp only [nP, nN, nA, n0, nS]
     with_reducible refine wv (.bool true) ?_
     try simp only [nP, nN, nA, n0, nS]
     refine wpList_nil ?_
     refine hK66 _ _ ?_
     refine wp_cond_true (by kernel_rfl) ?_
     refine wp_region_lit ?_
     with_reducible refine wv (v) ?_
     try simp only [nP, nN, nA, n0, nS]
     with_reducible refine wv (.pointer (some ⟨g2, 7, none⟩)) ?_
     try simp only [nP, nN, nA, n0, nS]
     with_reducible refine wg (g2) (7) (m.c.cells) (rowMid Zb1 (7) (partOf 7 (by kernel_rfl))) Tryd.underlying45 ?_
     try simp only [nP, nN, nA, n0, nS]
     with_reducible refine wc 72 #[v, .agg (m.c.cells).toArray] (rp_cmd O (by have h_ := rl_len4 m hdt; omega) (B := w.heap.size) ee.size m.c ((ok.below ee hB).c.more (Nat.le_trans hB ee.size))) ?_
     rintro e z4 ⟨r2, rfl, O_, t⟩
     refine ⟨_, rfl, ?_⟩
     clear O
     have Zb1 := hpB Zb1 t
     have ee := ee.trans (t.mono ee.size)
     clear t
     have O := O_
     clear O_
     try simp only [nP, nN, nA, n0, nS]
     with_reducible refine wv (r2) ?_
     try simp only [nP, nN, nA, n0, nS]
     refine wpList_nil ?_
     exact hjK18 _ _ _ _ _ _ _ _ _ _ r2 _ Zb1 ee (by unfold T.Ms.rl5; rw [hb67]; exact O)
    refine wp_seq_k fun K69 hK69 => ?_
    refine wp_region_lit ?_
    with_reducible refine wv (.pointer (some ⟨g2, 4, none⟩)) ?_
    try simp only [nP, nN, nA, n0, nS]
    with_reducible refine wl (.bool m.ha) ⟨g2, 4, none⟩ (rowCell Zb1 (4) rfl) Tryd.underlying4 ?_
    generalize hb70 : m.ha = b70
    try simp only [nP, nN, nA, n0, nS]
    refine wpList_nil ?_
    refine hK69 _ _ ?_
    cases b70
    ·refine wp_cond_false (by kernel_rfl) ?_
     refine wp_skip ?_
     exact hjK16 _ _ _ _ _ _ v _ Zb1 ee (by unfold T.Ms.rl4; rw [hb70]; exact O)
    refine wp_cond_true (by kernel_rfl) ?_
    refine wp_region_lit ?_
    with_reducible refine wv (v) ?_
    try simp only [nP, nN, nA, n0, nS]
    with_reducible refine wv (.pointer (some ⟨g2, 5, none⟩)) ?_
    try simp only [nP, nN, nA, n0, nS]
    with_reducible refine wg (g2) (5) ([.int .u32 (m.vr : Int), .int .i64 m.vn]) (rowMid Zb1 (5) (partOf 5 (by kernel_rfl))) Tryd.underlying44 ?_
    try simp only [nP, nN, nA, n0, nS]
    with_reducible refine wc 69 #[v, .agg ([.int .u32 (m.vr : Int), .int .i64 m.vn]).toArray] (rp_bal O (by have h_ := rl_len3 m hdt; omega) (B1 := w.heap.size) ee.size m.vr m.vn ok.vr) ?_
    rintro e z4 ⟨r1, rfl, O_, t⟩
    refine ⟨_, rfl, ?_⟩
    clear O
    have Zb1 := hpB Zb1 t
    have ee := ee.trans (t.mono ee.size)
    clear t
    have O := O_
    clear O_
    try simp only [nP, nN, nA, n0, nS]
    with_reducible refine wv (r1) ?_
    try simp only [nP, nN, nA, n0, nS]
    refine wpList_nil ?_
    exact hjK16 _ _ _ _ _ _ r1 _ Zb1 ee (by unfold T.Ms.rl4; rw [hb70]; exact O)
   refine wp_seq_k fun K71 hK71 => ?_
   refine wp_region_lit ?_
   with_reducible refine wv (.int .i64 m.kd) ?_
   try simp only [nP, nN, nA, n0, nS]
   with_reducible refine wc 52 #[.int .i64 m.kd, .string ((⟨#[104, 97, 115]⟩ : ByteArray))] (uses_H m.kd zj12) ?_
   rintro e z4 ⟨rfl, hw_⟩
   refine ⟨_, rfl, ?_⟩
   rw [← hw_]
   clear hw_ z4
   generalize hb72 : T.uH m.kd = b72
   try simp only [nP, nN, nA, n0, nS]
   refine wpList_nil ?_
   refine hK71 _ _ ?_
   cases b72
   ·refine wp_cond_false (by kernel_rfl) ?_
    refine wp_skip ?_
    exact hjK14 _ _ _ _ _ _ v _ Zb1 ee (by unfold T.Ms.rl3; rw [hb72]; exact O)
   refine wp_cond_true (by kernel_rfl) ?_
   refine wp_region_lit ?_
   with_reducible refine wv (v) ?_
   try simp only [nP, nN, nA, n0, nS]
   with_reducible refine wv (.pointer (some ⟨g2, 4, none⟩)) ?_
   try simp only [nP, nN, nA, n0, nS]
   with_reducible refine wl (.bool m.ha) ⟨g2, 4, none⟩ (rowCell Zb1 (4) rfl) Tryd.underlying4 ?_
   generalize hb73 : m.ha = b73
   try simp only [nP, nN, nA, n0, nS]
   with_reducible refine wc 71 #[v, .bool b73] (flag_o O ee.size (by have h_ := rl_len2 m hdt; omega) b73) ?_
   rintro e z5 ⟨r1, rfl, O_, g_⟩
   refine ⟨_, rfl, ?_⟩
   have Zb1 := heapKind O g_ (by decide) Zb1
   have ee := ee.grown g_ ee.size (fun i_ h_ => (O.lt i_ h_).1)
   clear g_ O
   have O := O_
   clear O_
   try simp only [nP, nN, nA, n0, nS]
   with_reducible refine wv (r1) ?_
   try simp only [nP, nN, nA, n0, nS]
   refine wpList_nil ?_
   exact hjK14 _ _ _ _ _ _ r1 _ Zb1 ee (by unfold T.Ms.rl3; rw [hb72, hb73]; exact O)
  refine wp_seq_k fun K74 hK74 => ?_
  refine wp_region_lit ?_
  with_reducible refine wv (.int .i64 m.kd) ?_
  try simp only [nP, nN, nA, n0, nS]
  with_reducible refine wc 52 #[.int .i64 m.kd, .string ((⟨#[115, 108, 111, 116]⟩ : ByteArray))] (uses_S m.kd zj10) ?_
  rintro e z4 ⟨rfl, hw_⟩
  refine ⟨_, rfl, ?_⟩
  rw [← hw_]
  clear hw_ z4
  generalize hb75 : T.uS m.kd = b75
  try simp only [nP, nN, nA, n0, nS]
  refine wpList_nil ?_
  refine hK74 _ _ ?_
  cases b75
  ·refine wp_cond_false (by kernel_rfl) ?_
   refine wp_skip ?_
   exact hjK12 _ _ _ _ _ _ _ v _ Zb1 ee (by unfold T.Ms.rl2; rw [hb75]; exact O)
  refine wp_cond_true (by kernel_rfl) ?_
  refine wp_region_lit ?_
  with_reducible refine wv (v) ?_
  try simp only [nP, nN, nA, n0, nS]
  with_reducible refine wv (.pointer (some ⟨g2, 3, none⟩)) ?_
  try simp only [nP, nN, nA, n0, nS]
  with_reducible refine wl (.int .i64 m.sl) ⟨g2, 3, none⟩ (rowCell Zb1 (3) rfl) Tryd.underlying3 ?_
  try simp only [nP, nN, nA, n0, nS]
  with_reducible refine wq (.int .u64 ((T.nz m.sl : Int))) (okIntP ((wrapU m.sl) : IntKind.u64.wrap m.sl = (T.nz m.sl : Int)) (by kernel_rfl)) ?_
  try simp only [nP, nN, nA, n0, nS]
  with_reducible refine wc 70 #[v, .int .u64 ((T.nz m.sl : Int)), .int .i64 4] (rp_put O (by have h_ := rl_len1 m hdt; omega) (B := w.heap.size) ee.size (T.nz m.sl) (nz_lt _) 4 (by omega) (by omega)) ?_
  rintro e z5 ⟨r1, rfl, O_, t⟩
  refine ⟨_, rfl, ?_⟩
  clear O
  have Zb1 := hpB Zb1 t
  have ee := ee.trans (t.mono ee.size)
  clear t
  have O := O_
  clear O_
  try simp only [nP, nN, nA, n0, nS]
  with_reducible refine wv (r1) ?_
  try simp only [nP, nN, nA, n0, nS]
  refine wpList_nil ?_
  exact hjK12 _ _ _ _ _ _ _ r1 _ Zb1 ee (by unfold T.Ms.rl2; rw [hb75]; exact O)
 refine wp_seq_k fun K76 hK76 => ?_
 refine wp_region_lit ?_
 with_reducible refine wv (.int .i64 m.kd) ?_
 try simp only [nP, nN, nA, n0, nS]
 with_reducible refine wc 52 #[.int .i64 m.kd, .string ((⟨#[98, 97, 108, 108, 111, 116]⟩ : ByteArray))] (uses_B m.kd z3) ?_
 rintro e z4 ⟨rfl, hw_⟩
 refine ⟨_, rfl, ?_⟩
 rw [← hw_]
 clear hw_ z4
 generalize hb77 : T.uB m.kd = b77
 try simp only [nP, nN, nA, n0, nS]
 refine wpList_nil ?_
 refine hK76 _ _ ?_
 cases b77
 ·refine wp_cond_false (by kernel_rfl) ?_
  refine wp_skip ?_
  exact hjK10 _ _ _ _ _ _ (.slice (some ⟨g9, 0, none⟩) 1 1) _ Zb1 ee (by unfold T.Ms.rl1; rw [hb77]; exact O)
 refine wp_cond_true (by kernel_rfl) ?_
 refine wp_region_lit ?_
 with_reducible refine wv (.slice (some ⟨g9, 0, none⟩) 1 1) ?_
 try simp only [nP, nN, nA, n0, nS]
 with_reducible refine wv (.pointer (some ⟨g2, 1, none⟩)) ?_
 try simp only [nP, nN, nA, n0, nS]
 with_reducible refine wg (g2) (1) ([.int .u32 (m.br : Int), .int .i64 m.bn]) (rowMid Zb1 (1) (partOf 1 (by kernel_rfl))) Tryd.underlying44 ?_
 try simp only [nP, nN, nA, n0, nS]
 with_reducible refine wc 69 #[.slice (some ⟨g9, 0, none⟩) 1 1, .agg ([.int .u32 (m.br : Int), .int .i64 m.bn]).toArray] (rp_bal O (by have h_ := rl_len0 m hdt; omega) (B1 := w.heap.size) ee.size m.br m.bn ok.br) ?_
 rintro e z5 ⟨r1, rfl, O_, t⟩
 refine ⟨_, rfl, ?_⟩
 clear O
 have Zb1 := hpB Zb1 t
 have ee := ee.trans (t.mono ee.size)
 clear t
 have O := O_
 clear O_
 try simp only [nP, nN, nA, n0, nS]
 with_reducible refine wv (r1) ?_
 try simp only [nP, nN, nA, n0, nS]
 refine wpList_nil ?_
 exact hjK10 _ _ _ _ _ _ r1 _ Zb1 ee (by unfold T.Ms.rl1; rw [hb77]; exact O)
end Go.Proofs.YtjofjpmhokjhnaaDoor

namespace Go.Proofs.YtjofjpmhokjhnaaDoor
set_option maxRecDepth 20001
open Go.RowKit T
set_option linter.unusedSimpArgs false
set_option linter.unusedVariables false

theorem formed_ha (m : Ms) (hf : m.formed = true) (h : m.kd ≠ 2) : m.ha = false := by
 rw [formed_eq] at hf
 have hu : T.uH m.kd = false := by unfold T.uH; simp [h]
 cases hh : m.ha with
 | false => rfl
 | true => exfalso; unfold T.Ms.rformed T.Ms.rfirst at hf; simp [hh, hu] at hf
theorem formed_kd (m : Ms) (hf : m.formed = true) : 1 ≤ m.kd ∧ m.kd ≤ 15 := by
 rw [formed_eq] at hf
 unfold T.Ms.rformed at hf
 by_cases h1 : m.kd < 1
 ·simp [h1] at hf
 by_cases h2 : m.kd > 15
 ·simp [h2] at hf
 omega
theorem put_nil1 (x : Nat) : C.put [] x 1 = [UInt8.ofNat x] := put_one [] x
theorem rlw_1 (m : Ms) (h : m.kd = 1) (hh : m.ha = false) : m.rl14 = m.wr := by
 unfold T.Ms.wr T.Ms.rl14 T.Ms.rl13 T.Ms.rl12 T.Ms.rl11 T.Ms.rl10 T.Ms.rl9 T.Ms.rl8 T.Ms.rl7 T.Ms.rl6 T.Ms.rl5 T.Ms.rl4 T.Ms.rl3 T.Ms.rl2 T.Ms.rl1 T.Ms.rl0
 rw [h, fields_1, put_nil1]
 simp only [List.foldl, show ((66 : UInt8)).toNat = 66 from rfl, wput_B, T.uB, T.uS, T.uH, T.uC, T.uT, T.uI, T.uG, T.uP, T.uY, T.uN, T.uK, T.uV, T.uD, hh]
 simp
theorem rlw_2 (m : Ms) (h : m.kd = 2) : m.rl14 = m.wr := by
 unfold T.Ms.wr T.Ms.rl14 T.Ms.rl13 T.Ms.rl12 T.Ms.rl11 T.Ms.rl10 T.Ms.rl9 T.Ms.rl8 T.Ms.rl7 T.Ms.rl6 T.Ms.rl5 T.Ms.rl4 T.Ms.rl3 T.Ms.rl2 T.Ms.rl1 T.Ms.rl0
 rw [h, fields_2, put_nil1]
 simp only [List.foldl, show ((66 : UInt8)).toNat = 66 from rfl, show ((83 : UInt8)).toNat = 83 from rfl, show ((72 : UInt8)).toNat = 72 from rfl, wput_B, wput_S, wput_H, T.uB, T.uS, T.uH, T.uC, T.uT, T.uI, T.uG, T.uP, T.uY, T.uN, T.uK, T.uV, T.uD]
 cases hh : m.ha <;> simp
theorem rlw_3 (m : Ms) (h : m.kd = 3) (hh : m.ha = false) : m.rl14 = m.wr := by
 unfold T.Ms.wr T.Ms.rl14 T.Ms.rl13 T.Ms.rl12 T.Ms.rl11 T.Ms.rl10 T.Ms.rl9 T.Ms.rl8 T.Ms.rl7 T.Ms.rl6 T.Ms.rl5 T.Ms.rl4 T.Ms.rl3 T.Ms.rl2 T.Ms.rl1 T.Ms.rl0
 rw [h, fields_3, put_nil1]
 simp only [List.foldl, show ((66 : UInt8)).toNat = 66 from rfl, wput_B, T.uB, T.uS, T.uH, T.uC, T.uT, T.uI, T.uG, T.uP, T.uY, T.uN, T.uK, T.uV, T.uD, hh]
 simp
theorem rlw_4 (m : Ms) (h : m.kd = 4) (hh : m.ha = false) : m.rl14 = m.wr := by
 unfold T.Ms.wr T.Ms.rl14 T.Ms.rl13 T.Ms.rl12 T.Ms.rl11 T.Ms.rl10 T.Ms.rl9 T.Ms.rl8 T.Ms.rl7 T.Ms.rl6 T.Ms.rl5 T.Ms.rl4 T.Ms.rl3 T.Ms.rl2 T.Ms.rl1 T.Ms.rl0
 rw [h, fields_4, put_nil1]
 simp only [List.foldl, show ((66 : UInt8)).toNat = 66 from rfl, show ((83 : UInt8)).toNat = 83 from rfl, show ((67 : UInt8)).toNat = 67 from rfl, wput_B, wput_S, wput_C, T.uB, T.uS, T.uH, T.uC, T.uT, T.uI, T.uG, T.uP, T.uY, T.uN, T.uK, T.uV, T.uD, hh]
 simp
theorem rlw_5 (m : Ms) (h : m.kd = 5) (hh : m.ha = false) : m.rl14 = m.wr := by
 unfold T.Ms.wr T.Ms.rl14 T.Ms.rl13 T.Ms.rl12 T.Ms.rl11 T.Ms.rl10 T.Ms.rl9 T.Ms.rl8 T.Ms.rl7 T.Ms.rl6 T.Ms.rl5 T.Ms.rl4 T.Ms.rl3 T.Ms.rl2 T.Ms.rl1 T.Ms.rl0
 rw [h, fields_5, put_nil1]
 simp only [List.foldl, show ((66 : UInt8)).toNat = 66 from rfl, show ((83 : UInt8)).toNat = 83 from rfl, wput_B, wput_S, T.uB, T.uS, T.uH, T.uC, T.uT, T.uI, T.uG, T.uP, T.uY, T.uN, T.uK, T.uV, T.uD, hh]
 simp
theorem rlw_6 (m : Ms) (h : m.kd = 6) (hh : m.ha = false) : m.rl14 = m.wr := by
 unfold T.Ms.wr T.Ms.rl14 T.Ms.rl13 T.Ms.rl12 T.Ms.rl11 T.Ms.rl10 T.Ms.rl9 T.Ms.rl8 T.Ms.rl7 T.Ms.rl6 T.Ms.rl5 T.Ms.rl4 T.Ms.rl3 T.Ms.rl2 T.Ms.rl1 T.Ms.rl0
 rw [h, fields_6, put_nil1]
 simp only [List.foldl, show ((83 : UInt8)).toNat = 83 from rfl, show ((67 : UInt8)).toNat = 67 from rfl, wput_S, wput_C, T.uB, T.uS, T.uH, T.uC, T.uT, T.uI, T.uG, T.uP, T.uY, T.uN, T.uK, T.uV, T.uD, hh]
 simp
theorem rlw_7 (m : Ms) (h : m.kd = 7) (hh : m.ha = false) : m.rl14 = m.wr := by
 unfold T.Ms.wr T.Ms.rl14 T.Ms.rl13 T.Ms.rl12 T.Ms.rl11 T.Ms.rl10 T.Ms.rl9 T.Ms.rl8 T.Ms.rl7 T.Ms.rl6 T.Ms.rl5 T.Ms.rl4 T.Ms.rl3 T.Ms.rl2 T.Ms.rl1 T.Ms.rl0
 rw [h, fields_7, put_nil1]
 simp only [List.foldl, show ((83 : UInt8)).toNat = 83 from rfl, wput_S, T.uB, T.uS, T.uH, T.uC, T.uT, T.uI, T.uG, T.uP, T.uY, T.uN, T.uK, T.uV, T.uD, hh]
 simp
theorem rlw_8 (m : Ms) (h : m.kd = 8) (hh : m.ha = false) : m.rl14 = m.wr := by
 unfold T.Ms.wr T.Ms.rl14 T.Ms.rl13 T.Ms.rl12 T.Ms.rl11 T.Ms.rl10 T.Ms.rl9 T.Ms.rl8 T.Ms.rl7 T.Ms.rl6 T.Ms.rl5 T.Ms.rl4 T.Ms.rl3 T.Ms.rl2 T.Ms.rl1 T.Ms.rl0
 rw [h, fields_8, put_nil1]
 simp only [List.foldl, show ((84 : UInt8)).toNat = 84 from rfl, wput_T, T.uB, T.uS, T.uH, T.uC, T.uT, T.uI, T.uG, T.uP, T.uY, T.uN, T.uK, T.uV, T.uD, hh]
 simp
theorem rlw_9 (m : Ms) (h : m.kd = 9) (hh : m.ha = false) : m.rl14 = m.wr := by
 unfold T.Ms.wr T.Ms.rl14 T.Ms.rl13 T.Ms.rl12 T.Ms.rl11 T.Ms.rl10 T.Ms.rl9 T.Ms.rl8 T.Ms.rl7 T.Ms.rl6 T.Ms.rl5 T.Ms.rl4 T.Ms.rl3 T.Ms.rl2 T.Ms.rl1 T.Ms.rl0
 rw [h, fields_9, put_nil1]
 simp only [List.foldl, show ((73 : UInt8)).toNat = 73 from rfl, show ((71 : UInt8)).toNat = 71 from rfl, show ((80 : UInt8)).toNat = 80 from rfl, wput_I, wput_G, wput_P, T.uB, T.uS, T.uH, T.uC, T.uT, T.uI, T.uG, T.uP, T.uY, T.uN, T.uK, T.uV, T.uD, hh]
 simp
theorem rlw_10 (m : Ms) (h : m.kd = 10) (hh : m.ha = false) : m.rl14 = m.wr := by
 unfold T.Ms.wr T.Ms.rl14 T.Ms.rl13 T.Ms.rl12 T.Ms.rl11 T.Ms.rl10 T.Ms.rl9 T.Ms.rl8 T.Ms.rl7 T.Ms.rl6 T.Ms.rl5 T.Ms.rl4 T.Ms.rl3 T.Ms.rl2 T.Ms.rl1 T.Ms.rl0
 rw [h, fields_10, put_nil1]
 simp only [List.foldl, show ((73 : UInt8)).toNat = 73 from rfl, show ((71 : UInt8)).toNat = 71 from rfl, show ((89 : UInt8)).toNat = 89 from rfl, wput_I, wput_G, wput_Y, T.uB, T.uS, T.uH, T.uC, T.uT, T.uI, T.uG, T.uP, T.uY, T.uN, T.uK, T.uV, T.uD, hh]
 simp
theorem rlw_11 (m : Ms) (h : m.kd = 11) (hh : m.ha = false) : m.rl14 = m.wr := by
 unfold T.Ms.wr T.Ms.rl14 T.Ms.rl13 T.Ms.rl12 T.Ms.rl11 T.Ms.rl10 T.Ms.rl9 T.Ms.rl8 T.Ms.rl7 T.Ms.rl6 T.Ms.rl5 T.Ms.rl4 T.Ms.rl3 T.Ms.rl2 T.Ms.rl1 T.Ms.rl0
 rw [h, fields_11, put_nil1]
 simp only [List.foldl, show ((73 : UInt8)).toNat = 73 from rfl, show ((71 : UInt8)).toNat = 71 from rfl, show ((80 : UInt8)).toNat = 80 from rfl, show ((89 : UInt8)).toNat = 89 from rfl, wput_I, wput_G, wput_P, wput_Y, T.uB, T.uS, T.uH, T.uC, T.uT, T.uI, T.uG, T.uP, T.uY, T.uN, T.uK, T.uV, T.uD, hh]
 simp
theorem rlw_12 (m : Ms) (h : m.kd = 12) (hh : m.ha = false) : m.rl14 = m.wr := by
 unfold T.Ms.wr T.Ms.rl14 T.Ms.rl13 T.Ms.rl12 T.Ms.rl11 T.Ms.rl10 T.Ms.rl9 T.Ms.rl8 T.Ms.rl7 T.Ms.rl6 T.Ms.rl5 T.Ms.rl4 T.Ms.rl3 T.Ms.rl2 T.Ms.rl1 T.Ms.rl0
 rw [h, fields_12, put_nil1]
 simp only [List.foldl, show ((80 : UInt8)).toNat = 80 from rfl, show ((78 : UInt8)).toNat = 78 from rfl, show ((75 : UInt8)).toNat = 75 from rfl, wput_P, wput_N, wput_K, T.uB, T.uS, T.uH, T.uC, T.uT, T.uI, T.uG, T.uP, T.uY, T.uN, T.uK, T.uV, T.uD, hh]
 simp
theorem rlw_13 (m : Ms) (h : m.kd = 13) (hh : m.ha = false) : m.rl14 = m.wr := by
 unfold T.Ms.wr T.Ms.rl14 T.Ms.rl13 T.Ms.rl12 T.Ms.rl11 T.Ms.rl10 T.Ms.rl9 T.Ms.rl8 T.Ms.rl7 T.Ms.rl6 T.Ms.rl5 T.Ms.rl4 T.Ms.rl3 T.Ms.rl2 T.Ms.rl1 T.Ms.rl0
 rw [h, fields_13, put_nil1]
 simp only [List.foldl, show ((71 : UInt8)).toNat = 71 from rfl, show ((80 : UInt8)).toNat = 80 from rfl, show ((78 : UInt8)).toNat = 78 from rfl, show ((75 : UInt8)).toNat = 75 from rfl, show ((86 : UInt8)).toNat = 86 from rfl, show ((88 : UInt8)).toNat = 88 from rfl, show ((69 : UInt8)).toNat = 69 from rfl, wput_G, wput_P, wput_N, wput_K, wput_V, wput_X, wput_E, T.uB, T.uS, T.uH, T.uC, T.uT, T.uI, T.uG, T.uP, T.uY, T.uN, T.uK, T.uV, T.uD, hh]
 simp
theorem rlw_14 (m : Ms) (h : m.kd = 14) (hh : m.ha = false) : m.rl14 = m.wr := by
 unfold T.Ms.wr T.Ms.rl14 T.Ms.rl13 T.Ms.rl12 T.Ms.rl11 T.Ms.rl10 T.Ms.rl9 T.Ms.rl8 T.Ms.rl7 T.Ms.rl6 T.Ms.rl5 T.Ms.rl4 T.Ms.rl3 T.Ms.rl2 T.Ms.rl1 T.Ms.rl0
 rw [h, fields_14, put_nil1]
 simp only [List.foldl, show ((78 : UInt8)).toNat = 78 from rfl, wput_N, T.uB, T.uS, T.uH, T.uC, T.uT, T.uI, T.uG, T.uP, T.uY, T.uN, T.uK, T.uV, T.uD, hh]
 simp
theorem rlw_15 (m : Ms) (h : m.kd = 15) (hh : m.ha = false) : m.rl14 = m.wr := by
 unfold T.Ms.wr T.Ms.rl14 T.Ms.rl13 T.Ms.rl12 T.Ms.rl11 T.Ms.rl10 T.Ms.rl9 T.Ms.rl8 T.Ms.rl7 T.Ms.rl6 T.Ms.rl5 T.Ms.rl4 T.Ms.rl3 T.Ms.rl2 T.Ms.rl1 T.Ms.rl0
 rw [h, fields_15, put_nil1]
 simp only [List.foldl, show ((83 : UInt8)).toNat = 83 from rfl, show ((68 : UInt8)).toNat = 68 from rfl, wput_S, wput_D, T.uB, T.uS, T.uH, T.uC, T.uT, T.uI, T.uG, T.uP, T.uY, T.uN, T.uK, T.uV, T.uD, hh]
 simp
theorem rl_wr (m : Ms) (hf : m.formed = true) : m.rl14 = m.wr := by
 obtain ⟨h1, h2⟩ := formed_kd m hf
 by_cases k1 : m.kd = 1
 ·exact rlw_1 m k1 (formed_ha m hf (by omega))
 by_cases k2 : m.kd = 2
 ·exact rlw_2 m k2
 by_cases k3 : m.kd = 3
 ·exact rlw_3 m k3 (formed_ha m hf (by omega))
 by_cases k4 : m.kd = 4
 ·exact rlw_4 m k4 (formed_ha m hf (by omega))
 by_cases k5 : m.kd = 5
 ·exact rlw_5 m k5 (formed_ha m hf (by omega))
 by_cases k6 : m.kd = 6
 ·exact rlw_6 m k6 (formed_ha m hf (by omega))
 by_cases k7 : m.kd = 7
 ·exact rlw_7 m k7 (formed_ha m hf (by omega))
 by_cases k8 : m.kd = 8
 ·exact rlw_8 m k8 (formed_ha m hf (by omega))
 by_cases k9 : m.kd = 9
 ·exact rlw_9 m k9 (formed_ha m hf (by omega))
 by_cases k10 : m.kd = 10
 ·exact rlw_10 m k10 (formed_ha m hf (by omega))
 by_cases k11 : m.kd = 11
 ·exact rlw_11 m k11 (formed_ha m hf (by omega))
 by_cases k12 : m.kd = 12
 ·exact rlw_12 m k12 (formed_ha m hf (by omega))
 by_cases k13 : m.kd = 13
 ·exact rlw_13 m k13 (formed_ha m hf (by omega))
 by_cases k14 : m.kd = 14
 ·exact rlw_14 m k14 (formed_ha m hf (by omega))
 by_cases k15 : m.kd = 15
 ·exact rlw_15 m k15 (formed_ha m hf (by omega))
 exfalso; omega
theorem wr_len (m : Ms) (h : m.dt.length ≤ 70000) : m.wr.length ≤ 20000000 := by
 have h1 := wl_len0 m h 7
 have h2 := fields_len m.kd
 rw [wl_end m 7 (by omega)] at h1
 omega
theorem both_len (m : Ms) (h : m.dt.length ≤ 70000) : (bif m.formed then m.wr else []).length ≤ 1099511627776 := by
 have := wr_len m h
 cases m.formed
 ·exact Nat.zero_le _
 ·exact Nat.le_trans this (by decide)
theorem both_wr (m : Ms) : (bif m.formed then m.wr else []) = (bif m.formed then m.rl14 else []) := by
 cases hf : m.formed with
 | false => rfl
 | true => exact (rl_wr m hf).symm
theorem samed_t {w : World} {B1 B2 : Nat} {v u : Value} {l m : List UInt8} (h : SlB w B1 v l) (g : SlB w B2 u m) (hl : l.length ≤ 1099511627776) (e : l = m) :
  Calls Tryd.prog 22 #[v, u] w fun e w' => e = .returned (.bool true) ∧ Below w.heap.size w w' := by
 have q := samed_s h g hl (by rw [← e]; exact hl)
 rw [show decide (l = m) = true from decide_eq_true e] at q
 exact q
theorem small_70 {m : Ms} (h : m.small) : m.dt.length ≤ 70000 := h.2.2
set_option maxHeartbeats 25600000 in
theorem mwrites_any (m : Ms) (w : World) (ok : MsOk w w.heap.size m) (hT : Tabs w) :
  Calls Tryd.prog 5 #[.agg m.cells.toArray] w fun e w' => e = .returned (.bool true) ∧ Below w.heap.size w w' := by
 have ee : Below w.heap.size w w := Below.refl _ _
 go_enter Tryd.func5, Tryd.ntmps5
 refine wp_seq_k fun K1 hK1 => ?_
 refine wp_region_lit ?_
 with_reducible refine ww (.pointer (some ⟨w.heap.size, 0, none⟩)) (w.alloc (.cells (m.cells).toArray 39)) ?_
 try simp only [nP, nN, nA, n0, nS]
 have sz_g2 := ee.size
 have sz_ := ee.size
 have ee := ee.alloc ee.size (.cells (m.cells).toArray 39)
 have Zb1 := hpN w (.cells (m.cells).toArray 39) rfl
 generalize w.alloc (.cells (m.cells).toArray 39) = z1 at Zb1 ee ⊢
 obtain ⟨g2, hg_g2⟩ : ∃ g_, g_ = w.heap.size := ⟨_, rfl⟩
 have hB_g2 : w.heap.size ≤ g2 := by rw [hg_g2]; exact sz_g2
 rw [← hg_g2] at Zb1 ⊢
 clear hg_g2
 with_reducible refine wv (.bool false) ?_
 try simp only [nP, nN, nA, n0, nS]
 refine wpList_nil ?_
 refine hK1 _ _ ?_
 refine wp_seq_k fun K3 hK3 => ?_
 refine wp_seq_k fun K4 hK4 => ?_
 refine wp_region_lit ?_
 with_reducible refine wc 11 #[] (awake10_any z1 (hT.below ee)) ?_
 rintro e z2 ⟨rfl, t⟩
 refine ⟨_, rfl, ?_⟩
 have Zb1 := hpB Zb1 t
 have ee := ee.trans (t.mono ee.size)
 clear t
 try simp only [nP, nN, nA, n0, nS]
 with_reducible refine wv (.bool false) ?_
 try simp only [nP, nN, nA, n0, nS]
 with_reducible refine wv (.bool false) ?_
 try simp only [nP, nN, nA, n0, nS]
 with_reducible refine wg (g2) (0) (m.cells) (rowAt Zb1) Tryd.underlying39 ?_
 try simp only [nP, nN, nA, n0, nS]
 with_reducible refine wc 12 #[.agg (m.cells).toArray] (few10_any m z2 w.heap.size ee.size (ok.below ee (Nat.le_refl _))) ?_
 rintro e z3 ⟨⟨r0, rfl, hs0⟩, t⟩
 refine ⟨_, rfl, ?_⟩
 have Zb1 := hpB Zb1 t
 have ee := ee.trans (t.mono ee.size)
 clear t
 try simp only [nP, nN, nA, n0, nS]
 cases r0
 ·with_reducible refine wv (.bool true) ?_
  try simp only [nP, nN, nA, n0, nS]
  with_reducible refine wv (.bool true) ?_
  try simp only [nP, nN, nA, n0, nS]
  refine wpList_nil ?_
  refine hK4 _ _ ?_
  refine wp_cond_true (by kernel_rfl) ?_
  refine wp_seq_k fun K5 hK5 => ?_
  refine wp_region_lit ?_
  with_reducible refine wc 11 #[] (awake10_any z3 (hT.below ee)) ?_
  rintro e z4 ⟨rfl, t⟩
  refine ⟨_, rfl, ?_⟩
  have Zb1 := hpB Zb1 t
  have ee := ee.trans (t.mono ee.size)
  clear t
  try simp only [nP, nN, nA, n0, nS]
  with_reducible refine wv (.bool true) ?_
  try simp only [nP, nN, nA, n0, nS]
  refine wpList_nil ?_
  refine hK5 _ _ ?_
  refine wp_ret ?_
  refine then_ret ?_
  exact bodyPost_ret (v := .bool true) (by kernel_rfl) rfl ⟨rfl, ee⟩
 with_reducible refine wv (.bool false) ?_
 try simp only [nP, nN, nA, n0, nS]
 with_reducible refine wv (.bool false) ?_
 try simp only [nP, nN, nA, n0, nS]
 refine wpList_nil ?_
 refine hK4 _ _ ?_
 refine wp_cond_false (by kernel_rfl) ?_
 refine wp_skip ?_
 refine hK3 _ _ ?_
 refine wp_seq_k fun K6 hK6 => ?_
 refine wp_region_lit ?_
 with_reducible refine wg (g2) (0) (m.cells) (rowAt Zb1) Tryd.underlying39 ?_
 try simp only [nP, nN, nA, n0, nS]
 with_reducible refine wc 20 #[.agg (m.cells).toArray] (mwrite_any m z3 w.heap.size ee.size (ok.below ee (Nat.le_refl _)) (Nat.le_trans (small_70 (hs0 (by trivial))) (by decide)) (hT.below ee)) ?_
 rintro e z4 ⟨⟨v1, l1, x1, rfl, s1, hx1, hl1⟩, t⟩
 refine ⟨_, rfl, ?_⟩
 have Zb1 := hpB Zb1 t
 have ee := ee.trans (t.mono ee.size)
 clear t
 try simp only [nP, nN, nA, n0, nS]
 with_reducible refine wv (.tuple #[v1, .int .i64 x1]) ?_
 try simp only [nP, nN, nA, n0, nS]
 with_reducible refine wv (v1) ?_
 try simp only [nP, nN, nA, n0, nS]
 with_reducible refine wv (.int .i64 x1) ?_
 try simp only [nP, nN, nA, n0, nS]
 with_reducible refine wv (v1) ?_
 try simp only [nP, nN, nA, n0, nS]
 with_reducible refine wv (.int .i64 x1) ?_
 try simp only [nP, nN, nA, n0, nS]
 refine wpList_nil ?_
 refine hK6 _ _ ?_
 refine wp_seq_k fun K7 hK7 => ?_
 refine wp_region_lit ?_
 with_reducible refine wg (g2) (0) (m.cells) (rowAt Zb1) Tryd.underlying39 ?_
 try simp only [nP, nN, nA, n0, nS]
 with_reducible refine wc 15 #[.agg (m.cells).toArray] (mplain_any m z4) ?_
 rintro e z5 ⟨rfl, t⟩
 refine ⟨_, rfl, ?_⟩
 have s1 := (s1.belowM t (Nat.le_refl _)).more t.size
 have Zb1 := hpB Zb1 t
 have ee := ee.trans (t.mono ee.size)
 clear t
 try simp only [nP, nN, nA, n0, nS]
 with_reducible refine wc 21 #[.agg (m.cells).toArray] (rmwrite_any m z5 w.heap.size ee.size (ok.below ee (Nat.le_refl _)) (small_70 (hs0 (by trivial)))) ?_
 rintro e z6 ⟨⟨v2, l2, x2, rfl, s2, hx2, hl2⟩, t⟩
 refine ⟨_, rfl, ?_⟩
 have s1 := (s1.belowM t (Nat.le_refl _)).more t.size
 have Zb1 := hpB Zb1 t
 have ee := ee.trans (t.mono ee.size)
 clear t
 try simp only [nP, nN, nA, n0, nS]
 with_reducible refine wv (.tuple #[v2, .int .i64 x2]) ?_
 try simp only [nP, nN, nA, n0, nS]
 with_reducible refine wv (v2) ?_
 try simp only [nP, nN, nA, n0, nS]
 with_reducible refine wv (.int .i64 x2) ?_
 try simp only [nP, nN, nA, n0, nS]
 with_reducible refine wv (v2) ?_
 try simp only [nP, nN, nA, n0, nS]
 with_reducible refine wv (.int .i64 x2) ?_
 try simp only [nP, nN, nA, n0, nS]
 refine wpList_nil ?_
 refine hK7 _ _ ?_
 refine wp_seq_k fun K8 hK8 => ?_
 refine wp_region_lit ?_
 with_reducible refine wv (.int .i64 x1) ?_
 try simp only [nP, nN, nA, n0, nS]
 with_reducible refine wv (.int .i64 x2) ?_
 try simp only [nP, nN, nA, n0, nS]
 with_reducible refine wb (.bool true) (.int .i64 x1) (.int .i64 x2) 36 (run_eqlI (decide_eq_true (by rw [hx1, hx2]))) ?_
 try simp only [nP, nN, nA, n0, nS]
 with_reducible refine wv (.bool true) ?_
 try simp only [nP, nN, nA, n0, nS]
 with_reducible refine wv (v1) ?_
 try simp only [nP, nN, nA, n0, nS]
 with_reducible refine wv (v2) ?_
 try simp only [nP, nN, nA, n0, nS]
 with_reducible refine wc 22 #[v1, v2] (samed_t s1 s2 (by rw [hl1]; exact both_len m (small_70 (hs0 (by trivial)))) (by rw [hl1, hl2]; exact both_wr m)) ?_
 rintro e z7 ⟨rfl, t⟩
 refine ⟨_, rfl, ?_⟩
 have s1 := (s1.belowM t (Nat.le_refl _)).more t.size
 have s2 := (s2.belowM t (Nat.le_refl _)).more t.size
 have Zb1 := hpB Zb1 t
 have ee := ee.trans (t.mono ee.size)
 clear t
 try simp only [nP, nN, nA, n0, nS]
 with_reducible refine wv (.bool true) ?_
 try simp only [nP, nN, nA, n0, nS]
 with_reducible refine wv (.bool true) ?_
 try simp only [nP, nN, nA, n0, nS]
 refine wpList_nil ?_
 refine hK8 _ _ ?_
 refine wp_ret ?_
 exact bodyPost_ret (v := .bool true) (by kernel_rfl) rfl ⟨rfl, ee⟩
theorem messageWrites_walk (W : World) (hT : Tabs W) (v0 : Value) (h0 : Arg W 39 v0) :
  Calls Tryd.prog 5 #[v0] W fun e W' => e = .returned (.bool true) ∧ Below W.heap.size W W' := by
 obtain ⟨m, rfl, ok⟩ := h0.ms
 exact mwrites_any m W ok hT
end Go.Proofs.YtjofjpmhokjhnaaDoor
