import Derived.Test.YthclniimhpmeoaaGreatDoorMrM24
set_option maxHeartbeats 6400000
set_option maxRecDepth 20001
set_option linter.unusedSimpArgs false
set_option linter.unusedVariables false
namespace Go.Proofs.YthclniimhpmeoaaGreatDoor
set_option maxRecDepth 20000
section
open Go.RowKit
theorem samed_any (A B : Option Addr) (c d : Nat) (l m : List UInt8) (w : World) (b1 b2 : Nat) (hl : l.length ≤ 1099511627776) (hm : m.length ≤ 1099511627776) (hA : Rd w b1 A (bc l)) (hB : Rd w b2 B (bc m)) (hc : l.length ≤ c) (hd : m.length ≤ d) :
 Calls Tryz.prog 17 #[.slice A l.length c, .slice B m.length d] w fun e w' => e = .returned (.bool (decide (l = m))) ∧ Below w.heap.size w w' := by
 obtain ⟨p, hp⟩ : ∃ p : Bool, p = decide (l = m) := ⟨_, rfl⟩;have HP : Hid (decide (l = m) = p) := hp.symm;rw [← hp];clear hp
 by_cases hlen : l.length = m.length
 ·obtain ⟨n, hn⟩ : ∃ n, n = l.length := ⟨_, rfl⟩;have HN := Lib.hid hn;(have HM : Hid (n = m.length) := by show _ = _; omega);rw [← hlen, ← hn];rw [← hn] at hl hc;rw [← HM.out] at hd hm;clear hn hlen
  go_enter Tryz.func17, Tryz.ntmps17
  go_wp2_with fail
  go_loopw [5] (fun i wr => ∃ k q : Nat, k ≤ n ∧ i = .int .i64 k ∧ wr = w.drewN q ∧ Hid (l.take k = m.take k)) (fun i _ => n - (intOf i).toNat)
  case atStart => exact ⟨0, 0, Nat.zero_le _, rfl, rfl, rfl⟩
  case round =>
   obtain ⟨k, q, hk, rfl, rfl, HT⟩ := hrel
   by_cases hlt : k < n
   ·(have hkl : k < l.length := by rw [← HN.out]; exact hlt);(have hkm : k < m.length := by rw [← HM.out]; exact hlt);obtain ⟨ab, ao, rfl, _, hca⟩ := hA.at_ (show k < (bc l).length by rw [bc_len]; exact hkl);obtain ⟨bb, bo, rfl, _, hcb⟩ := hB.at_ (show k < (bc m).length by rw [bc_len]; exact hkm);rw [bc_get] at hca hcb;have HL : Hid (l.take (k + 1) = l.take k ++ [l[k]'hkl]) := List.take_succ_eq_append_getElem hkl;have HR : Hid (m.take (k + 1) = m.take k ++ [m[k]'hkm]) := List.take_succ_eq_append_getElem hkm;generalize l[k] = x at hca HL;generalize m[k] = y at hcb HR;(have hb0 : (0 : Int) ≤ (k : Int) := by omega);(have hb1 : (k : Int) < (n : Int) := by omega)
    by_cases hxy : x = y
    ·subst hxy;(have HT2 : Hid (l.take (k + 1) = m.take (k + 1)) := by show _ = _; rw [HL.out, HR.out, HT.out]);clear HL HR hkl hkm;generalize (x.toNat : Int) = xi at hca hcb
     go_wp2_with fail
     go_quiet (fail)
     go_wp2_with fail
     go_roundw
     case rel => exact ⟨k + 1, _, by omega, by go_num, rfl, HT2⟩
     case measure => simp [intOf]; omega
    ·have HF : Hid (false = p) := by
      show _ = _;rw [← HP.out];refine (decide_eq_false fun e => hxy ?_).symm;have h1 := HL.out;rw [e, HR.out, ← HT.out] at h1;have h2 := List.append_cancel_left h1;injection h2 with h2;exact h2.symm
     have hne : ((x.toNat : Int) == (y.toNat : Int)) = false := by
      rw [beq_eq_false_iff_ne];intro h;exact hxy (UInt8.toNat_inj.1 (by omega))
     clear HL HR hkl hkm hxy;generalize (x.toNat : Int) = xi at hca hne;generalize (y.toNat : Int) = yi at hcb hne
     go_wp2_with fail
     go_quiet (fail)
     go_wp2_with fail
     go_ret
     exact ⟨ret_bool HF.out, belowDrewN (belowDrewN (Below.refl _ _) _) _⟩
   ·have HF : Hid (true = p) := by
     show _ = _;rw [← HP.out];(have e : k = n := by omega);have h1 := HT.out;rw [e, List.take_of_length_le (by rw [← HN.out]; exact Nat.le_refl _), List.take_of_length_le (by rw [← HM.out]; exact Nat.le_refl _)] at h1;exact (decide_eq_true h1).symm
    go_wp2_with fail
    go_ret
    exact ⟨ret_bool HF.out, belowDrewN (Below.refl _ _) _⟩
 ·have HF : Hid (false = p) := by
   show _ = _;rw [← HP.out];exact (decide_eq_false fun e => hlen (by rw [e])).symm
  (have hne : ((l.length : Int) == (m.length : Int)) = false := by rw [beq_eq_false_iff_ne]; omega);clear hlen;generalize l.length = n1 at *;generalize m.length = n2 at *
  go_enter Tryz.func17, Tryz.ntmps17
  go_wp2_with fail
  go_ret
  exact ⟨ret_bool HF.out, Below.refl _ _⟩
theorem samed_s {w : World} {B1 B2 : Nat} {v u : Value} {l m : List UInt8} (h : SlB w B1 v l) (g : SlB w B2 u m) (hl : l.length ≤ 1099511627776) (hm : m.length ≤ 1099511627776) :
 Calls Tryz.prog 17 #[v, u] w fun e w' => e = .returned (.bool (decide (l = m))) ∧ Below w.heap.size w w' := by
 obtain ⟨A, c, rfl, hc, hmx, hA, hr⟩ := h;obtain ⟨A', c', rfl, hc', hmx', hA', hr'⟩ := g;exact samed_any A A' c c' l m w _ _ hl hm hr hr' hc hc'
end
section
open Go.RowKit T
namespace T
def dtake (s : C.St) : List UInt8 × C.St := ((C.take 4 s).2.1.take (min (C.take 4 s).1 (C.left (C.take 4 s).2)), ((C.take 4 s).2.1.drop (min (C.take 4 s).1 (C.left (C.take 4 s).2)), (C.take 4 s).2.2))
def mtk (p : Ms × C.St) (c : Nat) : Ms × C.St :=
 if c = 66 then ({ p.1 with br := (B.take p.2).1.1, bn := ((B.take p.2).1.2 : Int) }, (B.take p.2).2)
 else if c = 83 then ({ p.1 with sl := ((C.take 4 p.2).1 : Int) }, (C.take 4 p.2).2)
 else if c = 72 then
  (if (C.take 1 p.2).1 = 1 then ({ p.1 with ha := true, vr := (B.take (C.take 1 p.2).2).1.1, vn := ((B.take (C.take 1 p.2).2).1.2 : Int), c := (ctake (B.take (C.take 1 p.2).2).2).1 }, (ctake (B.take (C.take 1 p.2).2).2).2)
   else ({ p.1 with ha := false }, (C.take 1 p.2).2))
 else if c = 67 then ({ p.1 with c := (ctake p.2).1 }, (ctake p.2).2)
 else if c = 84 then ({ p.1 with t := { p.1.t with s := ((ttake p.2).1.1.1 : Int), q := ((ttake p.2).1.1.2 : Int), rs := (ttake p.2).1.2.1, ws := (ttake p.2).1.2.2 } }, (ttake p.2).2)
 else if c = 73 then ({ p.1 with ii := ((idtake p.2).1.1 : Int), ij := ((idtake p.2).1.2 : Int) }, (idtake p.2).2)
 else if c = 71 then ({ p.1 with g := ((C.take 1 p.2).1 : Int) }, (C.take 1 p.2).2)
 else if c = 80 then ({ p.1 with st := (C.take 8 p.2).1 }, (C.take 8 p.2).2)
 else if c = 89 then ({ p.1 with ye := decide ((C.take 1 p.2).1 = 1) }, (C.take 1 p.2).2)
 else if c = 78 then ({ p.1 with nu := ((C.take 4 p.2).1 : Int) }, (C.take 4 p.2).2)
 else if c = 75 then ({ p.1 with ky := ⟨(C.text 12 p.2).1.toArray⟩ }, (C.text 12 p.2).2)
 else if c = 86 then ({ p.1 with ve := (C.take 8 p.2).1 }, (C.take 8 p.2).2)
 else if c = 88 then ({ p.1 with vk := ((V.take p.2).1.1 : Int), vb := (V.take p.2).1.2.1, vt := ⟨(V.take p.2).1.2.2.toArray⟩ }, (V.take p.2).2)
 else if c = 69 then ({ p.1 with er := ((C.take 1 p.2).1 : Int) }, (C.take 1 p.2).2)
 else if c = 68 then ({ p.1 with dt := p.1.dt ++ (dtake p.2).1 }, (dtake p.2).2)
 else p
def rk (b : List UInt8) : Int := ((C.take 1 (b, false)).1 : Int)
def rd (b : List UInt8) (k : Nat) : Ms × C.St := ((fieldsOf (rk b)).take k).foldl (fun p c => mtk p c.toNat) (Ms.zero (rk b), (C.take 1 (b, false)).2)
def rdm (b : List UInt8) : Ms := ((fieldsOf (rk b)).foldl (fun p c => mtk p c.toNat) (Ms.zero (rk b), (C.take 1 (b, false)).2)).1
def rok (b : List UInt8) : Bool := (rdm b).formed && decide (b = (rdm b).wr)
structure Like (a b : Ms) : Prop where
 kd : a.kd = b.kd
 br : a.br = b.br
 bn : a.bn = b.bn
 sl : a.sl = b.sl
 ha : a.ha = b.ha
 vr : a.vr = b.vr
 vn : a.vn = b.vn
 c : SameC a.c b.c = true
 ts : a.t.s = b.t.s
 tq : a.t.q = b.t.q
 tr : a.t.rs = b.t.rs
 tw : a.t.ws = b.t.ws
 ii : a.ii = b.ii
 ij : a.ij = b.ij
 g : a.g = b.g
 st : a.st = b.st
 ye : a.ye = b.ye
 nu : a.nu = b.nu
 ky : a.ky = b.ky
 ve : a.ve = b.ve
 vk : a.vk = b.vk
 vb : a.vb = b.vb
 vt : a.vt = b.vt
 er : a.er = b.er
 dt : a.dt = b.dt
end T
theorem SameC_self (x : Cm) : SameC x x = true := by unfold SameC; simp
theorem T.Like.refl (a : Ms) : Like a a := ⟨rfl, rfl, rfl, rfl, rfl, rfl, rfl, SameC_self _, rfl, rfl, rfl, rfl, rfl, rfl, rfl, rfl, rfl, rfl, rfl, rfl, rfl, rfl, rfl, rfl, rfl⟩
theorem T.Like.wput {a b : Ms} (h : Like a b) (l : List UInt8) (c : Nat) : a.wput l c = b.wput l c := by
 unfold T.Ms.wput;rw [h.br, h.bn, h.sl, h.ha, h.vr, h.vn, SameC.put h.c, SameC.put h.c, h.ts, h.tq, h.tr, h.tw, h.ii, h.ij, h.g, h.st, h.ye, h.nu, h.ky, h.ve, h.vk, h.vb, h.vt, h.er, h.dt]
theorem T.Like.wr {a b : Ms} (h : Like a b) : a.wr = b.wr := by
 unfold T.Ms.wr;rw [h.kd, show (fun (l : List UInt8) (c : UInt8) => a.wput l c.toNat) = (fun l c => b.wput l c.toNat) from funext fun l => funext fun c => h.wput l _]
theorem rd_zero (b : List UInt8) : rd b 0 = (Ms.zero (rk b), (C.take 1 (b, false)).2) := by unfold rd; rw [List.take_zero]; rfl
theorem rd_succ (b : List UInt8) (k : Nat) (h : k < (fieldsOf (rk b)).length) : rd b (k + 1) = mtk (rd b k) ((fieldsOf (rk b))[k]'h).toNat := by
 unfold rd;rw [List.take_succ_eq_append_getElem h, List.foldl_append]; rfl
theorem rd_end (b : List UInt8) (k : Nat) (h : ¬ k < (fieldsOf (rk b)).length) : (rd b k).1 = rdm b := by
 unfold rd rdm;rw [List.take_of_length_le (by omega)]
structure NumOk (m : Ms) : Prop where
 ks : m.ky.size ≤ 9223372036854775807
 ts : m.vt.size ≤ 9223372036854775807
 br : m.br < 4294967296
 vr : m.vr < 4294967296
 vb : m.vb < 18446744073709551616
 ve : m.ve < 18446744073709551616
 st : m.st < 18446744073709551616
theorem numZero (k : Int) : NumOk (Ms.zero k) := ⟨by simp [Ms.zero], by simp [Ms.zero], by simp [Ms.zero], by simp [Ms.zero], by simp [Ms.zero], by simp [Ms.zero], by simp [Ms.zero]⟩
def CtK (z : World) (g a b d : Nat) (m : Ms) : Prop := ∀ z' : World, (∀ i, i < z.heap.size → i ≠ g → i ≠ a → i ≠ b → i ≠ d → z'.heap[i]? = z.heap[i]?) → CmOk z' z'.heap.size m.c ∧ TxOk z' z'.heap.size m.t.rs m.t.ws m.t.A1 m.t.c1 m.t.A2 m.t.c2
theorem CtK.zero (z : World) (g a b d : Nat) (k : Int) : CtK z g a b d (Ms.zero k) := fun _ _ => ⟨CmOk.zero, TxOk.zero⟩
theorem CtK.step {z z1 : World} {g a b d : Nat} {m : Ms} (h : CtK z g a b d m) (hs : z.heap.size ≤ z1.heap.size) (hk : ∀ i, i < z.heap.size → i ≠ g → i ≠ a → i ≠ b → i ≠ d → z1.heap[i]? = z.heap[i]?) : CtK z1 g a b d m :=
 fun z' h' => h z' fun i hi h1 h2 h3 h4 => (h' i (by omega) h1 h2 h3 h4).trans (hk i hi h1 h2 h3 h4)
theorem CtK.below {z z1 : World} {g a b d : Nat} {m : Ms} (h : CtK z g a b d m) (hb : Below z.heap.size z z1) : CtK z1 g a b d m := h.step hb.size fun i hi _ _ _ _ => hb.block i hi
theorem CtK.drew {z : World} {g a b d : Nat} {m : Ms} (h : CtK z g a b d m) : CtK z.drew g a b d m := h
theorem CtK.alloc {z : World} {g a b d : Nat} {m : Ms} (h : CtK z g a b d m) (o : Obj) : CtK (z.alloc o) g a b d m := h.below ((Below.refl _ z).alloc (Nat.le_refl _) o)
theorem CtK.rdr {z z1 : World} {g a b d : Nat} {m : Ms} (h : CtK z g a b d m) (hg : z.grownBy z1 (some g)) : CtK z1 g a b d m := h.step hg.size fun i hi hn _ _ _ => hg.block i hi (fun e => hn (by injection e))
theorem CtK.cells {z : World} {g a b d : Nat} {m : Ms} (h : CtK z g a b d m) (vs : List Value) (o : Nat) : CtK (z.setCells a o vs) g a b d m := h.step (by rw [setCells_size]; exact Nat.le_refl _) fun i _ _ ha _ _ => setCells_heap ha vs o z
theorem CtK.cz {z z' : World} {g a b d i : Nat} {vs : List Value} {m : Ms} (h : CtK z g a b d m) (hz : z' = z.setCells a i vs) : CtK z' g a b d m := by subst hz; exact h.cells vs i
theorem CtK.iter {z : World} {g a b d : Nat} {m : Ms} (h : CtK z g a b d m) (st : ByteArray) (p : Nat) : CtK (z.iterAt d st p) g a b d m := h.step (by rw [Lib.iterAt_size]; exact Nat.le_refl _) fun i _ _ _ _ hd => Lib.iterAt_other z d i st p hd
theorem CtK.same {z : World} {g a b d : Nat} {m n : Ms} (h : CtK z g a b d m) (hc : n.c = m.c) (ht : n.t = m.t) : CtK z g a b d n := fun z' h' => by rw [hc, ht]; exact h z' h'
theorem readOk {z : World} {g a b d B : Nat} {m : Ms} (h : CtK z g a b d m) (n : NumOk m) (o : OwnB z B (.slice m.D m.dt.length m.dc) m.dt) : MsOk z z.heap.size m := by
 obtain ⟨h1, h2⟩ := h z (fun _ _ _ _ _ _ => rfl);obtain ⟨A, c, e1, e2, e3, e4, e5⟩ := SlB.ofOwn o;injection e1 with e6 e7 e8;subst e6; subst e8;exact ⟨h1, h2, e5, e2, e3, e4, n.ks, n.ts, n.br, n.vr, n.vb, n.ve, n.st⟩
section
variable {z : World} {base e sz n k : Nat} {t : TypeId} {v : Value} {xs : List Value} {old cs : Array Value}
end
theorem ownRdr {z z1 : World} {base B g : Nat} {v : Value} {l : List UInt8} {s : C.St} (h : OwnB z base v l) (hr : RdrAt z B g s) (hg : z.grownBy z1 (some g)) : OwnB z1 base v l := by
 obtain ⟨A, c, hb, _⟩ := hr;refine h.kept hg (Or.inr fun e => ?_);obtain ⟨cs2, t2, e1⟩ := Lib.ownsRow_kind h g e;rw [hb] at e1;injection e1 with e1; injection e1 with _ e3;exact absurd e3 (by decide)
theorem ownIter {z : World} {base g : Nat} {v : Value} {l : List UInt8} {st : ByteArray} {p : Nat} (h : OwnB z base v l) (hk : z.heap[g]? = some (.stringIter st p)) (q : Nat) : OwnB (z.iterAt g st q) base v l :=
 h.kept (⟨rfl, rfl, rfl, by rw [Lib.iterAt_size]; exact Nat.le_refl _, fun i _ hi => Lib.iterAt_other z g i st q (fun e => hi (by rw [e]))⟩ : z.grownBy (z.iterAt g st q) (some g)) (Or.inr fun e => by
  obtain ⟨cs2, t2, e1⟩ := Lib.ownsRow_kind h g e;rw [hk] at e1
  injection e1 with e1; cases e1)
theorem rdrIter {z : World} {B g k : Nat} {s : C.St} {st : ByteArray} (h : RdrAt z B g s) (hne : k ≠ g) (hB : B ≤ k) (q : Nat) : RdrAt (z.iterAt k st q) B g s :=
 h.other (⟨rfl, rfl, rfl, by rw [Lib.iterAt_size]; exact Nat.le_refl _, fun i _ hi => Lib.iterAt_other z k i st q (fun e => hi (by rw [e]))⟩ : z.grownBy (z.iterAt k st q) (some k)) hne hB
theorem tabIter {z : World} {B k : Nat} {st : ByteArray} (h : TabsAt B z) (hB : B ≤ k) (q : Nat) : TabsAt B (z.iterAt k st q) :=
 h.grown (⟨rfl, rfl, rfl, by rw [Lib.iterAt_size]; exact Nat.le_refl _, fun i _ hi => Lib.iterAt_other z k i st q (fun e => hi (by rw [e]))⟩ : z.grownBy (z.iterAt k st q) (some k)) hB
end
section
open Go.RowKit T
theorem rtsame_any (s q : Int) (rs : List Rd1) (ws : List Wr1) (A1 : Option Addr) (c1 : Nat) (A2 : Option Addr) (c2 : Nat) (s' q' : Int) (rs' : List Rd1) (ws' : List Wr1) (A1' : Option Addr) (c1' : Nat) (A2' : Option Addr) (c2' : Nat) (w : World) (B : Nat) (hB : B ≤ w.heap.size)
 (ok : TxOk w B rs ws A1 c1 A2 c2) (ok' : TxOk w B rs' ws' A1' c1' A2' c2') :
 Calls Tryz.prog 80 #[.agg #[.int .i64 s, .int .i64 q, .slice A1 rs.length c1, .slice A2 ws.length c2], .agg #[.int .i64 s', .int .i64 q', .slice A1' rs'.length c1', .slice A2' ws'.length c2']] w fun e w' =>
  e = .returned (.bool (decide (s = s' ∧ q = q' ∧ rs = rs' ∧ ws = ws'))) ∧ Below w.heap.size w w' := by
 obtain ⟨p, hp⟩ : ∃ p : Bool, p = decide (s = s' ∧ q = q' ∧ rs = rs' ∧ ws = ws') := ⟨_, rfl⟩;have HP := Lib.hid hp;rw [← hp];clear hp;obtain ⟨w0, hw0⟩ : ∃ w0, w0 = (w.alloc (.cells #[.int .i64 s, .int .i64 q, .slice A1 rs.length c1, .slice A2 ws.length c2] 30)).alloc (.cells #[.int .i64 s', .int .i64 q', .slice A1' rs'.length c1', .slice A2' ws'.length c2'] 30) := ⟨_, rfl⟩;(have g0 : Below w.heap.size w w0 := by rw [hw0]; exact ((Below.refl _ _).alloc (Nat.le_refl _) _).alloc (by simp) _)
 obtain ⟨a0, a1, a2, a3, b0, b1, b2, b3⟩ : w0.cell? ⟨w.heap.size, 0, none⟩ = some (.int .i64 s) ∧ w0.cell? ⟨w.heap.size, 1, none⟩ = some (.int .i64 q) ∧ w0.cell? ⟨w.heap.size, 2, none⟩ = some (.slice A1 rs.length c1) ∧ w0.cell? ⟨w.heap.size, 3, none⟩ = some (.slice A2 ws.length c2) ∧ w0.cell? ⟨w.heap.size + 1, 0, none⟩ = some (.int .i64 s') ∧ w0.cell? ⟨w.heap.size + 1, 1, none⟩ = some (.int .i64 q') ∧ w0.cell? ⟨w.heap.size + 1, 2, none⟩ = some (.slice A1' rs'.length c1') ∧ w0.cell? ⟨w.heap.size + 1, 3, none⟩ = some (.slice A2' ws'.length c2') := by
  rw [hw0]; exact ⟨cellA _ (by simp), cellA _ (by simp), cellA _ (by simp), cellA _ (by simp), by simp, by simp, by simp, by simp⟩
 have ok := ok.below g0 hB;have ok' := ok'.below g0 hB;obtain ⟨hr, hw, rc, wc, rm, wm, _, _⟩ := ok;obtain ⟨hr', hw', rc', wc', rm', wm', _, _⟩ := ok';unfold maxLen at rm wm rm' wm';obtain ⟨n1, hn1⟩ : ∃ n, n = rs.length := ⟨_, rfl⟩;obtain ⟨n1', hn1'⟩ : ∃ n, n = rs'.length := ⟨_, rfl⟩;obtain ⟨n2, hn2⟩ : ∃ n, n = ws.length := ⟨_, rfl⟩;obtain ⟨n2', hn2'⟩ : ∃ n, n = ws'.length := ⟨_, rfl⟩;have HN1 := Lib.hid hn1;have HN1' := Lib.hid hn1';have HN2 := Lib.hid hn2;have HN2' := Lib.hid hn2';rw [← hn1] at hw0 a2 rc ⊢;rw [← hn1'] at hw0 b2 rc' ⊢;rw [← hn2] at hw0 a3 wc ⊢;rw [← hn2'] at hw0 b3 wc' ⊢;clear hn1 hn1' hn2 hn2';(have HF1 : Hid (decide (s = s' ∧ q = q') = false → false = p) := by show _ → _; intro h; rw [HP.out, decide_eq_false]; exact fun e => of_decide_eq_false h ⟨e.1, e.2.1⟩);(have HF2 : Hid (¬ rs = rs' → false = p) := by show _ → _; intro h; rw [HP.out, decide_eq_false]; exact fun e => h e.2.2.1);(have HF3 : Hid (¬ ws = ws' → false = p) := by show _ → _; intro h; rw [HP.out, decide_eq_false]; exact fun e => h e.2.2.2);(have HF4 : Hid (decide (s = s' ∧ q = q') = true → rs = rs' → ws = ws' → true = p) := by show _ → _; intro h h2 h3; rw [HP.out, decide_eq_true]; exact ⟨(of_decide_eq_true h).1, (of_decide_eq_true h).2, h2, h3⟩);clear HP
 go_enter Tryz.func80, Tryz.ntmps80
 go_upto_region 1 with fail
 rw [← hw0];clear hw0;have hI := fun z => run_neId s q s' q' z
 cases hd : decide (s = s' ∧ q = q') with
 | false =>
   rw [hd] at hI HF1;simp only [Bool.not_false] at hI;have HR := Lib.hid (HF1.out rfl);clear hd HF1 HF2 HF3 HF4 hr hr' hw hw'
   go_wp2_with fail
   go_ret
   exact ⟨ret_bool HR.out, g0⟩
 | true =>
   rw [hd] at hI HF4;simp only [Bool.not_true] at hI;have HF5 := Lib.hid (HF4.out rfl);clear hd HF1 HF4
   by_cases l1 : n1 = n1'
   ·by_cases l2 : n2 = n2'
    ·subst l1;subst l2
     go_upto_region 4 with fail
     clear a0 a1 b0 b1 hI
     go_loopw [5] (fun i wr => ∃ k : Nat, k ≤ n1 ∧ i = .int .i64 (k : Int) ∧ Hid (∀ j, ∀ hj : j < rs.length, j < k → rs[j] = rs'[j]?.getD ([], 0)) ∧ ∃ q, wr = w0.drewN q) (fun i _ => n1 - (intOf i).toNat)
     case atStart => exact ⟨0, Nat.zero_le _, rfl, fun j _ hj => absurd hj (Nat.not_lt_zero _), 0, rfl⟩
     case round =>
      obtain ⟨k, hk, rfl, HG, q, rfl⟩ := hrel
      by_cases hlt : k < n1
      ·(have hkx : k < rs.length := by rw [← HN1.out]; exact hlt);(have hky : k < rs'.length := by rw [← HN1'.out]; exact hlt);obtain ⟨b, off, rfl, hb, x0, x1⟩ := hr.rd k hkx;obtain ⟨b', off', rfl, hb', y0, y1⟩ := hr'.rd k hky
       have HE : Hid ((⟨rs[k].1.toArray⟩ : ByteArray).toList = (⟨rs'[k].1.toArray⟩ : ByteArray).toList ∧ rs[k].2 = rs'[k].2 ↔ rs[k] = rs'[k]) := by
        show _ ↔ _;rw [Lib.toList_data, Lib.toList_data];exact ⟨fun h => Prod.ext h.1 h.2, fun h => by rw [h]; exact ⟨rfl, rfl⟩⟩
       have hne := fun z => run_neRd ⟨rs[k].1.toArray⟩ rs[k].2 ⟨rs'[k].1.toArray⟩ rs'[k].2 z
       cases hd : decide ((⟨rs[k].1.toArray⟩ : ByteArray).toList = (⟨rs'[k].1.toArray⟩ : ByteArray).toList ∧ rs[k].2 = rs'[k].2) with
       | false =>
         rw [hd] at hne
         have HR : Hid (false = p) := by
          show _ = _;exact HF2.out fun e => of_decide_eq_false hd (HE.out.2 (by subst e; rfl))
         clear HE HG hd;generalize (⟨rs[k].1.toArray⟩ : ByteArray) = xa at x0 hne;generalize rs[k].2 = xb at x1 hne;generalize (⟨rs'[k].1.toArray⟩ : ByteArray) = ya at y0 hne;generalize rs'[k].2 = yb at y1 hne;simp only [Bool.not_false] at hne
         go_wp2_with fail
         go_quiet (fail)
         go_wp2_with fail
         go_ret
         exact ⟨ret_bool HR.out, belowDrewN (belowDrewN g0 _) _⟩
       | true =>
         rw [hd] at hne
         have HG' : Hid (∀ j, ∀ hj : j < rs.length, j < k + 1 → rs[j] = rs'[j]?.getD ([], 0)) := fun j hj hjk => by
          by_cases e : j = k
          ·subst e;rw [List.getElem?_eq_getElem hky];exact HE.out.1 (of_decide_eq_true hd)
          ·exact HG.out j hj (by omega)
         clear HE HG hd;generalize (⟨rs[k].1.toArray⟩ : ByteArray) = xa at x0 hne;generalize rs[k].2 = xb at x1 hne;generalize (⟨rs'[k].1.toArray⟩ : ByteArray) = ya at y0 hne;generalize rs'[k].2 = yb at y1 hne;simp only [Bool.not_true] at hne
         go_wp2_with fail
         go_quiet (fail)
         go_wp2_with fail
         go_roundw
         case rel => exact ⟨k + 1, by omega, by go_num, HG', _, rfl⟩
         case measure => first | (simp [intOf]; done) | (simp [intOf]; omega)
      ·obtain rfl : k = n1 := by omega
       have HE1 : Hid (rs = rs') := eq_true (by rw [← HN1.out, ← HN1'.out]) fun j hj => by
        have := HG.out j hj (by rw [HN1.out]; exact hj);rw [List.getElem?_eq_getElem (by rw [← HN1'.out, HN1.out]; exact hj)] at this;exact this
       clear HG
       go_upto_region 9 with fail
       go_loopw [6] (fun i wr => ∃ k : Nat, k ≤ n2 ∧ i = .int .i64 (k : Int) ∧ Hid (∀ j, ∀ hj : j < ws.length, j < k → ws[j] = ws'[j]?.getD ([], 0, 0, [])) ∧ ∃ q, wr = w0.drewN q) (fun i _ => n2 - (intOf i).toNat)
       case atStart => exact ⟨0, Nat.zero_le _, rfl, fun j _ hj => absurd hj (Nat.not_lt_zero _), _, rfl⟩
       case round =>
        obtain ⟨k, hk, rfl, HG, q, rfl⟩ := hrel
        by_cases hlt : k < n2
        ·(have hkx : k < ws.length := by rw [← HN2.out]; exact hlt);(have hky : k < ws'.length := by rw [← HN2'.out]; exact hlt);obtain ⟨b, off, rfl, hb, x0, x1, x2, x3⟩ := hw.wr k hkx;obtain ⟨b', off', rfl, hb', y0, y1, y2, y3⟩ := hw'.wr k hky
         have HE : Hid ((⟨ws[k].1.toArray⟩ : ByteArray).toList = (⟨ws'[k].1.toArray⟩ : ByteArray).toList ∧ ws[k].2.1 = ws'[k].2.1 ∧ ws[k].2.2.1 = ws'[k].2.2.1 ∧ (⟨ws[k].2.2.2.toArray⟩ : ByteArray).toList = (⟨ws'[k].2.2.2.toArray⟩ : ByteArray).toList ↔ ws[k] = ws'[k]) := by
          show _ ↔ _;rw [Lib.toList_data, Lib.toList_data, Lib.toList_data, Lib.toList_data];exact ⟨fun h => Prod.ext h.1 (Prod.ext h.2.1 (Prod.ext h.2.2.1 h.2.2.2)), fun h => by rw [h]; exact ⟨rfl, rfl, rfl, rfl⟩⟩
         have hne := fun z => run_neWr ⟨ws[k].1.toArray⟩ ws[k].2.1 ws[k].2.2.1 ⟨ws[k].2.2.2.toArray⟩ ⟨ws'[k].1.toArray⟩ ws'[k].2.1 ws'[k].2.2.1 ⟨ws'[k].2.2.2.toArray⟩ z
         cases hd : decide ((⟨ws[k].1.toArray⟩ : ByteArray).toList = (⟨ws'[k].1.toArray⟩ : ByteArray).toList ∧ ws[k].2.1 = ws'[k].2.1 ∧ ws[k].2.2.1 = ws'[k].2.2.1 ∧ (⟨ws[k].2.2.2.toArray⟩ : ByteArray).toList = (⟨ws'[k].2.2.2.toArray⟩ : ByteArray).toList) with
         | false =>
           rw [hd] at hne
           have HR : Hid (false = p) := by
            show _ = _;exact HF3.out fun e => of_decide_eq_false hd (HE.out.2 (by subst e; rfl))
           clear HE HG hd;generalize (⟨ws[k].1.toArray⟩ : ByteArray) = xa at x0 hne;generalize (⟨ws[k].2.2.2.toArray⟩ : ByteArray) = xd at x3 hne;generalize ws[k].2.2.1 = xc at x2 hne;generalize ws[k].2.1 = xb at x1 hne;generalize (⟨ws'[k].1.toArray⟩ : ByteArray) = ya at y0 hne;generalize (⟨ws'[k].2.2.2.toArray⟩ : ByteArray) = yd at y3 hne;generalize ws'[k].2.2.1 = yc at y2 hne;generalize ws'[k].2.1 = yb at y1 hne;simp only [Bool.not_false] at hne
           go_wp2_with fail
           go_quiet (fail)
           go_wp2_with fail
           go_ret
           exact ⟨ret_bool HR.out, belowDrewN (belowDrewN g0 _) _⟩
         | true =>
           rw [hd] at hne
           have HG' : Hid (∀ j, ∀ hj : j < ws.length, j < k + 1 → ws[j] = ws'[j]?.getD ([], 0, 0, [])) := fun j hj hjk => by
            by_cases e : j = k
            ·subst e;rw [List.getElem?_eq_getElem hky];exact HE.out.1 (of_decide_eq_true hd)
            ·exact HG.out j hj (by omega)
           clear HE HG hd;generalize (⟨ws[k].1.toArray⟩ : ByteArray) = xa at x0 hne;generalize (⟨ws[k].2.2.2.toArray⟩ : ByteArray) = xd at x3 hne;generalize ws[k].2.2.1 = xc at x2 hne;generalize ws[k].2.1 = xb at x1 hne;generalize (⟨ws'[k].1.toArray⟩ : ByteArray) = ya at y0 hne;generalize (⟨ws'[k].2.2.2.toArray⟩ : ByteArray) = yd at y3 hne;generalize ws'[k].2.2.1 = yc at y2 hne;generalize ws'[k].2.1 = yb at y1 hne;simp only [Bool.not_true] at hne
           go_wp2_with fail
           go_quiet (fail)
           go_wp2_with fail
           go_roundw
           case rel => exact ⟨k + 1, by omega, by go_num, HG', _, rfl⟩
           case measure => first | (simp [intOf]; done) | (simp [intOf]; omega)
        ·obtain rfl : k = n2 := by omega
         have HE2 : Hid (ws = ws') := eq_true (by rw [← HN2.out, ← HN2'.out]) fun j hj => by
          have := HG.out j hj (by rw [HN2.out]; exact hj);rw [List.getElem?_eq_getElem (by rw [← HN2'.out, HN2.out]; exact hj)] at this;exact this
         have HR := Lib.hid (HF5.out HE1.out HE2.out);clear HG
         go_wp2_with fail
         go_ret
         exact ⟨ret_bool HR.out, belowDrewN g0 _⟩
    ·have HR := Lib.hid (HF3.out fun e => l2 (by rw [HN2.out, HN2'.out, e]));(have d1 : (!((n1 : Int) == (n1' : Int))) = false := by simp [l1]);(have d2 : (!((n2 : Int) == (n2' : Int))) = true := by simp; omega);subst l1;clear HF2 HF3 HF5 hr hr' hw hw'
     go_wp2_with fail
     go_ret
     exact ⟨ret_bool HR.out, g0⟩
   ·have HR := Lib.hid (HF2.out fun e => l1 (by rw [HN1.out, HN1'.out, e]));(have d1 : (!((n1 : Int) == (n1' : Int))) = true := by simp; omega);clear HF2 HF3 HF5 hr hr' hw hw'
    go_wp2_with fail
    go_ret
    exact ⟨ret_bool HR.out, g0⟩
theorem rcsame_any (k s q : Int) (rs : List Rd1) (ws : List Wr1) (A1 : Option Addr) (c1 : Nat) (A2 : Option Addr) (c2 : Nat) (i j g : Int) (st : Nat) (y : Bool) (k' s' q' : Int) (rs' : List Rd1) (ws' : List Wr1) (A1' : Option Addr) (c1' : Nat) (A2' : Option Addr) (c2' : Nat) (i' j' g' : Int) (st' : Nat) (y' : Bool) (w : World) (B : Nat) (hB : B ≤ w.heap.size)
 (ok : TxOk w B rs ws A1 c1 A2 c2) (ok' : TxOk w B rs' ws' A1' c1' A2' c2') :
 Calls Tryz.prog 49 #[.agg #[.int .i64 k, .int .i64 s, .int .i64 q, .slice A1 rs.length c1, .slice A2 ws.length c2, .int .i64 i, .int .i64 j, .int .i64 g, .int .u64 (st : Int), .bool y], .agg #[.int .i64 k', .int .i64 s', .int .i64 q', .slice A1' rs'.length c1', .slice A2' ws'.length c2', .int .i64 i', .int .i64 j', .int .i64 g', .int .u64 (st' : Int), .bool y']] w fun e w' =>
  e = .returned (.bool (decide (k = k' ∧ (i = i' ∧ j = j') ∧ g = g' ∧ st = st' ∧ y = y' ∧ s = s' ∧ q = q' ∧ rs = rs' ∧ ws = ws'))) ∧ Below w.heap.size w w' := by
 obtain ⟨p, hp⟩ : ∃ p : Bool, p = decide (k = k' ∧ (i = i' ∧ j = j') ∧ g = g' ∧ st = st' ∧ y = y' ∧ s = s' ∧ q = q' ∧ rs = rs' ∧ ws = ws') := ⟨_, rfl⟩;have HP := Lib.hid hp;rw [← hp];clear hp;obtain ⟨w0, hw0⟩ : ∃ w0, w0 = (w.alloc (.cells #[.int .i64 k, .int .i64 s, .int .i64 q, .slice A1 rs.length c1, .slice A2 ws.length c2, .int .i64 i, .int .i64 j, .int .i64 g, .int .u64 (st : Int), .bool y] 45)).alloc (.cells #[.int .i64 k', .int .i64 s', .int .i64 q', .slice A1' rs'.length c1', .slice A2' ws'.length c2', .int .i64 i', .int .i64 j', .int .i64 g', .int .u64 (st' : Int), .bool y'] 45) := ⟨_, rfl⟩;(have g0 : Below w.heap.size w w0 := by rw [hw0]; exact ((Below.refl _ _).alloc (Nat.le_refl _) _).alloc (by simp) _)
 obtain ⟨a0, a1, a2, a3, a4, a5, a6, a7, a8, a9, b0, b1, b2, b3, b4, b5, b6, b7, b8, b9⟩ : w0.cell? ⟨w.heap.size, 0, none⟩ = some (.int .i64 k) ∧ w0.cell? ⟨w.heap.size, 1, none⟩ = some (.int .i64 s) ∧ w0.cell? ⟨w.heap.size, 2, none⟩ = some (.int .i64 q) ∧ w0.cell? ⟨w.heap.size, 3, none⟩ = some (.slice A1 rs.length c1) ∧ w0.cell? ⟨w.heap.size, 4, none⟩ = some (.slice A2 ws.length c2) ∧ w0.cell? ⟨w.heap.size, 5, none⟩ = some (.int .i64 i) ∧ w0.cell? ⟨w.heap.size, 6, none⟩ = some (.int .i64 j) ∧ w0.cell? ⟨w.heap.size, 7, none⟩ = some (.int .i64 g) ∧ w0.cell? ⟨w.heap.size, 8, none⟩ = some (.int .u64 (st : Int)) ∧ w0.cell? ⟨w.heap.size, 9, none⟩ = some (.bool y) ∧ w0.cell? ⟨w.heap.size + 1, 0, none⟩ = some (.int .i64 k') ∧ w0.cell? ⟨w.heap.size + 1, 1, none⟩ = some (.int .i64 s') ∧ w0.cell? ⟨w.heap.size + 1, 2, none⟩ = some (.int .i64 q') ∧ w0.cell? ⟨w.heap.size + 1, 3, none⟩ = some (.slice A1' rs'.length c1') ∧ w0.cell? ⟨w.heap.size + 1, 4, none⟩ = some (.slice A2' ws'.length c2') ∧ w0.cell? ⟨w.heap.size + 1, 5, none⟩ = some (.int .i64 i') ∧ w0.cell? ⟨w.heap.size + 1, 6, none⟩ = some (.int .i64 j') ∧ w0.cell? ⟨w.heap.size + 1, 7, none⟩ = some (.int .i64 g') ∧ w0.cell? ⟨w.heap.size + 1, 8, none⟩ = some (.int .u64 (st' : Int)) ∧ w0.cell? ⟨w.heap.size + 1, 9, none⟩ = some (.bool y') := by
  rw [hw0]; exact ⟨cellA _ (by simp), cellA _ (by simp), cellA _ (by simp), cellA _ (by simp), cellA _ (by simp), cellA _ (by simp), cellA _ (by simp), cellA _ (by simp), cellA _ (by simp), cellA _ (by simp), by simp, by simp, by simp, by simp, by simp, by simp, by simp, by simp, by simp, by simp⟩
 have gB := g0.size;have H1 := Lib.hid (rtsame_any s q rs ws A1 c1 A2 c2 s' q' rs' ws' A1' c1' A2' c2' w0 B (by omega) (ok.below g0 hB) (ok'.below g0 hB));clear ok ok';generalize rs.length = n1 at *;generalize rs'.length = n1' at *;generalize ws.length = n2 at *;generalize ws'.length = n2' at *
 go_enter Tryz.func49, Tryz.ntmps49
 go_upto_region 1 with fail
 rw [← hw0];clear hw0;have hI := fun z => run_eqId i j i' j' z;(have HR1 : Hid (¬ k = k' → false = p) := by show _ → _; intro h; rw [HP.out, decide_eq_false]; exact fun e => h e.1);(have HR2 : Hid (decide (i = i' ∧ j = j') = false → false = p) := by show _ → _; intro h; rw [HP.out, decide_eq_false]; exact fun e => of_decide_eq_false h e.2.1);(have HR3 : Hid (¬ g = g' → false = p) := by show _ → _; intro h; rw [HP.out, decide_eq_false]; exact fun e => h e.2.2.1);(have HR4 : Hid (¬ st = st' → false = p) := by show _ → _; intro h; rw [HP.out, decide_eq_false]; exact fun e => h e.2.2.2.1);(have HR5 : Hid (¬ y = y' → false = p) := by show _ → _; intro h; rw [HP.out, decide_eq_false]; exact fun e => h e.2.2.2.2.1)
 have HR6 : Hid (k = k' → decide (i = i' ∧ j = j') = true → g = g' → st = st' → y = y' → decide (s = s' ∧ q = q' ∧ rs = rs' ∧ ws = ws') = p) := by
  show _ → _;intro h1 h2 h3 h4 h5;rw [HP.out];have := of_decide_eq_true h2;simp [h1, this.1, this.2, h3, h4, h5]
 clear HP
 by_cases hk : k = k'
 ·have dk : (k == k') = true := by simp [hk]
  cases hd : decide (i = i' ∧ j = j') with
  | false =>
    rw [hd] at hI HR2;have HR := Lib.hid (HR2.out rfl);clear hd hk HR1 HR2 HR3 HR4 HR5 HR6
    go_wp2_with fail
    go_ret
    exact ⟨ret_bool HR.out, g0⟩
  | true =>
    rw [hd] at hI HR6
    by_cases hg : g = g'
    ·have dg : (g == g') = true := by simp [hg]
     by_cases hst : st = st'
     ·have dst : ((st : Int) == (st' : Int)) = true := by simp [hst]
      by_cases hy : y = y'
      ·(have dy : (y == y') = true := by simp [hy]);have HR := Lib.hid (HR6.out hk rfl hg hst hy);clear hd hk hg hst hy HR1 HR2 HR3 HR4 HR5 HR6
       go_wp2_with fail
       refine H1.out.mono ?_;rintro e w1 ⟨rfl, b1⟩;clear H1;generalize decide (s = s' ∧ q = q' ∧ rs = rs' ∧ ws = ws') = r at *
       go_wp2_with fail
       go_ret
       exact ⟨ret_bool (by rw [← HR.out]), g0.trans (b1.mono gB)⟩
      ·(have dy : (y == y') = false := by simp [hy]);have HR := Lib.hid (HR5.out hy);clear hd hk hg hst hy HR1 HR2 HR3 HR4 HR5 HR6
       go_wp2_with fail
       go_ret
       exact ⟨ret_bool HR.out, g0⟩
     ·(have dst : ((st : Int) == (st' : Int)) = false := by simp; omega);have HR := Lib.hid (HR4.out hst);clear hd hk hg hst HR1 HR2 HR3 HR4 HR5 HR6
      go_wp2_with fail
      go_ret
      exact ⟨ret_bool HR.out, g0⟩
    ·(have dg : (g == g') = false := by simp [hg]);have HR := Lib.hid (HR3.out hg);clear hd hk hg HR1 HR2 HR3 HR4 HR5 HR6
     go_wp2_with fail
     go_ret
     exact ⟨ret_bool HR.out, g0⟩
 ·(have dk : (k == k') = false := by simp [hk]);have HR := Lib.hid (HR1.out hk);clear hk HR1 HR2 HR3 HR4 HR5 HR6
  go_wp2_with fail
  go_ret
  exact ⟨ret_bool HR.out, g0⟩
end
end Go.Proofs.YthclniimhpmeoaaGreatDoor
