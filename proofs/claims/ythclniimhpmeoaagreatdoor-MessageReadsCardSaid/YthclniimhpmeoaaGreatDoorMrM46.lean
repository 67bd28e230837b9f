import Derived.Test.YthclniimhpmeoaaGreatDoorMrM45
set_option maxRecDepth 20001
set_option linter.unusedSimpArgs false
set_option linter.unusedVariables false
namespace Go.Proofs.YthclniimhpmeoaaGreatDoor
set_option maxRecDepth 20000
section
open Go.RowKit T
namespace T
def rfo (kd : Int) (s : C.St) : Ms × C.St := (fieldsOf kd).foldl (fun p c => mtkR p c.toNat) (Ms.zero kd, s)
def rst (kd : Int) (s : C.St) : Ms × C.St := k8 kd (k7 kd (k6 kd (k5 kd (k4 kd (k3 kd (k2 kd (k1 kd (rhd kd s))))))))
end T
theorem rst_2 (s : C.St) : rst 2 s = rfo 2 s := by
 show rst 2 s = mtkR (mtkR (mtkR (Ms.zero 2, s) 66) 83) 72
 by_cases h : (C.take 1 (C.take 4 (B.take s).2).2).1 = 1
 ·have e : ∀ p : Ms × C.St, (C.take 1 p.2).1 = 1 → mtkR p 72 = ({ p.1 with ha := true, vr := (B.take (C.take 1 p.2).2).1.1, vn := ((B.take (C.take 1 p.2).2).1.2 : Int), c := (rctake (B.take (C.take 1 p.2).2).2).1 }, (rctake (B.take (C.take 1 p.2).2).2).2) := fun p q => by
   show (if (C.take 1 p.2).1 = 1 then _ else _) = _;rw [if_pos q]
  rw [e _ h];have d : decide ((C.take 1 (C.take 4 (B.take s).2).2).1 = 1) = true := decide_eq_true h;show g6 2 (g5 2 (g4 ({ (Ms.zero 2) with br := (B.take s).1.1, bn := ((B.take s).1.2 : Int), sl := ((C.take 4 (B.take s).2).1 : Int), ha := decide ((C.take 1 (C.take 4 (B.take s).2).2).1 = 1) }, (C.take 1 (C.take 4 (B.take s).2).2).2))) = _;rw [d]; rfl
 ·have e : ∀ p : Ms × C.St, ¬ (C.take 1 p.2).1 = 1 → mtkR p 72 = ({ p.1 with ha := false }, (C.take 1 p.2).2) := fun p q => by
   show (if (C.take 1 p.2).1 = 1 then _ else _) = _;rw [if_neg q]
  rw [e _ h];have d : decide ((C.take 1 (C.take 4 (B.take s).2).2).1 = 1) = false := decide_eq_false h;show g6 2 (g5 2 (g4 ({ (Ms.zero 2) with br := (B.take s).1.1, bn := ((B.take s).1.2 : Int), sl := ((C.take 4 (B.take s).2).1 : Int), ha := decide ((C.take 1 (C.take 4 (B.take s).2).2).1 = 1) }, (C.take 1 (C.take 4 (B.take s).2).2).2))) = _;rw [d]; rfl
theorem rst_rfo (kd : Int) (h1 : 1 ≤ kd) (h2 : kd ≤ 15) (s : C.St) : rst kd s = rfo kd s := by
 (have : kd = 1 ∨ kd = 2 ∨ kd = 3 ∨ kd = 4 ∨ kd = 5 ∨ kd = 6 ∨ kd = 7 ∨ kd = 8 ∨ kd = 9 ∨ kd = 10 ∨ kd = 11 ∨ kd = 12 ∨ kd = 13 ∨ kd = 14 ∨ kd = 15 := by omega);rcases this with rfl | rfl | rfl | rfl | rfl | rfl | rfl | rfl | rfl | rfl | rfl | rfl | rfl | rfl | rfl
 ·rfl
 ·exact rst_2 s
 ·rfl
 ·rfl
 ·rfl
 ·rfl
 ·rfl
 ·rfl
 ·rfl
 ·rfl
 ·rfl
 ·rfl
 ·rfl
 ·rfl
 ·rfl
theorem mtkR_eq (p : Ms × C.St) (c : Nat) (hc : c ≠ 68) (h : (mtk p c).2.2 = false) : mtkR p c = mtk p c := by
 by_cases h72 : c = 72
 ·subst h72
  by_cases hh : (C.take 1 p.2).1 = 1
  ·rw [mtk_H1 p hh] at h ⊢;obtain ⟨a1, a2, a3⟩ := ctake_agree (B.take (C.take 1 p.2).2).2;have a : rctake (B.take (C.take 1 p.2).2).2 = ctake (B.take (C.take 1 p.2).2).2 := Prod.ext a1 (a3 h);show (if (C.take 1 p.2).1 = 1 then _ else _) = _;rw [if_pos hh, a]
  ·rw [mtk_H0 p hh];show (if (C.take 1 p.2).1 = 1 then _ else _) = _;rw [if_neg hh]
 by_cases h67 : c = 67
 ·subst h67;obtain ⟨a1, a2, a3⟩ := ctake_agree p.2;rw [mtk_C p] at h ⊢;have a : rctake p.2 = ctake p.2 := Prod.ext a1 (a3 h);show ({ p.1 with c := (rctake p.2).1 }, (rctake p.2).2) = _;rw [a]
 by_cases h84 : c = 84
 ·subst h84;obtain ⟨a1, a2, a3⟩ := ttake_agree p.2;rw [mtk_T p] at h ⊢;have a : rttake p.2 = ttake p.2 := Prod.ext a1 (a3 h);show ({ p.1 with t := { p.1.t with s := ((rttake p.2).1.1.1 : Int), q := ((rttake p.2).1.1.2 : Int), rs := (rttake p.2).1.2.1, ws := (rttake p.2).1.2.2 } }, (rttake p.2).2) = _;rw [a]
 unfold T.mtkR T.mtk;simp only [h72, h67, h84, hc, if_false]
theorem mtkR_back (m : Ms) (S : Sound m) (F : FitsM m) (c : UInt8) (hc : c ∈ fieldsOf m.kd) (h68 : c ≠ 68) (q : Ms) (r : List UInt8) :
 ∃ q', mtkR (q, (m.wput [] c.toNat ++ r, false)) c.toNat = (q', (r, false)) ∧ Like q' (m.put q c.toNat) := by
 obtain ⟨q', e, l⟩ := mtk_back m S F c hc q (fun h => absurd h h68) r;refine ⟨q', ?_, l⟩;rw [mtkR_eq _ c.toNat (fun h => h68 (UInt8.toNat_inj.1 h)) (by rw [e])];exact e
theorem fold_backR (m : Ms) (S : Sound m) (F : FitsM m) : ∀ (fs : List UInt8), (∀ c ∈ fs, c ∈ fieldsOf m.kd) → (68 : UInt8) ∉ fs → ∀ (q : Ms) (r : List UInt8),
 ∃ q', fs.foldl (fun p c => mtkR p c.toNat) (q, (fs.foldl (fun l c => m.wput l c.toNat) [] ++ r, false)) = (q', (r, false)) ∧ Like q' (fs.foldl (fun o l => m.put o l.toNat) q)
 | [], _, _, q, r => ⟨q, rfl, Like.refl q⟩
 | c :: fs, hm, hn, q, r => by
   obtain ⟨q1, h1, l1⟩ := mtkR_back m S F c (hm c List.mem_cons_self) (fun e => hn (by rw [← e]; exact List.mem_cons_self)) q (fs.foldl (fun l c => m.wput l c.toNat) [] ++ r);obtain ⟨q2, h2, l2⟩ := fold_backR m S F fs (fun x hx => hm x (List.mem_cons_of_mem _ hx)) (fun h => hn (List.mem_cons_of_mem _ h)) q1 r;refine ⟨q2, ?_, l2.trans (l1.fold m fs)⟩;rw [List.foldl_cons, List.foldl_cons, fold_app (fun (l : List UInt8) (c : UInt8) => m.wput l c.toNat) (fun l c => wputA m l c.toNat) fs (m.wput [] c.toNat), List.append_assoc, h1];exact h2
theorem mtkR_D (m : Ms) (S : Sound m) (q : Ms) : mtkR (q, (m.wput [] 68, false)) 68 = ({ q with dt := m.dt }, (m.dt, false)) := by
 have hdt := S.dt;have h4 : C.take 4 (C.be m.dt.length 4 ++ m.dt, false) = (m.dt.length, (m.dt, false)) := take4 _ (by omega) _;show ({ q with dt := restOf (C.take 4 (m.wput [] 68, false)).2 }, (C.take 4 (m.wput [] 68, false)).2) = _;rw [wput_D, show C.put [] m.dt.length 4 ++ m.dt = C.be m.dt.length 4 ++ m.dt from by rw [put4]; simp, h4];rfl
theorem rms_wr (m : Ms) (hf : m.formed = true) (F : FitsM m) : Like (rms m.wr) m := by
 have S := soundOf hf;obtain ⟨k1, k2⟩ := formed_kd2 m hf;have hk : T.nz m.kd = m.kd.toNat := nz_nat (by omega) (by omega)
 have e : m.wr = C.be m.kd.toNat 1 ++ (fieldsOf m.kd).foldl (fun l c => m.wput l c.toNat) [] := by
  unfold T.Ms.wr;rw [fold_app (fun (l : List UInt8) (c : UInt8) => m.wput l c.toNat) (fun l c => wputA m l c.toNat) (fieldsOf m.kd) (C.put [] (T.nz m.kd) 1), put1, hk];simp
 (have h1 : C.take 1 (m.wr, false) = (m.kd.toNat, ((fieldsOf m.kd).foldl (fun l c => m.wput l c.toNat) [], false)) := by rw [e]; exact take1 _ (by omega) _);(have hrk : rk m.wr = m.kd := by unfold rk; rw [h1]; show ((m.kd.toNat : Nat) : Int) = m.kd; omega)
 have hr : rms m.wr = (rst m.kd ((fieldsOf m.kd).foldl (fun l c => m.wput l c.toNat) [], false)).1 := by
  unfold T.rms T.rst;rw [hrk, h1]
 rw [hr, rst_rfo m.kd k1 k2];refine Like.trans ?_ (likeOf S.only);unfold T.rfo
 by_cases h15 : m.kd = 15
 ·(have hfs : fieldsOf m.kd = [83, 68] := by rw [h15]; rfl);unfold T.Ms.only;rw [hfs];obtain ⟨q1, e1, l1⟩ := mtkR_back m S F 83 (by rw [hfs]; simp) (by decide) (Ms.zero m.kd) (m.wput [] 68)
  have ew : ([83, 68] : List UInt8).foldl (fun l c => m.wput l c.toNat) [] = m.wput [] (83 : UInt8).toNat ++ m.wput [] 68 := by
   show m.wput (m.wput [] 83) 68 = _;exact wputA m _ 68
  rw [ew];show Like (mtkR (mtkR (Ms.zero m.kd, (m.wput [] (83 : UInt8).toNat ++ m.wput [] 68, false)) (83 : UInt8).toNat) 68).1 _;rw [e1, mtkR_D m S q1];exact { l1 with dt := rfl }
 ·have h68 : (68 : UInt8) ∉ fieldsOf m.kd := fun h => h15 ((fld_mem m.kd).1 68 h rfl);obtain ⟨q, hq, lq⟩ := fold_backR m S F (fieldsOf m.kd) (fun _ h => h) h68 (Ms.zero m.kd) [];rw [List.append_nil] at hq;rw [hq];exact lq
theorem rokS_wr (m : Ms) (hf : m.formed = true) (F : FitsM m) : rokS m.wr = true := by
 have h := rms_wr m hf F;unfold rokS;rw [h.formed, h.wr, hf]; simp
theorem both_readM {l : List UInt8} {n m : Ms} {w1 w2 : World} {B1 B2 : Nat} (okn : MsOk w1 B1 n) (okm : MsOk w2 B2 m) (hn : Like n (bif rok l then rdm l else Ms.zero 0)) (hm : Like m (bif rokS l then rms l else Ms.zero 0)) : rok l = rokS l ∧ Like n m := by
 have fn := fitsOf okn;have fm := fitsOf okm
 cases h : rok l with
 | true =>
   rw [h] at hn;have hn : Like n (rdm l) := hn;unfold rok at h;simp only [Bool.and_eq_true, decide_eq_true_eq] at h;(have hf : n.formed = true := by rw [hn.formed]; exact h.1);(have hw : n.wr = l := by rw [hn.wr]; exact h.2.symm);have k1 := rokS_wr n hf fn;have k2 := rms_wr n hf fn;rw [hw] at k1 k2;rw [k1] at hm ⊢;have hm : Like m (rms l) := hm;exact ⟨rfl, (hm.trans k2).symm⟩
 | false =>
   cases g : rokS l with
   | false =>
     rw [h] at hn;rw [g] at hm;have hn : Like n (Ms.zero 0) := hn;have hm : Like m (Ms.zero 0) := hm;exact ⟨rfl, hn.trans hm.symm⟩
   | true =>
     exfalso
     rw [g] at hm;have hm : Like m (rms l) := hm;unfold rokS at g;simp only [Bool.and_eq_true, decide_eq_true_eq] at g;(have hf : m.formed = true := by rw [hm.formed]; exact g.1);(have hw : m.wr = l := by rw [hm.wr]; exact g.2.symm);have k1 := rok_wr m hf fm;rw [hw, h] at k1;cases k1
end
section
open Go.RowKit T
theorem sameOf {a b : Ms} (h : Like a b) : a.same b = true := by
 unfold T.Ms.same SameT;simp only [Bool.and_eq_true, beq_iff_eq, decide_eq_true_eq];exact ⟨⟨⟨⟨⟨⟨⟨⟨⟨⟨⟨⟨⟨⟨⟨⟨h.kd, h.br, h.bn⟩, h.sl⟩, h.ha⟩, h.vr, h.vn⟩, h.ii, h.ij⟩, h.g⟩, by rw [h.st]⟩, h.ye⟩, h.nu⟩, by rw [h.ky]⟩, by rw [h.ve]⟩, h.vk, h.vb, by rw [h.vt]⟩, h.er⟩, h.c⟩, h.ts, h.tq, h.tr, h.tw⟩, h.dt⟩
theorem smallOf {a b : Ms} (h : Like a b) (s : b.small) : a.small := ⟨by rw [h.ky]; exact s.1, by rw [h.vt]; exact s.2.1, by rw [h.dt]; exact s.2.2⟩
theorem rmsame_t (a b : Ms) (w : World) (B0 : Nat) (hB : B0 ≤ w.heap.size) (oka : MsOk w B0 a) (okb : MsOk w B0 b) (sb : a.small) (h : Like b a) : Calls Tryz.prog 27 #[.agg a.cells.toArray, .agg b.cells.toArray] w fun e w' => e = .returned (.bool true) ∧ Below w.heap.size w w' := by
 have q := rmsame_any a b w B0 hB oka okb sb (smallOf h sb);rw [sameOf h.symm] at q;exact q
end
end Go.Proofs.YthclniimhpmeoaaGreatDoor
