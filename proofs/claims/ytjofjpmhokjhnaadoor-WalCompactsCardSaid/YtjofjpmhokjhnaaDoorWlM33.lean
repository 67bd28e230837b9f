/- What bytes are read as a message: plain; what stays of it while the reader goes on. No condition. -/
import Derived.Test.YtjofjpmhokjhnaaDoorWlM21
import Derived.Test.YtjofjpmhokjhnaaDoorWlM25
import Derived.Test.YtjofjpmhokjhnaaDoorWlM6
import Derived.Test.YtjofjpmhokjhnaaDoorWlM32
namespace Go.Proofs.YtjofjpmhokjhnaaDoor
set_option maxRecDepth 20000
open Go.RowKit
set_option linter.unusedSimpArgs false
set_option linter.unusedVariables false
set_option maxHeartbeats 1600000 in
theorem samed_any (A B : Option Addr) (c d : Nat) (l m : List UInt8) (w : World) (b1 b2 : Nat) (hl : l.length ≤ 1099511627776) (hm : m.length ≤ 1099511627776) (hA : Rd w b1 A (bc l)) (hB : Rd w b2 B (bc m)) (hc : l.length ≤ c) (hd : m.length ≤ d) :
    Calls Tryd.prog 22 #[.slice A l.length c, .slice B m.length d] w fun e w' => e = .returned (.bool (decide (l = m))) ∧ Below w.heap.size w w' := by
  obtain ⟨p, hp⟩ : ∃ p : Bool, p = decide (l = m) := ⟨_, rfl⟩
  have HP : Hid (decide (l = m) = p) := hp.symm
  rw [← hp]
  clear hp
  by_cases hlen : l.length = m.length
  · obtain ⟨n, hn⟩ : ∃ n, n = l.length := ⟨_, rfl⟩
    have HN := Lib.hid hn
    have HM : Hid (n = m.length) := by show _ = _; omega
    rw [← hlen, ← hn]
    rw [← hn] at hl hc
    rw [← HM.out] at hd hm
    clear hn hlen
    go_enter Tryd.func22, Tryd.ntmps22
    go_wp2_with fail
    go_loopw [5] (fun i wr => ∃ k q : Nat, k ≤ n ∧ i = .int .i64 k ∧ wr = w.drewN q ∧ Hid (l.take k = m.take k)) (fun i _ => n - (intOf i).toNat)
    case atStart => exact ⟨0, 0, Nat.zero_le _, rfl, rfl, rfl⟩
    case round =>
      obtain ⟨k, q, hk, rfl, rfl, HT⟩ := hrel
      by_cases hlt : k < n
      · have hkl : k < l.length := by rw [← HN.out]; exact hlt
        have hkm : k < m.length := by rw [← HM.out]; exact hlt
        obtain ⟨ab, ao, rfl, _, hca⟩ := hA.at_ (show k < (bc l).length by rw [bc_len]; exact hkl)
        obtain ⟨bb, bo, rfl, _, hcb⟩ := hB.at_ (show k < (bc m).length by rw [bc_len]; exact hkm)
        rw [bc_get] at hca hcb
        have HL : Hid (l.take (k + 1) = l.take k ++ [l[k]'hkl]) := List.take_succ_eq_append_getElem hkl
        have HR : Hid (m.take (k + 1) = m.take k ++ [m[k]'hkm]) := List.take_succ_eq_append_getElem hkm
        generalize l[k] = x at hca HL
        generalize m[k] = y at hcb HR
        have hb0 : (0 : Int) ≤ (k : Int) := by omega
        have hb1 : (k : Int) < (n : Int) := by omega
        by_cases hxy : x = y
        · subst hxy
          have HT2 : Hid (l.take (k + 1) = m.take (k + 1)) := by show _ = _; rw [HL.out, HR.out, HT.out]
          clear HL HR hkl hkm
          generalize (x.toNat : Int) = xi at hca hcb
          go_wp2_with fail
          go_quiet (fail)
          go_wp2_with fail
          go_roundw
          case rel => exact ⟨k + 1, _, by omega, by go_num, rfl, HT2⟩
          case measure => simp [intOf]; omega
        · have HF : Hid (false = p) := by
            show _ = _
            rw [← HP.out]
            refine (decide_eq_false fun e => hxy ?_).symm
            have h1 := HL.out
            rw [e, HR.out, ← HT.out] at h1
            have h2 := List.append_cancel_left h1
            injection h2 with h2
            exact h2.symm
          have hne : ((x.toNat : Int) == (y.toNat : Int)) = false := by
            rw [beq_eq_false_iff_ne]
            intro h
            exact hxy (UInt8.toNat_inj.1 (by omega))
          clear HL HR hkl hkm hxy
          generalize (x.toNat : Int) = xi at hca hne
          generalize (y.toNat : Int) = yi at hcb hne
          go_wp2_with fail
          go_quiet (fail)
          go_wp2_with fail
          go_ret
          exact ⟨ret_bool HF.out, belowDrewN (belowDrewN (Below.refl _ _) _) _⟩
      · have HF : Hid (true = p) := by
          show _ = _
          rw [← HP.out]
          have e : k = n := by omega
          have h1 := HT.out
          rw [e, List.take_of_length_le (by rw [← HN.out]; exact Nat.le_refl _), List.take_of_length_le (by rw [← HM.out]; exact Nat.le_refl _)] at h1
          exact (decide_eq_true h1).symm
        go_wp2_with fail
        go_ret
        exact ⟨ret_bool HF.out, belowDrewN (Below.refl _ _) _⟩
  · have HF : Hid (false = p) := by
      show _ = _
      rw [← HP.out]
      exact (decide_eq_false fun e => hlen (by rw [e])).symm
    have hne : ((l.length : Int) == (m.length : Int)) = false := by rw [beq_eq_false_iff_ne]; omega
    clear hlen
    generalize l.length = n1 at *
    generalize m.length = n2 at *
    go_enter Tryd.func22, Tryd.ntmps22
    go_wp2_with fail
    go_ret
    exact ⟨ret_bool HF.out, Below.refl _ _⟩
end Go.Proofs.YtjofjpmhokjhnaaDoor

namespace Go.Proofs.YtjofjpmhokjhnaaDoor
set_option maxRecDepth 20001
open Go.RowKit T
set_option linter.unusedSimpArgs false
set_option linter.unusedVariables false
namespace T
/-- bytes behind a length -/
def dtake (s : C.St) : List UInt8 × C.St := ((C.take 4 s).2.1.take (min (C.take 4 s).1 (C.left (C.take 4 s).2)), ((C.take 4 s).2.1.drop (min (C.take 4 s).1 (C.left (C.take 4 s).2)), (C.take 4 s).2.2))
/-- one field is read -/
def mtk (p : Ms × C.St) (c : Nat) : Ms × C.St :=
  if c = 66 then ({ p.1 with br := (B.take p.2).1.1, bn := ((B.take p.2).1.2 : Int) }, (B.take p.2).2)
  else if c = 83 then ({ p.1 with sl := ((C.take 4 p.2).1 : Int) }, (C.take 4 p.2).2)
  else if c = 72 then
    (if (C.take 1 p.2).1 = 1 then ({ p.1 with ha := true, vr := (B.take (C.take 1 p.2).2).1.1, vn := ((B.take (C.take 1 p.2).2).1.2 : Int), c := (ctake (B.take (C.take 1 p.2).2).2).1 }, (ctake (B.take (C.take 1 p.2).2).2).2)
     else ({ p.1 with ha := false }, (C.take 1 p.2).2))
  else if c = 67 then ({ p.1 with c := (ctake p.2).1 }, (ctake p.2).2)
  else if c = 84 then ({ p.1 with t := { p.1.t with s := ((ttake p.2).1.1.1 : Int), q := ((ttake p.2).1.1.2 : Int), rs := (ttake p.2).1.2.1, ws := (ttake p.2).1.2.2 } }, (ttake p.2).2)
  else if c = 73 then ({ p.1 with ii := ((idtake p.2).1.1 : Int), ij := ((idtake p.2).1.2 : Int) }, (idtake p.2).2)
  else if c = 71 then ({ p.1 with g := ((C.take 1 p.2).1 : Int) }, (C.take 1 p.2).2)
  else if c = 80 then ({ p.1 with st := (C.take 8 p.2).1 }, (C.take 8 p.2).2)
  else if c = 89 then ({ p.1 with ye := decide ((C.take 1 p.2).1 = 1) }, (C.take 1 p.2).2)
  else if c = 78 then ({ p.1 with nu := ((C.take 4 p.2).1 : Int) }, (C.take 4 p.2).2)
  else if c = 75 then ({ p.1 with ky := ⟨(C.text 12 p.2).1.toArray⟩ }, (C.text 12 p.2).2)
  else if c = 86 then ({ p.1 with ve := (C.take 8 p.2).1 }, (C.take 8 p.2).2)
  else if c = 88 then ({ p.1 with vk := ((V.take p.2).1.1 : Int), vb := (V.take p.2).1.2.1, vt := ⟨(V.take p.2).1.2.2.toArray⟩ }, (V.take p.2).2)
  else if c = 69 then ({ p.1 with er := ((C.take 1 p.2).1 : Int) }, (C.take 1 p.2).2)
  else if c = 68 then ({ p.1 with dt := p.1.dt ++ (dtake p.2).1 }, (dtake p.2).2)
  else p
/-- the kind that is read first -/
def rk (b : List UInt8) : Int := ((C.take 1 (b, false)).1 : Int)
/-- what is read in the first k fields -/
def rd (b : List UInt8) (k : Nat) : Ms × C.St := ((fieldsOf (rk b)).take k).foldl (fun p c => mtk p c.toNat) (Ms.zero (rk b), (C.take 1 (b, false)).2)
/-- two that differ in where they lie alone -/
structure Like (a b : Ms) : Prop where
  kd : a.kd = b.kd
  br : a.br = b.br
  bn : a.bn = b.bn
  sl : a.sl = b.sl
  ha : a.ha = b.ha
  vr : a.vr = b.vr
  vn : a.vn = b.vn
  c : SameC a.c b.c = true
  ts : a.t.s = b.t.s
  tq : a.t.q = b.t.q
  tr : a.t.rs = b.t.rs
  tw : a.t.ws = b.t.ws
  ii : a.ii = b.ii
  ij : a.ij = b.ij
  g : a.g = b.g
  st : a.st = b.st
  ye : a.ye = b.ye
  nu : a.nu = b.nu
  ky : a.ky = b.ky
  ve : a.ve = b.ve
  vk : a.vk = b.vk
  vb : a.vb = b.vb
  vt : a.vt = b.vt
  er : a.er = b.er
  dt : a.dt = b.dt
end T
theorem SameC_self (x : Cm) : SameC x x = true := by unfold SameC; simp
theorem T.Like.refl (a : Ms) : Like a a := ⟨rfl, rfl, rfl, rfl, rfl, rfl, rfl, SameC_self _, rfl, rfl, rfl, rfl, rfl, rfl, rfl, rfl, rfl, rfl, rfl, rfl, rfl, rfl, rfl, rfl, rfl⟩
theorem T.Like.wput {a b : Ms} (h : Like a b) (l : List UInt8) (c : Nat) : a.wput l c = b.wput l c := by
  unfold T.Ms.wput
  rw [h.br, h.bn, h.sl, h.ha, h.vr, h.vn, SameC.put h.c, SameC.put h.c, h.ts, h.tq, h.tr, h.tw, h.ii, h.ij, h.g, h.st, h.ye, h.nu, h.ky, h.ve, h.vk, h.vb, h.vt, h.er, h.dt]
theorem T.Like.wr {a b : Ms} (h : Like a b) : a.wr = b.wr := by
  unfold T.Ms.wr
  rw [h.kd, show (fun (l : List UInt8) (c : UInt8) => a.wput l c.toNat) = (fun l c => b.wput l c.toNat) from funext fun l => funext fun c => h.wput l _]
/-- a command and a transaction lie, whatever is done to the four blocks, and whatever is made -/
def CtK (z : World) (g a b d : Nat) (m : Ms) : Prop := ∀ z' : World, (∀ i, i < z.heap.size → i ≠ g → i ≠ a → i ≠ b → i ≠ d → z'.heap[i]? = z.heap[i]?) → CmOk z' z'.heap.size m.c ∧ TxOk z' z'.heap.size m.t.rs m.t.ws m.t.A1 m.t.c1 m.t.A2 m.t.c2
theorem CtK.zero (z : World) (g a b d : Nat) (k : Int) : CtK z g a b d (Ms.zero k) := fun _ _ => ⟨CmOk.zero, TxOk.zero⟩
theorem CtK.step {z z1 : World} {g a b d : Nat} {m : Ms} (h : CtK z g a b d m) (hs : z.heap.size ≤ z1.heap.size) (hk : ∀ i, i < z.heap.size → i ≠ g → i ≠ a → i ≠ b → i ≠ d → z1.heap[i]? = z.heap[i]?) : CtK z1 g a b d m :=
  fun z' h' => h z' fun i hi h1 h2 h3 h4 => (h' i (by omega) h1 h2 h3 h4).trans (hk i hi h1 h2 h3 h4)
theorem CtK.below {z z1 : World} {g a b d : Nat} {m : Ms} (h : CtK z g a b d m) (hb : Below z.heap.size z z1) : CtK z1 g a b d m := h.step hb.size fun i hi _ _ _ _ => hb.block i hi
theorem CtK.drew {z : World} {g a b d : Nat} {m : Ms} (h : CtK z g a b d m) : CtK z.drew g a b d m := h
theorem CtK.alloc {z : World} {g a b d : Nat} {m : Ms} (h : CtK z g a b d m) (o : Obj) : CtK (z.alloc o) g a b d m := h.below ((Below.refl _ z).alloc (Nat.le_refl _) o)
theorem CtK.rdr {z z1 : World} {g a b d : Nat} {m : Ms} (h : CtK z g a b d m) (hg : z.grownBy z1 (some g)) : CtK z1 g a b d m := h.step hg.size fun i hi hn _ _ _ => hg.block i hi (fun e => hn (by injection e))
theorem CtK.cells {z : World} {g a b d : Nat} {m : Ms} (h : CtK z g a b d m) (vs : List Value) (o : Nat) : CtK (z.setCells a o vs) g a b d m := h.step (by rw [setCells_size]; exact Nat.le_refl _) fun i _ _ ha _ _ => setCells_heap ha vs o z
theorem CtK.same {z : World} {g a b d : Nat} {m n : Ms} (h : CtK z g a b d m) (hc : n.c = m.c) (ht : n.t = m.t) : CtK z g a b d n := fun z' h' => by rw [hc, ht]; exact h z' h'
section
variable {z : World} {base e sz n k : Nat} {t : TypeId} {v : Value} {xs : List Value} {old cs : Array Value}
theorem ogKind {m : Nat × Nat} (hu : z.ownsRow base e sz v n xs) (hz : z.heap[k]? = some (.cells old t m)) (hne : t ≠ e) : v.ownBlock ≠ some k := by
  intro hb
  obtain ⟨cs2, t2, e1⟩ := Lib.ownsRow_kind hu k hb
  rw [hz] at e1
  injection e1 with e1; injection e1 with _ e3
  exact hne e3
theorem ogCellsG (k : Nat) : ∀ (vs : List Value) (i : Nat) (z : World), z.grownBy (z.setCells k i vs) (some k)
  | [], _, z => ⟨rfl, rfl, rfl, Nat.le_refl _, fun _ _ _ => rfl⟩
  | v :: r, i, z => by
    have h1 := ogCellsG k r (i + 1) (z.setCell ⟨k, i, none⟩ v)
    have hs : (z.setCell ⟨k, i, none⟩ v).heap.size = z.heap.size := by simp
    exact ⟨h1.os, h1.tape, h1.output, by have := h1.size; rw [hs] at this; exact this, fun j hj hne => (h1.block j (by rw [hs]; exact hj) hne).trans (Below.heap_setCell z ⟨k, i, none⟩ v j (fun e => hne (by rw [e])))⟩
theorem ogOwnC (p : z.ownsRow base e sz v n xs) (hne : v.ownBlock ≠ some k) (vs : List Value) (i : Nat) : (z.setCells k i vs).ownsRow base e sz v n xs := p.kept (ogCellsG k vs i z) (Or.inr hne)
theorem ogOwnR (p : z.ownsRow base e sz v n xs) (hne : v.ownBlock ≠ some k) : (z.setRow k cs).ownsRow base e sz v n xs := p.kept ⟨rfl, rfl, rfl, by rw [setRow_size]; exact Nat.le_refl _, fun i _ hi => setRow_other z k i cs (fun e => hi (by rw [e]))⟩ (Or.inr hne)
end
end Go.Proofs.YtjofjpmhokjhnaaDoor
