import Derived.Test.YtimfoimcaapodaaDoorVbM19
import Derived.Great.BuildSlice
set_option maxRecDepth 20001
set_option linter.unusedSimpArgs false
set_option linter.unusedVariables false
namespace Go.Proofs.YtimfoimcaapodaaDoor
set_option maxRecDepth 20000
section
open Go.RowKit Go.ChangeShapes Go.WideShapes Go.ChangeAt
namespace T
abbrev Rd1 := List UInt8 × Nat
abbrev Wr1 := List UInt8 × Int × Nat × List UInt8
def encR (r : Rd1) : List Value := [.string ⟨r.1.toArray⟩, .int .u64 (r.2 : Int)]
def encW (x : Wr1) : List Value := [.string ⟨x.1.toArray⟩, .int .i64 x.2.1, .int .u64 (x.2.2.1 : Int), .string ⟨x.2.2.2.toArray⟩]
def okR (r : Rd1) : Prop := r.1.length ≤ 9223372036854775807 ∧ r.2 < 18446744073709551616
def okW (x : Wr1) : Prop := x.1.length ≤ 9223372036854775807 ∧ x.2.2.1 < 18446744073709551616 ∧ x.2.2.2.length ≤ 9223372036854775807
def idb (s q : Int) : Bool := decide (1 ≤ s ∧ s ≤ 8 ∧ 1 ≤ q ∧ q ≤ 1048576)
def good (l : List (List UInt8)) (i : Nat) : Bool := V.key (l[i]?.getD []) && (decide (i = 0) || Op.bytesLess (l[i-1]?.getD []) (l[i]?.getD []))
def rises (l : List (List UInt8)) : Bool := (List.range l.length).all (good l)
def wok (x : Wr1) : Bool := V.formed x.2.1 x.2.2.1 x.2.2.2
def formed (s q : Int) (rs : List Rd1) (ws : List Wr1) : Bool :=
 idb s q && decide (rs.length ≤ 6 ∧ ws.length ≤ 6 ∧ rs.length + ws.length ≠ 0) && rises (rs.map (·.1)) && rises (ws.map (·.1)) && ws.all wok
def cformed (k s q : Int) (rs : List Rd1) (ws : List Wr1) (i j g : Int) (st : Nat) (y : Bool) : Bool :=
 if k = 0 then decide (s = 0 ∧ q = 0 ∧ rs = [] ∧ ws = [] ∧ i = 0 ∧ j = 0 ∧ g = 0 ∧ st = 0 ∧ y = false)
 else if k = 1 then formed s q rs ws && decide (i = 0 ∧ j = 0 ∧ g = 0 ∧ st = 0 ∧ y = false)
 else if k = 2 then decide (s = 0 ∧ q = 0 ∧ rs = [] ∧ ws = [] ∧ y = false) && idb i j && decide (0 ≤ g ∧ g < 4 ∧ 1 ≤ st ∧ st < 9223372036854775808)
 else if k = 3 then decide (s = 0 ∧ q = 0 ∧ rs = [] ∧ ws = [] ∧ st = 0) && idb i j && decide (0 ≤ g ∧ g < 4)
 else false
end T
open T
structure TxOk (W : World) (B : Nat) (rs : List Rd1) (ws : List Wr1) (A1 : Option Addr) (c1 : Nat) (A2 : Option Addr) (c2 : Nat) : Prop where
 r : RowsAt W B A1 2 (rs.map encR)
 w : RowsAt W B A2 4 (ws.map encW)
 rc : rs.length ≤ c1
 wc : ws.length ≤ c2
 rm : c1 ≤ maxLen
 wm : c2 ≤ maxLen
 ro : ∀ x ∈ rs, okR x
 wo : ∀ x ∈ ws, okW x
section
variable {W W' : World} {B B' : Nat} {rs : List Rd1} {ws : List Wr1} {A1 A2 : Option Addr} {c1 c2 : Nat}
theorem TxOk.below (h : TxOk W B rs ws A1 c1 A2 c2) (hb : Below B' W W') (hB : B ≤ B') : TxOk W' B rs ws A1 c1 A2 c2 := { h with r := h.r.below hb hB, w := h.w.below hb hB }
theorem TxOk.more (h : TxOk W B rs ws A1 c1 A2 c2) (hB : B ≤ B') : TxOk W B' rs ws A1 c1 A2 c2 := { h with r := h.r.more hB, w := h.w.more hB }
theorem TxOk.alloc (h : TxOk W B rs ws A1 c1 A2 c2) (hB : B ≤ W.heap.size) (o : Obj) : TxOk (W.alloc o) B rs ws A1 c1 A2 c2 := { h with r := h.r.alloc hB o, w := h.w.alloc hB o }
theorem TxOk.grown {g : Nat} (h : TxOk W B rs ws A1 c1 A2 c2) (hg : W.grownBy W' (some g)) (hB : B ≤ g) (hs : B ≤ W.heap.size) : TxOk W' B rs ws A1 c1 A2 c2 := { h with r := h.r.grown hg hB hs, w := h.w.grown hg hB hs }
theorem TxOk.zero : TxOk W B [] [] none 0 none 0 := ⟨RowsAt.nil, RowsAt.nil, Nat.le_refl _, Nat.le_refl _, by simp [maxLen], by simp [maxLen], by simp, by simp⟩
end
section
variable {W : World} {cs : List Value}
instance : Inhabited Rd1 := ⟨([], 0)⟩
instance : Inhabited Wr1 := ⟨([], 0, 0, [])⟩
end
end
section
open Go.RowKit T
namespace T
structure Cm where
 k : Int
 s : Int
 q : Int
 rs : List Rd1
 ws : List Wr1
 A1 : Option Addr
 c1 : Nat
 A2 : Option Addr
 c2 : Nat
 i : Int
 j : Int
 g : Int
 st : Nat
 y : Bool
def Cm.cells (x : Cm) : List Value := [.int .i64 x.k, .int .i64 x.s, .int .i64 x.q, .slice x.A1 x.rs.length x.c1, .slice x.A2 x.ws.length x.c2, .int .i64 x.i, .int .i64 x.j, .int .i64 x.g, .int .u64 (x.st : Int), .bool x.y]
def Cm.zero : Cm := ⟨0, 0, 0, [], [], none, 0, none, 0, 0, 0, 0, 0, false⟩
end T
def CmOk (w : World) (B : Nat) (x : Cm) : Prop := TxOk w B x.rs x.ws x.A1 x.c1 x.A2 x.c2
theorem CmOk.below {w w' : World} {B B' : Nat} {x : Cm} (h : CmOk w B x) (hb : Below B' w w') (hB : B ≤ B') : CmOk w' B x := TxOk.below h hb hB
theorem CmOk.alloc {w : World} {B : Nat} {x : Cm} (h : CmOk w B x) (hB : B ≤ w.heap.size) (o : Obj) : CmOk (w.alloc o) B x := TxOk.alloc h hB o
theorem CmOk.more {w : World} {B B' : Nat} {x : Cm} (h : CmOk w B x) (hB : B ≤ B') : CmOk w B' x := TxOk.more h hB
theorem CmOk.zero {w : World} {B : Nat} : CmOk w B Cm.zero := TxOk.zero
namespace T
def Cm.formed (x : Cm) : Bool := T.cformed x.k x.s x.q x.rs x.ws x.i x.j x.g x.st x.y
end T
def SameC (x y : Cm) : Bool := decide (x.k = y.k ∧ (x.i = y.i ∧ x.j = y.j) ∧ x.g = y.g ∧ x.st = y.st ∧ x.y = y.y ∧ x.s = y.s ∧ x.q = y.q ∧ x.rs = y.rs ∧ x.ws = y.ws)
theorem SameC.refl (x : Cm) : SameC x x = true := by simp [SameC]
theorem Cm.one (x : Cm) : x.cells.toArray.all (·.oneCell') = true := by simp [Cm.cells, Value.oneCell']
end
section
open Go.RowKit T
def SlB (w : World) (B : Nat) (v : Value) (l : List UInt8) : Prop :=
 ∃ A c, v = .slice A l.length c ∧ l.length ≤ c ∧ c ≤ maxLen ∧ (A = none → l = [] ∧ c = 0) ∧ Rd w B A (bc l)
section
variable {w w' : World} {B B' : Nat} {v : Value} {l : List UInt8}
theorem SlB.keep (h : SlB w B v l) (hk : ∀ p : Addr, p.block < B → w'.cell? p = w.cell? p) : SlB w' B v l := by
 obtain ⟨A, c, h1, h2, h3, h4, h5⟩ := h;exact ⟨A, c, h1, h2, h3, h4, h5.keep hk⟩
theorem SlB.more (h : SlB w B v l) (hB : B ≤ B') : SlB w B' v l := by
 obtain ⟨A, c, h1, h2, h3, h4, h5⟩ := h;exact ⟨A, c, h1, h2, h3, h4, h5.more hB⟩
theorem SlB.belowM (h : SlB w B v l) (hb : Below B' w w') (hB : B ≤ B') : SlB w' B v l := h.keep fun _ hp => (hb.mono hB).cell hp
theorem SlB.drew (h : SlB w B v l) : SlB w.drew B v l := h.keep fun _ _ => rfl
theorem SlB.ofOwn {base n : Nat} (h : w.ownsRow base 5 1 v n (bc l)) : SlB w w.heap.size v l := by
 obtain ⟨A, c, rfl, hc, hA, hm⟩ := ownShape h;(have hn : n = l.length := by have := h.1; rw [bc_len] at this; omega);subst hn;exact ⟨A, c, rfl, hc, hm, fun h => ⟨List.eq_nil_of_length_eq_zero (hA h).1, (hA h).2⟩, Rd.ofOwn h⟩
theorem SlB.nil : SlB w B (.slice none 0 0) [] := ⟨none, 0, rfl, Nat.zero_le _, by simp [maxLen], fun _ => ⟨rfl, rfl⟩, Rd.nil⟩
end
def Fresh (B : Nat) (v : Value) : Prop := ∀ b, v.ownBlock = some b → B ≤ b
theorem Fresh.mono {B B' : Nat} {v : Value} (h : Fresh B v) (hB : B' ≤ B) : Fresh B' v := fun b hb => Nat.le_trans hB (h b hb)
def GotB (w : World) (l : List UInt8) (e : Ending) (w' : World) : Prop := ∃ v, e = .returned v ∧ SlB w' w'.heap.size v l ∧ Below w.heap.size w w' ∧ Fresh w.heap.size v
theorem GotB.of {w : World} {l : List UInt8} {e : Ending} {w' : World} (h : MadeB w l e w') : GotB w l e w' := by
 obtain ⟨v, h1, h2, h3⟩ := h;exact ⟨v, h1, SlB.ofOwn h2, h3, fun b hb => (h2.lt b hb).1⟩
section
variable {w : World} {B : Nat} {v : Value} {l : List UInt8}
end
namespace T
end T
end
section
open Go.RowKit T
theorem some_app (k : Nat) (a r : List UInt8) (h : a.length = k) : C.some_ k (a ++ r, false) = (a, (r, false)) := by
 unfold C.some_;rw [if_neg (by simp; omega)];simp [h]
theorem take_app (k : Nat) (x : Nat) (r : List UInt8) (h : k ≤ 8) : C.take (k : Int) (C.be x k ++ r, false) = (x % 256 ^ k, (r, false)) := by
 unfold C.take;rw [if_neg (by omega), Int.toNat_natCast, some_app k _ _ (C.be_len x k), C.val_be]
theorem text_app (most : Int) (s : List UInt8) (r : List UInt8) (h : s.length < 65536) (hm : (s.length : Int) ≤ most) : C.text most (C.be s.length 2 ++ s ++ r, false) = (s, (r, false)) := by
 unfold C.text;rw [List.append_assoc, show (2 : Int) = ((2 : Nat) : Int) from rfl, take_app 2 s.length (s ++ r) (by omega)];rw [show s.length % 256 ^ 2 = s.length from Nat.mod_eq_of_lt (by omega)];simp only [show decide (most < (s.length : Int)) = false from by simp; omega, Bool.or_false];exact some_app _ _ _ rfl
theorem take1 (x : Nat) (h : x < 256) (r : List UInt8) : C.take 1 (C.be x 1 ++ r, false) = (x, (r, false)) := by
 have := take_app 1 x r (by omega);rw [Nat.mod_eq_of_lt (by simpa using h)] at this;exact this
theorem take8 (x : Nat) (h : x < 18446744073709551616) (r : List UInt8) : C.take 8 (C.be x 8 ++ r, false) = (x, (r, false)) := by
 have := take_app 8 x r (by omega);rw [Nat.mod_eq_of_lt (by simpa using h)] at this;exact this
theorem put1 (l : List UInt8) (x : Nat) : C.put l x 1 = l ++ C.be x 1 := rfl
theorem put8 (l : List UInt8) (x : Nat) : C.put l x 8 = l ++ C.be x 8 := rfl
theorem text_short (l t : List UInt8) (h : t.length < 65536) : C.putText l t = l ++ (C.be t.length 2 ++ t) := by
 unfold C.putText;rw [show min t.length 65535 = t.length by omega, List.take_length, List.append_assoc]
namespace T
def many {α : Type} (f : C.St → α × C.St) : Nat → List α × C.St → List α × C.St
 | 0, a => a
 | n + 1, a => many f n (a.1 ++ [(f a.2).1], (f a.2).2)
end T
theorem V.put_app (l : List UInt8) (k : Int) (b : Nat) (t : List UInt8) : V.put l k b t = l ++ V.put [] k b t := by
 unfold V.put C.putText
 split
 ·split
  ·simp [put1, put8]
  ·split
   ·simp [put1]
   ·simp [put1]
 ·simp
theorem vback (k : Int) (b : Nat) (t : List UInt8) (r : List UInt8) (hb : b < 18446744073709551616) (h : V.formed k b t = true) : ((V.take (V.put [] k b t ++ r, false)).1.1 : Int) = k ∧ (V.take (V.put [] k b t ++ r, false)).1.2.1 = b ∧ (V.take (V.put [] k b t ++ r, false)).1.2.2 = t ∧ (V.take (V.put [] k b t ++ r, false)).2 = (r, false) := by
 have key : ∀ (k' : Nat) (u : (Nat × Nat × List UInt8) × C.St), (k' : Int) = k → V.take0 (V.put [] k b t ++ r, false) = ((k', b, t), (r, false)) → ((V.take (V.put [] k b t ++ r, false)).1.1 : Int) = k ∧ (V.take (V.put [] k b t ++ r, false)).1.2.1 = b ∧ (V.take (V.put [] k b t ++ r, false)).1.2.2 = t ∧ (V.take (V.put [] k b t ++ r, false)).2 = (r, false) := by
  intro k' u hk e
  have e2 : V.take (V.put [] k b t ++ r, false) = ((k', b, t), (r, false)) := by
   unfold V.take;rw [e, if_neg (by simp; rw [hk, h])]
  rw [e2];exact ⟨hk, rfl, rfl, rfl⟩
 rcases formed_kind h with rfl | rfl | rfl
 ·(have h0 : b = 0 ∧ t = [] := by unfold V.formed at h; simpa using h);obtain ⟨rfl, rfl⟩ := h0;refine key 0 default rfl ?_;(have e : V.put [] 0 0 [] = C.be 0 1 := by unfold V.put; rw [h]; rfl);unfold V.take0;rw [e, take1 0 (by omega)];rfl
 ·(have h0 : t = [] := by unfold V.formed at h; simp at h; exact h.1);subst h0;refine key 1 default rfl ?_;(have e : V.put [] 1 b [] = C.be 1 1 ++ C.be b 8 := by unfold V.put; rw [h]; rfl);unfold V.take0;rw [e, List.append_assoc, take1 1 (by omega)];simp only;rw [take8 b hb, if_pos trivial]
 ·(have h0 : b = 0 ∧ t.length ≤ 40 := by unfold V.formed at h; simp at h; exact h.1);obtain ⟨rfl, hl⟩ := h0;refine key 2 default rfl ?_;(have e : V.put [] 2 0 t ++ r = C.be 2 1 ++ (C.be t.length 2 ++ t ++ r) := by unfold V.put; rw [h]; simp [text_short _ _ (show t.length < 65536 by omega), put1]);unfold V.take0;rw [e, take1 2 (by omega)];simp only;rw [text_app 40 t r (by omega) (by omega), if_neg (by simp), if_pos trivial]
end
section
open Go.RowKit T
section
variable {w z : World} {B g k : Nat} {s : C.St} {old cs : Array Value} {t : TypeId}
theorem grownRow (z : World) (k : Nat) (cs : Array Value) : z.grownBy (z.setRow k cs) (some k) := ⟨rfl, rfl, rfl, by rw [setRow_size]; exact Nat.le_refl _, fun i _ hi => setRow_other z k i cs (fun e => hi (by rw [e]))⟩
theorem RdrAt.row (h : RdrAt z B g s) (hk : k ≠ g) (hB : B ≤ k) : RdrAt (z.setRow k cs) B g s := h.other (grownRow z k cs) hk hB
end
theorem TabsAt.row {B k : Nat} {z : World} {cs : Array Value} (h : TabsAt B z) (hB : B ≤ k) : TabsAt B (z.setRow k cs) := h.grown (grownRow z k cs) hB
section
variable {w z z' : World} {B g k base e sz n : Nat} {v : Value} {xs : List Value} {s : C.St}
theorem ownLow {i : Nat} (hu : z.ownsRow base e sz v n xs) (hi : i < base) : some i ≠ v.ownBlock := fun h => by have := (hu.lt i h.symm).1; omega
theorem RdrAt.own (h : RdrAt z B g s) (hu : z.ownsRow base e sz v n xs) (hg : z.grownBy z' v.ownBlock) (hb : g < base) : RdrAt z' B g s := by
 obtain ⟨A, c, hb0, h1, h2, h3, hr, h4⟩ := h;refine ⟨A, c, (hg.block g (ltAt hb0) (ownLow hu hb)).trans hb0, h1, h2, h3, fun j u hj => ?_, h4⟩;obtain ⟨b, off, hA, hlt, hc⟩ := hr j u hj;exact ⟨b, off, hA, hlt, (World.cell?_of_block (hg.block b (World.block_lt_of_cell? z _ hc) (ownLow hu (by omega)))).trans hc⟩
theorem TabsAt.own (h : TabsAt B z) (hu : z.ownsRow base e sz v n xs) (hg : z.grownBy z' v.ownBlock) (hb : B ≤ base) : TabsAt B z' := by
 obtain ⟨W0, h0, hs, hb0⟩ := h;exact ⟨W0, h0, hs, ⟨hg.os.trans hb0.os, hg.tape.trans hb0.tape, hg.output.trans hb0.output, Nat.le_trans hb0.size hg.size, fun i hi => (hg.block i (by have := hb0.size; omega) (ownLow hu (by omega))).trans (hb0.block i hi)⟩⟩
end
end
end Go.Proofs.YtimfoimcaapodaaDoor
