import Derived.Test.YthclniimhpmeoaaGreatDoorMrM9
import Derived.Great.BuildSlice
set_option maxHeartbeats 25600000
set_option maxRecDepth 20001
set_option linter.unusedSimpArgs false
set_option linter.unusedVariables false
namespace Go.Proofs.YthclniimhpmeoaaGreatDoor
set_option maxRecDepth 20000
section
open Go.RowKit T
section
variable {w z : World} {B g k : Nat} {s : C.St} {old cs : Array Value} {t : TypeId}
theorem grownRow (z : World) (k : Nat) (cs : Array Value) : z.grownBy (z.setRow k cs) (some k) := ⟨rfl, rfl, rfl, by rw [setRow_size]; exact Nat.le_refl _, fun i _ hi => setRow_other z k i cs (fun e => hi (by rw [e]))⟩
theorem grownRowNew (h : w.grownBy z (some g)) (hk : w.heap.size ≤ k) (hz : z.heap[k]? = some (.cells old t (0, 0))) : w.grownBy (z.setRow k cs) (some g) :=
 ⟨h.os, h.tape, h.output, by rw [setRow_size]; exact h.size, fun i hi hne => (setRow_other z k i cs (by omega)).trans (h.block i hi hne)⟩
theorem RdrAt.row (h : RdrAt z B g s) (hk : k ≠ g) (hB : B ≤ k) : RdrAt (z.setRow k cs) B g s := h.other (grownRow z k cs) hk hB
theorem grownDrewS (h : w.grownBy z (some g)) : w.grownBy z.drew (some g) := ⟨h.os, h.tape, h.output, h.size, h.block⟩
theorem RdrAt.drewS (h : RdrAt z B g s) : RdrAt z.drew B g s := h
theorem ownSet1 {base e size n k : Nat} {z : World} {v : Value} {xs : List Value} (h : z.ownsRow base e size v n xs) (hne : v.ownBlock ≠ some k) (i : Nat) (u : Value) : (z.setCells k i [u]).ownsRow base e size v n xs := h.kept (grownSet z k i u) (Or.inr hne)
theorem ownNe {base e size n : Nat} {v : Value} {xs : List Value} (h : z.ownsRow base e size v n xs) (hg : g < base) : v.ownBlock = none ∨ v.ownBlock ≠ some g := by
 cases hb : v.ownBlock with
 | none => exact Or.inl rfl
 | some q => exact Or.inr (fun e => by have := (h.lt q hb).1; injection e with e; omega)
theorem ownRowK {base e size n : Nat} {v : Value} {xs : List Value} (h : z.ownsRow base e size v n xs) (hne : v.ownBlock ≠ some k) : (z.setRow k cs).ownsRow base e size v n xs := by
 refine h.kept (grownRow z k cs) ?_;exact Or.inr hne
theorem take_bound (k : Nat) (s : C.St) (hk : k ≤ 8) : (C.take (k : Int) s).1 < 256 ^ k := take_lt k s hk
end
theorem wrapI {n : Nat} (h : n < 9223372036854775808) : IntKind.i64.wrap (n : Int) = (n : Int) := by rw [IntKind.wrap_i64]; omega
theorem many_succ {α : Type} (f : C.St → α × C.St) : ∀ (k : Nat) (a : List α × C.St), many f (k + 1) a = ((many f k a).1 ++ [(f (many f k a).2).1], (f (many f k a).2).2)
 | 0, a => rfl
 | k + 1, a => by
   show many f (k + 1) (a.1 ++ [(f a.2).1], (f a.2).2) = _;rw [many_succ f k];rfl
theorem flat_at {α : Type} {enc : α → List Value} {sz : Nat} (hs : ∀ x, (enc x).length = sz) (l : List α) (i : Nat) (a : α) (h : l[i]? = some a) (j : Nat) (v : Value) (hv : (enc a)[j]? = some v) : (l.flatMap enc)[i * sz + j]? = some v := by
 induction l generalizing i with
 | nil => simp at h
 | cons x l ih =>
   (have hj : j < sz := by have := (List.getElem?_eq_some_iff.1 hv).1; rwa [hs] at this);rw [List.flatMap_cons]
   cases i with
   | zero =>
     simp at h; subst h;rw [Nat.zero_mul, Nat.zero_add, List.getElem?_append_left (by rw [hs]; exact hj)];exact hv
   | succ i =>
     rw [List.getElem?_append_right (by rw [hs, Nat.add_mul]; omega), hs, show (i + 1) * sz + j - sz = i * sz + j by rw [Nat.add_mul]; omega];exact ih i (by simpa using h)
theorem rowsOwn {α : Type} {enc : α → List Value} {sz : Nat} (hs : ∀ x, (enc x).length = sz) {w : World} {base e n : Nat} {v : Value} {l : List α} (h : w.ownsRow base e sz v n (l.flatMap enc)) (hn : n = l.length) :
 ∃ (A : Option Addr) (c : Nat), v = .slice A l.length c ∧ l.length ≤ c ∧ c ≤ maxLen ∧ RowsAt w w.heap.size A sz (l.map enc) := by
 subst hn;obtain ⟨A0, c0, hv0, hc0, _, hm0⟩ := ownShape h;rcases h.2 with ⟨hv, h0⟩ | ⟨g, cap, cur, hv, _, hg, hle, _⟩
 ·refine ⟨A0, c0, hv0, hc0, hm0, fun i cs hi => ?_⟩;have := (List.getElem?_eq_some_iff.1 hi).1;rw [List.length_map] at this; omega
 ·rw [hv] at hv0;injection hv0 with e1 e2 e3;subst e1; subst e3;subst hv;refine ⟨_, cap, rfl, hle, hm0, fun i cs hi => ?_⟩;rw [List.getElem?_map] at hi;obtain ⟨a, ha, rfl⟩ := Option.map_eq_some_iff.1 hi;refine ⟨g, 0, rfl, (Array.getElem?_eq_some_iff.1 hg).1, fun j v hv => ?_⟩;have c1 := h.cells (g := g) rfl _ _ (flat_at hs l i a ha j v hv);rw [Addr.add_lit] at c1
  simpa [Nat.add_assoc] using c1
theorem TabsAt.drewS {B : Nat} {z : World} (h : TabsAt B z) : TabsAt B z.drew := by obtain ⟨W0, h0, hs, hb⟩ := h; exact ⟨W0, h0, hs, belowDrewS hb⟩
theorem TabsAt.row {B k : Nat} {z : World} {cs : Array Value} (h : TabsAt B z) (hB : B ≤ k) : TabsAt B (z.setRow k cs) := h.grown (grownRow z k cs) hB
theorem TabsAt.set1 {B k : Nat} {z : World} (h : TabsAt B z) (hB : B ≤ k) (i : Nat) (u : Value) : TabsAt B (z.setCells k i [u]) := h.grown (grownSet z k i u) hB
theorem RdrAt.set1 {B g k : Nat} {z : World} {s : C.St} (h : RdrAt z B g s) (hk : k ≠ g) (hB : B ≤ k) (i : Nat) (u : Value) : RdrAt (z.setCells k i [u]) B g s := h.setNew hk hB i u
theorem grownSet1 {w z : World} {g k : Nat} (h : w.grownBy z (some g)) (hk : w.heap.size ≤ k) (i : Nat) (u : Value) : w.grownBy (z.setCells k i [u]) (some g) := grownSetNew h hk i u
theorem rowAdd {w : World} {g : Nat} {cs : List Value} {t : TypeId} (h : w.heap[g]? = some (.cells cs.toArray t (0, 0))) : ∀ j v, cs[j]? = some v → w.cell? ((⟨g, 0, none⟩ : Addr).add j) = some v := fun j v hv => by
 rw [Addr.add_mid]; exact rowAt h j v hv
theorem encR_mem (r : Rd1) : ∀ u ∈ encR r, u.oneCell' = true := fun u hu => (Array.all_eq_true_iff_forall_mem.1 (encR_one r)) u (by simpa using hu)
theorem encW_mem (r : Wr1) : ∀ u ∈ encW r, u.oneCell' = true := fun u hu => (Array.all_eq_true_iff_forall_mem.1 (encW_one r)) u (by simpa using hu)
theorem fillR (x : Rd1) (cells : Array Value) (hn : cells.size = 2) : Instr.fill (fun i => some (i * 2, 2)) cells [(0, .agg (encR x).toArray)] = some (encR x).toArray := by
 have := Great.fill_whole (s := 2) (by omega) [Value.agg (encR x).toArray] cells (by intro v hv; simp at hv; subst hv; rfl) (by simp [hn])
 simpa [Value.cells] using this
theorem fillW (x : Wr1) (cells : Array Value) (hn : cells.size = 4) : Instr.fill (fun i => some (i * 4, 4)) cells [(0, .agg (encW x).toArray)] = some (encW x).toArray := by
 have := Great.fill_whole (s := 4) (by omega) [Value.agg (encW x).toArray] cells (by intro v hv; simp at hv; subst hv; rfl) (by simp [hn])
 simpa [Value.cells] using this
theorem info_rd : (Tryz.prog.info? 161).map (fun i => (i.zero, i.size, i.bytes)) = some (some (.agg #[.string ⟨#[]⟩, .int .u64 0]), 2, 24) := by kernel_rfl
theorem info_wr : (Tryz.prog.info? 163).map (fun i => (i.zero, i.size, i.bytes)) = some (some (.agg #[.string ⟨#[]⟩, .int .i64 0, .int .u64 0, .string ⟨#[]⟩]), 4, 48) := by kernel_rfl
theorem text_len (most : Int) (s : C.St) : (C.text most s).1.length ≤ 65535 := by
 have h := take_bound 2 s (by omega);unfold C.text;generalize C.take 2 s = r at h;unfold C.some_
 split
 ·simp
 ·have h2 : r.1 < 65536 := h;simp only [List.length_take]; omega
theorem okR_snoc {rs : List Rd1} {t : List UInt8} {v : Nat} (h : ∀ x ∈ rs, okR x) (ht : t.length ≤ 65535) (hv : v < 18446744073709551616) : ∀ x ∈ rs ++ [(t, v)], okR x := fun x hx => by
 rcases List.mem_append.1 hx with hx | hx
 ·exact h x hx
 ·rw [List.mem_singleton] at hx; subst hx; exact ⟨by show t.length ≤ _; omega, hv⟩
theorem rowsOwnK {α : Type} {enc : α → List Value} {sz : Nat} (hs : ∀ x, (enc x).length = sz) {w : World} {base e n c : Nat} {A : Option Addr} {l : List α} (h : w.ownsRow base e sz (.slice A n c) n (l.flatMap enc)) (hn : n = l.length) :
 l.length ≤ c ∧ c ≤ maxLen ∧ RowsAt w w.heap.size A sz (l.map enc) := by
 obtain ⟨A', c', h1, h2, h3, h4⟩ := rowsOwn hs h hn;injection h1 with e1 e2 e3;subst e1; subst e3;exact ⟨h2, h3, h4⟩
theorem txOwn {w : World} {base n1 c1 n2 c2 : Nat} {A1 A2 : Option Addr} {rs : List Rd1} {ws : List Wr1} (hu : w.ownsRow base 161 2 (.slice A1 n1 c1) n1 (rs.flatMap encR)) (hv : w.ownsRow base 163 4 (.slice A2 n2 c2) n2 (ws.flatMap encW))
 (h1 : rs.length = n1) (h2 : ws.length = n2) (ho : ∀ x ∈ rs, okR x) (hw : ∀ x ∈ ws, okW x) : TxOk w w.heap.size rs ws A1 c1 A2 c2 := by
 obtain ⟨a1, a2, a3⟩ := rowsOwnK (enc := encR) (sz := 2) (fun _ => rfl) hu h1.symm;obtain ⟨b1, b2, b3⟩ := rowsOwnK (enc := encW) (sz := 4) (fun _ => rfl) hv h2.symm;exact ⟨a3, b3, a1, b1, a2, b2, ho, hw⟩
theorem vtake_ok (s : C.St) : (V.take s).1.2.1 < 18446744073709551616 ∧ (V.take s).1.2.2.length ≤ 65535 := by
 have h8 : ∀ t, (C.take 8 t).1 < 18446744073709551616 := fun t => take_bound 8 t (by omega);unfold V.take
 split
 ·exact ⟨by show 0 < _; omega, by show 0 ≤ _; omega⟩
 ·unfold V.take0
  split
  ·exact ⟨h8 _, by show 0 ≤ _; omega⟩
  ·split
   ·exact ⟨by show 0 < _; omega, text_len _ _⟩
   ·exact ⟨by show 0 < _; omega, by show 0 ≤ _; omega⟩
theorem okW_snoc {rs : List Wr1} {t : List UInt8} {k : Int} {v : Nat} {u : List UInt8} (h : ∀ x ∈ rs, okW x) (ht : t.length ≤ 65535) (hv : v < 18446744073709551616) (hu : u.length ≤ 65535) : ∀ x ∈ rs ++ [(t, k, v, u)], okW x := fun x hx => by
 rcases List.mem_append.1 hx with hx | hx
 ·exact h x hx
 ·rw [List.mem_singleton] at hx; subst hx; exact ⟨by show t.length ≤ _; omega, hv, by show u.length ≤ _; omega⟩
theorem ownFresh {w z : World} {base e size n : Nat} {v : Value} {xs : List Value} (h : w.ownsRow base e size v n xs) (hk : ∀ i, base ≤ i → i < w.heap.size → z.heap[i]? = w.heap[i]?) : z.ownsRow base e size v n xs := by
 rcases h.2 with h0 | ⟨g, cap, cur, hv, hb', hg, rest⟩
 ·exact ⟨h.1, Or.inl h0⟩
 ·exact ⟨h.1, Or.inr ⟨g, cap, cur, hv, hb', (hk g hb' (ltAt hg)).trans hg, rest⟩⟩
theorem RdrAt.setN {B g k : Nat} {s : C.St} (hk : k ≠ g) (hB : B ≤ k) : ∀ (vs : List Value) (i : Nat) (z : World), RdrAt z B g s → RdrAt (z.setCells k i vs) B g s
 | [], _, _, h => h
 | v :: r, i, z, h => RdrAt.setN hk hB r (i + 1) (z.setCell ⟨k, i, none⟩ v) (h.setNew hk hB i v)
theorem grownSetN {w : World} {g k : Nat} (hk : w.heap.size ≤ k) : ∀ (vs : List Value) (i : Nat) (z : World), w.grownBy z (some g) → w.grownBy (z.setCells k i vs) (some g)
 | [], _, _, h => h
 | v :: r, i, z, h => grownSetN hk r (i + 1) (z.setCell ⟨k, i, none⟩ v) (grownSetNew h hk i v)
theorem TabsAt.setN {B k : Nat} (hB : B ≤ k) : ∀ (vs : List Value) (i : Nat) (z : World), TabsAt B z → TabsAt B (z.setCells k i vs)
 | [], _, _, h => h
 | v :: r, i, z, h => TabsAt.setN hB r (i + 1) (z.setCell ⟨k, i, none⟩ v) (h.grown (grownSet z k i v) hB)
theorem ownKind {w : World} {base e sz n k : Nat} {v : Value} {xs : List Value} {cs : Array Value} {t : TypeId} {m : Nat × Nat} (hu : w.ownsRow base e sz v n xs) (hz : w.heap[k]? = some (.cells cs t m)) (hne : t ≠ e) : v.ownBlock ≠ some k := by
 intro hb;rcases hu.2 with ⟨hv, _⟩ | ⟨g, cap, cur, hv, _, hg, _⟩
 ·rw [hv] at hb; cases hb
 ·rw [hv] at hb;(have e1 : g = k := by injection hb);subst e1;rw [hz] at hg;injection hg with hg;injection hg with _ ht _;exact hne ht
section
variable {w z z' : World} {B g k base e sz n : Nat} {v : Value} {xs : List Value} {s : C.St}
theorem heapOwn {cs : Array Value} {t : TypeId} {m : Nat × Nat} (h : z.heap[k]? = some (.cells cs t m)) (hu : z.ownsRow base e sz v n xs) (hne : t ≠ e) (hg : z.grownBy z' v.ownBlock) : z'.heap[k]? = some (.cells cs t m) :=
 (hg.block k (ltAt h) (fun e1 => ownKind hu h hne e1.symm)).trans h
theorem ownLow {i : Nat} (hu : z.ownsRow base e sz v n xs) (hi : i < base) : some i ≠ v.ownBlock := fun h => by have := (hu.lt i h.symm).1; omega
theorem grownOwn (h : w.grownBy z (some g)) (hu : z.ownsRow w.heap.size e sz v n xs) (hg : z.grownBy z' v.ownBlock) : w.grownBy z' (some g) :=
 ⟨hg.os.trans h.os, hg.tape.trans h.tape, hg.output.trans h.output, Nat.le_trans h.size hg.size, fun i hi hne => (hg.block i (Nat.lt_of_lt_of_le hi h.size) (ownLow hu hi)).trans (h.block i hi hne)⟩
theorem RdrAt.own (h : RdrAt z B g s) (hu : z.ownsRow base e sz v n xs) (hg : z.grownBy z' v.ownBlock) (hb : g < base) : RdrAt z' B g s := by
 obtain ⟨A, c, hb0, h1, h2, h3, hr, h4⟩ := h;refine ⟨A, c, (hg.block g (ltAt hb0) (ownLow hu hb)).trans hb0, h1, h2, h3, fun j u hj => ?_, h4⟩;obtain ⟨b, off, hA, hlt, hc⟩ := hr j u hj;exact ⟨b, off, hA, hlt, (World.cell?_of_block (hg.block b (World.block_lt_of_cell? z _ hc) (ownLow hu (by omega)))).trans hc⟩
theorem TabsAt.own (h : TabsAt B z) (hu : z.ownsRow base e sz v n xs) (hg : z.grownBy z' v.ownBlock) (hb : B ≤ base) : TabsAt B z' := by
 obtain ⟨W0, h0, hs, hb0⟩ := h;exact ⟨W0, h0, hs, ⟨hg.os.trans hb0.os, hg.tape.trans hb0.tape, hg.output.trans hb0.output, Nat.le_trans hb0.size hg.size, fun i hi => (hg.block i (by have := hb0.size; omega) (ownLow hu (by omega))).trans (hb0.block i hi)⟩⟩
end
end
section
open Go.RowKit
theorem RefAt.there2 {z : World} {B g : Nat} {s : C.St} (h : RefAt z B g s) : z.there g 2 1 := by
 obtain ⟨A, c, full, at_, hb, _⟩ := h;exact rowThere (cs := [.slice A full.length c, .int .i64 (at_ : Int), .bool s.2]) hb (by show 2 + 1 ≤ 3; decide)
theorem RefAt.failsN {z z' : World} {B g : Nat} {s : C.St} (h : RefAt z B g s) (hz : z' = z.setCells g 2 [.bool true]) : RefAt z' B g (s.1, true) := by
 subst hz;obtain ⟨l, f⟩ := s;exact RefAt.fails h
theorem rvfm (k : Int) (b : Nat) (hb : b < 18446744073709551616) (t : ByteArray) (w : World) : Calls Tryz.prog 113 #[.agg #[.int .i64 k, .int .u64 (b : Int), .string t]] w fun e w' => e = .returned (.bool (V.formed k b t.data.toList)) ∧ Below w.heap.size w w' := rformed_any k b hb t w
theorem rvtake_any (B0 g : Nat) (w : World) (s : C.St) (h : RefAt w B0 g s) :
 Calls Tryz.prog 78 #[.pointer (some ⟨g, 0, none⟩)] w fun e w' => e = .returned (V.val ((V.take s).1.1 : Int) (V.take s).1.2.1 ⟨(V.take s).1.2.2.toArray⟩) ∧ RefAt w' B0 g (V.take s).2 ∧ w.grownBy w' (some g) := by
 have hgw : g < w.heap.size := h.lt.1;have hBg : B0 ≤ g := h.lt.2;have rr := h;have eg := World.grownBy.refl w (some g)
 go_enter Tryz.func78, Tryz.ntmps78
 refine wp_seq_k fun K1 hK1 => wp_region_lit ?_;(with_reducible refine wwP (.cells #[.int .i64 0, .int .u64 0, .string ByteArray.empty] 77) fun g2 z1 hq_ t Zv2 => ?_);have n_g2_rr := ltS hq_ rr.lt.1;have hB_g2 := szS hq_ eg.size;have rr := rr.below t;have eg := gB eg t;(try simp only [zP]);refine wpList_nil (hK1 _ _ (wp_seq_k fun K3 hK3 => wp_region_lit ?_));(with_reducible refine wv (.pointer (some ⟨g, 0, none⟩)) ?_;(try simp only [zP]);refine wc 44 #[.pointer (some ⟨g, 0, none⟩), .int .i64 1] (rtake_any B0 g 1 s z1 rr) ?_);rintro e z2 ⟨rfl, rr_, g_⟩;refine ⟨_, rfl, ?_⟩;have Zv2 := hG Zv2 g_;have eg := eg.trans g_;have rr := rr_;obtain ⟨x4, ex4⟩ : ∃ q_, q_ = (C.take 1 s).1 := ⟨_, rfl⟩;obtain ⟨s4, es4⟩ : ∃ q_, q_ = (C.take 1 s).2 := ⟨_, rfl⟩;rw [← es4] at rr;rw [← ex4];(try simp only [zP]);(with_reducible refine wq (.int .i64 (x4 : Int)) (okIntP ((w1v ex4) : IntKind.i64.wrap (x4 : Int) = (x4 : Int)) (by kernel_rfl)) (wv (.agg ([.int .i64 (x4 : Int), .int .u64 0, .string ByteArray.empty]).toArray) (wwP (.cells #[.int .i64 0, .int .u64 0, .string ByteArray.empty] 77) fun g5 z3 hq_ t Zv3 => ?_)));have n_g5_Zv2 := ltG hq_ Zv2;have n_g5_rr := ltS hq_ rr.lt.1;have hB_g5 := szS hq_ eg.size;have rr := rr.below t;have eg := gB eg t;have Zv2 := hpB Zv2 t;(try simp only [zP]);(with_reducible refine wsR 77 (g5) ([.int .i64 (x4 : Int), .int .u64 0, .string ByteArray.empty]).toArray Zv3 fun z4 hz_ g_ N_ => ?_);have rr := rr.oth g_;have eg := gN eg g_;have Zv2 := hG Zv2 g_;have Zv3 := N_;(try simp only [zP]);refine wpList_nil (hK3 _ _ (wp_seq_k fun K6 hK6 => nameA fun AK6 hA_ => ?_))
 have hjK6 : ∀ (uK6 : Nat → Nat → Value) (yj : Nat) (tj : List UInt8) (sj : C.St) (zj6 : World), zj6.heap[g2]? = some (.cells #[.int .i64 0, .int .u64 0, .string ByteArray.empty] 77 (0, 0)) → zj6.heap[g5]? = some (.cells ([.int .i64 (x4 : Int), .int .u64 (yj : Int), .string (⟨tj.toArray⟩ : ByteArray)]).toArray 77 (0, 0)) → RefAt zj6 B0 g sj → w.grownBy zj6 (some g) → yj < 18446744073709551616 → V.take0 s = ((x4, yj, tj), sj) → K6 (slR AK6 [(8, 12, 20)] uK6) zj6 := by
  subst hA_;intro uK6 yj tj sj zj6 Zv2 Zv3 rr eg hyj ht0;refine hK6 _ _ ?_;simp only [fR, nP, nN, nA, n0, nS];refine wp_seq_k fun K8 hK8 => wp_seq_k fun K9 hK9 => wp_region_lit ?_;(iterate 2 (with_reducible refine wv (.pointer (some ⟨g, 0, none⟩)) ?_));(with_reducible refine wv (.pointer (some ⟨g, 2, none⟩)) (wl (.bool sj.2) ⟨g, 2, none⟩ (RefAt.cell rr) Tryz.underlying4 ?_));generalize hb10 : sj.2 = b10;(try simp only [zP]);(with_reducible refine wv (.bool b10) ?_);(try simp only [zP]);cases b10;rotate_left
  ·(iterate 3 (with_reducible refine wk ?_));(with_reducible refine wv (.bool true) ?_);(try simp only [zP]);refine wpList_nil (hK9 _ _ (wdT (wp_seq_k fun K15 hK15 => wp_region_lit ?_)));(iterate 2 (with_reducible refine wv (.pointer (some ⟨g, 0, none⟩)) ?_));(with_reducible refine wv (.pointer (some ⟨g, 2, none⟩)) ?_);(try simp only [zP]);refine wpList_storeC 4 (g) (2) (.bool true) ([.bool true]) (RefAt.there2 rr) (by kernel_rfl) (by kernel_rfl) (all1 rfl) _ _ (by kernel_rfl) rfl (by kernel_rfl) (by kernel_rfl) ?_;obtain ⟨z5, hz_⟩ : ∃ z_ : World, z_ = zj6.setCells (g) (2) ([.bool true]) := ⟨_, rfl⟩;rw [← hz_];have g_ := stG hz_;have rr_ := RefAt.failsN rr hz_;have Zv2 := hG Zv2 g_;have eg := eg.trans g_;have rr := rr_;(try simp only [zP]);refine wpList_nil (hK15 _ _ (wp_seq_k fun K16 hK16 => wp_region_lit ?_));(with_reducible refine wv (.agg ([.int .i64 0, .int .u64 0, .string ByteArray.empty]).toArray) ?_;(try simp only [zP]);refine wsR 77 (g2) ([.int .i64 0, .int .u64 0, .string ByteArray.empty]).toArray Zv2 fun z6 hz_ g_ N_ => ?_);have rr := rr.oth g_;have eg := gN eg g_;have Zv2 := N_;(try simp only [zP]);refine wpList_nil (hK16 _ _ (wp_ret (then_ret ?_)));have ht := vt_no ht0 (.inl hb10);exact bodyPost_ret (v := .agg ([.int .i64 0, .int .u64 0, .string ByteArray.empty]).toArray) (results_cell_row rfl _ _ g2 77 _ (0, 0) _ rfl Zv2 Tryz.underlying77 rfl sizeVl) rfl (by rw [ht]; exact ⟨rfl, rr, eg⟩)
  (with_reducible refine wg (g5) (0) ([.int .i64 (x4 : Int), .int .u64 (yj : Int), .string (⟨tj.toArray⟩ : ByteArray)]) (rowAt Zv3) Tryz.underlying77 ?_);(try simp only [zP]);(with_reducible refine wcR (rvfm (x4 : Int) yj hyj ((⟨tj.toArray⟩ : ByteArray)) zj6) fun z5 t => ?_);have rr := rr.below t;have eg := gB eg t;have Zv2 := hpB Zv2 t;have Zv3 := hpB Zv3 t;generalize hb11 : V.formed (x4 : Int) yj ((⟨tj.toArray⟩ : ByteArray)).data.toList = b11;(try simp only [zP]);cases b11;rotate_left
  ·(iterate 2 (with_reducible refine wv (.bool false) ?_));(try simp only [zP]);refine wpList_nil (hK9 _ _ (wdF (wp_skip (hK8 _ _ (wp_seq_k fun K14 hK14 => ?_)))));refine wp_region_lit ?_;(with_reducible refine wg (g5) (0) ([.int .i64 (x4 : Int), .int .u64 (yj : Int), .string (⟨tj.toArray⟩ : ByteArray)]) (rowAt Zv3) Tryz.underlying77 ?_;(try simp only [zP]);refine wsR 77 (g2) ([.int .i64 (x4 : Int), .int .u64 (yj : Int), .string (⟨tj.toArray⟩ : ByteArray)]).toArray Zv2 fun z6 hz_ g_ N_ => ?_);have rr := rr.oth g_;have eg := gN eg g_;have Zv2 := N_;(try simp only [zP]);refine wpList_nil (hK14 _ _ (wp_ret ?_));have ht := vt_yes ht0 (f_not hb10) hb11;exact bodyPost_ret (v := .agg ([.int .i64 (x4 : Int), .int .u64 (yj : Int), .string (⟨tj.toArray⟩ : ByteArray)]).toArray) (results_cell_row rfl _ _ g2 77 _ (0, 0) _ rfl Zv2 Tryz.underlying77 rfl sizeVl) rfl (by rw [ht]; exact ⟨rfl, rr, eg⟩)
  (with_reducible refine wv (.bool true) ?_);(try simp only [zP]);(with_reducible refine wv (.bool true) ?_);(try simp only [zP]);refine wpList_nil (hK9 _ _ (wdT (wp_seq_k fun K12 hK12 => wp_region_lit ?_)));(iterate 2 (with_reducible refine wv (.pointer (some ⟨g, 0, none⟩)) ?_));(with_reducible refine wv (.pointer (some ⟨g, 2, none⟩)) ?_);(try simp only [zP]);refine wpList_storeC 4 (g) (2) (.bool true) ([.bool true]) (RefAt.there2 rr) (by kernel_rfl) (by kernel_rfl) (all1 rfl) _ _ (by kernel_rfl) rfl (by kernel_rfl) (by kernel_rfl) ?_;obtain ⟨z6, hz_⟩ : ∃ z_ : World, z_ = z5.setCells (g) (2) ([.bool true]) := ⟨_, rfl⟩;rw [← hz_];have g_ := stG hz_;have rr_ := RefAt.failsN rr hz_;have Zv2 := hG Zv2 g_;have eg := eg.trans g_;have rr := rr_;(try simp only [zP]);refine wpList_nil (hK12 _ _ (wp_seq_k fun K13 hK13 => wp_region_lit ?_));(with_reducible refine wv (.agg ([.int .i64 0, .int .u64 0, .string ByteArray.empty]).toArray) ?_;(try simp only [zP]);refine wsR 77 (g2) ([.int .i64 0, .int .u64 0, .string ByteArray.empty]).toArray Zv2 fun z7 hz_ g_ N_ => ?_);have rr := rr.oth g_;have eg := gN eg g_;have Zv2 := N_;(try simp only [zP]);refine wpList_nil (hK13 _ _ (wp_ret (then_ret ?_)));have ht := vt_no ht0 (.inr hb11);exact bodyPost_ret (v := .agg ([.int .i64 0, .int .u64 0, .string ByteArray.empty]).toArray) (results_cell_row rfl _ _ g2 77 _ (0, 0) _ rfl Zv2 Tryz.underlying77 rfl sizeVl) rfl (by rw [ht]; exact ⟨rfl, rr, eg⟩)
 subst hA_;refine wp_seq_k fun K17 hK17 => wp_region_lit ?_;(with_reducible refine wv (.pointer (some ⟨g5, 0, none⟩)) (wl (.int .i64 ((x4 : Int))) ⟨g5, 0, none⟩ (rowCell Zv3 (0) rfl) Tryz.underlying3 ?_));(try simp only [zP]);obtain ⟨b18, hb18⟩ := exB (decide ((x4 : Int) = 1));(with_reducible refine wb (.bool b18) (.int .i64 ((x4 : Int))) (.int .i64 1) 3 (run_eqlI hb18) ?_);(try simp only [zP]);refine wpList_nil (hK17 _ _ ?_);cases b18;rotate_left
 ·have pb18 : (x4 : Int) = 1 := dT hb18;refine wdT (wp_region_lit ?_);(with_reducible refine wv (.pointer (some ⟨g, 0, none⟩)) ?_;(try simp only [zP]);refine wc 44 #[.pointer (some ⟨g, 0, none⟩), .int .i64 8] (rtake_any B0 g 8 s4 z4 rr) ?_);rintro e z5 ⟨rfl, rr_, g_⟩;refine ⟨_, rfl, ?_⟩;have Zv2 := hG Zv2 g_;have Zv3 := hG Zv3 g_;have eg := eg.trans g_;have rr := rr_;obtain ⟨x22, ex22⟩ : ∃ q_, q_ = (C.take 8 s4).1 := ⟨_, rfl⟩;obtain ⟨s22, es22⟩ : ∃ q_, q_ = (C.take 8 s4).2 := ⟨_, rfl⟩;rw [← es22] at rr;rw [← ex22];(try simp only [zP]);(with_reducible refine wv (.pointer (some ⟨g5, 1, none⟩)) ?_;(try simp only [zP]);refine wsC 31 (g5) (1) (.int .u64 (x22 : Int)) ([.int .u64 (x22 : Int)]) ([.int .i64 (x4 : Int), .int .u64 (x22 : Int), .string ByteArray.empty]) Zv3 fun z6 hz_ g_ N_ => ?_);have rr := rr.oth g_;have eg := gN eg g_;have Zv2 := hG Zv2 g_;have Zv3 := N_;(try simp only [zP]);refine wpList_nil ?_;exact jE fun u_ => hjK6 u_ x22 [] s22 _ Zv2 Zv3 rr eg (lt8 ex22) (vt0_1 ex4 es4 ex22 es22 pb18)
 have pb18 := dF hb18;refine wdF (wp_seq_k fun K19 hK19 => wp_region_lit ?_);(with_reducible refine wv (.pointer (some ⟨g5, 0, none⟩)) (wl (.int .i64 ((x4 : Int))) ⟨g5, 0, none⟩ (rowCell Zv3 (0) rfl) Tryz.underlying3 ?_));(try simp only [zP]);obtain ⟨b20, hb20⟩ := exB (decide ((x4 : Int) = 2));(with_reducible refine wb (.bool b20) (.int .i64 ((x4 : Int))) (.int .i64 2) 3 (run_eqlI hb20) ?_);(try simp only [zP]);refine wpList_nil (hK19 _ _ ?_);cases b20
 ·have pb20 := dF hb20;refine wdF (wp_skip ?_);exact jE fun u_ => hjK6 u_ 0 [] s4 _ Zv2 Zv3 rr eg (by decide) (vt0_o ex4 es4 pb18 pb20)
 have pb20 : (x4 : Int) = 2 := dT hb20;refine wdT (wp_region_lit ?_);(with_reducible refine wv (.pointer (some ⟨g, 0, none⟩)) ?_;(try simp only [zP]);refine wc 77 #[.pointer (some ⟨g, 0, none⟩), .int .i64 40] (rtext_any B0 g 40 s4 z4 rr) ?_);rintro e z5 ⟨rfl, rr_, g_⟩;refine ⟨_, rfl, ?_⟩;have Zv2 := hG Zv2 g_;have Zv3 := hG Zv3 g_;have eg := eg.trans g_;have rr := rr_;obtain ⟨x21, ex21⟩ : ∃ q_, q_ = (C.text 40 s4).1 := ⟨_, rfl⟩;obtain ⟨s21, es21⟩ : ∃ q_, q_ = (C.text 40 s4).2 := ⟨_, rfl⟩;rw [← es21] at rr;rw [← ex21];(try simp only [zP]);(with_reducible refine wv (.pointer (some ⟨g5, 2, none⟩)) ?_;(try simp only [zP]);refine wsC 9 (g5) (2) (.string ((⟨x21.toArray⟩ : ByteArray))) ([.string ((⟨x21.toArray⟩ : ByteArray))]) ([.int .i64 (x4 : Int), .int .u64 0, .string ((⟨x21.toArray⟩ : ByteArray))]) Zv3 fun z6 hz_ g_ N_ => ?_);have rr := rr.oth g_;have eg := gN eg g_;have Zv2 := hG Zv2 g_;have Zv3 := N_;(try simp only [zP]);refine wpList_nil ?_;exact jE fun u_ => hjK6 u_ 0 x21 s21 _ Zv2 Zv3 rr eg (by decide) (vt0_2 ex4 es4 ex21 es21 pb20)
end
section
open Go.RowKit T
section
variable {w z z' : World} {B g k base e sz n : Nat} {v : Value} {xs : List Value} {s : C.St} {cs : Array Value}
theorem RefAt.row (h : RefAt z B g s) (hk : k ≠ g) (hB : B ≤ k) : RefAt (z.setRow k cs) B g s := h.other (grownRow z k cs) hk hB
theorem RefAt.drewS (h : RefAt z B g s) : RefAt z.drew B g s := h
theorem RefAt.set1 (h : RefAt z B g s) (hk : k ≠ g) (hB : B ≤ k) (i : Nat) (u : Value) : RefAt (z.setCells k i [u]) B g s := h.setNew hk hB i u
theorem RefAt.setN (hk : k ≠ g) (hB : B ≤ k) : ∀ (vs : List Value) (i : Nat) (z : World), RefAt z B g s → RefAt (z.setCells k i vs) B g s
 | [], _, _, h => h
 | v :: r, i, z, h => RefAt.setN hk hB r (i + 1) (z.setCell ⟨k, i, none⟩ v) (h.setNew hk hB i v)
theorem RefAt.own (h : RefAt z B g s) (hu : z.ownsRow base e sz v n xs) (hg : z.grownBy z' v.ownBlock) (hb : g < base) : RefAt z' B g s := by
 obtain ⟨A, c, full, at_, hb0, h1, h2, h3, hr, h4, h5⟩ := h;refine ⟨A, c, full, at_, (hg.block g (ltAt hb0) (ownLow hu hb)).trans hb0, h1, h2, h3, fun j u hj => ?_, h4, h5⟩;obtain ⟨b, off, hA, hlt, hc⟩ := hr j u hj;exact ⟨b, off, hA, hlt, (World.cell?_of_block (hg.block b (World.block_lt_of_cell? z _ hc) (ownLow hu (by omega)))).trans hc⟩
theorem grownFail (h : w.grownBy z (some g)) (u : Value) : w.grownBy (z.setCell ⟨g, 2, none⟩ u) (some g) := grownTrans h (grownSet z g 2 u)
end
namespace T
def untl {α : Type} (f : C.St → α × C.St) : Nat → List α × C.St → List α × C.St
 | 0, a => a
 | n + 1, a => bif a.2.2 then a else untl f n (a.1 ++ [(f a.2).1], (f a.2).2)
def rttake0 (s : C.St) : ((Nat × Nat) × List Rd1 × List Wr1) × C.St :=
 let i := idtake s
 let n := C.take 1 i.2
 let R := untl rtake n.1 ([], n.2)
 let m := C.take 1 R.2
 let Ws := untl wtake m.1 ([], m.2)
 ((i.1, R.1, Ws.1), Ws.2)
def rttake (s : C.St) : ((Nat × Nat) × List Rd1 × List Wr1) × C.St :=
 bif (rttake0 s).2.2 || !formed (rttake0 s).1.1.1 (rttake0 s).1.1.2 (rttake0 s).1.2.1 (rttake0 s).1.2.2 then (((0, 0), [], []), ((rttake0 s).2.1, true)) else rttake0 s
end T
end
section
open Go.RowKit T
def RefF (w : World) (B g : Nat) (A : Option Addr) (c : Nat) (full : List UInt8) (s : C.St) : Prop :=
 ∃ (at_ : Nat), w.heap[g]? = some (.cells #[.slice A full.length c, .int .i64 (at_ : Int), .bool s.2] 104 (0, 0)) ∧ at_ ≤ full.length ∧ full.length ≤ 1099511627776 ∧ full.length ≤ c ∧ Rd w B A (bc full) ∧ B ≤ g ∧ s.1 = full.drop at_
section
variable {w w' z : World} {B g k : Nat} {A : Option Addr} {c : Nat} {full : List UInt8} {s : C.St} {cs : Array Value}
theorem RefF.ref (h : RefF w B g A c full s) : RefAt w B g s := ⟨A, c, full, h⟩
theorem RefF.fails {l : List UInt8} {f : Bool} (h : RefF w B g A c full (l, f)) : RefF (w.setCell ⟨g, 2, none⟩ (.bool true)) B g A c full (l, true) := by
 obtain ⟨at_, hb, h1, h2, h3, hr, hB, hl⟩ := h;exact ⟨at_, setAt hb 2 _, h1, h2, h3, hr.grownOther (grownSet w g 2 _) hB, hB, hl⟩
theorem RefF.drewN (h : RefF w B g A c full s) (n : Nat) : RefF (w.drewN n) B g A c full s := h
theorem RefF.drewS (h : RefF w B g A c full s) : RefF w.drew B g A c full s := h
theorem RefF.other (h : RefF w B g A c full s) (hg : w.grownBy w' (some k)) (hk : k ≠ g) (hB : B ≤ k) : RefF w' B g A c full s := by
 obtain ⟨at_, hb, h1, h2, h3, hr, h4, h5⟩ := h;exact ⟨at_, (hg.block g (ltAt hb) (fun e => hk (by injection e with e; exact e.symm))).trans hb, h1, h2, h3, hr.grownOther hg hB, h4, h5⟩
theorem RefF.oth (h : RefF w B g A c full s) (hg : w.grownBy w' (some k)) (hk : k ≠ g := by omega) (hB : B ≤ k := by omega) : RefF w' B g A c full s := h.other hg hk hB
theorem RefF.below (h : RefF w B g A c full s) (hb : Below w.heap.size w w') : RefF w' B g A c full s := by
 obtain ⟨at_, hb0, h1, h2, h3, hr, h4, h5⟩ := h;exact ⟨at_, heapB hb0 hb, h1, h2, h3, hr.below (hb.mono (by have := ltAt hb0; omega)), h4, h5⟩
theorem RefF.alloc (h : RefF w B g A c full s) (o : Obj) : RefF (w.alloc o) B g A c full s := h.below ((Below.refl _ _).alloc (Nat.le_refl _) _)
theorem RefF.setNew (h : RefF w B g A c full s) (hk : k ≠ g) (hB : B ≤ k) (i : Nat) (u : Value) : RefF (w.setCell ⟨k, i, none⟩ u) B g A c full s := h.other (grownSet w k i u) hk hB
theorem RefF.lt (h : RefF w B g A c full s) : g < w.heap.size ∧ B ≤ g := by
 obtain ⟨at_, hb0, h1, h2, h3, hr, h4, h5⟩ := h;exact ⟨ltAt hb0, h4⟩
theorem RefF.row (h : RefF z B g A c full s) (hk : k ≠ g) (hB : B ≤ k) : RefF (z.setRow k cs) B g A c full s := h.other (grownRow z k cs) hk hB
theorem RefF.setN (hk : k ≠ g) (hB : B ≤ k) : ∀ (vs : List Value) (i : Nat) (z : World), RefF z B g A c full s → RefF (z.setCells k i vs) B g A c full s
 | [], _, _, h => h
 | v :: r, i, z, h => RefF.setN hk hB r (i + 1) (z.setCell ⟨k, i, none⟩ v) (h.setNew hk hB i v)
theorem RefF.new (h : w.heap[g]? = some (.cells #[.slice A full.length c, .int .i64 0, .bool false] 104 (0, 0))) (hl : full.length ≤ 1099511627776) (hc : full.length ≤ c) (hr : Rd w B A (bc full)) (hB : B ≤ g) : RefF w B g A c full (full, false) :=
 ⟨0, h, Nat.zero_le _, hl, hc, hr, hB, rfl⟩
end
def RTookF (w : World) (B g : Nat) (A : Option Addr) (c : Nat) (full : List UInt8) (x : Nat) (s : C.St) (e : Ending) (w' : World) : Prop :=
 e = .returned (.int .u64 (x : Int)) ∧ RefF w' B g A c full s ∧ w.grownBy w' (some g)
theorem rtakeF_any (A : Option Addr) (c : Nat) (full : List UInt8) (B g : Nat) (n : Int) (s : C.St) (w : World) (h : RefF w B g A c full s) :
 Calls Tryz.prog 44 #[.pointer (some ⟨g, 0, none⟩), .int .i64 n] w (RTookF w B g A c full (C.take n s).1 (C.take n s).2) := by
 have HH := Lib.hid h;obtain ⟨at_, hb, hat, hbig, hfc, hr, hB, hl⟩ := h;have h0 := cellAt hb 0;have h1 := cellAt hb 1;have h2 := cellAt hb 2;have f1 := freeAt hb 1;have f2 := freeAt hb 2;simp only [zQ] at h0 h1 h2;obtain ⟨l, f⟩ := s;simp only at h2 hl;have HB := Lib.hid hb;have HL := Lib.hid hl;clear hb hl;obtain ⟨m, hm⟩ : ∃ m, m = full.length := ⟨_, rfl⟩;rw [← hm] at h0 hat hbig hfc;have HM := Lib.hid hm;clear hm
 cases f with
 | true =>
   have hs : C.take n (l, true) = (0, (l, true)) := by
    unfold C.take C.some_
    split
    ·rfl
    ·simp [C.val]
   rw [hs];clear hs
   go_enter Tryz.func44, Tryz.ntmps44
   go_wp2_with fail
   go_quiet (fail)
   go_wp2_with fail
   go_ret
   exact ⟨rfl, RefF.fails (HH.out.drewN _), grownFromDrewN (grownSet _ g 2 _)⟩
 | false =>
   by_cases hn : n < 0 ∨ 8 < n
   ·(have hs : C.take n (l, false) = (0, (l, true)) := by unfold C.take; rw [if_pos hn]);rw [hs];clear hs;rcases hn with hn | hn
    ·have hd : decide (n < 0) = true := by simpa using hn
     go_enter Tryz.func44, Tryz.ntmps44
     go_wp2_with fail
     go_quiet (fail)
     go_wp2_with fail
     go_ret
     exact ⟨rfl, RefF.fails (HH.out.drewN _), grownFromDrewN (grownSet _ g 2 _)⟩
    ·(have hd : decide (n < 0) = false := by simp; omega);(have hd2 : decide (8 < n) = true := by simpa using hn)
     go_enter Tryz.func44, Tryz.ntmps44
     go_wp2_with fail
     go_quiet (fail)
     go_wp2_with fail
     go_ret
     exact ⟨rfl, RefF.fails (HH.out.drewN _), grownFromDrewN (grownSet _ g 2 _)⟩
   ·(have hn0 : 0 ≤ n := by omega);obtain ⟨k, rfl⟩ := Int.eq_ofNat_of_zero_le hn0;(have hd : decide ((k : Int) < 0) = false := by simp);(have hd2 : decide (8 < (k : Int)) = false := by simp; omega);(have hk8 : k ≤ 8 := by omega);(have hll : l.length = m - at_ := by rw [HL.out, List.length_drop, HM.out]);(have hw : IntKind.i64.wrap ((m : Int) - (at_ : Int)) = (m : Int) - (at_ : Int) := by rw [IntKind.wrap_i64]; omega)
    by_cases hrem : (m : Int) - (at_ : Int) < (k : Int)
    ·have hs : C.take (k : Int) (l, false) = (0, (l, true)) := by
      unfold C.take C.some_;rw [if_neg (by omega), if_pos (by right; rw [Int.toNat_natCast]; simp only; omega)];simp [C.val]
     rw [hs];(have hd3 : decide ((m : Int) - (at_ : Int) < (k : Int)) = true := by simpa using hrem);clear hs hll hn
     go_enter Tryz.func44, Tryz.ntmps44
     go_wp2_with fail
     go_quiet (fail)
     go_wp2_with fail
     go_ret
     exact ⟨rfl, RefF.fails (HH.out.drewN _), grownFromDrewN (grownSet _ g 2 _)⟩
    ·have hs : C.take (k : Int) (l, false) = (C.val 0 (l.take k), (l.drop k, false)) := by
      unfold C.take C.some_;rw [if_neg (by omega), Int.toNat_natCast, if_neg (by simp only [Bool.false_eq_true, false_or]; omega)]
     rw [hs];(have hd3 : decide ((m : Int) - (at_ : Int) < (k : Int)) = false := by simp; omega);(have hatk : at_ + k ≤ m := by omega);have HLL := Lib.hid hll;clear hs hll hn
     go_enter Tryz.func44, Tryz.ntmps44
     go_wp2_with fail
     go_quiet (fail)
     go_wp2_with fail
     clear hw
     go_loopw [5, 6] (fun x i wr => ∃ j q : Nat, j ≤ k ∧ i = .int .i64 (j : Int) ∧ x = .int .u64 ((C.val 0 (l.take j) : Nat) : Int) ∧ wr = w.drewN q) (fun _ i _ => k - (intOf i).toNat)
     case atStart => exact ⟨0, _, Nat.zero_le _, rfl, by simp [C.val], rfl⟩
     case round =>
      obtain ⟨j, q, hj, rfl, rfl, rfl⟩ := hrel
      by_cases hlt : j < k
      ·(have hk2 : at_ + j < (bc full).length := by rw [bc_len, ← HM.out]; omega);obtain ⟨ab, ao, rfl, _, hca⟩ := hr.at_ hk2;rw [bc_get] at hca;(have hjo : j < l.length := by rw [HLL.out]; omega)
       have hbyte : full[at_ + j]'(by rw [← HM.out]; omega) = l[j]'hjo := by
        (have : l[j]'hjo = (full.drop at_)[j]'(by rw [← HL.out]; exact hjo) := by simp only [HL.out]);rw [this, List.getElem_drop]
       rw [hbyte] at hca
       have hval : C.val 0 (l.take (j + 1)) = C.val 0 (l.take j) * 256 + (l[j]'hjo).toNat := by
        rw [List.take_succ_eq_append_getElem hjo, C.val_app]; rfl
       have hlt7 : C.val 0 (l.take j) < 72057594037927936 := by
        have h1 := C.val_lt (l.take j);(have h2 : (l.take j).length ≤ 7 := by simp; omega);have h3 : 256 ^ (l.take j).length ≤ 256 ^ 7 := Nat.pow_le_pow_right (by omega) h2;omega
       have hby := (l[j]'hjo).toNat_lt;have HV := Lib.hid hval;clear hbyte hval hk2
       generalize l[j]'hjo = b at hca HV hby
       generalize C.val 0 (l.take j) = y at HV hlt7 ⊢;(have hb0 : (0 : Int) ≤ (at_ : Int) + (j : Int) := by omega);(have hb1 : (at_ : Int) + (j : Int) < (m : Int) := by omega);(have hw1 : IntKind.i64.wrap ((at_ : Int) + (j : Int)) = (at_ : Int) + (j : Int) := by rw [IntKind.wrap_i64]; omega);(have hw2 : IntKind.u64.wrap ((y : Int) * 256) = (y : Int) * 256 := by rw [IntKind.wrap_u64]; omega);(have hw3 : IntKind.u64.wrap ((y : Int) * 256 + (b.toNat : Int)) = (y : Int) * 256 + (b.toNat : Int) := by rw [IntKind.wrap_u64]; omega);(have hti : ((at_ : Int) + (j : Int)).toNat = at_ + j := by omega)
       go_wp2_with fail
       go_quiet (fail)
       clear hw1 hw2 hw3
       go_wp2_with fail
       go_roundw
       case rel => exact ⟨j + 1, _, by omega, by go_num, int_of (by rw [HV.out]; omega), rfl⟩
       case measure => simp [intOf]; omega
      ·obtain rfl : j = k := by omega
       go_wp2_with fail
       go_ret
       refine ⟨rfl, ⟨at_ + j, ?_, by rw [← HM.out]; omega, by rw [← HM.out]; exact hbig, by rw [← HM.out]; exact hfc, Rd.grownOther (w := w.drewN _) (hr.drewN _) (grownSet _ g 1 _) hB, hB, ?_⟩, grownFromDrewN (grownSet _ g 1 _)⟩
       ·rw [show ((at_ + j : Nat) : Int) = (at_ : Int) + (j : Int) from by omega];exact refSet HB.out _ _
       ·show l.drop j = full.drop (at_ + j);rw [HL.out, List.drop_drop]
end
section
open Go.RowKit Go.ChangeShapes Go.WideShapes Go.ChangeAt T
section
variable {W : World} {v : Value}
theorem Arg.cmd (h : Arg W 33 v) :
 ∃ (k s q : Int) (rs : List Rd1) (ws : List Wr1) (A1 : Option Addr) (c1 : Nat) (A2 : Option Addr) (c2 : Nat) (i j g : Int) (st : Nat) (y : Bool),
 v = .agg #[.int .i64 k, .int .i64 s, .int .i64 q, .slice A1 rs.length c1, .slice A2 ws.length c2, .int .i64 i, .int .i64 j, .int .i64 g, .int .u64 (st : Int), .bool y] ∧ TxOk W W.heap.size rs ws A1 c1 A2 c2 ∧ st < 18446744073709551616 ∧
  (-9223372036854775808 ≤ k ∧ k ≤ 9223372036854775807) ∧ (-9223372036854775808 ≤ g ∧ g ≤ 9223372036854775807) := by
 obtain ⟨cs, rfl, hc⟩ := h.struct Tryz.underlying33;obtain ⟨k, s, q, rs, ws, A1, c1, A2, c2, i, j, g, st, y, e, r⟩ := hc.cmd Tryz.underlying33 (by kernel_rfl) (by rfl) (by rfl) (by rfl) (by rfl) (by rfl) (by rfl);refine ⟨k, s, q, rs, ws, A1, c1, A2, c2, i, j, g, st, y, ?_, r⟩
 congr 1
 apply Array.ext'
 exact e
end
end
section
open Go.RowKit Go.ChangeShapes Go.WideShapes Go.ChangeAt T
section
variable {W : World} {cs : List Value} {v : Value}
theorem Cel.cm (h : Cel W 33 cs) : ∃ x : Cm, cs = x.cells ∧ CmOk W W.heap.size x := by
 obtain ⟨k, s, q, rs, ws, A1, c1, A2, c2, i, j, g, st, y, e, r, _⟩ := h.cmd Tryz.underlying33 (by kernel_rfl) (by rfl) (by rfl) (by rfl) (by rfl) (by rfl) (by rfl);exact ⟨⟨k, s, q, rs, ws, A1, c1, A2, c2, i, j, g, st, y⟩, e, r⟩
theorem Arg.cm (h : Arg W 33 v) : ∃ x : Cm, v = .agg x.cells.toArray ∧ CmOk W W.heap.size x := by
 obtain ⟨⟨cs⟩, rfl, hc⟩ := h.struct Tryz.underlying33;obtain ⟨x, hx, r⟩ := Cel.cm hc;exact ⟨x, by rw [show cs = x.cells from hx], r⟩
instance : Inhabited Cm := ⟨Cm.zero⟩
end
end
end Go.Proofs.YthclniimhpmeoaaGreatDoor
