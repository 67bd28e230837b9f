import Derived.Test.YthclniimhpmeoaaGreatDoorMrM8
import Derived.Test.YthclniimhpmeoaaGreatDoorMrM5
set_option maxHeartbeats 25600000
set_option maxRecDepth 20001
set_option linter.unusedSimpArgs false
set_option linter.unusedVariables false
namespace Go.Proofs.YthclniimhpmeoaaGreatDoor
set_option maxRecDepth 20000
section
open Go.RowKit T
def SlB (w : World) (B : Nat) (v : Value) (l : List UInt8) : Prop :=
 ∃ A c, v = .slice A l.length c ∧ l.length ≤ c ∧ c ≤ maxLen ∧ (A = none → l = [] ∧ c = 0) ∧ Rd w B A (bc l)
section
variable {w w' : World} {B B' : Nat} {v : Value} {l : List UInt8}
theorem SlB.keep (h : SlB w B v l) (hk : ∀ p : Addr, p.block < B → w'.cell? p = w.cell? p) : SlB w' B v l := by
 obtain ⟨A, c, h1, h2, h3, h4, h5⟩ := h;exact ⟨A, c, h1, h2, h3, h4, h5.keep hk⟩
theorem SlB.more (h : SlB w B v l) (hB : B ≤ B') : SlB w B' v l := by
 obtain ⟨A, c, h1, h2, h3, h4, h5⟩ := h;exact ⟨A, c, h1, h2, h3, h4, h5.more hB⟩
theorem SlB.belowM (h : SlB w B v l) (hb : Below B' w w') (hB : B ≤ B') : SlB w' B v l := h.keep fun _ hp => (hb.mono hB).cell hp
theorem SlB.drew (h : SlB w B v l) : SlB w.drew B v l := h.keep fun _ _ => rfl
theorem SlB.ofOwn {base n : Nat} (h : w.ownsRow base 5 1 v n (bc l)) : SlB w w.heap.size v l := by
 obtain ⟨A, c, rfl, hc, hA, hm⟩ := ownShape h;(have hn : n = l.length := by have := h.1; rw [bc_len] at this; omega);subst hn;exact ⟨A, c, rfl, hc, hm, fun h => ⟨List.eq_nil_of_length_eq_zero (hA h).1, (hA h).2⟩, Rd.ofOwn h⟩
theorem SlB.nil : SlB w B (.slice none 0 0) [] := ⟨none, 0, rfl, Nat.zero_le _, by simp [maxLen], fun _ => ⟨rfl, rfl⟩, Rd.nil⟩
end
def Fresh (B : Nat) (v : Value) : Prop := ∀ b, v.ownBlock = some b → B ≤ b
theorem Fresh.mono {B B' : Nat} {v : Value} (h : Fresh B v) (hB : B' ≤ B) : Fresh B' v := fun b hb => Nat.le_trans hB (h b hb)
def GotB (w : World) (l : List UInt8) (e : Ending) (w' : World) : Prop := ∃ v, e = .returned v ∧ SlB w' w'.heap.size v l ∧ Below w.heap.size w w' ∧ Fresh w.heap.size v
theorem GotB.of {w : World} {l : List UInt8} {e : Ending} {w' : World} (h : MadeB w l e w') : GotB w l e w' := by
 obtain ⟨v, h1, h2, h3⟩ := h;exact ⟨v, h1, SlB.ofOwn h2, h3, fun b hb => (h2.lt b hb).1⟩
section
variable {w : World} {B : Nat} {v : Value} {l : List UInt8}
theorem put_s (h : SlB w B v l) (hl : l.length ≤ 549755813888) (hB : B ≤ w.heap.size) (x : Nat) (hx : x < 18446744073709551616) (n : Int) : Calls Tryz.prog 32 #[v, .int .u64 (x : Int), .int .i64 n] w (GotB w (C.put l x n)) := by
 obtain ⟨A, c, rfl, hc, hm, hA, hr⟩ := h;exact (put_any A c l x n w B hl hA hr hB hx).mono fun _ _ h => GotB.of h
theorem puttext_s (h : SlB w B v l) (hl : l.length ≤ 274877906944) (hB : B ≤ w.heap.size) (s : ByteArray) (hs : s.size ≤ 9223372036854775807) : Calls Tryz.prog 111 #[v, .string s] w (GotB w (C.putText l s.data.toList)) := by
 obtain ⟨A, c, rfl, hc, hm, hA, hr⟩ := h;exact (puttext_any A c l s w B hl hA hr hB hs).mono fun _ _ h => GotB.of h
theorem clone_s (h : SlB w B v l) (hl : l.length ≤ 1099511627776) (hB : B ≤ w.heap.size) : Calls Tryz.prog 66 #[v] w (GotB w l) := by
 obtain ⟨A, c, rfl, hc, hm, hA, hr⟩ := h;exact (clone_any A c l w B hl hA hr hB).mono fun _ _ h => GotB.of h
theorem vput_s (h : SlB w B v l) (hl : l.length ≤ 137438953472) (hB : B ≤ w.heap.size) (k : Int) (b : Nat) (t : ByteArray) (bb : b < 18446744073709551616) (hs : t.size ≤ 9223372036854775807) (hT : Tabs w) :
 Calls Tryz.prog 112 #[v, .agg #[.int .i64 k, .int .u64 (b : Int), .string t]] w (GotB w (V.put l k b t.data.toList)) := by
 obtain ⟨A, c, rfl, hc, hm, hA, hr⟩ := h;exact (vput_any A c l b t w B k bb hs hl hA hr hB hT).mono fun _ _ h => GotB.of h
end
theorem sizeTx : (Tryz.prog.info? 30).map (·.size) = some 4 := by kernel_rfl
theorem sizeId : (Tryz.prog.info? 26).map (·.size) = some 2 := by kernel_rfl
theorem sizeRd : (Tryz.prog.info? 161).map (·.size) = some 2 := by kernel_rfl
theorem sizeWr : (Tryz.prog.info? 163).map (·.size) = some 4 := by kernel_rfl
theorem sizeVl : (Tryz.prog.info? 77).map (·.size) = some 3 := by kernel_rfl
theorem encR_one (r : Rd1) : (encR r).toArray.all (·.oneCell') = true := by simp [encR, Value.oneCell']
theorem encW_one (x : Wr1) : (encW x).toArray.all (·.oneCell') = true := by simp [encW, Value.oneCell']
theorem wrapOf {n : Nat} (h : n < 18446744073709551616) : IntKind.u64.wrap (n : Int) = (n : Int) := by
 show (n : Int) % 18446744073709551616 = n;omega
namespace T
def rput (l : List UInt8) (r : Rd1) : List UInt8 := C.put (C.putText l r.1) r.2 8
def wput (l : List UInt8) (x : Wr1) : List UInt8 := V.put (C.putText l x.1) x.2.1 x.2.2.1 x.2.2.2
def idput (l : List UInt8) (s q : Int) : List UInt8 := bif idb s q then C.put (C.put l s.toNat 1) q.toNat 4 else l
def tput (l : List UInt8) (s q : Int) (rs : List Rd1) (ws : List Wr1) : List UInt8 :=
 bif formed s q rs ws then ws.foldl wput (C.put (rs.foldl rput (C.put (idput l s q) rs.length 1)) ws.length 1) else l
def cput (l : List UInt8) (x : Cm) : List UInt8 :=
 bif x.formed then
  (if x.k = 1 then tput (C.put l 1 1) x.s x.q x.rs x.ws else if x.k = 2 then C.put (C.put (idput (C.put l 2 1) x.i x.j) x.g.toNat 1) x.st 8
   else if x.k = 3 then C.put (C.put (idput (C.put l 3 1) x.i x.j) x.g.toNat 1) (if x.y = true then 1 else 0) 1 else C.put l 0 1)
 else l
theorem rput_len (l : List UInt8) (r : Rd1) : (rput l r).length ≤ l.length + 131090 := by
 unfold rput;have h1 := put_len2 (C.putText l r.1) r.2 8;have h2 := puttext_len l r.1;omega
theorem wput_len (l : List UInt8) (x : Wr1) : (wput l x).length ≤ l.length + 131090 := by
 unfold wput;have h1 := V.put_len (C.putText l x.1) x.2.1 x.2.2.1 x.2.2.2;have h2 := puttext_len l x.1;omega
theorem rfold_len (rs : List Rd1) (l : List UInt8) : (rs.foldl rput l).length ≤ l.length + rs.length * 131090 := by
 induction rs generalizing l with
 | nil => simp
 | cons r rs ih => have h1 := ih (rput l r); have h2 := rput_len l r; simp only [List.foldl_cons, List.length_cons]; omega
theorem wfold_len (rs : List Wr1) (l : List UInt8) : (rs.foldl wput l).length ≤ l.length + rs.length * 131090 := by
 induction rs generalizing l with
 | nil => simp
 | cons r rs ih => have h1 := ih (wput l r); have h2 := wput_len l r; simp only [List.foldl_cons, List.length_cons]; omega
theorem idput_len (l : List UInt8) (s q : Int) : (idput l s q).length ≤ l.length + 16 := by
 unfold idput
 cases idb s q with
 | false => simp
 | true => have h1 := put_len2 l s.toNat 1; have h2 := put_len2 (C.put l s.toNat 1) q.toNat 4; simp only [cond_true]; omega
theorem formed_few {s q : Int} {rs : List Rd1} {ws : List Wr1} (h : formed s q rs ws = true) : idb s q = true ∧ rs.length ≤ 6 ∧ ws.length ≤ 6 := by
 unfold formed at h;simp only [Bool.and_eq_true, decide_eq_true_eq] at h;exact ⟨h.1.1.1.1, h.1.1.1.2.1, h.1.1.1.2.2.1⟩
theorem idb_nat {s q : Int} (h : idb s q = true) : ∃ a b : Nat, s = (a : Int) ∧ q = (b : Int) ∧ 1 ≤ a ∧ a ≤ 8 ∧ 1 ≤ b ∧ b ≤ 1048576 := by
 unfold idb at h;rw [decide_eq_true_eq] at h;exact ⟨s.toNat, q.toNat, by omega, by omega, by omega, by omega, by omega, by omega⟩
theorem tput_len (l : List UInt8) (s q : Int) (rs : List Rd1) (ws : List Wr1) : (tput l s q rs ws).length ≤ l.length + 1600000 := by
 unfold tput
 cases h : formed s q rs ws with
 | false => simp
 | true =>
   obtain ⟨h0, h1, h2⟩ := formed_few h;simp only [cond_true];have e1 := idput_len l s q;have e2 := put_len2 (idput l s q) rs.length 1;have e3 := rfold_len rs (C.put (idput l s q) rs.length 1);have e4 := put_len2 (rs.foldl rput (C.put (idput l s q) rs.length 1)) ws.length 1;have e5 := wfold_len ws (C.put (rs.foldl rput (C.put (idput l s q) rs.length 1)) ws.length 1);omega
end T
end
section
open Go.RowKit
def TabsAt (B : Nat) (w : World) : Prop := ∃ W0, Tabs W0 ∧ W0.heap.size ≤ B ∧ Below W0.heap.size W0 w
section
variable {B : Nat} {w w' : World}
theorem TabsAt.of (h : Tabs w) (hB : w.heap.size ≤ B) : TabsAt B w := ⟨w, h, hB, Below.refl _ _⟩
theorem TabsAt.tabs (h : TabsAt B w) : Tabs w := by obtain ⟨W0, h0, _, hb⟩ := h; exact h0.below hb
theorem TabsAt.below {B' : Nat} (h : TabsAt B w) (hb : Below B' w w') (hB : B ≤ B') : TabsAt B w' := by obtain ⟨W0, h0, hs, hb0⟩ := h; exact ⟨W0, h0, hs, hb0.trans (hb.mono (by omega))⟩
theorem TabsAt.belowS (h : TabsAt B w) (hb : Below w.heap.size w w') : TabsAt B w' := by obtain ⟨W0, h0, hs, hb0⟩ := h; exact ⟨W0, h0, hs, hb0.trans (hb.mono hb0.size)⟩
theorem TabsAt.alloc (h : TabsAt B w) (o : Obj) : TabsAt B (w.alloc o) := h.belowS ((Below.refl _ _).alloc (Nat.le_refl _) _)
theorem TabsAt.grown {g : Nat} (h : TabsAt B w) (hg : w.grownBy w' (some g)) (hB : B ≤ g) : TabsAt B w' := by
 obtain ⟨W0, h0, hs, hb0⟩ := h;exact ⟨W0, h0, hs, hb0.grown hg hb0.size (fun q hq => by injection hq with hq; omega)⟩
end
def V.take0 (s : C.St) : (Nat × Nat × List UInt8) × C.St :=
 if (C.take 1 s).1 = 1 then ((1, (C.take 8 (C.take 1 s).2).1, []), (C.take 8 (C.take 1 s).2).2)
 else if (C.take 1 s).1 = 2 then ((2, 0, (C.text 40 (C.take 1 s).2).1), (C.text 40 (C.take 1 s).2).2)
 else (((C.take 1 s).1, 0, []), (C.take 1 s).2)
def V.take (s : C.St) : (Nat × Nat × List UInt8) × C.St :=
 if (V.take0 s).2.2 = true ∨ V.formed (V.take0 s).1.1 (V.take0 s).1.2.1 (V.take0 s).1.2.2 = false then ((0, 0, []), ((V.take0 s).2.1, true)) else V.take0 s
theorem take1_lt (s : C.St) : (C.take 1 s).1 < 256 := take_lt 1 s (by omega)
theorem take8_lt (s : C.St) : (C.take 8 s).1 < 18446744073709551616 := take_lt 8 s (by omega)
theorem RdrAt.lt {z : World} {B g : Nat} {s : C.St} (h : RdrAt z B g s) : g < z.heap.size ∧ B ≤ g := by
 obtain ⟨A, c, h1, _, _, _, _, h2⟩ := h;exact ⟨(Array.getElem?_eq_some_iff.1 h1).1, h2⟩
theorem vfm (k : Int) (b : Nat) (t : ByteArray) (w : World) (hT : Tabs w) : Calls Tryz.prog 108 #[.agg #[.int .i64 k, .int .u64 (b : Int), .string t]] w fun e w' => e = .returned (.bool (V.formed k b t.data.toList)) ∧ Below w.heap.size w w' := formed_any k b t w hT
theorem vt0_1 {s s1 s2 : C.St} {x y : Nat} (e1 : x = (C.take 1 s).1) (e2 : s1 = (C.take 1 s).2) (e3 : y = (C.take 8 s1).1) (e4 : s2 = (C.take 8 s1).2) (h : (x : Int) = 1) : V.take0 s = ((x, y, []), s2) := by
 subst e4; subst e3; subst e2;unfold V.take0; rw [← e1, if_pos (by omega), show x = 1 from by omega]
theorem vt0_2 {s s1 s2 : C.St} {x : Nat} {y : List UInt8} (e1 : x = (C.take 1 s).1) (e2 : s1 = (C.take 1 s).2) (e3 : y = (C.text 40 s1).1) (e4 : s2 = (C.text 40 s1).2) (h : (x : Int) = 2) : V.take0 s = ((x, 0, y), s2) := by
 subst e4; subst e3; subst e2;unfold V.take0; rw [← e1, if_neg (by omega), if_pos (by omega), show x = 2 from by omega]
theorem vt0_o {s s1 : C.St} {x : Nat} (e1 : x = (C.take 1 s).1) (e2 : s1 = (C.take 1 s).2) (h1 : ¬ (x : Int) = 1) (h2 : ¬ (x : Int) = 2) : V.take0 s = ((x, 0, []), s1) := by
 subst e2;unfold V.take0; rw [← e1, if_neg (by omega), if_neg (by omega)]
theorem vt_no {s : C.St} {x : (Nat × Nat × List UInt8) × C.St} (h : V.take0 s = x) (hf : x.2.2 = true ∨ V.formed x.1.1 x.1.2.1 x.1.2.2 = false) : V.take s = ((0, 0, []), (x.2.1, true)) := by unfold V.take; rw [h, if_pos hf]
theorem vt_yes {s : C.St} {x : (Nat × Nat × List UInt8) × C.St} (h : V.take0 s = x) (h1 : (!x.2.2) = true) (h2 : V.formed x.1.1 x.1.2.1 x.1.2.2 = true) : V.take s = x := by unfold V.take; rw [h, if_neg (by rw [h2]; cases hx : x.2.2 <;> simp_all)]
theorem take9s (x : C.St) : (C.take 9 x).2 = (x.1, true) := by
 obtain ⟨l, f⟩ := x;unfold C.take; simp
theorem take9z (x : C.St) : (C.take 9 x).1 = 0 := by
 obtain ⟨l, f⟩ := x;unfold C.take; simp
theorem f_not {b : Bool} (h : b = false) : (!b) = true := by cases b <;> simp_all
theorem lt8 {s : C.St} {y : Nat} (h : y = (C.take 8 s).1) : y < 18446744073709551616 := h ▸ take8_lt s
theorem not_f {b : Bool} (h : (!b) = false) : b = true := by cases b <;> simp_all
theorem w1v {s : C.St} {x : Nat} (h : x = (C.take 1 s).1) : IntKind.i64.wrap (x : Int) = (x : Int) := by have := take1_lt s; rw [IntKind.wrap_i64]; omega
theorem take9_any {B0 g : Nat} {w : World} (s : C.St) (h : RdrAt w B0 g s) : Calls Tryz.prog 39 #[.pointer (some ⟨g, 0, none⟩), .int .i64 9] w fun e w' => e = .returned (.int .u64 0) ∧ RdrAt w' B0 g (s.1, true) ∧ w.grownBy w' (some g) :=
 (take_any B0 g 9 s w h).mono fun e w' q => by
  obtain ⟨q1, q2, q3⟩ := q;rw [take9s] at q2;exact ⟨by rw [q1, take9z]; rfl, q2, q3⟩
theorem vtake_any (B0 g : Nat) (w : World) (s : C.St) (h : RdrAt w B0 g s) (hT : TabsAt B0 w) :
 Calls Tryz.prog 72 #[.pointer (some ⟨g, 0, none⟩)] w fun e w' => e = .returned (V.val ((V.take s).1.1 : Int) (V.take s).1.2.1 ⟨(V.take s).1.2.2.toArray⟩) ∧ RdrAt w' B0 g (V.take s).2 ∧ w.grownBy w' (some g) := by
 have hgw : g < w.heap.size := h.lt.1;have hBg : B0 ≤ g := h.lt.2;have rr := h;have eg := World.grownBy.refl w (some g);have tt := hT
 go_enter Tryz.func72, Tryz.ntmps72
 refine wp_seq_k fun K1 hK1 => wp_region_lit ?_;(with_reducible refine wwP (.cells #[.int .i64 0, .int .u64 0, .string ByteArray.empty] 77) fun g2 z1 hq_ t Zv2 => ?_);have n_g2_rr := ltS hq_ rr.lt.1;have hB_g2 := szS hq_ eg.size;have rr := rr.below t;have tt := tt.belowS t;have eg := gB eg t;(try simp only [zP]);refine wpList_nil (hK1 _ _ (wp_seq_k fun K3 hK3 => wp_region_lit ?_));(with_reducible refine wv (.pointer (some ⟨g, 0, none⟩)) ?_;(try simp only [zP]);refine wc 39 #[.pointer (some ⟨g, 0, none⟩), .int .i64 1] (take_any B0 g 1 s z1 rr) ?_);rintro e z2 ⟨rfl, rr_, g_⟩;refine ⟨_, rfl, ?_⟩;have Zv2 := hG Zv2 g_;have tt := tt.grown g_ hBg;have eg := eg.trans g_;have rr := rr_;obtain ⟨x4, ex4⟩ : ∃ q_, q_ = (C.take 1 s).1 := ⟨_, rfl⟩;obtain ⟨s4, es4⟩ : ∃ q_, q_ = (C.take 1 s).2 := ⟨_, rfl⟩;rw [← es4] at rr;rw [← ex4];(try simp only [zP]);(with_reducible refine wq (.int .i64 (x4 : Int)) (okIntP ((w1v ex4) : IntKind.i64.wrap (x4 : Int) = (x4 : Int)) (by kernel_rfl)) (wv (.agg ([.int .i64 (x4 : Int), .int .u64 0, .string ByteArray.empty]).toArray) (wwP (.cells #[.int .i64 0, .int .u64 0, .string ByteArray.empty] 77) fun g5 z3 hq_ t Zv3 => ?_)));have n_g5_Zv2 := ltG hq_ Zv2;have n_g5_rr := ltS hq_ rr.lt.1;have hB_g5 := szS hq_ eg.size;have rr := rr.below t;have tt := tt.belowS t;have eg := gB eg t;have Zv2 := hpB Zv2 t;(try simp only [zP]);(with_reducible refine wsR 77 (g5) ([.int .i64 (x4 : Int), .int .u64 0, .string ByteArray.empty]).toArray Zv3 fun z4 hz_ g_ N_ => ?_);have rr := rr.oth g_;have tt := tt.grown g_ (by omega);have eg := gN eg g_;have Zv2 := hG Zv2 g_;have Zv3 := N_;(try simp only [zP]);refine wpList_nil (hK3 _ _ (wp_seq_k fun K6 hK6 => nameA fun AK6 hA_ => ?_))
 have hjK6 : ∀ (uK6 : Nat → Nat → Value) (yj : Nat) (tj : List UInt8) (sj : C.St) (zj6 : World), zj6.heap[g2]? = some (.cells #[.int .i64 0, .int .u64 0, .string ByteArray.empty] 77 (0, 0)) → zj6.heap[g5]? = some (.cells ([.int .i64 (x4 : Int), .int .u64 (yj : Int), .string (⟨tj.toArray⟩ : ByteArray)]).toArray 77 (0, 0)) → RdrAt zj6 B0 g sj → TabsAt B0 zj6 → w.grownBy zj6 (some g) → V.take0 s = ((x4, yj, tj), sj) → K6 (slR AK6 [(8, 12, 20)] uK6) zj6 := by
  subst hA_;intro uK6 yj tj sj zj6 Zv2 Zv3 rr tt eg ht0;refine hK6 _ _ ?_;simp only [fR, nP, nN, nA, n0, nS];refine wp_seq_k fun K8 hK8 => wp_seq_k fun K9 hK9 => wp_region_lit ?_;(with_reducible refine wv (.pointer (some ⟨g, 0, none⟩)) ?_;(try simp only [zP]);refine wcS (ok_any B0 g sj zj6 rr) ?_);generalize hb10 : (!sj.2) = b10;(try simp only [zP]);cases b10
  ·(with_reducible refine wv (.bool true) ?_);(try simp only [zP]);(with_reducible refine wv (.bool true) ?_);(iterate 3 (with_reducible refine wk ?_));(with_reducible refine wv (.bool true) ?_);(try simp only [zP]);refine wpList_nil (hK9 _ _ (wdT (wp_seq_k fun K11 hK11 => wp_region_lit ?_)));(with_reducible refine wv (.pointer (some ⟨g, 0, none⟩)) ?_;(try simp only [zP]);refine wc 39 #[.pointer (some ⟨g, 0, none⟩), .int .i64 9] (take9_any sj rr) ?_);rintro e z6 ⟨rfl, rr_, g_⟩;refine ⟨_, rfl, ?_⟩;have Zv2 := hG Zv2 g_;have eg := eg.trans g_;have rr := rr_;(try simp only [zP]);refine wpList_nil (hK11 _ _ (wp_seq_k fun K12 hK12 => wp_region_lit ?_));(with_reducible refine wv (.agg ([.int .i64 0, .int .u64 0, .string ByteArray.empty]).toArray) ?_;(try simp only [zP]);refine wsR 77 (g2) ([.int .i64 0, .int .u64 0, .string ByteArray.empty]).toArray Zv2 fun z7 hz_ g_ N_ => ?_);have rr := rr.oth g_;have eg := gN eg g_;have Zv2 := N_;(try simp only [zP]);refine wpList_nil (hK12 _ _ (wp_ret (then_ret ?_)));have ht := vt_no ht0 (.inl (not_f hb10));exact bodyPost_ret (v := .agg ([.int .i64 0, .int .u64 0, .string ByteArray.empty]).toArray) (results_cell_row rfl _ _ g2 77 _ (0, 0) _ rfl Zv2 Tryz.underlying77 rfl sizeVl) rfl (by rw [ht]; exact ⟨rfl, rr, eg⟩)
  (iterate 2 (with_reducible refine wv (.bool false) ?_));(with_reducible refine wg (g5) (0) ([.int .i64 (x4 : Int), .int .u64 (yj : Int), .string (⟨tj.toArray⟩ : ByteArray)]) (rowAt Zv3) Tryz.underlying77 ?_;(try simp only [zP]);refine wcR (vfm (x4 : Int) yj ((⟨tj.toArray⟩ : ByteArray)) zj6 tt.tabs) fun z6 t => ?_);have rr := rr.below t;have eg := gB eg t;have Zv2 := hpB Zv2 t;have Zv3 := hpB Zv3 t;generalize hb13 : V.formed (x4 : Int) yj ((⟨tj.toArray⟩ : ByteArray)).data.toList = b13;(try simp only [zP]);cases b13;rotate_left
  ·(iterate 2 (with_reducible refine wv (.bool false) ?_));(try simp only [zP]);refine wpList_nil (hK9 _ _ (wdF (wp_skip (hK8 _ _ (wp_seq_k fun K16 hK16 => ?_)))));refine wp_region_lit ?_;(with_reducible refine wg (g5) (0) ([.int .i64 (x4 : Int), .int .u64 (yj : Int), .string (⟨tj.toArray⟩ : ByteArray)]) (rowAt Zv3) Tryz.underlying77 ?_;(try simp only [zP]);refine wsR 77 (g2) ([.int .i64 (x4 : Int), .int .u64 (yj : Int), .string (⟨tj.toArray⟩ : ByteArray)]).toArray Zv2 fun z7 hz_ g_ N_ => ?_);have rr := rr.oth g_;have eg := gN eg g_;have Zv2 := N_;(try simp only [zP]);refine wpList_nil (hK16 _ _ (wp_ret ?_));have ht := vt_yes ht0 hb10 hb13;exact bodyPost_ret (v := .agg ([.int .i64 (x4 : Int), .int .u64 (yj : Int), .string (⟨tj.toArray⟩ : ByteArray)]).toArray) (results_cell_row rfl _ _ g2 77 _ (0, 0) _ rfl Zv2 Tryz.underlying77 rfl sizeVl) rfl (by rw [ht]; exact ⟨rfl, rr, eg⟩)
  (with_reducible refine wv (.bool true) ?_);(try simp only [zP]);(with_reducible refine wv (.bool true) ?_);(try simp only [zP]);refine wpList_nil (hK9 _ _ (wdT (wp_seq_k fun K14 hK14 => wp_region_lit ?_)));(with_reducible refine wv (.pointer (some ⟨g, 0, none⟩)) ?_;(try simp only [zP]);refine wc 39 #[.pointer (some ⟨g, 0, none⟩), .int .i64 9] (take9_any sj rr) ?_);rintro e z7 ⟨rfl, rr_, g_⟩;refine ⟨_, rfl, ?_⟩;have Zv2 := hG Zv2 g_;have eg := eg.trans g_;have rr := rr_;(try simp only [zP]);refine wpList_nil (hK14 _ _ (wp_seq_k fun K15 hK15 => wp_region_lit ?_));(with_reducible refine wv (.agg ([.int .i64 0, .int .u64 0, .string ByteArray.empty]).toArray) ?_;(try simp only [zP]);refine wsR 77 (g2) ([.int .i64 0, .int .u64 0, .string ByteArray.empty]).toArray Zv2 fun z8 hz_ g_ N_ => ?_);have rr := rr.oth g_;have eg := gN eg g_;have Zv2 := N_;(try simp only [zP]);refine wpList_nil (hK15 _ _ (wp_ret (then_ret ?_)));have ht := vt_no ht0 (.inr hb13);exact bodyPost_ret (v := .agg ([.int .i64 0, .int .u64 0, .string ByteArray.empty]).toArray) (results_cell_row rfl _ _ g2 77 _ (0, 0) _ rfl Zv2 Tryz.underlying77 rfl sizeVl) rfl (by rw [ht]; exact ⟨rfl, rr, eg⟩)
 subst hA_;refine wp_seq_k fun K17 hK17 => wp_region_lit ?_;(with_reducible refine wv (.pointer (some ⟨g5, 0, none⟩)) (wl (.int .i64 ((x4 : Int))) ⟨g5, 0, none⟩ (rowCell Zv3 (0) rfl) Tryz.underlying3 ?_));(try simp only [zP]);refine wpList_nil (hK17 _ _ (wp_block (wp_seq_k fun K18 hK18 => wp_region_lit ?_)));obtain ⟨b19, hb19⟩ := exB (decide ((x4 : Int) = 1));(with_reducible refine wb (.bool b19) (.int .i64 ((x4 : Int))) (.int .i64 1) 3 (run_eqlI hb19) (wv (.bool b19) ?_));(try simp only [zP]);refine wpList_nil (hK18 _ _ ?_);cases b19;rotate_left
 ·have pb19 : (x4 : Int) = 1 := dT hb19;refine wdT (wp_region_lit ?_);(with_reducible refine wv (.pointer (some ⟨g, 0, none⟩)) ?_;(try simp only [zP]);refine wc 39 #[.pointer (some ⟨g, 0, none⟩), .int .i64 8] (take_any B0 g 8 s4 z4 rr) ?_);rintro e z5 ⟨rfl, rr_, g_⟩;refine ⟨_, rfl, ?_⟩;have Zv2 := hG Zv2 g_;have Zv3 := hG Zv3 g_;have tt := tt.grown g_ hBg;have eg := eg.trans g_;have rr := rr_;obtain ⟨x23, ex23⟩ : ∃ q_, q_ = (C.take 8 s4).1 := ⟨_, rfl⟩;obtain ⟨s23, es23⟩ : ∃ q_, q_ = (C.take 8 s4).2 := ⟨_, rfl⟩;rw [← es23] at rr;rw [← ex23];(try simp only [zP]);(with_reducible refine wv (.pointer (some ⟨g5, 1, none⟩)) ?_;(try simp only [zP]);refine wsC 31 (g5) (1) (.int .u64 (x23 : Int)) ([.int .u64 (x23 : Int)]) ([.int .i64 (x4 : Int), .int .u64 (x23 : Int), .string ByteArray.empty]) Zv3 fun z6 hz_ g_ N_ => ?_);have rr := rr.oth g_;have tt := tt.grown g_ (by omega);have eg := gN eg g_;have Zv2 := hG Zv2 g_;have Zv3 := N_;(try simp only [zP]);refine wpList_nil (inBlock_normal ?_);exact jE fun u_ => hjK6 u_ x23 [] s23 _ Zv2 Zv3 rr tt eg (vt0_1 ex4 es4 ex23 es23 pb19)
 have pb19 := dF hb19;refine wdF (wp_seq_k fun K20 hK20 => wp_region_lit ?_);obtain ⟨b21, hb21⟩ := exB (decide ((x4 : Int) = 2));(with_reducible refine wb (.bool b21) (.int .i64 ((x4 : Int))) (.int .i64 2) 3 (run_eqlI hb21) (wv (.bool b21) ?_));(try simp only [zP]);refine wpList_nil (hK20 _ _ ?_);cases b21
 ·have pb21 := dF hb21;refine wdF (wp_skip (inBlock_normal ?_));exact jE fun u_ => hjK6 u_ 0 [] s4 _ Zv2 Zv3 rr tt eg (vt0_o ex4 es4 pb19 pb21)
 have pb21 : (x4 : Int) = 2 := dT hb21;refine wdT (wp_region_lit ?_);(with_reducible refine wv (.pointer (some ⟨g, 0, none⟩)) ?_;(try simp only [zP]);refine wc 71 #[.pointer (some ⟨g, 0, none⟩), .int .i64 40] (text_any B0 g 40 s4 z4 rr) ?_);rintro e z5 ⟨rfl, rr_, g_⟩;refine ⟨_, rfl, ?_⟩;have Zv2 := hG Zv2 g_;have Zv3 := hG Zv3 g_;have tt := tt.grown g_ hBg;have eg := eg.trans g_;have rr := rr_;obtain ⟨x22, ex22⟩ : ∃ q_, q_ = (C.text 40 s4).1 := ⟨_, rfl⟩;obtain ⟨s22, es22⟩ : ∃ q_, q_ = (C.text 40 s4).2 := ⟨_, rfl⟩;rw [← es22] at rr;rw [← ex22];(try simp only [zP]);(with_reducible refine wv (.pointer (some ⟨g5, 2, none⟩)) ?_;(try simp only [zP]);refine wsC 9 (g5) (2) (.string ((⟨x22.toArray⟩ : ByteArray))) ([.string ((⟨x22.toArray⟩ : ByteArray))]) ([.int .i64 (x4 : Int), .int .u64 0, .string ((⟨x22.toArray⟩ : ByteArray))]) Zv3 fun z6 hz_ g_ N_ => ?_);have rr := rr.oth g_;have tt := tt.grown g_ (by omega);have eg := gN eg g_;have Zv2 := hG Zv2 g_;have Zv3 := N_;(try simp only [zP]);refine wpList_nil (inBlock_normal ?_);exact jE fun u_ => hjK6 u_ 0 x22 s22 _ Zv2 Zv3 rr tt eg (vt0_2 ex4 es4 ex22 es22 pb21)
end
section
open Go.RowKit T
theorem some_app (k : Nat) (a r : List UInt8) (h : a.length = k) : C.some_ k (a ++ r, false) = (a, (r, false)) := by
 unfold C.some_;rw [if_neg (by simp; omega)];simp [h]
theorem take_app (k : Nat) (x : Nat) (r : List UInt8) (h : k ≤ 8) : C.take (k : Int) (C.be x k ++ r, false) = (x % 256 ^ k, (r, false)) := by
 unfold C.take;rw [if_neg (by omega), Int.toNat_natCast, some_app k _ _ (C.be_len x k), C.val_be]
theorem text_app (most : Int) (s : List UInt8) (r : List UInt8) (h : s.length < 65536) (hm : (s.length : Int) ≤ most) : C.text most (C.be s.length 2 ++ s ++ r, false) = (s, (r, false)) := by
 unfold C.text;rw [List.append_assoc, show (2 : Int) = ((2 : Nat) : Int) from rfl, take_app 2 s.length (s ++ r) (by omega)];rw [show s.length % 256 ^ 2 = s.length from Nat.mod_eq_of_lt (by omega)];simp only [show decide (most < (s.length : Int)) = false from by simp; omega, Bool.or_false];exact some_app _ _ _ rfl
theorem take1 (x : Nat) (h : x < 256) (r : List UInt8) : C.take 1 (C.be x 1 ++ r, false) = (x, (r, false)) := by
 have := take_app 1 x r (by omega);rw [Nat.mod_eq_of_lt (by simpa using h)] at this;exact this
theorem take4 (x : Nat) (h : x < 4294967296) (r : List UInt8) : C.take 4 (C.be x 4 ++ r, false) = (x, (r, false)) := by
 have := take_app 4 x r (by omega);rw [Nat.mod_eq_of_lt (by simpa using h)] at this;exact this
theorem take8 (x : Nat) (h : x < 18446744073709551616) (r : List UInt8) : C.take 8 (C.be x 8 ++ r, false) = (x, (r, false)) := by
 have := take_app 8 x r (by omega);rw [Nat.mod_eq_of_lt (by simpa using h)] at this;exact this
theorem put1 (l : List UInt8) (x : Nat) : C.put l x 1 = l ++ C.be x 1 := rfl
theorem put4 (l : List UInt8) (x : Nat) : C.put l x 4 = l ++ C.be x 4 := rfl
theorem put8 (l : List UInt8) (x : Nat) : C.put l x 8 = l ++ C.be x 8 := rfl
theorem text_short (l t : List UInt8) (h : t.length < 65536) : C.putText l t = l ++ (C.be t.length 2 ++ t) := by
 unfold C.putText;rw [show min t.length 65535 = t.length by omega, List.take_length, List.append_assoc]
namespace T
def idtake (s : C.St) : (Nat × Nat) × C.St :=
 bif (C.take 4 (C.take 1 s).2).2.2 || !idb ((C.take 1 s).1 : Int) ((C.take 4 (C.take 1 s).2).1 : Int) then ((0, 0), ((C.take 4 (C.take 1 s).2).2.1, true))
 else (((C.take 1 s).1, (C.take 4 (C.take 1 s).2).1), (C.take 4 (C.take 1 s).2).2)
def rtake (s : C.St) : Rd1 × C.St := (((C.text 12 s).1, (C.take 8 (C.text 12 s).2).1), (C.take 8 (C.text 12 s).2).2)
def wtake (s : C.St) : Wr1 × C.St := (((C.text 12 s).1, ((V.take (C.text 12 s).2).1.1 : Int), (V.take (C.text 12 s).2).1.2.1, (V.take (C.text 12 s).2).1.2.2), (V.take (C.text 12 s).2).2)
def many {α : Type} (f : C.St → α × C.St) : Nat → List α × C.St → List α × C.St
 | 0, a => a
 | n + 1, a => many f n (a.1 ++ [(f a.2).1], (f a.2).2)
def six {α : Type} (a : List α × C.St) : C.St := bif decide (6 < a.1.length) then (a.2.1, true) else a.2
def ttake0 (s : C.St) : ((Nat × Nat) × List Rd1 × List Wr1) × C.St :=
 let i := idtake s
 let n := C.take 1 i.2
 let R := many rtake (min n.1 7) ([], n.2)
 let m := C.take 1 (six R)
 let Ws := many wtake (min m.1 7) ([], m.2)
 ((i.1, R.1, Ws.1), Ws.2)
def ttake (s : C.St) : ((Nat × Nat) × List Rd1 × List Wr1) × C.St :=
 bif (ttake0 s).2.2 || !formed (ttake0 s).1.1.1 (ttake0 s).1.1.2 (ttake0 s).1.2.1 (ttake0 s).1.2.2 then (((0, 0), [], []), ((ttake0 s).2.1, true)) else ttake0 s
end T
theorem idback (s q : Nat) (h : idb (s : Int) (q : Int) = true) (r : List UInt8) : idtake (idput [] (s : Int) (q : Int) ++ r, false) = ((s, q), (r, false)) := by
 obtain ⟨a, b, h1, h2, h3, h4, h5, h6⟩ := idb_nat h;(have e1 : s = a := by omega);(have e2 : q = b := by omega);subst e1; subst e2;(have e : idput [] (s : Int) (q : Int) = C.be s 1 ++ C.be q 4 := by unfold idput; rw [h]; rfl);unfold idtake;rw [e, List.append_assoc, take1 s (by omega)];simp only;rw [take4 q (by omega), h];rfl
theorem idput_app (l : List UInt8) (s q : Int) : idput l s q = l ++ idput [] s q := by
 unfold idput
 cases idb s q with
 | false => simp
 | true => simp [put1, put4]
theorem rput_app (l : List UInt8) (x : Rd1) : rput l x = l ++ rput [] x := by unfold rput C.putText; simp [put8]
theorem V.put_app (l : List UInt8) (k : Int) (b : Nat) (t : List UInt8) : V.put l k b t = l ++ V.put [] k b t := by
 unfold V.put C.putText
 split
 ·split
  ·simp [put1, put8]
  ·split
   ·simp [put1]
   ·simp [put1]
 ·simp
theorem wput_app (l : List UInt8) (x : Wr1) : wput l x = l ++ wput [] x := by
 unfold wput;rw [V.put_app, V.put_app (C.putText [] x.1)];unfold C.putText;simp
theorem fold_app {α : Type} (f : List UInt8 → α → List UInt8) (hf : ∀ l x, f l x = l ++ f [] x) (xs : List α) (l : List UInt8) : xs.foldl f l = l ++ xs.foldl f [] := by
 induction xs generalizing l with
 | nil => simp
 | cons x xs ih => rw [List.foldl_cons, ih, List.foldl_cons, ih (f [] x), hf l x, List.append_assoc]
theorem many_app {α : Type} (f : C.St → α × C.St) (p : List UInt8 → α → List UInt8) (hp : ∀ l x, p l x = l ++ p [] x) (P : α → Prop) (hf : ∀ x r, P x → f (p [] x ++ r, false) = (x, (r, false))) :
 ∀ (xs : List α) (acc : List α) (r : List UInt8), (∀ x ∈ xs, P x) → many f xs.length (acc, (xs.foldl p [] ++ r, false)) = (acc ++ xs, (r, false))
 | [], acc, r, _ => by simp [many]
 | x :: xs, acc, r, h => by
   rw [List.foldl_cons, fold_app p hp, List.append_assoc];show many f xs.length (acc ++ [(f (p [] x ++ (xs.foldl p [] ++ r), false)).1], (f (p [] x ++ (xs.foldl p [] ++ r), false)).2) = _;rw [hf x _ (h x (by simp))];rw [many_app f p hp P hf xs (acc ++ [x]) r (fun y hy => h y (by simp [hy]))];simp
theorem good_key {l : List (List UInt8)} (h : rises l = true) : ∀ x ∈ l, V.key x = true := by
 intro x hx;obtain ⟨i, hi, rfl⟩ := List.getElem_of_mem hx;have := (rises_iff l).1 h i hi;unfold good at this;rw [List.getElem?_eq_getElem hi, Bool.and_eq_true] at this;exact this.1
theorem key_len {t : List UInt8} (h : V.key t = true) : t.length ≤ 12 := by
 unfold V.key at h;simp at h;omega
theorem rback (x : Rd1) (r : List UInt8) (h : x.1.length ≤ 12 ∧ x.2 < 18446744073709551616) : rtake (rput [] x ++ r, false) = (x, (r, false)) := by
 (have e : rput [] x ++ r = C.be x.1.length 2 ++ x.1 ++ (C.be x.2 8 ++ r) := by unfold rput; rw [put8, text_short _ _ (by omega)]; simp);unfold rtake;rw [e, text_app 12 x.1 _ (by omega) (by omega)];simp only;rw [take8 x.2 h.2]
theorem vback (k : Int) (b : Nat) (t : List UInt8) (r : List UInt8) (hb : b < 18446744073709551616) (h : V.formed k b t = true) : ((V.take (V.put [] k b t ++ r, false)).1.1 : Int) = k ∧ (V.take (V.put [] k b t ++ r, false)).1.2.1 = b ∧ (V.take (V.put [] k b t ++ r, false)).1.2.2 = t ∧ (V.take (V.put [] k b t ++ r, false)).2 = (r, false) := by
 have key : ∀ (k' : Nat) (u : (Nat × Nat × List UInt8) × C.St), (k' : Int) = k → V.take0 (V.put [] k b t ++ r, false) = ((k', b, t), (r, false)) → ((V.take (V.put [] k b t ++ r, false)).1.1 : Int) = k ∧ (V.take (V.put [] k b t ++ r, false)).1.2.1 = b ∧ (V.take (V.put [] k b t ++ r, false)).1.2.2 = t ∧ (V.take (V.put [] k b t ++ r, false)).2 = (r, false) := by
  intro k' u hk e
  have e2 : V.take (V.put [] k b t ++ r, false) = ((k', b, t), (r, false)) := by
   unfold V.take;rw [e, if_neg (by simp; rw [hk, h])]
  rw [e2];exact ⟨hk, rfl, rfl, rfl⟩
 rcases formed_kind h with rfl | rfl | rfl
 ·(have h0 : b = 0 ∧ t = [] := by unfold V.formed at h; simpa using h);obtain ⟨rfl, rfl⟩ := h0;refine key 0 default rfl ?_;(have e : V.put [] 0 0 [] = C.be 0 1 := by unfold V.put; rw [h]; rfl);unfold V.take0;rw [e, take1 0 (by omega)];rfl
 ·(have h0 : t = [] := by unfold V.formed at h; simp at h; exact h.1);subst h0;refine key 1 default rfl ?_;(have e : V.put [] 1 b [] = C.be 1 1 ++ C.be b 8 := by unfold V.put; rw [h]; rfl);unfold V.take0;rw [e, List.append_assoc, take1 1 (by omega)];simp only;rw [take8 b hb, if_pos trivial]
 ·(have h0 : b = 0 ∧ t.length ≤ 40 := by unfold V.formed at h; simp at h; exact h.1);obtain ⟨rfl, hl⟩ := h0;refine key 2 default rfl ?_;(have e : V.put [] 2 0 t ++ r = C.be 2 1 ++ (C.be t.length 2 ++ t ++ r) := by unfold V.put; rw [h]; simp [text_short _ _ (show t.length < 65536 by omega), put1]);unfold V.take0;rw [e, take1 2 (by omega)];simp only;rw [text_app 40 t r (by omega) (by omega), if_neg (by simp), if_pos trivial]
theorem wback (x : Wr1) (r : List UInt8) (h : x.1.length ≤ 12 ∧ x.2.2.1 < 18446744073709551616 ∧ V.formed x.2.1 x.2.2.1 x.2.2.2 = true) : wtake (wput [] x ++ r, false) = (x, (r, false)) := by
 (have e : wput [] x ++ r = C.be x.1.length 2 ++ x.1 ++ (V.put [] x.2.1 x.2.2.1 x.2.2.2 ++ r) := by unfold wput; rw [V.put_app, text_short _ _ (by omega)]; simp);obtain ⟨h1, h2, h3, h4⟩ := vback x.2.1 x.2.2.1 x.2.2.2 r h.2.1 h.2.2;unfold wtake;rw [e, text_app 12 x.1 _ (by omega) (by omega)];simp only;rw [h1, h2, h3, h4]
theorem formed_all {s q : Int} {rs : List Rd1} {ws : List Wr1} (h : formed s q rs ws = true) : (∀ x ∈ rs, x.1.length ≤ 12) ∧ (∀ x ∈ ws, x.1.length ≤ 12 ∧ V.formed x.2.1 x.2.2.1 x.2.2.2 = true) := by
 unfold formed at h;rw [Bool.and_eq_true, Bool.and_eq_true, Bool.and_eq_true] at h;refine ⟨fun x hx => key_len (good_key h.1.1.2 _ (List.mem_map.2 ⟨x, hx, rfl⟩)), fun x hx => ⟨key_len (good_key h.1.2 _ (List.mem_map.2 ⟨x, hx, rfl⟩)), ?_⟩⟩;exact List.all_eq_true.1 h.2 x hx
theorem tback (s q : Nat) (rs : List Rd1) (ws : List Wr1) (r : List UInt8) (h : formed (s : Int) (q : Int) rs ws = true) (ho : ∀ x ∈ rs, okR x) (hw : ∀ x ∈ ws, okW x) :
 ttake (tput [] (s : Int) (q : Int) rs ws ++ r, false) = (((s, q), rs, ws), (r, false)) := by
 obtain ⟨hi, h6, h7⟩ := formed_few h;obtain ⟨hr, hws⟩ := formed_all h
 have e : tput [] (s : Int) (q : Int) rs ws ++ r = idput [] (s : Int) (q : Int) ++ (C.be rs.length 1 ++ (rs.foldl rput [] ++ (C.be ws.length 1 ++ (ws.foldl wput [] ++ r)))) := by
  unfold tput;rw [h, cond_true, fold_app wput wput_app, put1, fold_app rput rput_app, put1];simp only [List.append_assoc]
 have m1 := many_app rtake rput rput_app (fun x => x.1.length ≤ 12 ∧ x.2 < 18446744073709551616) rback rs [] (C.be ws.length 1 ++ (ws.foldl wput [] ++ r)) (fun x hx => ⟨hr x hx, (ho x hx).2⟩);have m2 := many_app wtake wput wput_app (fun x => x.1.length ≤ 12 ∧ x.2.2.1 < 18446744073709551616 ∧ V.formed x.2.1 x.2.2.1 x.2.2.2 = true) wback ws [] r (fun x hx => ⟨(hws x hx).1, (hw x hx).2.1, (hws x hx).2⟩)
 have e0 : ttake0 (tput [] (s : Int) (q : Int) rs ws ++ r, false) = (((s, q), rs, ws), (r, false)) := by
  unfold ttake0;rw [e];simp only [idback s q hi, take1 rs.length (by omega), show min rs.length 7 = rs.length by omega, m1]
  have : six (([] : List Rd1) ++ rs, (C.be ws.length 1 ++ (ws.foldl wput [] ++ r), false)) = (C.be ws.length 1 ++ (ws.foldl wput [] ++ r), false) := by
   unfold six;rw [decide_eq_false (by simp; omega)]; rfl
  rw [this];simp only [take1 ws.length (by omega), show min ws.length 7 = ws.length by omega, m2, List.nil_append]
 unfold ttake;rw [e0, h];rfl
end
end Go.Proofs.YthclniimhpmeoaaGreatDoor
