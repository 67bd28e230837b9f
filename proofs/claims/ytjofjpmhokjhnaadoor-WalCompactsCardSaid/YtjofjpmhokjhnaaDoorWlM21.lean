/- Appends of bytes that lie behind bytes that are owned, in plain regions and in those that draw. Conditions: sizes. -/
import Derived.Test.YtjofjpmhokjhnaaDoorWlM5
import Derived.Test.YtjofjpmhokjhnaaDoorWlM14
import Derived.Test.YtjofjpmhokjhnaaDoorWlM12
namespace Go.Proofs.YtjofjpmhokjhnaaDoor
set_option maxRecDepth 20000
open Go.RowKit
set_option linter.unusedSimpArgs false
set_option linter.unusedVariables false

/-- a value's bytes behind bytes -/
def V.put (l : List UInt8) (k : Int) (b : Nat) (t : List UInt8) : List UInt8 :=
  if V.formed k b t = true then (if k = 1 then C.put (C.put l 1 1) b 8 else if k = 2 then C.putText (C.put l 2 1) t else C.put l 0 1) else l
theorem put_len2 (l : List UInt8) (x : Nat) (n : Int) : (C.put l x n).length ≤ l.length + 8 := by unfold C.put; rw [List.length_append, C.be_len]; have := C.clamp8_le n; omega
theorem puttext_len (l : List UInt8) (t : List UInt8) : (C.putText l t).length ≤ l.length + 65537 := by
  unfold C.putText; simp only [List.length_append, C.be_len, List.length_take]; omega
theorem V.put_len (l : List UInt8) (k : Int) (b : Nat) (t : List UInt8) : (V.put l k b t).length ≤ l.length + 65545 := by
  unfold V.put
  have h0 := put_len2 l 0 1
  have h1 := put_len2 l 1 1
  have h2 := put_len2 (C.put l 1 1) b 8
  have h3 := put_len2 l 2 1
  have h4 := puttext_len (C.put l 2 1) t
  split
  · split
    · omega
    · split <;> omega
  · omega

section
variable (A : Option Addr) (c : Nat) (l : List UInt8) (b : Nat) (t : ByteArray) (w : World) (B0 : Nat)
set_option maxHeartbeats 1600000 in
theorem vput_none (k : Int) (hl : l.length ≤ 137438953472) (hA : A = none → l = [] ∧ c = 0) (hr : Rd w B0 A (bc l)) (hB : B0 ≤ w.heap.size) (hT : Tabs w) (hf : V.formed k b t.data.toList = false) :
    Calls Tryd.prog 68 #[.slice A l.length c, .agg #[.int .i64 k, .int .u64 (b : Int), .string t]] w (MadeB w (l)) := by
  have HF := Lib.hid (fun z (hz : Tabs z) => formed_any k b t z hz)
  rw [hf] at HF
  unfold V.val at HF
  have hT1 := Lib.hid (show Tabs (w.alloc (.cells #[.int .i64 k, .int .u64 b, .string t] 35)) from hT.below ((Below.refl _ _).alloc (Nat.le_refl _) _))
  have g0 := (Below.refl w.heap.size w).alloc (Nat.le_refl _) (.cells #[.int .i64 k, .int .u64 b, .string t] 35)
  have c1 := Lib.hid (cell3 w (.int .i64 k) (.int .u64 b) (.string t) 35)
  clear hf hT
  go_enter Tryd.func68, Tryd.ntmps68
  go_wp2_with fail
  refine (HF.out _ hT1.out).mono ?_
  rintro e w1 ⟨rfl, b1⟩
  obtain ⟨a1, a2, a3⟩ := c1.out
  have d1 := cellB b1 a1
  have d2 := cellB b1 a2
  have d3 := cellB b1 a3
  have e1 := g0.trans (b1.mono g0.size)
  have hr1 := hr.belowM e1 hB
  have s1 := e1.size
  clear a1 a2 a3 c1 b1 g0 hT1 HF
  go_wp2_with fail
  refine (clone_any A c l w1 B0 (by omega) hA hr1 (by omega)).mono ?_
  rintro e w2 ⟨v, rfl, o2, b2⟩
  go_wp2_with fail
  go_ret
  exact ⟨_, rfl, ownMore o2 s1, e1.trans (b2.mono s1)⟩
set_option maxHeartbeats 1600000 in
theorem vput_0 (hl : l.length ≤ 137438953472) (hA : A = none → l = [] ∧ c = 0) (hr : Rd w B0 A (bc l)) (hB : B0 ≤ w.heap.size) (hT : Tabs w) (hf : V.formed 0 b t.data.toList = true) :
    Calls Tryd.prog 68 #[.slice A l.length c, .agg #[.int .i64 0, .int .u64 (b : Int), .string t]] w (MadeB w (C.put l 0 1)) := by
  have HF := Lib.hid (fun z (hz : Tabs z) => formed_any 0 b t z hz)
  rw [hf] at HF
  unfold V.val at HF
  have hT1 := Lib.hid (show Tabs (w.alloc (.cells #[.int .i64 0, .int .u64 b, .string t] 35)) from hT.below ((Below.refl _ _).alloc (Nat.le_refl _) _))
  have g0 := (Below.refl w.heap.size w).alloc (Nat.le_refl _) (.cells #[.int .i64 0, .int .u64 b, .string t] 35)
  have c1 := Lib.hid (cell3 w (.int .i64 0) (.int .u64 b) (.string t) 35)
  clear hf hT
  go_enter Tryd.func68, Tryd.ntmps68
  go_wp2_with fail
  refine (HF.out _ hT1.out).mono ?_
  rintro e w1 ⟨rfl, b1⟩
  obtain ⟨a1, a2, a3⟩ := c1.out
  have d1 := cellB b1 a1
  have d2 := cellB b1 a2
  have d3 := cellB b1 a3
  have e1 := g0.trans (b1.mono g0.size)
  have hr1 := hr.belowM e1 hB
  have s1 := e1.size
  clear a1 a2 a3 c1 b1 g0 hT1 HF
  go_wp2_with fail
  refine (put_any A c l 0 1 w1 B0 (by omega) hA hr1 (by omega) (by omega)).mono ?_
  rintro e w2 ⟨v, rfl, o2, b2⟩
  have d1 := cellB b2 d1
  go_wp2_with fail
  go_ret
  exact ⟨_, rfl, ownMore o2 s1, e1.trans (b2.mono s1)⟩
set_option maxHeartbeats 1600000 in
theorem vput_1 (bb : b < 18446744073709551616) (hl : l.length ≤ 137438953472) (hA : A = none → l = [] ∧ c = 0) (hr : Rd w B0 A (bc l)) (hB : B0 ≤ w.heap.size) (hT : Tabs w) (hf : V.formed 1 b t.data.toList = true) :
    Calls Tryd.prog 68 #[.slice A l.length c, .agg #[.int .i64 1, .int .u64 (b : Int), .string t]] w (MadeB w (C.put (C.put l 1 1) b 8)) := by
  have HF := Lib.hid (fun z (hz : Tabs z) => formed_any 1 b t z hz)
  rw [hf] at HF
  unfold V.val at HF
  have hT1 := Lib.hid (show Tabs (w.alloc (.cells #[.int .i64 1, .int .u64 b, .string t] 35)) from hT.below ((Below.refl _ _).alloc (Nat.le_refl _) _))
  have g0 := (Below.refl w.heap.size w).alloc (Nat.le_refl _) (.cells #[.int .i64 1, .int .u64 b, .string t] 35)
  have c1 := Lib.hid (cell3 w (.int .i64 1) (.int .u64 b) (.string t) 35)
  clear hf hT
  go_enter Tryd.func68, Tryd.ntmps68
  go_wp2_with fail
  refine (HF.out _ hT1.out).mono ?_
  rintro e w1 ⟨rfl, b1⟩
  obtain ⟨a1, a2, a3⟩ := c1.out
  have d1 := cellB b1 a1
  have d2 := cellB b1 a2
  have d3 := cellB b1 a3
  have e1 := g0.trans (b1.mono g0.size)
  have hr1 := hr.belowM e1 hB
  have s1 := e1.size
  clear a1 a2 a3 c1 b1 g0 hT1 HF
  go_wp2_with fail
  refine (put_any A c l 1 1 w1 B0 (by omega) hA hr1 (by omega) (by omega)).mono ?_
  rintro e w2 ⟨v, rfl, o2, b2⟩
  have d1 := cellB b2 d1
  have d2 := cellB b2 d2
  obtain ⟨A2, c2, rfl, hc2, hA2, hm2⟩ := ownShape o2
  have n1 := put_len2 l 1 1
  have hA2 : A2 = none → C.put l 1 1 = [] ∧ c2 = 0 := fun h => ⟨List.eq_nil_of_length_eq_zero (hA2 h).1, (hA2 h).2⟩
  go_wp2_with fail
  refine (put_any A2 c2 (C.put l 1 1) b 8 w2 w2.heap.size (by omega) hA2 (Rd.ofOwn o2) (Nat.le_refl _) bb).mono ?_
  rintro e w3 ⟨v3, rfl, o3, b3⟩
  have e2 := e1.trans (b2.mono s1)
  have s2 := e2.size
  go_wp2_with fail
  go_ret
  exact ⟨_, rfl, ownMore o3 s2, e2.trans (b3.mono s2)⟩
set_option maxHeartbeats 1600000 in
theorem vput_2 (hs : t.size ≤ 9223372036854775807) (hl : l.length ≤ 137438953472) (hA : A = none → l = [] ∧ c = 0) (hr : Rd w B0 A (bc l)) (hB : B0 ≤ w.heap.size) (hT : Tabs w) (hf : V.formed 2 b t.data.toList = true) :
    Calls Tryd.prog 68 #[.slice A l.length c, .agg #[.int .i64 2, .int .u64 (b : Int), .string t]] w (MadeB w (C.putText (C.put l 2 1) t.data.toList)) := by
  have HF := Lib.hid (fun z (hz : Tabs z) => formed_any 2 b t z hz)
  rw [hf] at HF
  unfold V.val at HF
  have hT1 := Lib.hid (show Tabs (w.alloc (.cells #[.int .i64 2, .int .u64 b, .string t] 35)) from hT.below ((Below.refl _ _).alloc (Nat.le_refl _) _))
  have g0 := (Below.refl w.heap.size w).alloc (Nat.le_refl _) (.cells #[.int .i64 2, .int .u64 b, .string t] 35)
  have c1 := Lib.hid (cell3 w (.int .i64 2) (.int .u64 b) (.string t) 35)
  clear hf hT
  go_enter Tryd.func68, Tryd.ntmps68
  go_wp2_with fail
  refine (HF.out _ hT1.out).mono ?_
  rintro e w1 ⟨rfl, b1⟩
  obtain ⟨a1, a2, a3⟩ := c1.out
  have d1 := cellB b1 a1
  have d2 := cellB b1 a2
  have d3 := cellB b1 a3
  have e1 := g0.trans (b1.mono g0.size)
  have hr1 := hr.belowM e1 hB
  have s1 := e1.size
  clear a1 a2 a3 c1 b1 g0 hT1 HF
  go_wp2_with fail
  refine (put_any A c l 2 1 w1 B0 (by omega) hA hr1 (by omega) (by omega)).mono ?_
  rintro e w2 ⟨v, rfl, o2, b2⟩
  have d1 := cellB b2 d1
  have d3 := cellB b2 d3
  obtain ⟨A2, c2, rfl, hc2, hA2, hm2⟩ := ownShape o2
  have n1 := put_len2 l 2 1
  have hA2 : A2 = none → C.put l 2 1 = [] ∧ c2 = 0 := fun h => ⟨List.eq_nil_of_length_eq_zero (hA2 h).1, (hA2 h).2⟩
  go_wp2_with fail
  refine (puttext_any A2 c2 (C.put l 2 1) t w2 w2.heap.size (by omega) hA2 (Rd.ofOwn o2) (Nat.le_refl _) hs).mono ?_
  rintro e w3 ⟨v3, rfl, o3, b3⟩
  have e2 := e1.trans (b2.mono s1)
  have s2 := e2.size
  go_wp2_with fail
  go_ret
  exact ⟨_, rfl, ownMore o3 s2, e2.trans (b3.mono s2)⟩
theorem formed_kind {k : Int} {b : Nat} {t : List UInt8} (h : V.formed k b t = true) : k = 0 ∨ k = 1 ∨ k = 2 := by
  unfold V.formed at h
  by_cases h0 : k = 0
  · exact .inl h0
  · by_cases h1 : k = 1
    · exact .inr (.inl h1)
    · by_cases h2 : k = 2
      · exact .inr (.inr h2)
      · rw [if_neg h0, if_neg h1, if_neg h2] at h; exact Bool.noConfusion h
theorem vput_any (k : Int) (bb : b < 18446744073709551616) (hs : t.size ≤ 9223372036854775807) (hl : l.length ≤ 137438953472) (hA : A = none → l = [] ∧ c = 0) (hr : Rd w B0 A (bc l)) (hB : B0 ≤ w.heap.size) (hT : Tabs w) :
    Calls Tryd.prog 68 #[.slice A l.length c, V.val k b t] w (MadeB w (V.put l k b t.data.toList)) := by
  unfold V.put V.val
  cases hf : V.formed k b t.data.toList with
  | false => rw [if_neg (by simp)]; exact vput_none A c l b t w B0 k hl hA hr hB hT hf
  | true =>
    rw [if_pos rfl]
    rcases formed_kind hf with rfl | rfl | rfl
    · rw [if_neg (by omega), if_neg (by omega)]; exact vput_0 A c l b t w B0 hl hA hr hB hT hf
    · rw [if_pos rfl]; exact vput_1 A c l b t w B0 bb hl hA hr hB hT hf
    · rw [if_neg (by omega), if_pos rfl]; exact vput_2 A c l b t w B0 hs hl hA hr hB hT hf
end
end Go.Proofs.YtjofjpmhokjhnaaDoor

namespace Go.Proofs.YtjofjpmhokjhnaaDoor
set_option maxRecDepth 20001
open Go.RowKit T
set_option linter.unusedSimpArgs false
set_option linter.unusedVariables false
/-- v is a slice that reads as the bytes l; it lies below block B -/
def SlB (w : World) (B : Nat) (v : Value) (l : List UInt8) : Prop :=
  ∃ A c, v = .slice A l.length c ∧ l.length ≤ c ∧ c ≤ maxLen ∧ (A = none → l = [] ∧ c = 0) ∧ Rd w B A (bc l)
section
variable {w w' : World} {B B' : Nat} {v : Value} {l : List UInt8}
theorem SlB.keep (h : SlB w B v l) (hk : ∀ p : Addr, p.block < B → w'.cell? p = w.cell? p) : SlB w' B v l := by
  obtain ⟨A, c, h1, h2, h3, h4, h5⟩ := h
  exact ⟨A, c, h1, h2, h3, h4, h5.keep hk⟩
theorem SlB.more (h : SlB w B v l) (hB : B ≤ B') : SlB w B' v l := by
  obtain ⟨A, c, h1, h2, h3, h4, h5⟩ := h
  exact ⟨A, c, h1, h2, h3, h4, h5.more hB⟩
theorem SlB.belowM (h : SlB w B v l) (hb : Below B' w w') (hB : B ≤ B') : SlB w' B v l := h.keep fun _ hp => (hb.mono hB).cell hp
theorem SlB.drew (h : SlB w B v l) : SlB w.drew B v l := h.keep fun _ _ => rfl
theorem SlB.ofOwn {base n : Nat} (h : w.ownsRow base 5 1 v n (bc l)) : SlB w w.heap.size v l := by
  obtain ⟨A, c, rfl, hc, hA, hm⟩ := ownShape h
  have hn : n = l.length := by have := h.1; rw [bc_len] at this; omega
  subst hn
  exact ⟨A, c, rfl, hc, hm, fun h => ⟨List.eq_nil_of_length_eq_zero (hA h).1, (hA h).2⟩, Rd.ofOwn h⟩
theorem SlB.nil : SlB w B (.slice none 0 0) [] := ⟨none, 0, rfl, Nat.zero_le _, by simp [maxLen], fun _ => ⟨rfl, rfl⟩, Rd.nil⟩
end
/-- v lies in no block below B -/
def Fresh (B : Nat) (v : Value) : Prop := ∀ b, v.ownBlock = some b → B ≤ b
theorem Fresh.mono {B B' : Nat} {v : Value} (h : Fresh B v) (hB : B' ≤ B) : Fresh B' v := fun b hb => Nat.le_trans hB (h b hb)
/-- a slice of these bytes is returned -/
def GotB (w : World) (l : List UInt8) (e : Ending) (w' : World) : Prop := ∃ v, e = .returned v ∧ SlB w' w'.heap.size v l ∧ Below w.heap.size w w' ∧ Fresh w.heap.size v
theorem GotB.of {w : World} {l : List UInt8} {e : Ending} {w' : World} (h : MadeB w l e w') : GotB w l e w' := by
  obtain ⟨v, h1, h2, h3⟩ := h
  exact ⟨v, h1, SlB.ofOwn h2, h3, fun b hb => (h2.lt b hb).1⟩
section
variable {w : World} {B : Nat} {v : Value} {l : List UInt8}
theorem put_s (h : SlB w B v l) (hl : l.length ≤ 549755813888) (hB : B ≤ w.heap.size) (x : Nat) (hx : x < 18446744073709551616) (n : Int) : Calls Tryd.prog 61 #[v, .int .u64 (x : Int), .int .i64 n] w (GotB w (C.put l x n)) := by
  obtain ⟨A, c, rfl, hc, hm, hA, hr⟩ := h
  exact (put_any A c l x n w B hl hA hr hB hx).mono fun _ _ h => GotB.of h
theorem puttext_s (h : SlB w B v l) (hl : l.length ≤ 274877906944) (hB : B ≤ w.heap.size) (s : ByteArray) (hs : s.size ≤ 9223372036854775807) : Calls Tryd.prog 67 #[v, .string s] w (GotB w (C.putText l s.data.toList)) := by
  obtain ⟨A, c, rfl, hc, hm, hA, hr⟩ := h
  exact (puttext_any A c l s w B hl hA hr hB hs).mono fun _ _ h => GotB.of h
theorem clone_s (h : SlB w B v l) (hl : l.length ≤ 1099511627776) (hB : B ≤ w.heap.size) : Calls Tryd.prog 82 #[v] w (GotB w l) := by
  obtain ⟨A, c, rfl, hc, hm, hA, hr⟩ := h
  exact (clone_any A c l w B hl hA hr hB).mono fun _ _ h => GotB.of h
theorem vput_s (h : SlB w B v l) (hl : l.length ≤ 137438953472) (hB : B ≤ w.heap.size) (k : Int) (b : Nat) (t : ByteArray) (bb : b < 18446744073709551616) (hs : t.size ≤ 9223372036854775807) (hT : Tabs w) :
    Calls Tryd.prog 68 #[v, .agg #[.int .i64 k, .int .u64 (b : Int), .string t]] w (GotB w (V.put l k b t.data.toList)) := by
  obtain ⟨A, c, rfl, hc, hm, hA, hr⟩ := h
  exact (vput_any A c l b t w B k bb hs hl hA hr hB hT).mono fun _ _ h => GotB.of h
end
theorem sizeTx : (Tryd.prog.info? 30).map (·.size) = some 4 := by kernel_rfl
theorem sizeId : (Tryd.prog.info? 26).map (·.size) = some 2 := by kernel_rfl
theorem sizeRd : (Tryd.prog.info? 147).map (·.size) = some 2 := by kernel_rfl
theorem sizeWr : (Tryd.prog.info? 140).map (·.size) = some 4 := by kernel_rfl
theorem sizeVl : (Tryd.prog.info? 35).map (·.size) = some 3 := by kernel_rfl
theorem encR_one (r : Rd1) : (encR r).toArray.all (·.oneCell') = true := by simp [encR, Value.oneCell']
theorem encW_one (x : Wr1) : (encW x).toArray.all (·.oneCell') = true := by simp [encW, Value.oneCell']
theorem wrapOf {n : Nat} (h : n < 18446744073709551616) : IntKind.u64.wrap (n : Int) = (n : Int) := by
  show (n : Int) % 18446744073709551616 = n
  omega
namespace T
/-- a read, a write, an id, a transaction as bytes behind l -/
def rput (l : List UInt8) (r : Rd1) : List UInt8 := C.put (C.putText l r.1) r.2 8
def wput (l : List UInt8) (x : Wr1) : List UInt8 := V.put (C.putText l x.1) x.2.1 x.2.2.1 x.2.2.2
def idput (l : List UInt8) (s q : Int) : List UInt8 := bif idb s q then C.put (C.put l s.toNat 1) q.toNat 4 else l
def tput (l : List UInt8) (s q : Int) (rs : List Rd1) (ws : List Wr1) : List UInt8 :=
  bif formed s q rs ws then ws.foldl wput (C.put (rs.foldl rput (C.put (idput l s q) rs.length 1)) ws.length 1) else l
/-- a command -/
def cput (l : List UInt8) (x : Cm) : List UInt8 :=
  bif x.formed then
    (if x.k = 1 then tput (C.put l 1 1) x.s x.q x.rs x.ws else if x.k = 2 then C.put (C.put (idput (C.put l 2 1) x.i x.j) x.g.toNat 1) x.st 8
      else if x.k = 3 then C.put (C.put (idput (C.put l 3 1) x.i x.j) x.g.toNat 1) (if x.y = true then 1 else 0) 1 else C.put l 0 1)
  else l
theorem rput_len (l : List UInt8) (r : Rd1) : (rput l r).length ≤ l.length + 131090 := by
  unfold rput
  have h1 := put_len2 (C.putText l r.1) r.2 8
  have h2 := puttext_len l r.1
  omega
theorem wput_len (l : List UInt8) (x : Wr1) : (wput l x).length ≤ l.length + 131090 := by
  unfold wput
  have h1 := V.put_len (C.putText l x.1) x.2.1 x.2.2.1 x.2.2.2
  have h2 := puttext_len l x.1
  omega
theorem rfold_len (rs : List Rd1) (l : List UInt8) : (rs.foldl rput l).length ≤ l.length + rs.length * 131090 := by
  induction rs generalizing l with
  | nil => simp
  | cons r rs ih => have h1 := ih (rput l r); have h2 := rput_len l r; simp only [List.foldl_cons, List.length_cons]; omega
theorem wfold_len (rs : List Wr1) (l : List UInt8) : (rs.foldl wput l).length ≤ l.length + rs.length * 131090 := by
  induction rs generalizing l with
  | nil => simp
  | cons r rs ih => have h1 := ih (wput l r); have h2 := wput_len l r; simp only [List.foldl_cons, List.length_cons]; omega
theorem idput_len (l : List UInt8) (s q : Int) : (idput l s q).length ≤ l.length + 16 := by
  unfold idput
  cases idb s q with
  | false => simp
  | true => have h1 := put_len2 l s.toNat 1; have h2 := put_len2 (C.put l s.toNat 1) q.toNat 4; simp only [cond_true]; omega
theorem formed_few {s q : Int} {rs : List Rd1} {ws : List Wr1} (h : formed s q rs ws = true) : idb s q = true ∧ rs.length ≤ 6 ∧ ws.length ≤ 6 := by
  unfold formed at h
  simp only [Bool.and_eq_true, decide_eq_true_eq] at h
  exact ⟨h.1.1.1.1, h.1.1.1.2.1, h.1.1.1.2.2.1⟩
theorem idb_nat {s q : Int} (h : idb s q = true) : ∃ a b : Nat, s = (a : Int) ∧ q = (b : Int) ∧ 1 ≤ a ∧ a ≤ 8 ∧ 1 ≤ b ∧ b ≤ 1048576 := by
  unfold idb at h
  rw [decide_eq_true_eq] at h
  exact ⟨s.toNat, q.toNat, by omega, by omega, by omega, by omega, by omega, by omega⟩
theorem tput_len (l : List UInt8) (s q : Int) (rs : List Rd1) (ws : List Wr1) : (tput l s q rs ws).length ≤ l.length + 1600000 := by
  unfold tput
  cases h : formed s q rs ws with
  | false => simp
  | true =>
    obtain ⟨h0, h1, h2⟩ := formed_few h
    simp only [cond_true]
    have e1 := idput_len l s q
    have e2 := put_len2 (idput l s q) rs.length 1
    have e3 := rfold_len rs (C.put (idput l s q) rs.length 1)
    have e4 := put_len2 (rs.foldl rput (C.put (idput l s q) rs.length 1)) ws.length 1
    have e5 := wfold_len ws (C.put (rs.foldl rput (C.put (idput l s q) rs.length 1)) ws.length 1)
    omega
end T
end Go.Proofs.YtjofjpmhokjhnaaDoor

namespace Go.Proofs.YtjofjpmhokjhnaaDoor
set_option maxRecDepth 20001
open Go.RowKit T
set_option linter.unusedSimpArgs false
set_option linter.unusedVariables false
/-- an owned slice of bytes -/
abbrev OwnB (w : World) (base : Nat) (v : Value) (l : List UInt8) : Prop := w.ownsRow base 5 1 v l.length (bc l)
theorem run_app8 {w : World} {base B : Nat} {v vx : Value} {l m : List UInt8} (ty : TypeId) (hown : OwnB w base v l) (hx : SlB w B vx m) (hl : l.length ≤ 549755813888) (hm : m.length ≤ 549755813888) (hbase : base ≤ w.heap.size) :
    ∃ v' w', (Builtin.append_ #[37, 37] ty #[v, vx]).run Tryd.prog w = .ok v' w' ∧ OwnB w' base v' (l ++ m) ∧ w.grownBy w' v.ownBlock := by
  obtain ⟨i0, hi, hz0, hz1, hz2⟩ := info_parts info_u8
  obtain ⟨A, c, rfl, hc, hcm, hA, hr⟩ := hx
  obtain ⟨v', w', h1, h2, h3⟩ := run_append_rd (P := Tryd.prog) w base 37 ty 5 i0 (.int .u8 0) 1 Tryd.underlying37 hi hz0 hz1 hz2 rfl v l.length (bc l) hown B A m.length c (bc m) (bc_len m) (fun h => (hA h).2) hr (bc_one m) (by unfold maxLen; omega) (by omega) hbase
  refine ⟨v', w', h1, ?_, h3⟩
  unfold OwnB
  rw [bc_app, List.length_append]; exact h2
section
variable {ops : Array Oper} {rest : List Oper} {o : Oper} {a : Act} {Q : Exit → Act → World → Prop} {S : World → Prop} {n : Nat} {l l' : Array Bool} {w : World}
theorem exec_app8 {o : Oper} {s x : Operand} {v vx v' : Value} {w' : World} (ho : o.op = .call { callee := .builtin .append, args := #[s, x], argTypes := #[37, 37] }) (hs : a.eval s = v) (hx : a.eval x = vx)
    (hr : (Builtin.append_ #[37, 37] o.type #[v, vx]).run Tryd.prog w = .ok v' w') : (execOp a.eval o).run Tryd.prog w = .ok (.value v') w' := by
  unfold execOp
  simp only [ho, resolve, invoke, builtin, Sem.run_bind, Sem.run_pure, Result.andThen_ok, List.map_toArray, List.map_cons, List.map_nil, hs, hx, hr]
/-- in a plain region -/
theorem wa8 (s x : Operand) {base B : Nat} {v vx : Value} {k m : List UInt8} (hown : OwnB w base v k) (hxl : SlB w B vx m) (hl : k.length ≤ 549755813888) (hm : m.length ≤ 549755813888) (hbase : base ≤ w.heap.size)
    (h : ∀ v' w', OwnB w' base v' (k ++ m) → w.grownBy w' v.ownBlock → wpList Tryd.prog ops Q rest (a.put o.dst v') w')
    (ho : o.op = .call { callee := .builtin .append, args := #[s, x], argTypes := #[37, 37] } := by kernel_rfl) (hs : a.eval s = v := by kernel_rfl) (hx : a.eval x = vx := by kernel_rfl)
    (hw : Region.wanted o (yielded ops a.tmps) = true := by kernel_rfl) : wpList Tryd.prog ops Q (o :: rest) a w := by
  obtain ⟨v', w', h1, h2, h3⟩ := run_app8 o.type hown hxl hl hm hbase
  exact wpList_w v' w' hw (exec_app8 ho hs hx h1) (h v' w' h2 h3)
/-- in a region that draws -/
theorem st_a8 (i : Nat) (d : Option Tmp) (s x : Operand) (l' : Array Bool) {base B : Nat} {v vx : Value} {k m : List UInt8} (hown : OwnB w base v k) (hxl : SlB w B vx m) (hl : k.length ≤ 549755813888) (hm : m.length ≤ 549755813888) (hbase : base ≤ w.heap.size)
    (h : ∀ v' w', OwnB w' base v' (k ++ m) → w.grownBy w' v.ownBlock → S w' ∧ AnyS Tryd.prog ops Q S n l' (a.put d v') w')
    (ho : (ops[i]?).map (·.op) = some (.call { callee := .builtin .append, args := #[s, x], argTypes := #[37, 37] }) := by kernel_rfl) (hs : a.eval s = v := by kernel_rfl) (hx : a.eval x = vx := by kernel_rfl)
    (hw : wantAt ops a i = some true := by kernel_rfl) (hd : dstAt ops i = some d := by kernel_rfl) (hl' : l.setIfInBounds i true = l' := by kernel_rfl) : StepS Tryd.prog ops Q S n l a w i := by
  cases hoi : ops[i]? with
  | none => rw [hoi] at ho; cases ho
  | some o =>
    unfold dstAt at hd; unfold wantAt at hw
    rw [hoi] at hd hw ho
    have hd : o.dst = d := Option.some.inj hd
    have hw : Region.wanted o (yielded ops a.tmps) = true := Option.some.inj hw
    have ho := Option.some.inj ho
    obtain ⟨v', w', h1, h2, h3⟩ := run_app8 o.type hown hxl hl hm hbase
    refine st_o hoi hw hl' fun K hK => ?_
    unfold Oper.wp; rw [exec_app8 ho hs hx h1, Oper.upon_value]
    have := h v' w' h2 h3
    exact hK _ _ this.1 (by rw [hd]; exact this.2)
end
theorem OwnB.mono {w : World} {b b' : Nat} {v : Value} {l : List UInt8} (h : OwnB w b v l) (hb : b' ≤ b) : OwnB w b' v l := by
  unfold OwnB World.ownsRow at *
  refine ⟨h.1, ?_⟩
  rcases h.2 with h1 | ⟨g, c, cs, h1, h2, h3⟩
  · exact Or.inl h1
  · exact Or.inr ⟨g, c, cs, h1, Nat.le_trans hb h2, h3⟩
theorem OwnB.nil {w : World} {b : Nat} : OwnB w b (.slice none 0 0) [] := World.ownsRow_nil _ _ _ _
theorem heapGrown {z z' : World} {base i : Nat} {v : Value} {l : List UInt8} {o : Obj} (ho : OwnB z base v l) (hg : z.grownBy z' v.ownBlock) (hi : i < base) (h : z.heap[i]? = some o) : z'.heap[i]? = some o :=
  (hg.block i (Array.getElem?_eq_some_iff.1 h).1 (fun e => by have := (ho.lt i e.symm).1; omega)).trans h
theorem heapKind {z z' : World} {base i : Nat} {v : Value} {l : List UInt8} {cs : Array Value} {t : TypeId} {m : Nat × Nat} (ho : OwnB z base v l) (hg : z.grownBy z' v.ownBlock) (hne : t ≠ 5) (h : z.heap[i]? = some (.cells cs t m)) : z'.heap[i]? = some (.cells cs t m) :=
  (hg.block i (Array.getElem?_eq_some_iff.1 h).1 (fun e => by
    obtain ⟨cs2, t2, e1⟩ := Lib.ownsRow_kind ho i e.symm
    rw [h] at e1
    injection e1 with e1; injection e1 with _ e3
    exact hne e3)).trans h
end Go.Proofs.YtjofjpmhokjhnaaDoor
