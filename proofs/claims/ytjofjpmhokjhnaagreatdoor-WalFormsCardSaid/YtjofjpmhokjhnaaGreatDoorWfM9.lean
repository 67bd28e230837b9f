import Derived.Test.YtjofjpmhokjhnaaGreatDoorWfM8
set_option linter.unusedSimpArgs false
set_option linter.unusedVariables false
namespace Go.Proofs.YtjofjpmhokjhnaaGreatDoor
set_option maxRecDepth 20000
open Go.RowKit T
def SlB (w : World) (B : Nat) (v : Value) (l : List UInt8) : Prop :=
 ∃ A c, v = .slice A l.length c ∧ l.length ≤ c ∧ c ≤ maxLen ∧ (A = none → l = [] ∧ c = 0) ∧ Rd w B A (bc l)
section
variable {w w' : World} {B B' : Nat} {v : Value} {l : List UInt8}
theorem SlB.keep (h : SlB w B v l) (hk : ∀ p : Addr, p.block < B → w'.cell? p = w.cell? p) : SlB w' B v l := by
 obtain ⟨A, c, h1, h2, h3, h4, h5⟩ := h
 exact ⟨A, c, h1, h2, h3, h4, h5.keep hk⟩
theorem SlB.more (h : SlB w B v l) (hB : B ≤ B') : SlB w B' v l := by
 obtain ⟨A, c, h1, h2, h3, h4, h5⟩ := h
 exact ⟨A, c, h1, h2, h3, h4, h5.more hB⟩
theorem SlB.belowM (h : SlB w B v l) (hb : Below B' w w') (hB : B ≤ B') : SlB w' B v l := h.keep fun _ hp => (hb.mono hB).cell hp
theorem SlB.drew (h : SlB w B v l) : SlB w.drew B v l := h.keep fun _ _ => rfl
theorem SlB.ofOwn {base n : Nat} (h : w.ownsRow base 5 1 v n (bc l)) : SlB w w.heap.size v l := by
 obtain ⟨A, c, rfl, hc, hA, hm⟩ := ownShape h
 have hn : n = l.length := by have := h.1; rw [bc_len] at this; omega
 subst hn
 exact ⟨A, c, rfl, hc, hm, fun h => ⟨List.eq_nil_of_length_eq_zero (hA h).1, (hA h).2⟩, Rd.ofOwn h⟩
theorem SlB.nil : SlB w B (.slice none 0 0) [] := ⟨none, 0, rfl, Nat.zero_le _, by simp [maxLen], fun _ => ⟨rfl, rfl⟩, Rd.nil⟩
end
def Fresh (B : Nat) (v : Value) : Prop := ∀ b, v.ownBlock = some b → B ≤ b
theorem Fresh.mono {B B' : Nat} {v : Value} (h : Fresh B v) (hB : B' ≤ B) : Fresh B' v := fun b hb => Nat.le_trans hB (h b hb)
def GotB (w : World) (l : List UInt8) (e : Ending) (w' : World) : Prop := ∃ v, e = .returned v ∧ SlB w' w'.heap.size v l ∧ Below w.heap.size w w' ∧ Fresh w.heap.size v
theorem GotB.of {w : World} {l : List UInt8} {e : Ending} {w' : World} (h : MadeB w l e w') : GotB w l e w' := by
 obtain ⟨v, h1, h2, h3⟩ := h
 exact ⟨v, h1, SlB.ofOwn h2, h3, fun b hb => (h2.lt b hb).1⟩
section
variable {w : World} {B : Nat} {v : Value} {l : List UInt8}
theorem put_s (h : SlB w B v l) (hl : l.length ≤ 549755813888) (hB : B ≤ w.heap.size) (x : Nat) (hx : x < 18446744073709551616) (n : Int) : Calls Tryz.prog 32 #[v, .int .u64 (x : Int), .int .i64 n] w (GotB w (C.put l x n)) := by
 obtain ⟨A, c, rfl, hc, hm, hA, hr⟩ := h
 exact (put_any A c l x n w B hl hA hr hB hx).mono fun _ _ h => GotB.of h
theorem puttext_s (h : SlB w B v l) (hl : l.length ≤ 274877906944) (hB : B ≤ w.heap.size) (s : ByteArray) (hs : s.size ≤ 9223372036854775807) : Calls Tryz.prog 111 #[v, .string s] w (GotB w (C.putText l s.data.toList)) := by
 obtain ⟨A, c, rfl, hc, hm, hA, hr⟩ := h
 exact (puttext_any A c l s w B hl hA hr hB hs).mono fun _ _ h => GotB.of h
theorem clone_s (h : SlB w B v l) (hl : l.length ≤ 1099511627776) (hB : B ≤ w.heap.size) : Calls Tryz.prog 66 #[v] w (GotB w l) := by
 obtain ⟨A, c, rfl, hc, hm, hA, hr⟩ := h
 exact (clone_any A c l w B hl hA hr hB).mono fun _ _ h => GotB.of h
theorem vput_s (h : SlB w B v l) (hl : l.length ≤ 137438953472) (hB : B ≤ w.heap.size) (k : Int) (b : Nat) (t : ByteArray) (bb : b < 18446744073709551616) (hs : t.size ≤ 9223372036854775807) (hT : Tabs w) :
 Calls Tryz.prog 112 #[v, .agg #[.int .i64 k, .int .u64 (b : Int), .string t]] w (GotB w (V.put l k b t.data.toList)) := by
 obtain ⟨A, c, rfl, hc, hm, hA, hr⟩ := h
 exact (vput_any A c l b t w B k bb hs hl hA hr hB hT).mono fun _ _ h => GotB.of h
end
theorem sizeTx : (Tryz.prog.info? 30).map (·.size) = some 4 := by kernel_rfl
theorem sizeId : (Tryz.prog.info? 26).map (·.size) = some 2 := by kernel_rfl
theorem sizeRd : (Tryz.prog.info? 161).map (·.size) = some 2 := by kernel_rfl
theorem sizeWr : (Tryz.prog.info? 163).map (·.size) = some 4 := by kernel_rfl
theorem sizeVl : (Tryz.prog.info? 77).map (·.size) = some 3 := by kernel_rfl
theorem encR_one (r : Rd1) : (encR r).toArray.all (·.oneCell') = true := by simp [encR, Value.oneCell']
theorem encW_one (x : Wr1) : (encW x).toArray.all (·.oneCell') = true := by simp [encW, Value.oneCell']
theorem wrapOf {n : Nat} (h : n < 18446744073709551616) : IntKind.u64.wrap (n : Int) = (n : Int) := by
 show (n : Int) % 18446744073709551616 = n
 omega
namespace T
def rput (l : List UInt8) (r : Rd1) : List UInt8 := C.put (C.putText l r.1) r.2 8
def wput (l : List UInt8) (x : Wr1) : List UInt8 := V.put (C.putText l x.1) x.2.1 x.2.2.1 x.2.2.2
def idput (l : List UInt8) (s q : Int) : List UInt8 := bif idb s q then C.put (C.put l s.toNat 1) q.toNat 4 else l
def tput (l : List UInt8) (s q : Int) (rs : List Rd1) (ws : List Wr1) : List UInt8 :=
 bif formed s q rs ws then ws.foldl wput (C.put (rs.foldl rput (C.put (idput l s q) rs.length 1)) ws.length 1) else l
def cput (l : List UInt8) (x : Cm) : List UInt8 :=
 bif x.formed then
  (if x.k = 1 then tput (C.put l 1 1) x.s x.q x.rs x.ws else if x.k = 2 then C.put (C.put (idput (C.put l 2 1) x.i x.j) x.g.toNat 1) x.st 8
   else if x.k = 3 then C.put (C.put (idput (C.put l 3 1) x.i x.j) x.g.toNat 1) (if x.y = true then 1 else 0) 1 else C.put l 0 1)
 else l
theorem rput_len (l : List UInt8) (r : Rd1) : (rput l r).length ≤ l.length + 131090 := by
 unfold rput
 have h1 := put_len2 (C.putText l r.1) r.2 8
 have h2 := puttext_len l r.1
 omega
theorem wput_len (l : List UInt8) (x : Wr1) : (wput l x).length ≤ l.length + 131090 := by
 unfold wput
 have h1 := V.put_len (C.putText l x.1) x.2.1 x.2.2.1 x.2.2.2
 have h2 := puttext_len l x.1
 omega
theorem rfold_len (rs : List Rd1) (l : List UInt8) : (rs.foldl rput l).length ≤ l.length + rs.length * 131090 := by
 induction rs generalizing l with
 | nil => simp
 | cons r rs ih => have h1 := ih (rput l r); have h2 := rput_len l r; simp only [List.foldl_cons, List.length_cons]; omega
theorem wfold_len (rs : List Wr1) (l : List UInt8) : (rs.foldl wput l).length ≤ l.length + rs.length * 131090 := by
 induction rs generalizing l with
 | nil => simp
 | cons r rs ih => have h1 := ih (wput l r); have h2 := wput_len l r; simp only [List.foldl_cons, List.length_cons]; omega
theorem idput_len (l : List UInt8) (s q : Int) : (idput l s q).length ≤ l.length + 16 := by
 unfold idput
 cases idb s q with
 | false => simp
 | true => have h1 := put_len2 l s.toNat 1; have h2 := put_len2 (C.put l s.toNat 1) q.toNat 4; simp only [cond_true]; omega
theorem formed_few {s q : Int} {rs : List Rd1} {ws : List Wr1} (h : formed s q rs ws = true) : idb s q = true ∧ rs.length ≤ 6 ∧ ws.length ≤ 6 := by
 unfold formed at h
 simp only [Bool.and_eq_true, decide_eq_true_eq] at h
 exact ⟨h.1.1.1.1, h.1.1.1.2.1, h.1.1.1.2.2.1⟩
theorem idb_nat {s q : Int} (h : idb s q = true) : ∃ a b : Nat, s = (a : Int) ∧ q = (b : Int) ∧ 1 ≤ a ∧ a ≤ 8 ∧ 1 ≤ b ∧ b ≤ 1048576 := by
 unfold idb at h
 rw [decide_eq_true_eq] at h
 exact ⟨s.toNat, q.toNat, by omega, by omega, by omega, by omega, by omega, by omega⟩
theorem tput_len (l : List UInt8) (s q : Int) (rs : List Rd1) (ws : List Wr1) : (tput l s q rs ws).length ≤ l.length + 1600000 := by
 unfold tput
 cases h : formed s q rs ws with
 | false => simp
 | true =>
   obtain ⟨h0, h1, h2⟩ := formed_few h
   simp only [cond_true]
   have e1 := idput_len l s q
   have e2 := put_len2 (idput l s q) rs.length 1
   have e3 := rfold_len rs (C.put (idput l s q) rs.length 1)
   have e4 := put_len2 (rs.foldl rput (C.put (idput l s q) rs.length 1)) ws.length 1
   have e5 := wfold_len ws (C.put (rs.foldl rput (C.put (idput l s q) rs.length 1)) ws.length 1)
   omega
end T
end Go.Proofs.YtjofjpmhokjhnaaGreatDoor
