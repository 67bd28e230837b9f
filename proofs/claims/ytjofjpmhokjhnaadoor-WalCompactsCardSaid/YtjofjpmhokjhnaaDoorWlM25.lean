/- message.Write. Conditions: what lies, lies below. (Printed by gen_msg.py.) -/
import Derived.Test.YtjofjpmhokjhnaaDoorWlM22
import Derived.Test.YtjofjpmhokjhnaaDoorWlM19
import Derived.Test.YtjofjpmhokjhnaaDoorWlM24
namespace Go.Proofs.YtjofjpmhokjhnaaDoor
set_option maxRecDepth 20000
open Go.RowKit T
set_option linter.unusedSimpArgs false
set_option linter.unusedVariables false

namespace T
/-- what one field puts behind bytes -/
def Ms.wput (m : Ms) (l : List UInt8) (c : Nat) : List UInt8 := if c = 66 then B.put l m.br m.bn else if c = 83 then C.put l (T.nz m.sl) 4 else if c = 72 then if m.ha = true then cput (B.put (C.put l (T.bit m.ha) 1) m.vr m.vn) m.c else C.put l (T.bit m.ha) 1 else if c = 67 then cput l m.c else if c = 84 then tput l m.t.s m.t.q m.t.rs m.t.ws else if c = 73 then idput l m.ii m.ij else if c = 71 then C.put l (T.nz m.g) 1 else if c = 80 then C.put l m.st 8 else if c = 89 then C.put l (T.bit m.ye) 1 else if c = 78 then C.put l (T.nz m.nu) 4 else if c = 75 then C.putText l m.ky.data.toList else if c = 86 then C.put l m.ve 8 else if c = 88 then V.put l m.vk m.vb m.vt.data.toList else if c = 69 then C.put l (T.nz m.er) 1 else if c = 68 then C.put l m.dt.length 4 ++ m.dt else l
/-- what the first k fields put -/
def Ms.wl (m : Ms) (k : Nat) : List UInt8 := ((fieldsOf m.kd).take k).foldl (fun l c => m.wput l c.toNat) (C.put [] (T.nz m.kd) 1)
/-- a message's bytes -/
def Ms.wr (m : Ms) : List UInt8 := (fieldsOf m.kd).foldl (fun l c => m.wput l c.toNat) (C.put [] (T.nz m.kd) 1)
end T
theorem cput_len (l : List UInt8) (x : Cm) : (cput l x).length ≤ l.length + 1600100 := by
  unfold cput
  cases x.formed with
  | false => simp only [cond_false]; omega
  | true =>
    simp only [cond_true]
    have h1 := tput_len (C.put l 1 1) x.s x.q x.rs x.ws
    have h2 := put_len2 l 1 1
    have h3 := put_len2 (C.put (idput (C.put l 2 1) x.i x.j) x.g.toNat 1) x.st 8
    have h4 := put_len2 (idput (C.put l 2 1) x.i x.j) x.g.toNat 1
    have h5 := idput_len (C.put l 2 1) x.i x.j
    have h6 := put_len2 l 2 1
    have h7 := put_len2 (C.put (idput (C.put l 3 1) x.i x.j) x.g.toNat 1) (if x.y = true then 1 else 0) 1
    have h8 := put_len2 (idput (C.put l 3 1) x.i x.j) x.g.toNat 1
    have h9 := idput_len (C.put l 3 1) x.i x.j
    have h10 := put_len2 l 3 1
    have h11 := put_len2 l 0 1
    split <;> (try split) <;> (try split) <;> omega
theorem wput_B (m : Ms) (l : List UInt8) : m.wput l 66 = (B.put l m.br m.bn) := rfl
theorem wput_S (m : Ms) (l : List UInt8) : m.wput l 83 = (C.put l (T.nz m.sl) 4) := rfl
theorem wput_H (m : Ms) (l : List UInt8) : m.wput l 72 = (if m.ha = true then cput (B.put (C.put l (T.bit m.ha) 1) m.vr m.vn) m.c else C.put l (T.bit m.ha) 1) := rfl
theorem wput_C (m : Ms) (l : List UInt8) : m.wput l 67 = (cput l m.c) := rfl
theorem wput_T (m : Ms) (l : List UInt8) : m.wput l 84 = (tput l m.t.s m.t.q m.t.rs m.t.ws) := rfl
theorem wput_I (m : Ms) (l : List UInt8) : m.wput l 73 = (idput l m.ii m.ij) := rfl
theorem wput_G (m : Ms) (l : List UInt8) : m.wput l 71 = (C.put l (T.nz m.g) 1) := rfl
theorem wput_P (m : Ms) (l : List UInt8) : m.wput l 80 = (C.put l m.st 8) := rfl
theorem wput_Y (m : Ms) (l : List UInt8) : m.wput l 89 = (C.put l (T.bit m.ye) 1) := rfl
theorem wput_N (m : Ms) (l : List UInt8) : m.wput l 78 = (C.put l (T.nz m.nu) 4) := rfl
theorem wput_K (m : Ms) (l : List UInt8) : m.wput l 75 = (C.putText l m.ky.data.toList) := rfl
theorem wput_V (m : Ms) (l : List UInt8) : m.wput l 86 = (C.put l m.ve 8) := rfl
theorem wput_X (m : Ms) (l : List UInt8) : m.wput l 88 = (V.put l m.vk m.vb m.vt.data.toList) := rfl
theorem wput_E (m : Ms) (l : List UInt8) : m.wput l 69 = (C.put l (T.nz m.er) 1) := rfl
theorem wput_D (m : Ms) (l : List UInt8) : m.wput l 68 = (C.put l m.dt.length 4 ++ m.dt) := rfl
theorem wput_none (m : Ms) (l : List UInt8) (c : Nat) (hB : c ≠ 66) (hS : c ≠ 83) (hH : c ≠ 72) (hC : c ≠ 67) (hT : c ≠ 84) (hI : c ≠ 73) (hG : c ≠ 71) (hP : c ≠ 80) (hY : c ≠ 89) (hN : c ≠ 78) (hK : c ≠ 75) (hV : c ≠ 86) (hX : c ≠ 88) (hE : c ≠ 69) (hD : c ≠ 68) : m.wput l c = l := by
  unfold T.Ms.wput
  rw [if_neg hB, if_neg hS, if_neg hH, if_neg hC, if_neg hT, if_neg hI, if_neg hG, if_neg hP, if_neg hY, if_neg hN, if_neg hK, if_neg hV, if_neg hX, if_neg hE, if_neg hD]
theorem wput_len (m : Ms) (h : m.dt.length ≤ 100000000) (l : List UInt8) (c : Nat) : (m.wput l c).length ≤ l.length + 200000000 := by
  by_cases hB : c = 66
  · subst hB; rw [wput_B]; have h_ := B.put_len l m.br m.bn; omega
  by_cases hS : c = 83
  · subst hS; rw [wput_S]; have h_ := put_len2 l (T.nz m.sl) 4; omega
  by_cases hH : c = 72
  · subst hH; rw [wput_H]; have h_ := put_len2 l (T.bit m.ha) 1; have h2_ := B.put_len (C.put l (T.bit m.ha) 1) m.vr m.vn; have h3_ := cput_len (B.put (C.put l (T.bit m.ha) 1) m.vr m.vn) m.c; split <;> omega
  by_cases hC : c = 67
  · subst hC; rw [wput_C]; have h_ := cput_len l m.c; omega
  by_cases hT : c = 84
  · subst hT; rw [wput_T]; have h_ := tput_len l m.t.s m.t.q m.t.rs m.t.ws; omega
  by_cases hI : c = 73
  · subst hI; rw [wput_I]; have h_ := idput_len l m.ii m.ij; omega
  by_cases hG : c = 71
  · subst hG; rw [wput_G]; have h_ := put_len2 l (T.nz m.g) 1; omega
  by_cases hP : c = 80
  · subst hP; rw [wput_P]; have h_ := put_len2 l m.st 8; omega
  by_cases hY : c = 89
  · subst hY; rw [wput_Y]; have h_ := put_len2 l (T.bit m.ye) 1; omega
  by_cases hN : c = 78
  · subst hN; rw [wput_N]; have h_ := put_len2 l (T.nz m.nu) 4; omega
  by_cases hK : c = 75
  · subst hK; rw [wput_K]; have h_ := puttext_len l m.ky.data.toList; omega
  by_cases hV : c = 86
  · subst hV; rw [wput_V]; have h_ := put_len2 l m.ve 8; omega
  by_cases hX : c = 88
  · subst hX; rw [wput_X]; have h_ := V.put_len l m.vk m.vb m.vt.data.toList; omega
  by_cases hE : c = 69
  · subst hE; rw [wput_E]; have h_ := put_len2 l (T.nz m.er) 1; omega
  by_cases hD : c = 68
  · subst hD; rw [wput_D]; have h_ := put_len2 l m.dt.length 4; rw [List.length_append]; omega
  rw [wput_none m l c hB hS hH hC hT hI hG hP hY hN hK hV hX hE hD]; omega
/-- a slice of these bytes is returned, owned -/
def GotO (w : World) (l : List UInt8) (e : Ending) (w' : World) : Prop := ∃ v, e = .returned v ∧ OwnB w' w.heap.size v l ∧ Below w.heap.size w w'
theorem put_o {w : World} {B : Nat} {v : Value} {l : List UInt8} (h : SlB w B v l) (hl : l.length ≤ 549755813888) (hB : B ≤ w.heap.size) (x : Nat) (hx : x < 18446744073709551616) (n : Int) : Calls Tryd.prog 61 #[v, .int .u64 (x : Int), .int .i64 n] w (GotO w (C.put l x n)) := by
  obtain ⟨A, c, rfl, hc, hm, hA, hr⟩ := h
  exact put_any A c l x n w B hl hA hr hB hx
/-- bytes and no error are returned where f says yes, an error where not -/
def Wrote (f : Bool) (l : List UInt8) (e : Ending) (w' : World) : Prop :=
  ∃ v m x, e = .returned (.tuple #[v, .int .i64 x]) ∧ SlB w' w'.heap.size v m ∧ x = (bif f then 0 else 2) ∧ m = (bif f then l else [])
end Go.Proofs.YtjofjpmhokjhnaaDoor
