/- The walks of ballot.Next and ballot.Most, and of the reference's, behind XBal. Conditions: the ballots are no more than 2^40, each round is a uint32. (Printed by gen_baln.py.) -/
import Derived.Test.YtbahooohkigcnaaDoorBal
namespace Go.Proofs.YtbahooohkigcnaaDoor
set_option maxRecDepth 20000
open Go.RowKit
set_option linter.unusedSimpArgs false
set_option linter.unusedVariables false

/-- what Next answers: a ballot, and an error -/
def B.next (r : Nat) (n : Int) (k : Int) : Nat × Int × Int := if k < 0 ∨ 5 ≤ k then (0, 0, 1) else if r = 4294967295 then (0, 0, 7) else (r + 1, k, 0)

set_option maxHeartbeats 800000 in
theorem next_any (r : Nat) (n k : Int) (w : World) (hr : r < 4294967296) :
    Calls Tryd.prog 78 #[bal r n, .int .i64 k] w fun e w' => e = .returned (.tuple #[bal (B.next r n k).1 (B.next r n k).2.1, .int .i64 (B.next r n k).2.2]) ∧ Below w.heap.size w w' := by
  by_cases h0 : k < 0
  · have H : Hid (B.next r n k = (0, 0, 1)) := by show _ = _; unfold B.next; rw [if_pos (by omega)]
    rw [H.out]
    go_enter Tryd.func78, Tryd.ntmps78
    go_wp2_with fail
    exact bodyPost_ret (v := .tuple #[.agg #[.int .u32 0, .int .i64 0], .int .i64 1]) (by simp [results, Tryd.results78, go_sem]) rfl ⟨rfl, ((Below.refl _ _).alloc (Nat.le_refl _) _).alloc (by simp) _⟩
  · by_cases h5 : 5 ≤ k
    · have H : Hid (B.next r n k = (0, 0, 1)) := by show _ = _; unfold B.next; rw [if_pos (by omega)]
      rw [H.out]
      go_enter Tryd.func78, Tryd.ntmps78
      go_wp2_with fail
      exact bodyPost_ret (v := .tuple #[.agg #[.int .u32 0, .int .i64 0], .int .i64 1]) (by simp [results, Tryd.results78, go_sem]) rfl ⟨rfl, ((Below.refl _ _).alloc (Nat.le_refl _) _).alloc (by simp) _⟩
    · by_cases hm : r = 4294967295
      · subst hm
        have H : Hid (B.next 4294967295 n k = (0, 0, 7)) := by show _ = _; unfold B.next; rw [if_neg (by omega), if_pos rfl]
        rw [H.out]
        go_enter Tryd.func78, Tryd.ntmps78
        go_wp2_with fail
        exact bodyPost_ret (v := .tuple #[.agg #[.int .u32 0, .int .i64 0], .int .i64 7]) (by simp [results, Tryd.results78, go_sem]) rfl ⟨rfl, ((Below.refl _ _).alloc (Nat.le_refl _) _).alloc (by simp) _⟩
      · have H : Hid (B.next r n k = (r + 1, k, 0)) := by show _ = _; unfold B.next; rw [if_neg (by omega), if_neg hm]
        rw [H.out]
        have hne : ((r : Int) == 4294967295) = false := by simp; omega
        go_enter Tryd.func78, Tryd.ntmps78
        go_wp2_with fail
        exact bodyPost_ret (v := .tuple #[.agg #[.int .u32 ((r + 1 : Nat) : Int), .int .i64 k], .int .i64 0]) (by simp [results, Tryd.results78, go_sem]) rfl ⟨rfl, ((Below.refl _ _).alloc (Nat.le_refl _) _).alloc (by simp) _⟩
set_option maxHeartbeats 800000 in
theorem rnext_any (r : Nat) (n k : Int) (w : World) (hr : r < 4294967296) :
    Calls Tryd.prog 115 #[bal r n, .int .i64 k] w fun e w' => e = .returned (.tuple #[bal (B.next r n k).1 (B.next r n k).2.1, .int .i64 (B.next r n k).2.2]) ∧ Below w.heap.size w w' := by
  by_cases h0 : k < 0
  · have HF : Hid (B.formed k = false) := by show _ = _; unfold B.formed; simp; omega
    have H : Hid (B.next r n k = (0, 0, 1)) := by show _ = _; unfold B.next; rw [if_pos (by omega)]
    rw [H.out]
    go_enter Tryd.func115, Tryd.ntmps115
    go_wp2_with fail
    refine (rbformed_any 0 k _).mono ?_
    rintro e w1 ⟨rfl, hb⟩
    rw [HF.out]
    obtain ⟨hc, hf⟩ := bcell hb
    have hz : w.heap.size + 1 < w1.heap.size := by have := hb.size; simp at this; omega
    go_wp2_with fail
    refine bodyPost_ret (v := .tuple #[.agg #[.int .u32 0, .int .i64 0], .int .i64 1]) (by simp [results, Tryd.results115, go_sem, hc, hf, hz]) rfl ⟨rfl, ?_⟩
    exact (((((Below.refl _ _).alloc (Nat.le_refl _) _).alloc (by simp) _).trans (hb.mono (by simp; omega))).setCell (by simp) _).setCell (by simp) _
  · by_cases h5 : 5 ≤ k
    · have HF : Hid (B.formed k = false) := by show _ = _; unfold B.formed; simp; omega
      have H : Hid (B.next r n k = (0, 0, 1)) := by show _ = _; unfold B.next; rw [if_pos (by omega)]
      rw [H.out]
      go_enter Tryd.func115, Tryd.ntmps115
      go_wp2_with fail
      refine (rbformed_any 0 k _).mono ?_
      rintro e w1 ⟨rfl, hb⟩
      rw [HF.out]
      obtain ⟨hc, hf⟩ := bcell hb
      have hz : w.heap.size + 1 < w1.heap.size := by have := hb.size; simp at this; omega
      go_wp2_with fail
      refine bodyPost_ret (v := .tuple #[.agg #[.int .u32 0, .int .i64 0], .int .i64 1]) (by simp [results, Tryd.results115, go_sem, hc, hf, hz]) rfl ⟨rfl, ?_⟩
      exact (((((Below.refl _ _).alloc (Nat.le_refl _) _).alloc (by simp) _).trans (hb.mono (by simp; omega))).setCell (by simp) _).setCell (by simp) _
    · have HF : Hid (B.formed k = true) := by show _ = _; unfold B.formed; simp; omega
      by_cases hm : r = 4294967295
      · subst hm
        have H : Hid (B.next 4294967295 n k = (0, 0, 7)) := by show _ = _; unfold B.next; rw [if_neg (by omega), if_pos rfl]
        rw [H.out]
        go_enter Tryd.func115, Tryd.ntmps115
        go_wp2_with fail
        refine (rbformed_any 0 k _).mono ?_
        rintro e w1 ⟨rfl, hb⟩
        rw [HF.out]
        obtain ⟨hc, hf⟩ := bcell hb
        have hz : w.heap.size + 1 < w1.heap.size := by have := hb.size; simp at this; omega
        go_wp2_with fail
        refine bodyPost_ret (v := .tuple #[.agg #[.int .u32 0, .int .i64 0], .int .i64 7]) (by simp [results, Tryd.results115, go_sem, hc, hf, hz]) rfl ⟨rfl, ?_⟩
        exact (((((Below.refl _ _).alloc (Nat.le_refl _) _).alloc (by simp) _).trans (hb.mono (by simp; omega))).setCell (by simp) _).setCell (by simp) _
      · have H : Hid (B.next r n k = (r + 1, k, 0)) := by show _ = _; unfold B.next; rw [if_neg (by omega), if_neg hm]
        rw [H.out]
        have hne : ((r : Int) == 4294967295) = false := by simp; omega
        go_enter Tryd.func115, Tryd.ntmps115
        go_wp2_with fail
        refine (rbformed_any 0 k _).mono ?_
        rintro e w1 ⟨rfl, hb⟩
        rw [HF.out]
        obtain ⟨hc, hf⟩ := bcell hb
        have hz : w.heap.size + 1 < w1.heap.size := by have := hb.size; simp at this; omega
        go_wp2_with fail
        refine bodyPost_ret (v := .tuple #[.agg #[.int .u32 ((r + 1 : Nat) : Int), .int .i64 k], .int .i64 0]) (by simp [results, Tryd.results115, go_sem, hc, hf, hz]) rfl ⟨rfl, ?_⟩
        exact (((((Below.refl _ _).alloc (Nat.le_refl _) _).alloc (by simp) _).trans (hb.mono (by simp; omega))).setCell (by simp) _).setCell (by simp) _
abbrev Bl := Nat × Int
/-- the ballots of a slice, cell by cell -/
def BalsAt (w : World) (B : Nat) (A : Option Addr) (fl : List Bl) : Prop :=
  ∀ i f, fl[i]? = some f → ∃ b off, A = some ⟨b, off, none⟩ ∧ b < B ∧ w.cell? ⟨b, off + i * 2, none⟩ = some (.int .u32 (f.1 : Int)) ∧ w.cell? ⟨b, off + i * 2 + 1, none⟩ = some (.int .i64 f.2)
theorem BalsAt.below {w w' : World} {B B' : Nat} {A : Option Addr} {fl : List Bl} (h : BalsAt w B A fl) (hb : Below B' w w') (hB : B ≤ B') : BalsAt w' B A fl := fun i f hf => by
  obtain ⟨b, off, hA, hlt, h0, h1⟩ := h i f hf
  exact ⟨b, off, hA, hlt, (hb.cell (show b < B' by omega)).trans h0, (hb.cell (show b < B' by omega)).trans h1⟩
theorem BalsAt.nil {w : World} {B : Nat} {A : Option Addr} : BalsAt w B A [] := fun i f hf => by simp at hf
/-- the cells of a list of ballots -/
def balCells (l : List Bl) : List Value := l.flatMap fun f => [.int .u32 (f.1 : Int), .int .i64 f.2]
theorem balCells_len (l : List Bl) : (balCells l).length = l.length * 2 := by
  induction l with
  | nil => rfl
  | cons a l ih => simp only [balCells, List.flatMap_cons, List.length_append, List.length_cons, List.length_nil] at ih ⊢; omega
theorem balCells_at (l : List Bl) (i : Nat) (f : Bl) (h : l[i]? = some f) : (balCells l)[i * 2]? = some (.int .u32 (f.1 : Int)) ∧ (balCells l)[i * 2 + 1]? = some (.int .i64 f.2) := by
  induction l generalizing i with
  | nil => simp at h
  | cons a l ih =>
    cases i with
    | zero => simp at h; subst h; simp [balCells]
    | succ i =>
      have := ih i (by simpa using h)
      have e : balCells (a :: l) = [.int .u32 (a.1 : Int), .int .i64 a.2] ++ balCells l := by simp [balCells]
      rw [e, List.getElem?_append_right (by simp; omega), List.getElem?_append_right (by simp; omega)]
      simpa [show (i + 1) * 2 - 2 = i * 2 from by omega, show (i + 1) * 2 + 1 - 2 = i * 2 + 1 from by omega] using this
theorem balCells_snoc (l : List Bl) (r : Nat) (n : Int) : balCells (l ++ [(r, n)]) = balCells l ++ [.int .u32 (r : Int), .int .i64 n] := by simp [balCells]
theorem BalsAt.ofOwn {w : World} {base e n c : Nat} {A : Option Addr} {l : List Bl} (h : w.ownsRow base e 2 (.slice A n c) n (balCells l)) : BalsAt w w.heap.size A l := fun i f hf => by
  have hi := (List.getElem?_eq_some_iff.1 hf).1
  have hn : l.length = n := by have := h.1; rw [balCells_len] at this; omega
  obtain ⟨h1, h2⟩ := balCells_at l i f hf
  rcases h.2 with ⟨_, rfl⟩ | ⟨g, cap, cur, hv, _, hg, _⟩
  · omega
  · have hA : A = some ⟨g, 0, none⟩ := by injection hv
    subst hA
    have c1 := h.cells (g := g) rfl _ _ h1
    have c2 := h.cells (g := g) rfl _ _ h2
    rw [Addr.add_lit] at c1 c2
    exact ⟨g, 0, rfl, (Array.getElem?_eq_some_iff.1 hg).1, c1, by simpa [Nat.add_assoc] using c2⟩

/-! ### the plain law -/
def B.most (l : List Bl) : Bl := match l with
  | [] => (0, 0)
  | b :: t => t.foldl (fun o b => if B.less o.1 o.2 b.1 b.2 = true then b else o) b
theorem B.less_iff (a b : Bl) : B.less a.1 a.2 b.1 b.2 = true ↔ a.1 < b.1 ∨ a.1 = b.1 ∧ a.2 < b.2 := by
  unfold B.less; simp
theorem B.fold_ge (t : List Bl) (b : Bl) : (∀ x ∈ b :: t, B.less (t.foldl (fun o b => if B.less o.1 o.2 b.1 b.2 = true then b else o) b).1 (t.foldl (fun o b => if B.less o.1 o.2 b.1 b.2 = true then b else o) b).2 x.1 x.2 = false) ∧ t.foldl (fun o b => if B.less o.1 o.2 b.1 b.2 = true then b else o) b ∈ b :: t := by
  induction t generalizing b with
  | nil =>
    simp [B.less]
  | cons a t ih =>
    simp only [List.foldl_cons]
    by_cases h : B.less b.1 b.2 a.1 a.2 = true
    · rw [if_pos h]
      obtain ⟨h1, h2⟩ := ih a
      refine ⟨fun x hx => ?_, List.mem_cons_of_mem _ h2⟩
      rcases List.mem_cons.1 hx with rfl | hx
      · have h3 := h1 a (by simp)
        generalize t.foldl (fun o b => if B.less o.1 o.2 b.1 b.2 = true then b else o) a = m at *
        rw [B.less_iff] at h
        rw [← Bool.not_eq_true, B.less_iff] at h3 ⊢
        omega
      · exact h1 x hx
    · rw [if_neg h]
      obtain ⟨h1, h2⟩ := ih b
      refine ⟨fun x hx => ?_, by
        rcases List.mem_cons.1 h2 with e | e
        · rw [e]; exact List.mem_cons_self
        · exact List.mem_cons_of_mem _ (List.mem_cons_of_mem _ e)⟩
      rcases List.mem_cons.1 hx with rfl | hx
      · exact h1 _ (by simp)
      · rcases List.mem_cons.1 hx with rfl | hx
        · have h3 := h1 b (by simp)
          generalize t.foldl (fun o b => if B.less o.1 o.2 b.1 b.2 = true then b else o) b = m at *
          rw [B.less_iff] at h
          rw [← Bool.not_eq_true, B.less_iff] at h3 ⊢
          omega
        · exact h1 x (by simp [hx])
theorem B.most_ge (l : List Bl) : ∀ x ∈ l, B.less (B.most l).1 (B.most l).2 x.1 x.2 = false := by
  cases l with
  | nil => simp
  | cons b t => exact (B.fold_ge t b).1
theorem B.most_mem (l : List Bl) (h : l ≠ []) : B.most l ∈ l := by
  cases l with
  | nil => exact absurd rfl h
  | cons b t => exact (B.fold_ge t b).2
theorem B.most_snoc (l : List Bl) (b : Bl) : B.most (l ++ [b]) = if l = [] ∨ B.less (B.most l).1 (B.most l).2 b.1 b.2 = true then b else B.most l := by
  cases l with
  | nil => simp [B.most]
  | cons a t =>
    show (t ++ [b]).foldl _ a = _
    rw [List.foldl_append]
    simp only [List.foldl_cons, List.foldl_nil, reduceCtorEq, false_or]
    rfl
/-- whatever is not less than any is the greatest -/
theorem B.most_unique (l : List Bl) (x : Bl) (hx : x ∈ l) (h : ∀ y ∈ l, B.less x.1 x.2 y.1 y.2 = false) : x = B.most l := by
  have h1 := B.most_ge l x hx
  have h2 := h _ (B.most_mem l (fun e => by subst e; simp at hx))
  rw [← Bool.not_eq_true, B.less_iff] at h1 h2
  obtain ⟨a, b⟩ := x
  generalize B.most l = m at *
  obtain ⟨c, d⟩ := m
  simp only at h1 h2
  have e1 : a = c := by omega
  have e2 : b = d := by omega
  rw [e1, e2]

theorem cellAt' {w : World} {g : Nat} {cs : Array Value} {t : TypeId} (h : w.heap[g]? = some (.cells cs t (0, 0))) (i : Nat) : w.cell? ⟨g, i, none⟩ = cs[i]? := cell_of_row w g i cs t (0, 0) h
theorem freeAt' {w : World} {g : Nat} {cs : Array Value} {t : TypeId} (h : w.heap[g]? = some (.cells cs t (0, 0))) (i : Nat) : w.frozen? ⟨g, i, none⟩ = false := by
  simp [World.frozen?, h]
theorem setAt' {w : World} {g : Nat} {cs : Array Value} {t : TypeId} (h : w.heap[g]? = some (.cells cs t (0, 0))) (i : Nat) (u : Value) : (w.setCell ⟨g, i, none⟩ u).heap[g]? = some (.cells (cs.setIfInBounds i u) t (0, 0)) := by
  simp [World.setCell, Array.getElem?_modify, h]
theorem heapAN {w : World} {g : Nat} {o' : Obj} (h : w.heap[g]? = some o') (o : Obj) : (w.alloc o).heap[g]? = some o' := (Below.heap_alloc w o g (Array.getElem?_eq_some_iff.1 h).1).trans h
theorem heapBN {w w' : World} {g : Nat} {o' : Obj} (h : w.heap[g]? = some o') (hb : Below w.heap.size w w') : w'.heap[g]? = some o' := (hb.block g (Array.getElem?_eq_some_iff.1 h).1).trans h
theorem heapSN {w : World} {g : Nat} {o' : Obj} (h : w.heap[g]? = some o') {p : Addr} (hp : g ≠ p.block) (u : Value) : (w.setCell p u).heap[g]? = some o' := (Below.heap_setCell w p u g hp).trans h

set_option maxHeartbeats 1600000 in
theorem most_any (A : Option Addr) (c : Nat) (l : List Bl) (w : World) (B0 : Nat) (hl : l.length ≤ 1099511627776) (hc : l.length ≤ c) (hf : BalsAt w B0 A l) (hB : B0 ≤ w.heap.size) :
    Calls Tryd.prog 79 #[.slice A l.length c] w fun e w' => e = .returned (bal (B.most l).1 (B.most l).2) ∧ Below w.heap.size w w' := by
  obtain ⟨n, hn⟩ : ∃ n, n = l.length := ⟨_, rfl⟩
  have HN := Lib.hid hn
  rw [← hn] at hl hc ⊢
  clear hn
  go_enter Tryd.func79, Tryd.ntmps79
  go_wp2_with fail
  go_loopw [8] (fun i wr => ∃ k : Nat, k ≤ n ∧ i = .int .i64 (k : Int) ∧ Hid (wr.heap[w.heap.size + 1]? = some (.cells #[.int .u32 ((B.most (l.take k)).1 : Int), .int .i64 (B.most (l.take k)).2] 28 (0, 0))) ∧
      Hid (wr.heap[w.heap.size]? = some (.cells #[.int .u32 0, .int .i64 0] 28 (0, 0))) ∧ Below w.heap.size w wr) (fun i _ => n - (intOf i).toNat)
  case atStart => exact ⟨0, Nat.zero_le _, rfl, by show _ = _; simpa [B.most] using heap_alloc_new (w.alloc (.cells #[.int .u32 0, .int .i64 0] 28)) _, by show _ = _; exact (Below.heap_alloc _ _ _ (by simp)).trans (heap_alloc_new w _), ((Below.refl _ _).alloc (Nat.le_refl _) _).alloc (by simp) _⟩
  case round =>
    obtain ⟨k, hk, rfl, HB1, HB0, hbel⟩ := hrel
    have h10 := cellAt' HB1.out 0
    have h11 := cellAt' HB1.out 1
    have f10 := freeAt' HB1.out 0
    have f11 := freeAt' HB1.out 1
    simp only [List.getElem?_toArray, List.getElem?_cons_zero, List.getElem?_cons_succ] at h10 h11
    have hlt1 : w.heap.size + 1 < wr.heap.size := (Array.getElem?_eq_some_iff.1 HB1.out).1
    by_cases hlt : k < n
    · have hkl : k < l.length := by rw [← HN.out]; exact hlt
      obtain ⟨b, off, rfl, hb, c0, c1⟩ := (hf.below hbel hB) k _ (List.getElem?_eq_getElem hkl)
      have HT : Hid (B.most (l.take (k + 1)) = if l.take k = [] ∨ B.less (B.most (l.take k)).1 (B.most (l.take k)).2 (l[k]'hkl).1 (l[k]'hkl).2 = true then (l[k]'hkl) else B.most (l.take k)) := by
        show _ = _
        rw [List.take_succ_eq_append_getElem hkl]
        exact B.most_snoc _ _
      have HE : Hid (l.take k = [] ↔ k = 0) := by
        constructor
        · intro h
          have h2 : (l.take k).length = 0 := by rw [h]; rfl
          rw [List.length_take] at h2; omega
        · intro h; rw [h]; rfl
      generalize l[k] = x at *
      obtain ⟨xr, xn⟩ := x
      generalize hm : B.most (l.take k) = m at *
      clear hm
      obtain ⟨mr, mn⟩ := m
      simp only at c0 c1 h10 h11
      by_cases hk0 : k = 0
      · have HT2 : Hid (B.most (l.take (k + 1)) = (xr, xn)) := by
          have := HT.out
          rw [if_pos (Or.inl (HE.out.2 hk0))] at this
          exact this
        have hkb : ((k : Int) == 0) = true := by simp [hk0]
        clear hk0
        go_wp2_with fail
        go_roundw
        case rel =>
          refine ⟨k + 1, by omega, by go_num, ?_, heapAN (heapSN (heapSN HB0.out (by simp) _) (by simp) _) _, ((hbel.setCell (by simp) _).setCell (by simp) _).alloc (by simpa using hbel.size) _⟩
          show _ = _
          rw [HT2.out]
          refine heapAN ?_ _
          have := setAt' (setAt' HB1.out 0 (.int .u32 (xr : Int))) 1 (.int .i64 xn)
          simpa using this
        case measure => simp [intOf]; omega
      · have hkb : ((k : Int) == 0) = false := by simp [hk0]
        cases hless : B.less mr mn xr xn
        · have HT2 : Hid (B.most (l.take (k + 1)) = (mr, mn)) := by
            have := HT.out
            rw [if_neg (by rw [hless]; simp [HE.out]; exact hk0)] at this
            exact this
          have HLS := Lib.hid hless
          clear hless hk0
          go_wp2_with fail
          refine (bless_any mr mn xr xn _).mono ?_
          rintro e w2 ⟨rfl, hb2⟩
          rw [HLS.out]
          go_wp2_with fail
          go_roundw
          case rel =>
            refine ⟨k + 1, by omega, by go_num, ?_, heapBN (heapAN HB0.out _) hb2, (hbel.alloc hbel.size _).trans (hb2.mono (by have := hbel.size; simp; omega))⟩
            show _ = _
            rw [HT2.out]
            exact heapBN (heapAN HB1.out _) hb2
          case measure => simp [intOf]; omega
        · have HT2 : Hid (B.most (l.take (k + 1)) = (xr, xn)) := by
            have := HT.out
            rw [if_pos (Or.inr hless)] at this
            exact this
          have HLS := Lib.hid hless
          clear hless hk0
          go_wp2_with fail
          refine (bless_any mr mn xr xn _).mono ?_
          rintro e w2 ⟨rfl, hb2⟩
          rw [HLS.out]
          have HB2 := Lib.hid (heapBN (heapAN HB1.out _) hb2)
          have HZ2 := Lib.hid (heapBN (heapAN HB0.out _) hb2)
          have d0 : w2.cell? ⟨wr.heap.size, 0, none⟩ = some (.int .u32 (xr : Int)) := cellB hb2 (by simp)
          have d1 : w2.cell? ⟨wr.heap.size, 1, none⟩ = some (.int .i64 xn) := cellB hb2 (by simp)
          have g10 := cellAt' HB2.out 0
          have g11 := cellAt' HB2.out 1
          have e10 := freeAt' HB2.out 0
          have e11 := freeAt' HB2.out 1
          simp only [List.getElem?_toArray, List.getElem?_cons_zero, List.getElem?_cons_succ] at g10 g11
          have hbel2 := (hbel.alloc hbel.size (.cells #[.int .u32 (xr : Int), .int .i64 xn] 28)).trans (hb2.mono (by have := hbel.size; simp; omega))
          clear hb2
          go_wp2_with fail
          go_roundw
          case rel =>
            refine ⟨k + 1, by omega, by go_num, ?_, heapSN (heapSN HZ2.out (by simp) _) (by simp) _, (hbel2.setCell (by simp) _).setCell (by simp) _⟩
            show _ = _
            rw [HT2.out]
            have := setAt' (setAt' HB2.out 0 (.int .u32 (xr : Int))) 1 (.int .i64 xn)
            simpa using this
          case measure => simp [intOf]; omega
    · obtain rfl : k = n := by omega
      have h00 := cellAt' HB0.out 0
      have h01 := cellAt' HB0.out 1
      have f00 := freeAt' HB0.out 0
      have f01 := freeAt' HB0.out 1
      simp only [List.getElem?_toArray, List.getElem?_cons_zero, List.getElem?_cons_succ] at h00 h01
      have htk : l.take k = l := by rw [HN.out]; exact List.take_length
      rw [htk] at h10 h11
      clear htk
      go_wp2_with fail
      refine bodyPost_ret (v := bal (B.most l).1 (B.most l).2) (by simp [results, Tryd.results79, go_sem, h00, h01]) rfl ⟨rfl, ?_⟩
      exact (hbel.setCell (by simp) _).setCell (by simp) _

/-! ### the reference -/
end Go.Proofs.YtbahooohkigcnaaDoor
