/- The walks of Most, and of the reference's. Conditions: the ballots are no more than 2^40, each round is a uint32. -/
import Derived.Test.YtfpblaggnehnoaaBallotWalks
namespace Go.Proofs.Ytfpblaggnehnoaa
open Go.RowKit
set_option linter.unusedSimpArgs false
set_option linter.unusedVariables false

abbrev Bl := Nat × Int
/-- the ballots of a slice, cell by cell -/
def BalsAt (w : World) (B : Nat) (A : Option Addr) (fl : List Bl) : Prop :=
  ∀ i f, fl[i]? = some f → ∃ b off, A = some ⟨b, off, none⟩ ∧ b < B ∧ w.cell? ⟨b, off + i * 2, none⟩ = some (.int .u32 (f.1 : Int)) ∧ w.cell? ⟨b, off + i * 2 + 1, none⟩ = some (.int .i64 f.2)
theorem BalsAt.below {w w' : World} {B B' : Nat} {A : Option Addr} {fl : List Bl} (h : BalsAt w B A fl) (hb : Below B' w w') (hB : B ≤ B') : BalsAt w' B A fl := fun i f hf => by
  obtain ⟨b, off, hA, hlt, h0, h1⟩ := h i f hf
  exact ⟨b, off, hA, hlt, (hb.cell (show b < B' by omega)).trans h0, (hb.cell (show b < B' by omega)).trans h1⟩
theorem BalsAt.nil {w : World} {B : Nat} {A : Option Addr} : BalsAt w B A [] := fun i f hf => by simp at hf
/-- the cells of a list of ballots -/
def balCells (l : List Bl) : List Value := l.flatMap fun f => [.int .u32 (f.1 : Int), .int .i64 f.2]
theorem balCells_len (l : List Bl) : (balCells l).length = l.length * 2 := by
  induction l with
  | nil => rfl
  | cons a l ih => simp only [balCells, List.flatMap_cons, List.length_append, List.length_cons, List.length_nil] at ih ⊢; omega
theorem balCells_at (l : List Bl) (i : Nat) (f : Bl) (h : l[i]? = some f) : (balCells l)[i * 2]? = some (.int .u32 (f.1 : Int)) ∧ (balCells l)[i * 2 + 1]? = some (.int .i64 f.2) := by
  induction l generalizing i with
  | nil => simp at h
  | cons a l ih =>
    cases i with
    | zero => simp at h; subst h; simp [balCells]
    | succ i =>
      have := ih i (by simpa using h)
      have e : balCells (a :: l) = [.int .u32 (a.1 : Int), .int .i64 a.2] ++ balCells l := by simp [balCells]
      rw [e, List.getElem?_append_right (by simp; omega), List.getElem?_append_right (by simp; omega)]
      simpa [show (i + 1) * 2 - 2 = i * 2 from by omega, show (i + 1) * 2 + 1 - 2 = i * 2 + 1 from by omega] using this
theorem balCells_snoc (l : List Bl) (r : Nat) (n : Int) : balCells (l ++ [(r, n)]) = balCells l ++ [.int .u32 (r : Int), .int .i64 n] := by simp [balCells]
theorem BalsAt.ofOwn {w : World} {base e n c : Nat} {A : Option Addr} {l : List Bl} (h : w.ownsRow base e 2 (.slice A n c) n (balCells l)) : BalsAt w w.heap.size A l := fun i f hf => by
  have hi := (List.getElem?_eq_some_iff.1 hf).1
  have hn : l.length = n := by have := h.1; rw [balCells_len] at this; omega
  obtain ⟨h1, h2⟩ := balCells_at l i f hf
  rcases h.2 with ⟨_, rfl⟩ | ⟨g, cap, cur, hv, _, hg, _⟩
  · omega
  · have hA : A = some ⟨g, 0, none⟩ := by injection hv
    subst hA
    have c1 := h.cells (g := g) rfl _ _ h1
    have c2 := h.cells (g := g) rfl _ _ h2
    rw [Addr.add_lit] at c1 c2
    exact ⟨g, 0, rfl, (Array.getElem?_eq_some_iff.1 hg).1, c1, by simpa [Nat.add_assoc] using c2⟩

/-! ### the plain law -/
def B.most (l : List Bl) : Bl := match l with
  | [] => (0, 0)
  | b :: t => t.foldl (fun o b => if B.less o.1 o.2 b.1 b.2 = true then b else o) b
theorem B.less_iff (a b : Bl) : B.less a.1 a.2 b.1 b.2 = true ↔ a.1 < b.1 ∨ a.1 = b.1 ∧ a.2 < b.2 := by
  unfold B.less; simp
theorem B.fold_ge (t : List Bl) (b : Bl) : (∀ x ∈ b :: t, B.less (t.foldl (fun o b => if B.less o.1 o.2 b.1 b.2 = true then b else o) b).1 (t.foldl (fun o b => if B.less o.1 o.2 b.1 b.2 = true then b else o) b).2 x.1 x.2 = false) ∧ t.foldl (fun o b => if B.less o.1 o.2 b.1 b.2 = true then b else o) b ∈ b :: t := by
  induction t generalizing b with
  | nil =>
    simp [B.less]
  | cons a t ih =>
    simp only [List.foldl_cons]
    by_cases h : B.less b.1 b.2 a.1 a.2 = true
    · rw [if_pos h]
      obtain ⟨h1, h2⟩ := ih a
      refine ⟨fun x hx => ?_, List.mem_cons_of_mem _ h2⟩
      rcases List.mem_cons.1 hx with rfl | hx
      · have h3 := h1 a (by simp)
        generalize t.foldl (fun o b => if B.less o.1 o.2 b.1 b.2 = true then b else o) a = m at *
        rw [B.less_iff] at h
        rw [← Bool.not_eq_true, B.less_iff] at h3 ⊢
        omega
      · exact h1 x hx
    · rw [if_neg h]
      obtain ⟨h1, h2⟩ := ih b
      refine ⟨fun x hx => ?_, by
        rcases List.mem_cons.1 h2 with e | e
        · rw [e]; exact List.mem_cons_self
        · exact List.mem_cons_of_mem _ (List.mem_cons_of_mem _ e)⟩
      rcases List.mem_cons.1 hx with rfl | hx
      · exact h1 _ (by simp)
      · rcases List.mem_cons.1 hx with rfl | hx
        · have h3 := h1 b (by simp)
          generalize t.foldl (fun o b => if B.less o.1 o.2 b.1 b.2 = true then b else o) b = m at *
          rw [B.less_iff] at h
          rw [← Bool.not_eq_true, B.less_iff] at h3 ⊢
          omega
        · exact h1 x (by simp [hx])
theorem B.most_ge (l : List Bl) : ∀ x ∈ l, B.less (B.most l).1 (B.most l).2 x.1 x.2 = false := by
  cases l with
  | nil => simp
  | cons b t => exact (B.fold_ge t b).1
theorem B.most_mem (l : List Bl) (h : l ≠ []) : B.most l ∈ l := by
  cases l with
  | nil => exact absurd rfl h
  | cons b t => exact (B.fold_ge t b).2
theorem B.most_snoc (l : List Bl) (b : Bl) : B.most (l ++ [b]) = if l = [] ∨ B.less (B.most l).1 (B.most l).2 b.1 b.2 = true then b else B.most l := by
  cases l with
  | nil => simp [B.most]
  | cons a t =>
    show (t ++ [b]).foldl _ a = _
    rw [List.foldl_append]
    simp only [List.foldl_cons, List.foldl_nil, reduceCtorEq, false_or]
    rfl
/-- whatever is not less than any is the greatest -/
theorem B.most_unique (l : List Bl) (x : Bl) (hx : x ∈ l) (h : ∀ y ∈ l, B.less x.1 x.2 y.1 y.2 = false) : x = B.most l := by
  have h1 := B.most_ge l x hx
  have h2 := h _ (B.most_mem l (fun e => by subst e; simp at hx))
  rw [← Bool.not_eq_true, B.less_iff] at h1 h2
  obtain ⟨a, b⟩ := x
  generalize B.most l = m at *
  obtain ⟨c, d⟩ := m
  simp only at h1 h2
  have e1 : a = c := by omega
  have e2 : b = d := by omega
  rw [e1, e2]

theorem cellAt' {w : World} {g : Nat} {cs : Array Value} {t : TypeId} (h : w.heap[g]? = some (.cells cs t (0, 0))) (i : Nat) : w.cell? ⟨g, i, none⟩ = cs[i]? := cell_of_row w g i cs t (0, 0) h
theorem freeAt' {w : World} {g : Nat} {cs : Array Value} {t : TypeId} (h : w.heap[g]? = some (.cells cs t (0, 0))) (i : Nat) : w.frozen? ⟨g, i, none⟩ = false := by
  simp [World.frozen?, h]
theorem setAt' {w : World} {g : Nat} {cs : Array Value} {t : TypeId} (h : w.heap[g]? = some (.cells cs t (0, 0))) (i : Nat) (u : Value) : (w.setCell ⟨g, i, none⟩ u).heap[g]? = some (.cells (cs.setIfInBounds i u) t (0, 0)) := by
  simp [World.setCell, Array.getElem?_modify, h]
theorem heapA {w : World} {g : Nat} {o' : Obj} (h : w.heap[g]? = some o') (o : Obj) : (w.alloc o).heap[g]? = some o' := (Below.heap_alloc w o g (Array.getElem?_eq_some_iff.1 h).1).trans h
theorem heapB {w w' : World} {g : Nat} {o' : Obj} (h : w.heap[g]? = some o') (hb : Below w.heap.size w w') : w'.heap[g]? = some o' := (hb.block g (Array.getElem?_eq_some_iff.1 h).1).trans h
theorem heapS {w : World} {g : Nat} {o' : Obj} (h : w.heap[g]? = some o') {p : Addr} (hp : g ≠ p.block) (u : Value) : (w.setCell p u).heap[g]? = some o' := (Below.heap_setCell w p u g hp).trans h

set_option maxHeartbeats 1600000 in
theorem most_any (A : Option Addr) (c : Nat) (l : List Bl) (w : World) (B0 : Nat) (hl : l.length ≤ 1099511627776) (hc : l.length ≤ c) (hf : BalsAt w B0 A l) (hB : B0 ≤ w.heap.size) :
    Calls Try.prog 19 #[.slice A l.length c] w fun e w' => e = .returned (bal (B.most l).1 (B.most l).2) ∧ Below w.heap.size w w' := by
  obtain ⟨n, hn⟩ : ∃ n, n = l.length := ⟨_, rfl⟩
  have HN := Lib.hid hn
  rw [← hn] at hl hc ⊢
  clear hn
  go_enter Try.func19, Try.ntmps19
  go_wp2_with fail
  go_loopw [8] (fun i wr => ∃ k : Nat, k ≤ n ∧ i = .int .i64 (k : Int) ∧ Hid (wr.heap[w.heap.size + 1]? = some (.cells #[.int .u32 ((B.most (l.take k)).1 : Int), .int .i64 (B.most (l.take k)).2] 27 (0, 0))) ∧
      Hid (wr.heap[w.heap.size]? = some (.cells #[.int .u32 0, .int .i64 0] 27 (0, 0))) ∧ Below w.heap.size w wr) (fun i _ => n - (intOf i).toNat)
  case atStart => exact ⟨0, Nat.zero_le _, rfl, by show _ = _; simpa [B.most] using heap_alloc_new (w.alloc (.cells #[.int .u32 0, .int .i64 0] 27)) _, by show _ = _; exact (Below.heap_alloc _ _ _ (by simp)).trans (heap_alloc_new w _), ((Below.refl _ _).alloc (Nat.le_refl _) _).alloc (by simp) _⟩
  case round =>
    obtain ⟨k, hk, rfl, HB1, HB0, hbel⟩ := hrel
    have h10 := cellAt' HB1.out 0
    have h11 := cellAt' HB1.out 1
    have f10 := freeAt' HB1.out 0
    have f11 := freeAt' HB1.out 1
    simp only [List.getElem?_toArray, List.getElem?_cons_zero, List.getElem?_cons_succ] at h10 h11
    have hlt1 : w.heap.size + 1 < wr.heap.size := (Array.getElem?_eq_some_iff.1 HB1.out).1
    by_cases hlt : k < n
    · have hkl : k < l.length := by rw [← HN.out]; exact hlt
      obtain ⟨b, off, rfl, hb, c0, c1⟩ := (hf.below hbel hB) k _ (List.getElem?_eq_getElem hkl)
      have HT : Hid (B.most (l.take (k + 1)) = if l.take k = [] ∨ B.less (B.most (l.take k)).1 (B.most (l.take k)).2 (l[k]'hkl).1 (l[k]'hkl).2 = true then (l[k]'hkl) else B.most (l.take k)) := by
        show _ = _
        rw [List.take_succ_eq_append_getElem hkl]
        exact B.most_snoc _ _
      have HE : Hid (l.take k = [] ↔ k = 0) := by
        constructor
        · intro h
          have h2 : (l.take k).length = 0 := by rw [h]; rfl
          rw [List.length_take] at h2; omega
        · intro h; rw [h]; rfl
      generalize l[k] = x at *
      obtain ⟨xr, xn⟩ := x
      generalize hm : B.most (l.take k) = m at *
      clear hm
      obtain ⟨mr, mn⟩ := m
      simp only at c0 c1 h10 h11
      by_cases hk0 : k = 0
      · have HT2 : Hid (B.most (l.take (k + 1)) = (xr, xn)) := by
          have := HT.out
          rw [if_pos (Or.inl (HE.out.2 hk0))] at this
          exact this
        have hkb : ((k : Int) == 0) = true := by simp [hk0]
        clear hk0
        go_wp2_with fail
        go_roundw
        case rel =>
          refine ⟨k + 1, by omega, by go_num, ?_, heapA (heapS (heapS HB0.out (by simp) _) (by simp) _) _, ((hbel.setCell (by simp) _).setCell (by simp) _).alloc (by simpa using hbel.size) _⟩
          show _ = _
          rw [HT2.out]
          refine heapA ?_ _
          have := setAt' (setAt' HB1.out 0 (.int .u32 (xr : Int))) 1 (.int .i64 xn)
          simpa using this
        case measure => simp [intOf]; omega
      · have hkb : ((k : Int) == 0) = false := by simp [hk0]
        cases hless : B.less mr mn xr xn
        · have HT2 : Hid (B.most (l.take (k + 1)) = (mr, mn)) := by
            have := HT.out
            rw [if_neg (by rw [hless]; simp [HE.out]; exact hk0)] at this
            exact this
          have HLS := Lib.hid hless
          clear hless hk0
          go_wp2_with fail
          refine (less_any mr mn xr xn _).mono ?_
          rintro e w2 ⟨rfl, hb2⟩
          rw [HLS.out]
          go_wp2_with fail
          go_roundw
          case rel =>
            refine ⟨k + 1, by omega, by go_num, ?_, heapB (heapA HB0.out _) hb2, (hbel.alloc hbel.size _).trans (hb2.mono (by have := hbel.size; simp; omega))⟩
            show _ = _
            rw [HT2.out]
            exact heapB (heapA HB1.out _) hb2
          case measure => simp [intOf]; omega
        · have HT2 : Hid (B.most (l.take (k + 1)) = (xr, xn)) := by
            have := HT.out
            rw [if_pos (Or.inr hless)] at this
            exact this
          have HLS := Lib.hid hless
          clear hless hk0
          go_wp2_with fail
          refine (less_any mr mn xr xn _).mono ?_
          rintro e w2 ⟨rfl, hb2⟩
          rw [HLS.out]
          have HB2 := Lib.hid (heapB (heapA HB1.out _) hb2)
          have HZ2 := Lib.hid (heapB (heapA HB0.out _) hb2)
          have d0 : w2.cell? ⟨wr.heap.size, 0, none⟩ = some (.int .u32 (xr : Int)) := cellB hb2 (by simp)
          have d1 : w2.cell? ⟨wr.heap.size, 1, none⟩ = some (.int .i64 xn) := cellB hb2 (by simp)
          have g10 := cellAt' HB2.out 0
          have g11 := cellAt' HB2.out 1
          have e10 := freeAt' HB2.out 0
          have e11 := freeAt' HB2.out 1
          simp only [List.getElem?_toArray, List.getElem?_cons_zero, List.getElem?_cons_succ] at g10 g11
          have hbel2 := (hbel.alloc hbel.size (.cells #[.int .u32 (xr : Int), .int .i64 xn] 27)).trans (hb2.mono (by have := hbel.size; simp; omega))
          clear hb2
          go_wp2_with fail
          go_roundw
          case rel =>
            refine ⟨k + 1, by omega, by go_num, ?_, heapS (heapS HZ2.out (by simp) _) (by simp) _, (hbel2.setCell (by simp) _).setCell (by simp) _⟩
            show _ = _
            rw [HT2.out]
            have := setAt' (setAt' HB2.out 0 (.int .u32 (xr : Int))) 1 (.int .i64 xn)
            simpa using this
          case measure => simp [intOf]; omega
    · obtain rfl : k = n := by omega
      have h00 := cellAt' HB0.out 0
      have h01 := cellAt' HB0.out 1
      have f00 := freeAt' HB0.out 0
      have f01 := freeAt' HB0.out 1
      simp only [List.getElem?_toArray, List.getElem?_cons_zero, List.getElem?_cons_succ] at h00 h01
      have htk : l.take k = l := by rw [HN.out]; exact List.take_length
      rw [htk] at h10 h11
      clear htk
      go_wp2_with fail
      refine bodyPost_ret (v := bal (B.most l).1 (B.most l).2) (by simp [results, Try.results19, go_sem, h00, h01]) rfl ⟨rfl, ?_⟩
      exact (hbel.setCell (by simp) _).setCell (by simp) _

/-! ### the reference -/
set_option maxHeartbeats 1600000 in
theorem rmost_any (A : Option Addr) (c : Nat) (l : List Bl) (w : World) (B0 : Nat) (hl : l.length ≤ 1099511627776) (hc : l.length ≤ c) (hf : BalsAt w B0 A l) (hB : B0 ≤ w.heap.size) :
    Calls Try.prog 20 #[.slice A l.length c] w fun e w' => e = .returned (bal (B.most l).1 (B.most l).2) ∧ Below w.heap.size w w' := by
  obtain ⟨n, hn⟩ : ∃ n, n = l.length := ⟨_, rfl⟩
  have HN := Lib.hid hn
  rw [← hn] at hl hc ⊢
  clear hn
  go_enter Try.func20, Try.ntmps20
  go_wp2_with fail
  go_loopw [3] (fun i wr => ∃ k : Nat, k ≤ n ∧ i = .int .i64 (k : Int) ∧ Hid (wr.heap[w.heap.size]? = some (.cells #[.int .u32 0, .int .i64 0] 28 (0, 0))) ∧ Below w.heap.size w wr ∧
      Hid (∀ x ∈ l.take k, ∃ y ∈ l, B.less x.1 x.2 y.1 y.2 = true)) (fun i _ => n - (intOf i).toNat)
  case atStart => exact ⟨0, Nat.zero_le _, rfl, by show _ = _; exact heap_alloc_new w _, (Below.refl _ _).alloc (Nat.le_refl _) _, fun x hx => by simp at hx⟩
  case round =>
    obtain ⟨k, hk, rfl, HB0, hbel, HX⟩ := hrel
    by_cases hlt : k < n
    · have hkl : k < l.length := by rw [← HN.out]; exact hlt
      obtain ⟨b, off, rfl, hb, c0, c1⟩ := (hf.below hbel hB) k _ (List.getElem?_eq_getElem hkl)
      have HK : Hid (∀ x ∈ l.take (k + 1), x ∈ l.take k ∨ x = l[k]'hkl) := fun x hx => by
        rw [List.take_succ_eq_append_getElem hkl, List.mem_append, List.mem_singleton] at hx
        exact hx
      have HM : Hid (l[k]'hkl ∈ l) := List.getElem_mem hkl
      obtain ⟨x, hx⟩ : ∃ x, x = l[k]'hkl := ⟨_, rfl⟩
      have HXK : Hid (l[k]'hkl = x) := hx.symm
      rw [← hx] at HK HM c0 c1
      clear hx
      obtain ⟨xr, xn⟩ := x
      simp only at c0 c1
      go_wp2_with fail
      obtain ⟨wo, hwo⟩ : ∃ wo : World, wo = wr := ⟨_, rfl⟩
      go_loopw [4, 5] (fun v j wr => ∃ (m : Nat) (f : Bool), m ≤ n ∧ j = .int .i64 (m : Int) ∧ v = .bool f ∧ Hid (f = true ↔ ∀ y ∈ l.take m, B.less xr xn y.1 y.2 = false) ∧ Hid (wr.heap[w.heap.size]? = some (.cells #[.int .u32 0, .int .i64 0] 28 (0, 0))) ∧ Below w.heap.size w wr) (fun _ j _ => n - (intOf j).toNat)
      case atStart => exact ⟨0, true, Nat.zero_le _, rfl, rfl, by show _ ↔ _; simp, HB0, hbel⟩
      case round =>
        obtain ⟨m, f, hm, rfl, rfl, HF, HB1, hbel1⟩ := hrel
        by_cases hmn : m < n
        · have hml : m < l.length := by rw [← HN.out]; exact hmn
          obtain ⟨b', off', hbo, _, e0, e1⟩ := (hf.below hbel1 hB) m _ (List.getElem?_eq_getElem hml)
          obtain ⟨b2', off2', hbo2, _, x0, x1⟩ := (hf.below hbel1 hB) k _ (List.getElem?_eq_getElem hkl)
          injection hbo with hbo
          injection hbo with hbo1 hbo2'
          subst hbo1; subst hbo2'
          injection hbo2 with hbo2
          injection hbo2 with hbo1 hbo2'
          subst hbo1; subst hbo2'
          rw [HXK.out] at x0 x1
          simp only at x0 x1
          have HY : Hid (∀ z ∈ l.take (m + 1), z ∈ l.take m ∨ z = l[m]'hml) := fun z hz => by
            rw [List.take_succ_eq_append_getElem hml, List.mem_append, List.mem_singleton] at hz
            exact hz
          have HYM : Hid (∀ z, z ∈ l.take m ∨ z = l[m]'hml → z ∈ l.take (m + 1)) := fun z hz => by
            rw [List.take_succ_eq_append_getElem hml, List.mem_append, List.mem_singleton]
            exact hz
          generalize l[m] = y at *
          obtain ⟨yr, yn⟩ := y
          simp only at e0 e1
          cases f with
          | false =>
            have HF2 : Hid (false = true ↔ ∀ y ∈ l.take (m + 1), B.less xr xn y.1 y.2 = false) := by
              constructor
              · intro h; cases h
              · intro h; exact absurd (HF.out.2 fun y hy => h y (HYM.out y (Or.inl hy))) (by simp)
            go_wp2_with fail
            go_quiet (fail)
            go_wp2_with fail
            go_roundw
            case rel => exact ⟨m + 1, false, by omega, by go_num, rfl, HF2, HB1, belowDrewN hbel1 _⟩
            case measure => simp [intOf]; omega
          | true =>
            have HF2 : Hid ((!B.less xr xn yr yn) = true ↔ ∀ y ∈ l.take (m + 1), B.less xr xn y.1 y.2 = false) := by
              show _ ↔ _
              rw [Bool.not_eq_true']
              constructor
              · intro h z hz
                rcases HY.out z hz with hz | hz
                · exact HF.out.1 rfl z hz
                · subst hz; exact h
              · intro h; exact h (yr, yn) (HYM.out _ (Or.inr rfl))
            go_wp2_with fail
            go_region_held3 (fun w' => w'.cell? ⟨b, off + k * 2, none⟩ = some (.int .u32 (xr : Int)) ∧ w'.cell? ⟨b, off + k * 2 + 1, none⟩ = some (.int .i64 xn) ∧ w'.cell? ⟨b, off + m * 2, none⟩ = some (.int .u32 (yr : Int)) ∧ w'.cell? ⟨b, off + m * 2 + 1, none⟩ = some (.int .i64 yn)) (first | exact ⟨x0, x1, e0, e1⟩ | exact kk) (first | (go_at_call 26; refine (rless_any xr xn yr yn _).mono ?_; rintro e w3 ⟨rfl, hb3⟩; have hb3z := belowOfDrewX hb3; have kk : w3.cell? ⟨b, off + k * 2, none⟩ = some (.int .u32 (xr : Int)) ∧ w3.cell? ⟨b, off + k * 2 + 1, none⟩ = some (.int .i64 xn) ∧ w3.cell? ⟨b, off + m * 2, none⟩ = some (.int .u32 (yr : Int)) ∧ w3.cell? ⟨b, off + m * 2 + 1, none⟩ = some (.int .i64 yn) := ⟨cellB hb3z x0, cellB hb3z x1, cellB hb3z e0, cellB hb3z e1⟩))
            have hbel3 : Below w.heap.size w w3 := hbel1.trans (hb3z.mono hbel1.size)
            have HB3 := Lib.hid (heapB HB1.out hb3z)
            clear hb3 hb3z kk
            go_wp2_with fail
            go_roundw
            case rel => exact ⟨m + 1, _, by omega, by go_num, rfl, HF2, HB3, hbel3⟩
            case measure => simp [intOf]; omega
        · obtain rfl : m = n := by omega
          have htk : l.take m = l := by rw [HN.out]; exact List.take_length
          rw [htk] at HF
          cases f with
          | true =>
            have HEQ : Hid ((xr, xn) = B.most l) := B.most_unique l (xr, xn) HM.out (HF.out.1 rfl)
            obtain ⟨b2', off2', hbo2, _, x0, x1⟩ := (hf.below hbel1 hB) k _ (List.getElem?_eq_getElem hkl)
            injection hbo2 with hbo2
            injection hbo2 with hbo1 hbo2'
            subst hbo1; subst hbo2'
            rw [HXK.out] at x0 x1
            simp only at x0 x1
            have h00 := cellAt' HB1.out 0
            have h01 := cellAt' HB1.out 1
            have f00 := freeAt' HB1.out 0
            have f01 := freeAt' HB1.out 1
            simp only [List.getElem?_toArray, List.getElem?_cons_zero, List.getElem?_cons_succ] at h00 h01
            clear htk
            go_wp2_with fail
            refine bodyPost_ret (v := bal xr xn) (by simp [results, Try.results20, go_sem, h00, h01]) rfl ⟨?_, ?_⟩
            · rw [← HEQ.out]
            · exact (hbel1.setCell (by simp) _).setCell (by simp) _
          | false =>
            have HX2 : Hid (∀ x ∈ l.take (k + 1), ∃ y ∈ l, B.less x.1 x.2 y.1 y.2 = true) := fun z hz => by
              rcases HK.out z hz with hz | hz
              · exact HX.out z hz
              · subst hz
                apply Classical.byContradiction
                intro hno
                have : false = true := HF.out.2 fun y hy => by
                  cases hh : B.less xr xn y.1 y.2
                  · rfl
                  · exact absurd ⟨y, hy, hh⟩ hno
                cases this
            clear htk
            go_wp2_with fail
            go_roundw
            case rel => exact ⟨k + 1, by omega, by go_num, HB1, hbel1, HX2⟩
            case measure => simp [intOf]; omega
    · obtain rfl : k = n := by omega
      have htk : l.take k = l := by rw [HN.out]; exact List.take_length
      have HE : Hid (B.most l = (0, 0)) := by
        show _ = _
        by_cases hne : l = []
        · subst hne; rfl
        · exfalso
          obtain ⟨y, hy, hh⟩ := HX.out (B.most l) (by rw [htk]; exact B.most_mem l hne)
          rw [B.most_ge l y hy] at hh
          cases hh
      have h00 := cellAt' HB0.out 0
      have h01 := cellAt' HB0.out 1
      have f00 := freeAt' HB0.out 0
      have f01 := freeAt' HB0.out 1
      simp only [List.getElem?_toArray, List.getElem?_cons_zero, List.getElem?_cons_succ] at h00 h01
      clear htk
      go_wp2_with fail
      refine bodyPost_ret (v := .agg #[.int .u32 0, .int .i64 0]) (by simp [results, Try.results20, go_sem, h00, h01]) rfl ⟨?_, ?_⟩
      · rw [HE.out]; rfl
      · exact (hbel.setCell (by simp) _).setCell (by simp) _
end Go.Proofs.Ytfpblaggnehnoaa
