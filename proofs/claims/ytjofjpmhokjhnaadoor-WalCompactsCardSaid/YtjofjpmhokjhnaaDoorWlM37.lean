/- What a disk tells as records: plain. No condition. -/
import Derived.Test.YtjofjpmhokjhnaaDoorWlM36
import Derived.Test.YtjofjpmhokjhnaaDoorWlM8
import Derived.Test.YtjofjpmhokjhnaaDoorWlM9
namespace Go.Proofs.YtjofjpmhokjhnaaDoor
set_option maxRecDepth 20000
open Go.RowKit T
set_option linter.unusedSimpArgs false
set_option linter.unusedVariables false
theorem text_tight (l t : List UInt8) (n : Nat) (h : t.length ≤ n) : (C.putText l t).length ≤ l.length + 2 + n := by
  unfold C.putText; simp only [List.length_append, C.be_len, List.length_take]; omega
theorem vput_tight (l : List UInt8) (k : Int) (b : Nat) (t : List UInt8) (h : V.formed k b t = true) : (V.put l k b t).length ≤ l.length + 58 := by
  have h0 := put_len2 l 0 1
  have h1 := put_len2 l 1 1
  have h2 := put_len2 (C.put l 1 1) b 8
  have h3 := put_len2 l 2 1
  have ht : t.length ≤ 40 := by
    unfold V.formed at h
    split at h
    · have := of_decide_eq_true h; rw [this.2]; exact Nat.zero_le _
    split at h
    · have := of_decide_eq_true h; rw [this.1]; exact Nat.zero_le _
    split at h
    · rw [Bool.and_eq_true] at h; exact (of_decide_eq_true h.1).2
    · cases h
  have h4 := text_tight (C.put l 2 1) t 40 ht
  unfold V.put
  grind
theorem rfold_tight (rs : List Rd1) (l : List UInt8) (h : ∀ x ∈ rs, x.1.length ≤ 12) : (rs.foldl rput l).length ≤ l.length + rs.length * 22 := by
  induction rs generalizing l with
  | nil => simp
  | cons r rs ih =>
    have h1 := ih (rput l r) (fun x hx => h x (by simp [hx]))
    have h2 := text_tight l r.1 12 (h r (by simp))
    have h3 := put_len2 (C.putText l r.1) r.2 8
    have h4 : (rput l r).length ≤ l.length + 22 := by unfold rput; omega
    simp only [List.foldl_cons, List.length_cons]; omega
theorem wfold_tight (ws : List Wr1) (l : List UInt8) (h : ∀ x ∈ ws, x.1.length ≤ 12 ∧ V.formed x.2.1 x.2.2.1 x.2.2.2 = true) : (ws.foldl wput l).length ≤ l.length + ws.length * 72 := by
  induction ws generalizing l with
  | nil => simp
  | cons r ws ih =>
    have h1 := ih (wput l r) (fun x hx => h x (by simp [hx]))
    have h2 := text_tight l r.1 12 (h r (by simp)).1
    have h3 := vput_tight (C.putText l r.1) r.2.1 r.2.2.1 r.2.2.2 (h r (by simp)).2
    have h4 : (wput l r).length ≤ l.length + 72 := by unfold wput; omega
    simp only [List.foldl_cons, List.length_cons]; omega
theorem cput_tight (l : List UInt8) (x : Cm) : (cput l x).length ≤ l.length + 620 := by
  unfold cput
  cases hf : x.formed with
  | false => simp
  | true =>
    rw [cond_true]
    split
    · unfold tput
      have h1 := put_len2 l 1 1
      cases ht : formed x.s x.q x.rs x.ws with
      | false => rw [cond_false]; omega
      | true =>
        rw [cond_true]
        obtain ⟨f1, f2, f3⟩ := formed_few ht
        obtain ⟨g1, g2⟩ := formed_all ht
        have a1 := idput_len (C.put l 1 1) x.s x.q
        have a2 := put_len2 (idput (C.put l 1 1) x.s x.q) x.rs.length 1
        have a3 := rfold_tight x.rs (C.put (idput (C.put l 1 1) x.s x.q) x.rs.length 1) g1
        have a4 := put_len2 (x.rs.foldl rput (C.put (idput (C.put l 1 1) x.s x.q) x.rs.length 1)) x.ws.length 1
        have a5 := wfold_tight x.ws (C.put (x.rs.foldl rput (C.put (idput (C.put l 1 1) x.s x.q) x.rs.length 1)) x.ws.length 1) g2
        omega
    split
    · have h1 := put_len2 l 2 1
      have h2 := idput_len (C.put l 2 1) x.i x.j
      have h3 := put_len2 (idput (C.put l 2 1) x.i x.j) x.g.toNat 1
      have h4 := put_len2 (C.put (idput (C.put l 2 1) x.i x.j) x.g.toNat 1) x.st 8
      omega
    split
    · have h1 := put_len2 l 3 1
      have h2 := idput_len (C.put l 3 1) x.i x.j
      have h3 := put_len2 (idput (C.put l 3 1) x.i x.j) x.g.toNat 1
      have h4 := put_len2 (C.put (idput (C.put l 3 1) x.i x.j) x.g.toNat 1) (if x.y = true then 1 else 0) 1
      omega
    · have h1 := put_len2 l 0 1
      omega
/-- a record's bytes are not too many for a frame -/
theorem rcwr_len {x : Rc} (hf : x.formed = true) : x.wr.length ≤ 680 + x.dt.length ∧ x.wr.length ≤ 60000 := by
  obtain ⟨lo, s1, s2, s3, s4, s5⟩ := rc_sound hf
  have h1 := put_len2 [] (T.nz x.kd) 1
  have h2 := B.put_len (C.put [] (T.nz x.kd) 1) x.br x.bn
  have h3 := put_len2 (B.put (C.put [] (T.nz x.kd) 1) x.br x.bn) (T.nz x.sl) 4
  have h4 := cput_tight (C.put (B.put (C.put [] (T.nz x.kd) 1) x.br x.bn) (T.nz x.sl) 4) x.c
  have h5 := put_len2 (C.put [] (T.nz x.kd) 1) (T.nz x.sl) 4
  have h6 := cput_tight (C.put (C.put [] (T.nz x.kd) 1) (T.nz x.sl) 4) x.c
  have h7 := put_len2 (C.put (C.put [] (T.nz x.kd) 1) (T.nz x.sl) 4) x.dt.length 4
  have h0 : ([] : List UInt8).length = 0 := rfl
  unfold T.Rc.wr
  split
  · omega
  split
  · omega
  split
  · omega
  · rw [List.length_append]; omega
namespace T
/-- the records that bodies tell, as far as they are some; and how many bytes these are -/
def told : List (List UInt8) → List Rc
  | [] => []
  | b :: bs => bif rcok b then rcm b :: told bs else []
def tend : List (List UInt8) → Nat
  | [] => 0
  | b :: bs => bif rcok b then 8 + b.length + tend bs else 0
/-- a record's frame, or an error -/
def Rc.frame (x : Rc) : List UInt8 × Nat := if x.formed = true then F.wrap x.wr else ([], 2)
/-- a disk to which a record is added -/
def added (d : Dk) (x : Rc) : Nat × Dk := if x.formed = true then D.append d (F.wrap x.wr).1 else (2, d)
/-- a disk that is opened: its records, an error, the disk -/
def opened (d : Dk) : List Rc × Nat × Dk :=
  if d.down = true then ([], 8, d)
  else if tend (F.all d.b).1 < d.b.length then
    (if (D.replace d (d.b.take (tend (F.all d.b).1))).1 = 0 then told (F.all d.b).1 else [], (D.replace d (d.b.take (tend (F.all d.b).1))).1, (D.replace d (d.b.take (tend (F.all d.b).1))).2)
  else (told (F.all d.b).1, 0, d)
/-- formed, and of numbers that fit -/
def Rc.good (x : Rc) : Prop := x.formed = true ∧ x.br < 4294967296 ∧ Fits x.c
/-- records one behind the other -/
def cats (xs : List Rc) : List UInt8 := F.cat (xs.map Rc.wr)
/-- as they are read -/
def reads (xs : List Rc) : List Rc := xs.map fun x => rcm x.wr
end T
theorem good_len {xs : List Rc} (h : ∀ x ∈ xs, x.good) : ∀ b ∈ xs.map Rc.wr, b.length ≤ 60000 := fun b hb => by
  obtain ⟨x, hx, rfl⟩ := List.mem_map.1 hb
  exact (rcwr_len (h x hx).1).2
theorem told_good {xs : List Rc} (h : ∀ x ∈ xs, x.good) : told (xs.map Rc.wr) = reads xs ∧ tend (xs.map Rc.wr) = (cats xs).length := by
  induction xs with
  | nil => exact ⟨rfl, rfl⟩
  | cons x xs ih =>
    obtain ⟨g1, g2, g3⟩ := h x (by simp)
    obtain ⟨i1, i2⟩ := ih (fun y hy => h y (by simp [hy]))
    have hl := (rcwr_len g1).2
    have hk := rcok_wr x g1 g2 g3
    constructor
    · show (bif rcok x.wr then rcm x.wr :: told (xs.map Rc.wr) else []) = _
      rw [hk, cond_true, i1]; rfl
    · show (bif rcok x.wr then 8 + x.wr.length + tend (xs.map Rc.wr) else 0) = ((F.wrap x.wr).1 ++ F.cat (xs.map Rc.wr)).length
      rw [hk, cond_true, i2, List.length_append, F.wrap_len hl]; rfl
theorem reads_like {xs : List Rc} (h : ∀ x ∈ xs, x.good) : (reads xs).length = xs.length ∧ ∀ (i : Nat) (a b : Rc), (reads xs)[i]? = some a → xs[i]? = some b → LikeR a b := by
  refine ⟨by simp [reads], fun i a b h1 h2 => ?_⟩
  unfold T.reads at h1
  rw [List.getElem?_map, h2] at h1
  simp only [Option.map_some, Option.some.injEq] at h1
  subst h1
  obtain ⟨g1, g2, g3⟩ := h b (List.mem_of_getElem? h2)
  exact rcm_wr b g1 g2 g3
theorem cats_app (xs ys : List Rc) : cats (xs ++ ys) = cats xs ++ cats ys := by unfold T.cats; rw [List.map_append, F.cat_app]
theorem cats_snoc (xs : List Rc) (x : Rc) : cats (xs ++ [x]) = cats xs ++ (F.wrap x.wr).1 := by unfold T.cats; rw [List.map_append]; exact F.cat_snoc _ _
theorem cats_take_succ {xs : List Rc} (h : ∀ x ∈ xs, x.good) (n : Nat) (hn : n < xs.length) : (cats (xs.take (n + 1))).length = (cats (xs.take n)).length + (8 + (xs[n]).wr.length) := by
  have := F.cat_take_succ (xs.map Rc.wr) n (by rw [List.length_map]; exact hn) (good_len h)
  rw [← List.map_take, ← List.map_take, List.getElem_map] at this
  exact this
theorem cats_mono {xs : List Rc} (h : ∀ x ∈ xs, x.good) (i j : Nat) (hij : i ≤ j) (hj : j ≤ xs.length) : (cats (xs.take i)).length ≤ (cats (xs.take j)).length := by
  induction j with
  | zero => have : i = 0 := by omega
            subst this; exact Nat.le_refl _
  | succ j ih =>
    rcases Nat.lt_or_ge i (j + 1) with hlt | hge
    · have := ih (by omega) (by omega)
      rw [cats_take_succ h j (by omega)]; omega
    · have : i = j + 1 := by omega
      subst this; exact Nat.le_refl _
/-- cut off anywhere, the first ones are told -/
theorem all_cat_cut {xs : List Rc} (h : ∀ x ∈ xs, x.good) (k : Nat) : ∃ j, j ≤ xs.length ∧ (cats (xs.take j)).length ≤ k ∧ (∀ i, i ≤ xs.length → (cats (xs.take i)).length ≤ k → i ≤ j) ∧ F.all ((cats xs).take k) = ((xs.take j).map Rc.wr, (cats (xs.take j)).length) := by
  have ex : ∀ n, n ≤ xs.length → ∃ j, j ≤ n ∧ (cats (xs.take j)).length ≤ k ∧ ∀ i, i ≤ n → (cats (xs.take i)).length ≤ k → i ≤ j := by
    intro n
    induction n with
    | zero => intro _; exact ⟨0, Nat.le_refl _, by simp [cats, F.cat], fun i hi _ => hi⟩
    | succ n ih =>
      intro hn
      by_cases hk : (cats (xs.take (n + 1))).length ≤ k
      · exact ⟨n + 1, Nat.le_refl _, hk, fun i hi _ => hi⟩
      · obtain ⟨j, h1, h2, h3⟩ := ih (by omega)
        refine ⟨j, by omega, h2, fun i hi hik => ?_⟩
        rcases Nat.lt_or_ge i (n + 1) with hlt | hge
        · exact h3 i (by omega) hik
        · have : i = n + 1 := by omega
          subst this; exact absurd hik hk
  obtain ⟨j, h1, h2, h3⟩ := ex xs.length (Nat.le_refl _)
  refine ⟨j, h1, h2, h3, ?_⟩
  have := F.all_cuts (xs.map Rc.wr) j k (good_len h) (by rw [List.length_map]; exact h1) (by rw [← List.map_take]; exact h2) (fun hj => by
    rw [List.length_map] at hj
    rw [← List.map_take, List.getElem_map]
    rcases Nat.lt_or_ge k ((cats (xs.take j)).length + (8 + (xs[j]).wr.length)) with hlt | hge
    · exact hlt
    · have := h3 (j + 1) hj (by rw [cats_take_succ h j hj]; exact hge)
      omega)
  rw [← List.map_take] at this
  exact this
theorem good_take {xs : List Rc} (h : ∀ x ∈ xs, x.good) (j : Nat) : ∀ x ∈ xs.take j, x.good := fun x hx => h x (List.mem_of_mem_take hx)
/-- a disk is opened behind a cut -/
theorem opened_cut {xs : List Rc} (h : ∀ x ∈ xs, x.good) (d : Dk) (k : Nat) (hb : d.b = (cats xs).take k) (hd : d.down = false) (hf : d.fuse < 0) (hs : d.b.length ≤ d.size) :
    ∃ j d', j ≤ xs.length ∧ (∀ i, i ≤ xs.length → (cats (xs.take i)).length ≤ k → i ≤ j) ∧ (cats (xs.take j)).length ≤ k ∧ opened d = (reads (xs.take j), 0, d') ∧ d'.b = cats (xs.take j) ∧ d'.size = d.size ∧ d'.down = false ∧ d'.fuse = d.fuse ∧ d'.within = d.within := by
  obtain ⟨j, h1, h2, h3, h4⟩ := all_cat_cut h k
  obtain ⟨t1, t2⟩ := told_good (good_take h j)
  have hpre : (cats xs).take (cats (xs.take j)).length = cats (xs.take j) := by
    have : cats xs = cats (xs.take j) ++ cats (xs.drop j) := by rw [← cats_app, List.take_append_drop]
    rw [this]; exact List.take_left' rfl
  have hbt : d.b.take (cats (xs.take j)).length = cats (xs.take j) := by rw [hb, List.take_take, Nat.min_eq_left h2, hpre]
  have e1 : (F.all d.b).1 = (xs.take j).map Rc.wr := by rw [hb, h4]
  by_cases hlt : (cats (xs.take j)).length < d.b.length
  · have ha : D.act d = (true, d) := by unfold D.act; rw [if_neg (by omega), if_neg (by omega)]
    have hr : D.replace d (cats (xs.take j)) = (0, { d with b := cats (xs.take j), lasts := (cats (xs.take j)).length }) := by
      unfold D.replace
      rw [if_neg (by rw [hd]; decide), if_neg (by omega), ha, if_pos rfl]
    refine ⟨j, { d with b := cats (xs.take j), lasts := (cats (xs.take j)).length }, h1, h3, h2, ?_, rfl, rfl, hd, rfl, rfl⟩
    unfold T.opened
    rw [if_neg (by rw [hd]; decide), e1, t2, if_pos hlt, hbt, hr, t1, if_pos rfl]
  · refine ⟨j, d, h1, h3, h2, ?_, ?_, rfl, hd, rfl, rfl⟩
    · unfold T.opened
      rw [if_neg (by rw [hd]; decide), e1, t2, if_neg hlt, t1]
    · rw [← hbt, List.take_of_length_le (by omega)]
theorem opened_all {xs : List Rc} (h : ∀ x ∈ xs, x.good) (d : Dk) (hb : d.b = cats xs) (hd : d.down = false) : opened d = (reads xs, 0, d) := by
  obtain ⟨j, h1, h2, h3, h4⟩ := all_cat_cut h (cats xs).length
  have hj : xs.length ≤ j := h3 _ (Nat.le_refl _) (by rw [List.take_length]; exact Nat.le_refl _)
  have : j = xs.length := by omega
  subst this
  rw [List.take_length, List.take_length] at h4
  obtain ⟨t1, t2⟩ := told_good h
  unfold T.opened
  rw [if_neg (by rw [hd]; decide), hb, h4, t2, if_neg (by omega), t1]
end Go.Proofs.YtjofjpmhokjhnaaDoor
