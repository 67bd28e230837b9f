/- The walk of AcceptOne. Conditions: what lies, lies below; the tables lie. (Printed by gen_one.py.) -/
import Derived.Test.YtbahooohkigcnaaDoorOneL
import Derived.Test.YtbahooohkigcnaaDoorOneV
import Derived.Test.YtbahooohkigcnaaDoorAccN
import Derived.Test.YtbahooohkigcnaaDoorAccArg
namespace Go.Proofs.YtbahooohkigcnaaDoor
set_option maxRecDepth 20000
open Go.RowKit T
set_option linter.unusedSimpArgs false
set_option linter.unusedVariables false

/-- five acceptors of which the first k are made -/
def initL (k : Nat) : List Ac := List.replicate k Ac.new ++ List.replicate (5 - k) Ac.zero
theorem initL_set (k : Nat) (hk : k < 5) : (initL k).set k Ac.new = initL (k + 1) := by
  match k, hk with
  | 0, _ => rfl
  | 1, _ => rfl
  | 2, _ => rfl
  | 3, _ => rfl
  | 4, _ => rfl
theorem initL_get (k : Nat) (hk : k < 5) : (initL k)[k]? = some Ac.zero := by
  match k, hk with
  | 0, _ => rfl
  | 1, _ => rfl
  | 2, _ => rfl
  | 3, _ => rfl
  | 4, _ => rfl
theorem pqR {z : World} {gp o : Nat} {p : One.Pq} (h : z.rangeAt gp o p.cells) : z.rangeAt gp o [.int .u32 (p.br : Int), .int .i64 p.bn] := fun j v hv => h j v (by have := pqB p j v hv; rwa [Nat.zero_add] at this)
theorem pqCell {z : World} {base e gp c n k : Nat} {al : List One.Pq} {p : One.Pq} (h : z.ownsRow base e 17 (.slice (some ⟨gp, 0, none⟩) n c) n (flat One.Pq.cells al)) (hk : al[k]? = some p) (j : Nat) (hj : j < 5) {b : Bool} (hb : p.vo.getD j false = b) : z.cell? ⟨gp, k * 17 + 12 + j, none⟩ = some (.bool b) := by
  have := rangeCell (flatRange pqL h hk) (12 + j) (pqV p j hj)
  rw [← Nat.add_assoc, hb] at this
  exact this
theorem pqStore {al : List One.Pq} {k : Nat} {p : One.Pq} (hk : al[k]? = some p) (h5 : p.vo.length = 5) (j : Nat) (hj : j < 5) (b : Bool) : (flat One.Pq.cells al).set (k * 17 + 12 + j) (.bool b) = flat One.Pq.cells (al.set k { p with vo := p.vo.set j b }) := by
  rw [Nat.add_assoc]
  exact flat_set1 pqL hk (12 + j) (by omega) (.bool b) _ (pqSet p h5 j hj b)
theorem infoPq : (Tryd.prog.info? 69).map (fun i => (i.zero, i.size, i.bytes)) = some (some (.agg #[.int .u32 0, .int .i64 0, .int .i64 0, .int .i64 0, .int .i64 0, .slice none 0 0, .slice none 0 0, .int .i64 0, .int .i64 0, .int .i64 0, .int .u64 0, .bool false, .bool false, .bool false, .bool false, .bool false, .bool false]), 17, 136) := by kernel_rfl
theorem oneP2 (x : One.Pq) : ∀ u ∈ x.cells, u.oneCell' = true := fun u hu => (Array.all_eq_true_iff_forall_mem.1 (pqOne x)) u (by simpa using hu)
def findI (o : Option Nat) : Int := match o with
  | none => -1
  | some k => (k : Int)
theorem find_le {br : Nat} {bn : Int} {all : List One.Pq} : ∀ {k i : Nat}, One.find br bn all k = some i → i < k
  | 0, i, h => by simp [One.find] at h
  | k + 1, i, h => by
    unfold One.find at h
    cases hk : all[k]? with
    | none => rw [hk] at h; have := find_le h; omega
    | some p =>
      rw [hk] at h
      simp only at h
      by_cases hp : p.br = br ∧ p.bn = bn
      · rw [if_pos hp] at h
        injection h with h; omega
      · rw [if_neg hp] at h; have := find_le h; omega
/-- what holds of who voted, in the middle of it -/
theorem vot_mid {n : Nat} {ls : List Ac} {all : List One.Pq} {V : Px.Vt} (h : One.Holds1 n ls all V) (h5 : n ≤ 5) (g : Nat → Bool) {i : Nat} {p : One.Pq} (hp : all[i]? = some p) (k : Nat) (hk : k ≤ n) :
    (One.vot g p.br p.bn p.x ls p.vo k).1.length = 5 ∧ (One.vot g p.br p.bn p.x ls p.vo k).2.length = 5 ∧ (∀ a ∈ (One.vot g p.br p.bn p.x ls p.vo k).1, flatC a.c) := by
  obtain ⟨V', hV⟩ := One.vot_good h h5 g hp k hk
  refine ⟨hV.len, ?_, fun a ha => (hV.sl a ha).2⟩
  exact (hV.vo _ (List.mem_iff_getElem?.2 ⟨i, by rw [List.getElem?_set, if_pos rfl, if_pos (List.getElem?_eq_some_iff.1 hp).1]⟩)).1
set_option maxHeartbeats 25600000 in
theorem aone_mid (AV : Option Addr) (cV : Nat) (l : List OSt) (m : Nat) (hm : m < 256) (w : World) (hc : l.length ≤ cV) (hcm : cV ≤ maxLen) (hA : RowsAt w w.heap.size AV 5 (l.map OSt.cells)) (hS : ∀ s ∈ l, s.rd < 256 ∧ s.nd < 256 ∧ s.ak < 256 ∧ s.vt < 256) (hT : Tabs w) :
    Calls Tryd.prog 5 #[.int .u8 (m : Int), .slice AV l.length cV] w fun e w' => e = .returned (.bool true) ∧ Below w.heap.size w w' := by
  obtain ⟨i1, hi1, hz10, hz11, hz12⟩ := info_parts infoPq
  obtain ⟨sn, hn⟩ : ∃ n, n = l.length := ⟨_, rfl⟩
  have HN := Lib.hid hn
  have HRD := Lib.hid hA
  have HT := Lib.hid hT
  have HSB := Lib.hid hS
  rw [← hn] at hc ⊢
  clear hn hA hT hS
  unfold maxLen at hcm
  have ee : Below w.heap.size w w := Below.refl _ _
  go_enter Tryd.func5, Tryd.ntmps5
  go_wp2_with fail
  refine (a18_awake w (HT.out.below ee)).mono ?_
  rintro e z1 ⟨rfl, t⟩
  have ee := ee.trans (t.mono ee.size)
  clear t
  by_cases hl : 100 < sn
  · have hl : decide (100 < (sn : Int)) = true := by simp; omega
    go_wp2_with fail
    refine (a18_awake z1 (HT.out.below ee)).mono ?_
    rintro e z2 ⟨rfl, t⟩
    have ee := ee.trans (t.mono ee.size)
    clear t
    go_wp2_with fail
    go_ret
    exact ⟨rfl, ee⟩
  · have hl60 : sn ≤ 100 := by omega
    have hl : decide (100 < (sn : Int)) = false := by simp; omega
    go_upto_region 3 with fail
    clear hl
    go_cut [5] (fun u5 wx => ∃ s : Nat, u5 = .int .i64 (s : Int) ∧ Hid (s = 1 ∨ s = 3 ∨ s = 5) ∧ Hid (Below w.heap.size w wx))
    case first =>
      have h3 : m % 3 = 0 ∨ m % 3 = 1 ∨ m % 3 = 2 := by omega
      rcases h3 with h3 | h3 | h3
      · have hr : (m : Int) % 3 = 0 := by omega
        clear h3
        go_wp2_with fail
        go_meet
        exact ⟨1, rfl, (by show _ ∨ _; omega), ee.alloc ee.size _⟩
      · have hr : (m : Int) % 3 = 1 := by omega
        clear h3
        go_wp2_with fail
        go_meet
        exact ⟨3, rfl, (by show _ ∨ _; omega), ee.alloc ee.size _⟩
      · have hr : (m : Int) % 3 = 2 := by omega
        clear h3
        go_wp2_with fail
        go_meet
        exact ⟨5, rfl, (by show _ ∨ _; omega), ee.alloc ee.size _⟩
    case rest =>
      obtain ⟨n, rfl, HNN, ee⟩ := hcut
      have ee := ee.out
      have hs5 : n ≤ 5 := by have := HNN.out; omega
      have hs1 : 1 ≤ n := by have := HNN.out; omega
      have nm : ∀ z : World, Below w.heap.size w z → ∃ z', z' = z := fun z _ => ⟨z, rfl⟩
      obtain ⟨y0, hy0⟩ := nm _ ee
      subst hy0
      clear nm
      go_upto_region 4 with fail
      refine wp_region_lit ?_
      iterate 3 go_step
      have sz_ := ee.size
      have ee := ee.alloc ee.size (.cells Tryd.zeroCells62 62)
      have Zg := hpN y0 (.cells Tryd.zeroCells62 62) rfl
      generalize y0.alloc (.cells Tryd.zeroCells62 62) = y11 at Zg ee ⊢
      obtain ⟨g, hgg⟩ : ∃ g, g = y0.heap.size := ⟨_, rfl⟩
      rw [← hgg] at Zg
      have Zg : y11.heap[g]? = some (.cells (flat Ac.cells (initL 0)).toArray 62) := Zg
      have hwg : w.heap.size ≤ g := by omega
      go_upto_region 6 with fail
      go_wp2_with fail
      rw [← hgg]
      clear hgg sz_
      go_loopw [7] (fun i wr => ∃ k : Nat, k ≤ 5 ∧ i = .int .i64 (k : Int) ∧ Hid (wr.heap[g]? = some (.cells (flat Ac.cells (initL k)).toArray 62 (0, 0))) ∧ Hid (Below w.heap.size w wr)) (fun i _ => 5 - (intOf i).toNat)
      case atStart => exact ⟨0, Nat.zero_le _, rfl, Zg, ee⟩
      case round =>
        clear Zg ee
        obtain ⟨k, hk, rfl, Zg, ee⟩ := hrel
        have Zg := Zg.out
        have ee := ee.out
        by_cases hlt : k < 5
        · have hk0 : (0 : Int) ≤ (k : Int) := by omega
          have hk5 : (k : Int) < 5 := by omega
          have HIG := Lib.hid (initL_get k hlt)
          have HIS := Lib.hid (initL_set k hlt)
          go_upto_region 8 with fail
          refine wp_region_lit ?_
          go_wp2_with fail
          refine (c_new wr).mono ?_
          rintro e x1 ⟨rfl, t⟩
          have Zg := hpB Zg t
          have ee := ee.trans (t.mono ee.size)
          clear t
          try dsimp only
          rename_i hK
          refine hK _ _ ?_
          clear hK
          iterate 27 (first | with_reducible refine isStore (ty := 39) rfl ?_ | go_step)
          refine wpList_store_mid rfl 39 _ _ rfl (g) (k * 16) (Ac.cells Ac.new).toArray rfl rfl (flatThere acL Zg HIG.out) sizeAc (Ac.one _) ?_
          have N_ : (x1.setCells (g) (k * 16) (Ac.cells Ac.new)).heap[g]? = some (.cells (flat Ac.cells ((initL k).set k Ac.new)).toArray 62) := ogPut acL Zg HIG.out Ac.new
          have ee := belowC (g := g) (by omega) (Ac.cells Ac.new) (k * 16) x1 ee
          clear Zg
          have Zg := N_
          clear N_
          change wpList _ _ _ _ _ (x1.setCells (g) (k * 16) (Ac.cells Ac.new))
          generalize x1.setCells (g) (k * 16) (Ac.cells Ac.new) = x2 at Zg ee ⊢
          rw [HIS.out] at Zg
          go_wp2_with fail
          go_roundw
          case rel => exact ⟨k + 1, by omega, by go_num, Zg, ee⟩
          case measure => simp [intOf]; omega
        · obtain rfl : 5 = k := by omega
          clear hlt hk
          have Zg : wr.heap[g]? = some (.cells (flat Ac.cells One.first5).toArray 62) := Zg
          have HG0 : Hid (∃ V, One.Holds1 n One.first5 [] V) := ⟨_, One.Holds1.first n hs5⟩
          have hu : wr.ownsRow w.heap.size 69 17 (.slice none 0 0) 0 (flat One.Pq.cells []) := World.ownsRow_nil _ _ _ _
          go_wp2_with fail
          go_loopw [8, 9] (fun u i wr => ∃ (t : Nat) (ls : List Ac) (all : List One.Pq) (A : Option Addr) (c : Nat), t ≤ sn ∧ i = .int .i64 (t : Int) ∧ u = .slice A all.length c ∧ Hid (all.length ≤ t) ∧ Hid (∃ V, One.Holds1 n ls all V) ∧ Hid (wr.heap[g]? = some (.cells (flat Ac.cells ls).toArray 62 (0, 0))) ∧ Hid (wr.ownsRow w.heap.size 69 17 (.slice A all.length c) all.length (flat One.Pq.cells all)) ∧ Hid (Below w.heap.size w wr)) (fun _ i _ => sn - (intOf i).toNat)
          case atStart => exact ⟨0, One.first5, [], none, 0, Nat.zero_le _, rfl, rfl, (by show (0 : Nat) ≤ 0; omega), HG0, Zg, hu, ee⟩
          case round =>
            clear Zg ee hu HG0
            obtain ⟨t, ls, all, A, c, ht, rfl, rfl, hal, HG, Zg, hu, ee⟩ := hrel
            have hal := hal.out
            have Zg := Zg.out
            have hu := hu.out
            have ee := ee.out
            by_cases hlt : t < sn
            · have hkl : t < l.length := by rw [← HN.out]; exact hlt
              obtain ⟨bo, off, rfl, hbo, hr⟩ := rowsGet HRD.out hkl
              have HSS := Lib.hid (HSB.out _ (List.getElem_mem hkl))
              generalize l[t] = s at hr HSS
              have hk0 : (0 : Int) ≤ (t : Int) := by omega
              have hk1 : (t : Int) < (sn : Int) := by omega
              go_upto_region 13 with fail
              refine wp_region_lit ?_
              iterate 27 (first | with_reducible refine isLoad (ty := 66) rfl ?_ | go_step)
              refine wpList_load_mid rfl 66 _ rfl (bo) (off + t * 5) rfl (s.cells) _ (rangeB hr ee hbo) Tryd.underlying66 rfl sizeSt ?_
              iterate 3 go_step
              have lZg := (Array.getElem?_eq_some_iff.1 Zg).1
              have sz_ := ee.size
              have Zg := hpA Zg (.cells #[.int .u8 0, .int .u8 0, .int .u8 0, .int .u8 0, .bool false] 66)
              have hu := hu.alloc (.cells #[.int .u8 0, .int .u8 0, .int .u8 0, .int .u8 0, .bool false] 66)
              have ee := ee.alloc ee.size (.cells #[.int .u8 0, .int .u8 0, .int .u8 0, .int .u8 0, .bool false] 66)
              have Zs := hpN wr (.cells #[.int .u8 0, .int .u8 0, .int .u8 0, .int .u8 0, .bool false] 66) rfl
              generalize wr.alloc (.cells #[.int .u8 0, .int .u8 0, .int .u8 0, .int .u8 0, .bool false] 66) = v1 at Zg Zs hu ee ⊢
              obtain ⟨gs, hg_gs⟩ : ∃ g_, g_ = wr.heap.size := ⟨_, rfl⟩
              have hwgs : w.heap.size ≤ gs := by omega
              have hggs : g < gs := by omega
              rw [← hg_gs] at Zs ⊢
              clear hg_gs
              iterate 27 (first | with_reducible refine isStore (ty := 66) rfl ?_ | go_step)
              refine wpList_store_row rfl 66 _ _ rfl (gs) (s.cells).toArray rfl rfl 66 _ Zs sizeSt (by rfl) (OSt.one _) ?_
              have N_ := setRow_heap v1 (gs) _ (s.cells).toArray _ _ Zs
              have hu := ogOwnR (cs := (s.cells).toArray) hu (ogKind hu Zs (by decide))
              have ee := belowSet (cs := (s.cells).toArray) ee Zs (by omega)
              have Zg := hpR Zg (g' := gs) (by omega) (s.cells).toArray
              clear Zs
              have Zs := N_
              clear N_
              generalize v1.setRow (gs) (s.cells).toArray = v2 at Zg Zs hu ee ⊢
              obtain ⟨br, hbr⟩ : ∃ br, br = 1 + s.rd % 20 := ⟨_, rfl⟩
              obtain ⟨bm, hbm⟩ : ∃ bm, bm = s.nd % n := ⟨_, rfl⟩
              have hbr9 : br < 1000 := by omega
              have hbm5 : bm < 5 := by have := Nat.mod_lt s.nd (show 0 < n by omega); omega
              obtain ⟨bn, hbn⟩ : ∃ bn : Int, bn = (bm : Int) := ⟨_, rfl⟩
              have HBR : Hid ((1 : Int) + (s.rd : Int) % 20 = (br : Int)) := by show _ = _; omega
              have HBN : Hid ((s.nd : Int) % (n : Int) = bn) := by show _ = _; rw [hbn, hbm]; simp
              have hbn5 : 0 ≤ bn ∧ bn < 5 := by omega
              clear hbr hbm hbn hbm5
              have hn0 : ¬ n = 0 := by omega
              have hu1 : IntKind.u32.wrap ((s.rd : Int) % 20) = (s.rd : Int) % 20 := by rw [IntKind.wrap_u32]; omega
              have hu2 : IntKind.u32.wrap (1 + (s.rd : Int) % 20) = (br : Int) := by rw [HBR.out, IntKind.wrap_u32]; omega
              have hu3 : (s.nd : Int).tmod (n : Int) = bn := by rw [Int.tmod_eq_emod_of_nonneg (by omega)]; exact HBN.out
              have hs8 : s.rd < 256 ∧ s.nd < 256 := ⟨HSS.out.1, HSS.out.2.1⟩
              have hs81 := hs8.1
              have hs82 := hs8.2
              have hu4 : IntKind.i64.wrap (s.nd : Int) = (s.nd : Int) := by rw [IntKind.wrap_i64]; omega
              clear hs8
              go_upto_region 14 with fail
              have Zg : v2.drew.heap[g]? = some (.cells (flat Ac.cells ls).toArray 62) := Zg
              have Zs : v2.drew.heap[gs]? = some (.cells (s.cells).toArray 66) := Zs
              have hu := World.ownsRow.drew hu
              have ee := belowDrewS ee
              refine wp_region_held_drew (S := fun z' => z'.rangeAt gs 0 s.cells) (by kernel_rfl) (rowAt Zs) (fun hH => ?_)
              clear hH
              generalize v2.drew = v3 at Zg Zs hu ee ⊢
              refine wpAnyH_take (i := 0) (v := .pointer (some ⟨gs, 0, none⟩)) rfl (by kernel_rfl) (by kernel_rfl) (by kernel_rfl) (fun _ _ _ h => h) (Or.inl ⟨by rfl, fun w_ hS_ => by (first | (go_simp; done) | (go_simp; rfl))⟩) (rowAt Zs) ?_
              try simp only [Act.put, List.getElem_toArray, List.getElem_cons_zero, List.getElem_cons_succ, List.setIfInBounds_toArray, List.set_cons_zero, List.set_cons_succ]
              refine wpAnyH_take (i := 1) (v := .int .u8 (s.rd : Int)) rfl (by kernel_rfl) (by kernel_rfl) (by kernel_rfl) (fun _ _ _ h => h) (Or.inl ⟨by rfl, fun w_ hS_ => by (have c_ := ogCell0 hS_ 0 rfl; first | (go_simp; done) | (go_simp; rfl))⟩) (rowAt Zs) ?_
              try simp only [Act.put, List.getElem_toArray, List.getElem_cons_zero, List.getElem_cons_succ, List.setIfInBounds_toArray, List.set_cons_zero, List.set_cons_succ]
              refine wpAnyH_take (i := 2) (v := .int .u8 ((s.rd : Int) % 20)) rfl (by kernel_rfl) (by kernel_rfl) (by kernel_rfl) (fun _ _ _ h => h) (Or.inl ⟨by rfl, fun w_ hS_ => by (first | (go_simp; done) | (go_simp; rfl))⟩) (rowAt Zs) ?_
              try simp only [Act.put, List.getElem_toArray, List.getElem_cons_zero, List.getElem_cons_succ, List.setIfInBounds_toArray, List.set_cons_zero, List.set_cons_succ]
              refine wpAnyH_take (i := 3) (v := .int .u32 ((s.rd : Int) % 20)) rfl (by kernel_rfl) (by kernel_rfl) (by kernel_rfl) (fun _ _ _ h => h) (Or.inl ⟨by rfl, fun w_ hS_ => by (first | (go_simp; done) | (go_simp; rfl))⟩) (rowAt Zs) ?_
              try simp only [Act.put, List.getElem_toArray, List.getElem_cons_zero, List.getElem_cons_succ, List.setIfInBounds_toArray, List.set_cons_zero, List.set_cons_succ]
              refine wpAnyH_take (i := 4) (v := .int .u32 (br : Int)) rfl (by kernel_rfl) (by kernel_rfl) (by kernel_rfl) (fun _ _ _ h => h) (Or.inl ⟨by rfl, fun w_ hS_ => by (first | (go_simp; done) | (go_simp; rfl))⟩) (rowAt Zs) ?_
              try simp only [Act.put, List.getElem_toArray, List.getElem_cons_zero, List.getElem_cons_succ, List.setIfInBounds_toArray, List.set_cons_zero, List.set_cons_succ]
              refine wpAnyH_take (i := 5) (v := .pointer (some ⟨gs, 1, none⟩)) rfl (by kernel_rfl) (by kernel_rfl) (by kernel_rfl) (fun _ _ _ h => h) (Or.inl ⟨by rfl, fun w_ hS_ => by (first | (go_simp; done) | (go_simp; rfl))⟩) (rowAt Zs) ?_
              try simp only [Act.put, List.getElem_toArray, List.getElem_cons_zero, List.getElem_cons_succ, List.setIfInBounds_toArray, List.set_cons_zero, List.set_cons_succ]
              refine wpAnyH_take (i := 6) (v := .int .u8 (s.nd : Int)) rfl (by kernel_rfl) (by kernel_rfl) (by kernel_rfl) (fun _ _ _ h => h) (Or.inl ⟨by rfl, fun w_ hS_ => by (have c_ := ogCell0 hS_ 1 rfl; first | (go_simp; done) | (go_simp; rfl))⟩) (rowAt Zs) ?_
              try simp only [Act.put, List.getElem_toArray, List.getElem_cons_zero, List.getElem_cons_succ, List.setIfInBounds_toArray, List.set_cons_zero, List.set_cons_succ]
              refine wpAnyH_take (i := 7) (v := .int .i64 (s.nd : Int)) rfl (by kernel_rfl) (by kernel_rfl) (by kernel_rfl) (fun _ _ _ h => h) (Or.inl ⟨by rfl, fun w_ hS_ => by (first | (go_simp; done) | (go_simp; rfl))⟩) (rowAt Zs) ?_
              try simp only [Act.put, List.getElem_toArray, List.getElem_cons_zero, List.getElem_cons_succ, List.setIfInBounds_toArray, List.set_cons_zero, List.set_cons_succ]
              refine wpAnyH_take (i := 8) (v := .int .i64 (n : Int)) rfl (by kernel_rfl) (by kernel_rfl) (by kernel_rfl) (fun _ _ _ h => h) (Or.inl ⟨by rfl, fun w_ hS_ => by (first | (go_simp; done) | (go_simp; rfl))⟩) (rowAt Zs) ?_
              try simp only [Act.put, List.getElem_toArray, List.getElem_cons_zero, List.getElem_cons_succ, List.setIfInBounds_toArray, List.set_cons_zero, List.set_cons_succ]
              refine wpAnyH_take (i := 9) (v := .int .i64 bn) rfl (by kernel_rfl) (by kernel_rfl) (by kernel_rfl) (fun _ _ _ h => h) (Or.inl ⟨by rfl, fun w_ hS_ => by (first | (go_simp; done) | (go_simp; rfl))⟩) (rowAt Zs) ?_
              try simp only [Act.put, List.getElem_toArray, List.getElem_cons_zero, List.getElem_cons_succ, List.setIfInBounds_toArray, List.set_cons_zero, List.set_cons_succ]
              refine wpAnyH_take (i := 10) (v := .agg [.int .u32 (br : Int), .int .i64 bn].toArray) rfl (by kernel_rfl) (by kernel_rfl) (by kernel_rfl) (fun _ _ _ h => h) (Or.inl ⟨by rfl, fun w_ hS_ => by (first | (go_simp; done) | (go_simp; rfl))⟩) (rowAt Zs) ?_
              try simp only [Act.put, List.getElem_toArray, List.getElem_cons_zero, List.getElem_cons_succ, List.setIfInBounds_toArray, List.set_cons_zero, List.set_cons_succ]
              refine wpAnyH_ready (rs := [11]) (by kernel_rfl) (by simp) ?_
              refine AllReadyH.cons rfl (fun K hK => ?_) AllReadyH.nil
              rw [if_pos (by rfl)]
              go_simp
              have lZg := (Array.getElem?_eq_some_iff.1 Zg).1
              have lZs := (Array.getElem?_eq_some_iff.1 Zs).1
              have sz_ := ee.size
              have Zg := hpA Zg (.cells #[.int .u32 0, .int .i64 0] 28)
              have Zs := hpA Zs (.cells #[.int .u32 0, .int .i64 0] 28)
              have hu := hu.alloc (.cells #[.int .u32 0, .int .i64 0] 28)
              have ee := ee.alloc ee.size (.cells #[.int .u32 0, .int .i64 0] 28)
              have Zb := hpN v3 (.cells #[.int .u32 0, .int .i64 0] 28) rfl
              generalize v3.alloc (.cells #[.int .u32 0, .int .i64 0] 28) = v4 at Zg Zs Zb hu ee ⊢
              refine hK.out _ _ (rowAt Zs) (fun hH => ?_)
              clear hK K hH
              try simp only [Act.put, List.getElem_toArray, List.getElem_cons_zero, List.getElem_cons_succ, List.setIfInBounds_toArray, List.set_cons_zero, List.set_cons_succ]
              refine wpAnyH_ready (rs := [12]) (by kernel_rfl) (by simp) ?_
              refine AllReadyH.cons rfl (fun K hK => ?_) AllReadyH.nil
              rw [if_pos (by rfl)]
              refine wp_store_row 28 _ _ rfl (v3.heap.size) ([.int .u32 (br : Int), .int .i64 bn]).toArray rfl rfl 28 _ Zb sizeBal (by rfl) (by simp [Value.oneCell']) ?_
              have N_ := setRow_heap v4 (v3.heap.size) _ ([.int .u32 (br : Int), .int .i64 bn]).toArray _ _ Zb
              have hu := ogOwnR (cs := ([.int .u32 (br : Int), .int .i64 bn]).toArray) hu (ogKind hu Zb (by decide))
              have ee := belowSet (cs := ([.int .u32 (br : Int), .int .i64 bn]).toArray) ee Zb (by omega)
              have Zg := hpR Zg (g' := v3.heap.size) (by omega) ([.int .u32 (br : Int), .int .i64 bn]).toArray
              have Zs := hpR Zs (g' := v3.heap.size) (by omega) ([.int .u32 (br : Int), .int .i64 bn]).toArray
              clear Zb
              have Zb := N_
              clear N_
              generalize v4.setRow (v3.heap.size) ([.int .u32 (br : Int), .int .i64 bn]).toArray = v5 at Zg Zs Zb hu ee ⊢
              refine hK.out _ _ (rowAt Zs) (fun hH => ?_)
              clear hK K hH
              try simp only [Act.put, List.getElem_toArray, List.getElem_cons_zero, List.getElem_cons_succ, List.setIfInBounds_toArray, List.set_cons_zero, List.set_cons_succ]
              refine wpAnyH_done (by kernel_rfl) ?_ _
              clear hn0 hs81 hs82 hu1 hu2 hu3 hu4
              obtain ⟨gb, hg_gb⟩ : ∃ g_, g_ = v3.heap.size := ⟨_, rfl⟩
              have hwgb : w.heap.size ≤ gb := by omega
              have hggb : g < gb := by omega
              have hgsgb : gs < gb := by omega
              rw [← hg_gb] at Zb ⊢
              clear hg_gb
              go_upto_region 17 with fail
              go_wp2_with fail
              go_loopw [12, 13] (fun u i wr => ∃ j : Nat, j ≤ all.length ∧ i = .int .i64 (j : Int) ∧ u = .int .i64 (findI (One.find br bn all j)) ∧ Hid (wr.heap[g]? = some (.cells (flat Ac.cells ls).toArray 62 (0, 0))) ∧ Hid (wr.ownsRow w.heap.size 69 17 (.slice A all.length c) all.length (flat One.Pq.cells all)) ∧ Hid (wr.heap[gs]? = some (.cells s.cells.toArray 66 (0, 0))) ∧ Hid (wr.heap[gb]? = some (.cells [.int .u32 (br : Int), .int .i64 bn].toArray 28 (0, 0))) ∧ Hid (Below w.heap.size w wr)) (fun _ i _ => all.length - (intOf i).toNat)
              case atStart => exact ⟨0, Nat.zero_le _, rfl, rfl, Zg, hu, Zs, Zb, ee⟩
              case round =>
                clear Zg hu Zs Zb ee
                obtain ⟨j, hj, rfl, rfl, Zg, hu, Zs, Zb, ee⟩ := hrel
                have Zg := Zg.out
                have hu := hu.out
                have Zs := Zs.out
                have Zb := Zb.out
                have ee := ee.out
                by_cases hlt2 : j < all.length
                · obtain ⟨gp, rfl, hwgp, _, _⟩ := ownPtr hu (by omega)
                  obtain ⟨p, hp⟩ : ∃ p, all[j]? = some p := ⟨_, List.getElem?_eq_getElem hlt2⟩
                  have HFS : Hid (One.find br bn all (j + 1) = if p.br = br ∧ p.bn = bn then some j else One.find br bn all j) := by show _ = _; rw [One.find, hp]
                  have hI := B.run_eqBal p.br p.bn br bn
                  have hj0 : (0 : Int) ≤ (j : Int) := by omega
                  have hj1 : (j : Int) < (all.length : Int) := by omega
                  generalize One.find br bn all j = fo at HFS ⊢
                  cases hbb : decide (p.br = br ∧ p.bn = bn) with
                  | true =>
                    rw [hbb] at hI
                    rw [if_pos (of_decide_eq_true hbb)] at HFS
                    clear hbb
                    go_upto_region 19 with fail
                    have Zg : wr.drew.heap[g]? = some (.cells (flat Ac.cells ls).toArray 62) := Zg
                    have Zs : wr.drew.heap[gs]? = some (.cells (s.cells).toArray 66) := Zs
                    have Zb : wr.drew.heap[gb]? = some (.cells ([.int .u32 (br : Int), .int .i64 bn]).toArray 28) := Zb
                    have hu := World.ownsRow.drew hu
                    have ee := belowDrewS ee
                    refine wp_region_held_drew (S := fun z' => z'.rangeAt gp (j * 17) [.int .u32 (p.br : Int), .int .i64 p.bn] ∧ z'.rangeAt gb 0 [.int .u32 (br : Int), .int .i64 bn]) (by kernel_rfl) ⟨pqR (flatRange pqL hu hp), rowAt Zb⟩ (fun hH => ?_)
                    clear hH
                    generalize wr.drew = u1 at Zg Zs Zb hu ee ⊢
                    refine wpAnyH_take (i := 0) (v := .slice (some ⟨gp, 0, none⟩) all.length c) rfl (by kernel_rfl) (by kernel_rfl) (by kernel_rfl) (fun _ _ _ h => h) (Or.inl ⟨by rfl, fun w_ hS_ => by (first | (go_simp; done) | (go_simp; rfl))⟩) ⟨pqR (flatRange pqL hu hp), rowAt Zb⟩ ?_
                    try simp only [Act.put, List.getElem_toArray, List.getElem_cons_zero, List.getElem_cons_succ, List.setIfInBounds_toArray, List.set_cons_zero, List.set_cons_succ]
                    refine wpAnyH_take (i := 1) (v := .int .i64 (j : Int)) rfl (by kernel_rfl) (by kernel_rfl) (by kernel_rfl) (fun _ _ _ h => h) (Or.inl ⟨by rfl, fun w_ hS_ => by (first | (go_simp; done) | (go_simp; rfl))⟩) ⟨pqR (flatRange pqL hu hp), rowAt Zb⟩ ?_
                    try simp only [Act.put, List.getElem_toArray, List.getElem_cons_zero, List.getElem_cons_succ, List.setIfInBounds_toArray, List.set_cons_zero, List.set_cons_succ]
                    refine wpAnyH_take (i := 2) (v := .pointer (some ⟨gp, j * 17, none⟩)) rfl (by kernel_rfl) (by kernel_rfl) (by kernel_rfl) (fun _ _ _ h => h) (Or.inl ⟨by rfl, fun w_ hS_ => by (first | (go_simp; done) | (go_simp; rfl))⟩) ⟨pqR (flatRange pqL hu hp), rowAt Zb⟩ ?_
                    try simp only [Act.put, List.getElem_toArray, List.getElem_cons_zero, List.getElem_cons_succ, List.setIfInBounds_toArray, List.set_cons_zero, List.set_cons_succ]
                    refine wpAnyH_take (i := 3) (v := .pointer (some ⟨gp, j * 17, none⟩)) rfl (by kernel_rfl) (by kernel_rfl) (by kernel_rfl) (fun _ _ _ h => h) (Or.inl ⟨by rfl, fun w_ hS_ => by (first | (go_simp; done) | (go_simp; rfl))⟩) ⟨pqR (flatRange pqL hu hp), rowAt Zb⟩ ?_
                    try simp only [Act.put, List.getElem_toArray, List.getElem_cons_zero, List.getElem_cons_succ, List.setIfInBounds_toArray, List.set_cons_zero, List.set_cons_succ]
                    refine wpAnyH_take (i := 4) (v := .agg ([.int .u32 (p.br : Int), .int .i64 p.bn]).toArray) rfl (by kernel_rfl) (by kernel_rfl) (by kernel_rfl) (fun _ _ _ h => h) (yieldsIf_load_mid (by rfl) 28 _ rfl (gp) (j * 17) rfl ([.int .u32 (p.br : Int), .int .i64 p.bn]) _ (fun _ h => h.1) Tryd.underlying28 rfl sizeBal) ⟨pqR (flatRange pqL hu hp), rowAt Zb⟩ ?_
                    try simp only [Act.put, List.getElem_toArray, List.getElem_cons_zero, List.getElem_cons_succ, List.setIfInBounds_toArray, List.set_cons_zero, List.set_cons_succ]
                    refine wpAnyH_take (i := 5) (v := .agg (([.int .u32 (br : Int), .int .i64 bn])).toArray) rfl (by kernel_rfl) (by kernel_rfl) (by kernel_rfl) (fun _ _ _ h => h) (yieldsIf_load_mid (by rfl) 28 _ rfl (gb) (0) rfl (([.int .u32 (br : Int), .int .i64 bn])) _ (fun _ h => h.2) Tryd.underlying28 rfl sizeBal) ⟨pqR (flatRange pqL hu hp), rowAt Zb⟩ ?_
                    try simp only [Act.put, List.getElem_toArray, List.getElem_cons_zero, List.getElem_cons_succ, List.setIfInBounds_toArray, List.set_cons_zero, List.set_cons_succ]
                    refine wpAnyH_take (i := 6) (v := .bool true) rfl (by kernel_rfl) (by kernel_rfl) (by kernel_rfl) (fun _ _ _ h => h) (Or.inl ⟨by rfl, fun w_ hS_ => by (first | (go_simp; done) | (go_simp; rfl))⟩) ⟨pqR (flatRange pqL hu hp), rowAt Zb⟩ ?_
                    try simp only [Act.put, List.getElem_toArray, List.getElem_cons_zero, List.getElem_cons_succ, List.setIfInBounds_toArray, List.set_cons_zero, List.set_cons_succ]
                    refine wpAnyH_done (by kernel_rfl) ?_ _
                    clear hI hj0 hj1
                    go_wp2_with fail
                    go_roundw
                    case rel => exact ⟨j + 1, by omega, by go_num, by rw [HFS.out]; rfl, Zg, hu, Zs, Zb, ee⟩
                    case measure => simp [intOf]; omega
                  | false =>
                    rw [hbb] at hI
                    rw [if_neg (of_decide_eq_false hbb)] at HFS
                    clear hbb
                    go_upto_region 19 with fail
                    have Zg : wr.drew.heap[g]? = some (.cells (flat Ac.cells ls).toArray 62) := Zg
                    have Zs : wr.drew.heap[gs]? = some (.cells (s.cells).toArray 66) := Zs
                    have Zb : wr.drew.heap[gb]? = some (.cells ([.int .u32 (br : Int), .int .i64 bn]).toArray 28) := Zb
                    have hu := World.ownsRow.drew hu
                    have ee := belowDrewS ee
                    refine wp_region_held_drew (S := fun z' => z'.rangeAt gp (j * 17) [.int .u32 (p.br : Int), .int .i64 p.bn] ∧ z'.rangeAt gb 0 [.int .u32 (br : Int), .int .i64 bn]) (by kernel_rfl) ⟨pqR (flatRange pqL hu hp), rowAt Zb⟩ (fun hH => ?_)
                    clear hH
                    generalize wr.drew = u1 at Zg Zs Zb hu ee ⊢
                    refine wpAnyH_take (i := 0) (v := .slice (some ⟨gp, 0, none⟩) all.length c) rfl (by kernel_rfl) (by kernel_rfl) (by kernel_rfl) (fun _ _ _ h => h) (Or.inl ⟨by rfl, fun w_ hS_ => by (first | (go_simp; done) | (go_simp; rfl))⟩) ⟨pqR (flatRange pqL hu hp), rowAt Zb⟩ ?_
                    try simp only [Act.put, List.getElem_toArray, List.getElem_cons_zero, List.getElem_cons_succ, List.setIfInBounds_toArray, List.set_cons_zero, List.set_cons_succ]
                    refine wpAnyH_take (i := 1) (v := .int .i64 (j : Int)) rfl (by kernel_rfl) (by kernel_rfl) (by kernel_rfl) (fun _ _ _ h => h) (Or.inl ⟨by rfl, fun w_ hS_ => by (first | (go_simp; done) | (go_simp; rfl))⟩) ⟨pqR (flatRange pqL hu hp), rowAt Zb⟩ ?_
                    try simp only [Act.put, List.getElem_toArray, List.getElem_cons_zero, List.getElem_cons_succ, List.setIfInBounds_toArray, List.set_cons_zero, List.set_cons_succ]
                    refine wpAnyH_take (i := 2) (v := .pointer (some ⟨gp, j * 17, none⟩)) rfl (by kernel_rfl) (by kernel_rfl) (by kernel_rfl) (fun _ _ _ h => h) (Or.inl ⟨by rfl, fun w_ hS_ => by (first | (go_simp; done) | (go_simp; rfl))⟩) ⟨pqR (flatRange pqL hu hp), rowAt Zb⟩ ?_
                    try simp only [Act.put, List.getElem_toArray, List.getElem_cons_zero, List.getElem_cons_succ, List.setIfInBounds_toArray, List.set_cons_zero, List.set_cons_succ]
                    refine wpAnyH_take (i := 3) (v := .pointer (some ⟨gp, j * 17, none⟩)) rfl (by kernel_rfl) (by kernel_rfl) (by kernel_rfl) (fun _ _ _ h => h) (Or.inl ⟨by rfl, fun w_ hS_ => by (first | (go_simp; done) | (go_simp; rfl))⟩) ⟨pqR (flatRange pqL hu hp), rowAt Zb⟩ ?_
                    try simp only [Act.put, List.getElem_toArray, List.getElem_cons_zero, List.getElem_cons_succ, List.setIfInBounds_toArray, List.set_cons_zero, List.set_cons_succ]
                    refine wpAnyH_take (i := 4) (v := .agg ([.int .u32 (p.br : Int), .int .i64 p.bn]).toArray) rfl (by kernel_rfl) (by kernel_rfl) (by kernel_rfl) (fun _ _ _ h => h) (yieldsIf_load_mid (by rfl) 28 _ rfl (gp) (j * 17) rfl ([.int .u32 (p.br : Int), .int .i64 p.bn]) _ (fun _ h => h.1) Tryd.underlying28 rfl sizeBal) ⟨pqR (flatRange pqL hu hp), rowAt Zb⟩ ?_
                    try simp only [Act.put, List.getElem_toArray, List.getElem_cons_zero, List.getElem_cons_succ, List.setIfInBounds_toArray, List.set_cons_zero, List.set_cons_succ]
                    refine wpAnyH_take (i := 5) (v := .agg (([.int .u32 (br : Int), .int .i64 bn])).toArray) rfl (by kernel_rfl) (by kernel_rfl) (by kernel_rfl) (fun _ _ _ h => h) (yieldsIf_load_mid (by rfl) 28 _ rfl (gb) (0) rfl (([.int .u32 (br : Int), .int .i64 bn])) _ (fun _ h => h.2) Tryd.underlying28 rfl sizeBal) ⟨pqR (flatRange pqL hu hp), rowAt Zb⟩ ?_
                    try simp only [Act.put, List.getElem_toArray, List.getElem_cons_zero, List.getElem_cons_succ, List.setIfInBounds_toArray, List.set_cons_zero, List.set_cons_succ]
                    refine wpAnyH_take (i := 6) (v := .bool false) rfl (by kernel_rfl) (by kernel_rfl) (by kernel_rfl) (fun _ _ _ h => h) (Or.inl ⟨by rfl, fun w_ hS_ => by (first | (go_simp; done) | (go_simp; rfl))⟩) ⟨pqR (flatRange pqL hu hp), rowAt Zb⟩ ?_
                    try simp only [Act.put, List.getElem_toArray, List.getElem_cons_zero, List.getElem_cons_succ, List.setIfInBounds_toArray, List.set_cons_zero, List.set_cons_succ]
                    refine wpAnyH_done (by kernel_rfl) ?_ _
                    clear hI hj0 hj1
                    go_wp2_with fail
                    go_roundw
                    case rel => exact ⟨j + 1, by omega, by go_num, by rw [HFS.out], Zg, hu, Zs, Zb, ee⟩
                    case measure => simp [intOf]; omega
                · obtain rfl : j = all.length := by omega
                  clear hlt2 hj
                  cases hF : One.find br bn all all.length with
                  | some kk =>
                    obtain ⟨p, hp, hp1, hp2⟩ := One.find_some hF
                    have hkk := (List.getElem?_eq_some_iff.1 hp).1
                    obtain ⟨gp, rfl, hwgp, _, _⟩ := ownPtr hu (by omega)
                    have hd : decide (findI (some kk) < 0) = false := decide_eq_false (by show ¬ ((kk : Int) < 0); omega)
                    clear hF
                    rw [show findI (some kk) = (kk : Int) from rfl] at hd ⊢
                    go_upto_region 27 with fail
                    clear hd
                    have hu0 : all.set kk { p with vo := p.vo } = all := by
                      show all.set kk p = all
                      rw [← (List.getElem?_eq_some_iff.1 hp).2]; exact List.set_getElem_self _
                    rw [← hu0, List.length_set] at hu
                    clear hu0
                    have HVM : Hid (∀ j, j ≤ n → (One.vot (tb s.vt) br bn p.x ls p.vo j).1.length = 5 ∧ (One.vot (tb s.vt) br bn p.x ls p.vo j).2.length = 5 ∧ (∀ a ∈ (One.vot (tb s.vt) br bn p.x ls p.vo j).1, flatC a.c)) := fun j hj => by
                      obtain ⟨V, hV⟩ := HG.out
                      have := vot_mid hV hs5 (tb s.vt) hp j hj
                      rw [hp1, hp2] at this
                      exact this
                    have HVG : Hid (∃ V, One.Holds1 n (One.vot (tb s.vt) br bn p.x ls p.vo n).1 (all.set kk { p with vo := (One.vot (tb s.vt) br bn p.x ls p.vo n).2 }) V) := by
                      obtain ⟨V, hV⟩ := HG.out
                      have := One.vot_good hV hs5 (tb s.vt) hp n (Nat.le_refl _)
                      have e_ : One.vot (tb s.vt) p.br p.bn p.x ls p.vo n = (One.vot (tb s.vt) br bn p.x ls p.vo n) := by rw [hp1, hp2]
                      rw [e_] at this
                      exact this
                    have HPX : Hid (flatC p.x) := by obtain ⟨V, hV⟩ := HG.out; exact (hV.vo p (List.mem_of_getElem? hp)).2.1
                    clear HG hp hp1 hp2
                    go_wp2_with fail
                    go_loopw [16] (fun i wr => ∃ j : Nat, j ≤ n ∧ i = .int .i64 (j : Int) ∧ Hid (wr.heap[g]? = some (.cells (flat Ac.cells (One.vot (tb s.vt) br bn p.x ls p.vo j).1).toArray 62 (0, 0))) ∧ Hid (wr.ownsRow w.heap.size 69 17 (.slice (some ⟨gp, 0, none⟩) all.length c) all.length (flat One.Pq.cells (all.set kk { p with vo := (One.vot (tb s.vt) br bn p.x ls p.vo j).2 }))) ∧ Hid (wr.heap[gs]? = some (.cells s.cells.toArray 66 (0, 0))) ∧ Hid (wr.heap[gb]? = some (.cells [.int .u32 (br : Int), .int .i64 bn].toArray 28 (0, 0))) ∧ Hid (Below w.heap.size w wr)) (fun i _ => n - (intOf i).toNat)
                    case atStart => exact ⟨0, Nat.zero_le _, rfl, Zg, hu, Zs, Zb, ee⟩
                    case round =>
                      clear Zg hu Zs Zb ee
                      obtain ⟨j, hj, rfl, Zg, hu, Zs, Zb, ee⟩ := hrel
                      have Zg := Zg.out
                      have hu := hu.out
                      have Zs := Zs.out
                      have Zb := Zb.out
                      have ee := ee.out
                      have HVJ := Lib.hid (HVM.out j hj)
                      by_cases hlt2 : j < n
                      · have HA : Hid ((One.vot (tb s.vt) br bn p.x ls p.vo (j + 1)) = bif tb s.vt j then ((One.vot (tb s.vt) br bn p.x ls p.vo j).1.set j ((One.at_ (One.vot (tb s.vt) br bn p.x ls p.vo j).1 j).vote br bn 1 p.x), (One.vot (tb s.vt) br bn p.x ls p.vo j).2.set j ((One.vot (tb s.vt) br bn p.x ls p.vo j).2.getD j false || decide ((One.at_ (One.vot (tb s.vt) br bn p.x ls p.vo j).1 j).how br bn 1 p.x = 3))) else (One.vot (tb s.vt) br bn p.x ls p.vo j)) := rfl
                        generalize (One.vot (tb s.vt) br bn p.x ls p.vo j) = R at HA HVJ hu Zg ⊢
                        obtain ⟨l', vo⟩ := R
                        simp only at HA HVJ hu Zg ⊢
                        have hj5 : j < l'.length := by rw [HVJ.out.1]; omega
                        have hka : l'[j]? = some (One.at_ l' j) := by unfold One.at_; rw [List.getD_eq_getElem?_getD, List.getElem?_eq_getElem hj5]; rfl
                        have HFA : Hid (flatC (One.at_ l' j).c) := HVJ.out.2.2 _ (List.mem_of_getElem? hka)
                        generalize One.at_ l' j = a at HA hka HFA
                        have hj0 : (0 : Int) ≤ (j : Int) := by omega
                        have hj6 : (j : Int) < 5 := by omega
                        have HB := Lib.hid (bit8 s.vt j HSS.out.2.2.2)
                        have c2 := rowCell Zs 3 (v := .int .u8 (s.vt : Int)) rfl
                        cases hb : tb s.vt j with
                        | false =>
                          rw [hb, cond_false] at HA
                          have hx : (bits BinOp.and IntKind.u8 ((s.vt : Int) / 2 ^ j) 1 == 0) = true := by rw [HB.out]; show (!tb s.vt j) = true; rw [hb]; rfl
                          clear hb HB
                          go_wp2_with fail
                          go_roundw
                          case rel => exact ⟨j + 1, by omega, by go_num, by rw [HA.out]; exact Zg, by rw [HA.out]; exact hu, Zs, Zb, ee⟩
                          case measure => simp [intOf]; omega
                        | true =>
                          rw [hb, cond_true] at HA
                          have hx : (bits BinOp.and IntKind.u8 ((s.vt : Int) / 2 ^ j) 1 == 0) = false := by rw [HB.out]; show (!tb s.vt j) = false; rw [hb]; rfl
                          clear hb HB
                          go_upto_region 30 with fail
                          clear hx c2
                          have hk0 : (0 : Int) ≤ (kk : Int) := by omega
                          have hk1 : (kk : Int) < (all.length : Int) := by omega
                          obtain ⟨p', hp'⟩ : ∃ p' : One.Pq, p' = { p with vo := vo } := ⟨_, rfl⟩
                          have hpx : p'.x = p.x := by rw [hp']
                          have hpv : p'.vo = vo := by rw [hp']
                          have hpk : (all.set kk p')[kk]? = some p' := by rw [List.getElem?_set, if_pos rfl, if_pos hkk]
                          rw [← hp'] at hu
                          have HPK := Lib.hid hpk
                          have HPX2 := Lib.hid hpx
                          have HPV := Lib.hid hpv
                          have HPP := Lib.hid hp'
                          clear hpk hpx hpv hp'
                          have HCV := Lib.hid (fun z (hz : Below w.heap.size w z) => c_vote a br bn 1 p.x z z.heap.size (Nat.le_refl _) (CmOk.flat HFA.out) (CmOk.flat HPX.out) (HT.out.below hz))
                          have Zg : wr.drew.heap[g]? = some (.cells (flat Ac.cells l').toArray 62) := Zg
                          have Zs : wr.drew.heap[gs]? = some (.cells s.cells.toArray 66) := Zs
                          have Zb : wr.drew.heap[gb]? = some (.cells [.int .u32 (br : Int), .int .i64 bn].toArray 28) := Zb
                          have hu := World.ownsRow.drew hu
                          have ee := belowDrewS ee
                          refine wp_region_held_drew (S := fun z' => z'.rangeAt g (j * 16) a.cells ∧ z'.rangeAt gb 0 [.int .u32 (br : Int), .int .i64 bn] ∧ z'.rangeAt gp (kk * 17 + 2) p.x.cells) (by kernel_rfl) ⟨flatMid acL Zg hka, rowAt Zb, HPX2.out ▸ rangePart (flatRange pqL hu HPK.out) (pqC p')⟩ (fun hH => ?_)
                          clear hH
                          generalize wr.drew = q1 at Zg Zs Zb hu ee ⊢
                          refine wpAnyH_take (i := 0) (v := .int .i64 (j : Int)) rfl (by kernel_rfl) (by kernel_rfl) (by kernel_rfl) (fun _ _ _ h => h) (Or.inl ⟨by rfl, fun w_ hS_ => by (first | (go_simp; done) | (go_simp; rfl))⟩) ⟨flatMid acL Zg hka, rowAt Zb, HPX2.out ▸ rangePart (flatRange pqL hu HPK.out) (pqC p')⟩ ?_
                          try simp only [Act.put, List.getElem_toArray, List.getElem_cons_zero, List.getElem_cons_succ, List.setIfInBounds_toArray, List.set_cons_zero, List.set_cons_succ]
                          refine wpAnyH_take (i := 1) (v := .pointer (some ⟨g, j * 16, none⟩)) rfl (by kernel_rfl) (by kernel_rfl) (by kernel_rfl) (fun _ _ _ h => h) (Or.inl ⟨by rfl, fun w_ hS_ => by (first | (go_simp; done) | (go_simp; rfl))⟩) ⟨flatMid acL Zg hka, rowAt Zb, HPX2.out ▸ rangePart (flatRange pqL hu HPK.out) (pqC p')⟩ ?_
                          try simp only [Act.put, List.getElem_toArray, List.getElem_cons_zero, List.getElem_cons_succ, List.setIfInBounds_toArray, List.set_cons_zero, List.set_cons_succ]
                          refine wpAnyH_take (i := 2) (v := .agg (a.cells).toArray) rfl (by kernel_rfl) (by kernel_rfl) (by kernel_rfl) (fun _ _ _ h => h) (yieldsIf_load_mid (by rfl) 39 _ rfl (g) (j * 16) rfl (a.cells) _ (fun _ h => h.1) Tryd.underlying39 rfl sizeAc) ⟨flatMid acL Zg hka, rowAt Zb, HPX2.out ▸ rangePart (flatRange pqL hu HPK.out) (pqC p')⟩ ?_
                          try simp only [Act.put, List.getElem_toArray, List.getElem_cons_zero, List.getElem_cons_succ, List.setIfInBounds_toArray, List.set_cons_zero, List.set_cons_succ]
                          refine wpAnyH_take (i := 3) (v := .agg ([.int .u32 (br : Int), .int .i64 bn]).toArray) rfl (by kernel_rfl) (by kernel_rfl) (by kernel_rfl) (fun _ _ _ h => h) (yieldsIf_load_mid (by rfl) 28 _ rfl (gb) (0) rfl ([.int .u32 (br : Int), .int .i64 bn]) _ (fun _ h => h.2.1) Tryd.underlying28 rfl sizeBal) ⟨flatMid acL Zg hka, rowAt Zb, HPX2.out ▸ rangePart (flatRange pqL hu HPK.out) (pqC p')⟩ ?_
                          try simp only [Act.put, List.getElem_toArray, List.getElem_cons_zero, List.getElem_cons_succ, List.setIfInBounds_toArray, List.set_cons_zero, List.set_cons_succ]
                          refine wpAnyH_take (i := 4) (v := .slice (some ⟨gp, 0, none⟩) all.length c) rfl (by kernel_rfl) (by kernel_rfl) (by kernel_rfl) (fun _ _ _ h => h) (Or.inl ⟨by rfl, fun w_ hS_ => by (first | (go_simp; done) | (go_simp; rfl))⟩) ⟨flatMid acL Zg hka, rowAt Zb, HPX2.out ▸ rangePart (flatRange pqL hu HPK.out) (pqC p')⟩ ?_
                          try simp only [Act.put, List.getElem_toArray, List.getElem_cons_zero, List.getElem_cons_succ, List.setIfInBounds_toArray, List.set_cons_zero, List.set_cons_succ]
                          refine wpAnyH_take (i := 5) (v := .int .i64 (kk : Int)) rfl (by kernel_rfl) (by kernel_rfl) (by kernel_rfl) (fun _ _ _ h => h) (Or.inl ⟨by rfl, fun w_ hS_ => by (first | (go_simp; done) | (go_simp; rfl))⟩) ⟨flatMid acL Zg hka, rowAt Zb, HPX2.out ▸ rangePart (flatRange pqL hu HPK.out) (pqC p')⟩ ?_
                          try simp only [Act.put, List.getElem_toArray, List.getElem_cons_zero, List.getElem_cons_succ, List.setIfInBounds_toArray, List.set_cons_zero, List.set_cons_succ]
                          refine wpAnyH_take (i := 6) (v := .pointer (some ⟨gp, kk * 17, none⟩)) rfl (by kernel_rfl) (by kernel_rfl) (by kernel_rfl) (fun _ _ _ h => h) (Or.inl ⟨by rfl, fun w_ hS_ => by (first | (go_simp; done) | (go_simp; rfl))⟩) ⟨flatMid acL Zg hka, rowAt Zb, HPX2.out ▸ rangePart (flatRange pqL hu HPK.out) (pqC p')⟩ ?_
                          try simp only [Act.put, List.getElem_toArray, List.getElem_cons_zero, List.getElem_cons_succ, List.setIfInBounds_toArray, List.set_cons_zero, List.set_cons_succ]
                          refine wpAnyH_take (i := 7) (v := .pointer (some ⟨gp, kk * 17 + 2, none⟩)) rfl (by kernel_rfl) (by kernel_rfl) (by kernel_rfl) (fun _ _ _ h => h) (Or.inl ⟨by rfl, fun w_ hS_ => by (first | (go_simp; done) | (go_simp; rfl))⟩) ⟨flatMid acL Zg hka, rowAt Zb, HPX2.out ▸ rangePart (flatRange pqL hu HPK.out) (pqC p')⟩ ?_
                          try simp only [Act.put, List.getElem_toArray, List.getElem_cons_zero, List.getElem_cons_succ, List.setIfInBounds_toArray, List.set_cons_zero, List.set_cons_succ]
                          refine wpAnyH_take (i := 8) (v := .agg (p.x.cells).toArray) rfl (by kernel_rfl) (by kernel_rfl) (by kernel_rfl) (fun _ _ _ h => h) (yieldsIf_load_mid (by rfl) 37 _ rfl (gp) (kk * 17 + 2) rfl (p.x.cells) _ (fun _ h => h.2.2) Tryd.underlying37 rfl sizeCm) ⟨flatMid acL Zg hka, rowAt Zb, HPX2.out ▸ rangePart (flatRange pqL hu HPK.out) (pqC p')⟩ ?_
                          try simp only [Act.put, List.getElem_toArray, List.getElem_cons_zero, List.getElem_cons_succ, List.setIfInBounds_toArray, List.set_cons_zero, List.set_cons_succ]
                          refine wpAnyH_ready (rs := [9, 13]) (by kernel_rfl) (by simp) ?_
                          refine AllReadyH.cons rfl (fun K hK => ?_) (AllReadyH.cons rfl (fun K hK => ?_) AllReadyH.nil)
                          · rw [if_pos (by rfl)]
                            go_simp
                            go_wp2_with (go_at_call 24; refine (HCV.out q1 ee).mono ?_; rintro e q2 ⟨rfl, t⟩)
                            have Zg := hpB Zg t
                            have Zs := hpB Zs t
                            have Zb := hpB Zb t
                            have hu := ownBelow hu t
                            have ee := ee.trans (t.mono ee.size)
                            clear t
                            refine hK.out _ _ ⟨flatMid acL Zg hka, rowAt Zb, HPX2.out ▸ rangePart (flatRange pqL hu HPK.out) (pqC p')⟩ (fun hH => ?_)
                            clear hK K hH
                            try simp only [Act.put, List.getElem_toArray, List.getElem_cons_zero, List.getElem_cons_succ, List.setIfInBounds_toArray, List.set_cons_zero, List.set_cons_succ]
                            refine wpAnyH_take (i := 10) (v := .tuple #[.agg (a.vote br bn 1 p.x).cells.toArray, .int .i64 (a.how br bn 1 p.x)]) rfl (by kernel_rfl) (by kernel_rfl) (by kernel_rfl) (fun _ _ _ h => h) (Or.inl ⟨by rfl, fun w_ hS_ => by (first | (go_simp; done) | (go_simp; rfl))⟩) ⟨flatMid acL Zg hka, rowAt Zb, HPX2.out ▸ rangePart (flatRange pqL hu HPK.out) (pqC p')⟩ ?_
                            try simp only [Act.put, List.getElem_toArray, List.getElem_cons_zero, List.getElem_cons_succ, List.setIfInBounds_toArray, List.set_cons_zero, List.set_cons_succ]
                            refine wpAnyH_take (i := 11) (v := .agg (a.vote br bn 1 p.x).cells.toArray) rfl (by kernel_rfl) (by kernel_rfl) (by kernel_rfl) (fun _ _ _ h => h) (Or.inl ⟨by rfl, fun w_ hS_ => by (first | (go_simp; done) | (go_simp; rfl))⟩) ⟨flatMid acL Zg hka, rowAt Zb, HPX2.out ▸ rangePart (flatRange pqL hu HPK.out) (pqC p')⟩ ?_
                            try simp only [Act.put, List.getElem_toArray, List.getElem_cons_zero, List.getElem_cons_succ, List.setIfInBounds_toArray, List.set_cons_zero, List.set_cons_succ]
                            refine wpAnyH_take (i := 12) (v := .int .i64 (a.how br bn 1 p.x)) rfl (by kernel_rfl) (by kernel_rfl) (by kernel_rfl) (fun _ _ _ h => h) (Or.inl ⟨by rfl, fun w_ hS_ => by (first | (go_simp; done) | (go_simp; rfl))⟩) ⟨flatMid acL Zg hka, rowAt Zb, HPX2.out ▸ rangePart (flatRange pqL hu HPK.out) (pqC p')⟩ ?_
                            try simp only [Act.put, List.getElem_toArray, List.getElem_cons_zero, List.getElem_cons_succ, List.setIfInBounds_toArray, List.set_cons_zero, List.set_cons_succ]
                            refine wpAnyH_ready (rs := [13]) (by kernel_rfl) (by simp) ?_
                            refine AllReadyH.cons rfl (fun K hK => ?_) AllReadyH.nil
                            rw [if_pos (by rfl)]
                            go_simp
                            have lZg := (Array.getElem?_eq_some_iff.1 Zg).1
                            have lZs := (Array.getElem?_eq_some_iff.1 Zs).1
                            have lZb := (Array.getElem?_eq_some_iff.1 Zb).1
                            have sz_ := ee.size
                            have Zg := hpA Zg (.cells #[.int .u32 0, .int .i64 0, .int .i64 0, .bool false, .int .u32 0, .int .i64 0, .int .i64 0, .int .i64 0, .int .i64 0, .slice none 0 0, .slice none 0 0, .int .i64 0, .int .i64 0, .int .i64 0, .int .u64 0, .bool false] 39)
                            have Zs := hpA Zs (.cells #[.int .u32 0, .int .i64 0, .int .i64 0, .bool false, .int .u32 0, .int .i64 0, .int .i64 0, .int .i64 0, .int .i64 0, .slice none 0 0, .slice none 0 0, .int .i64 0, .int .i64 0, .int .i64 0, .int .u64 0, .bool false] 39)
                            have Zb := hpA Zb (.cells #[.int .u32 0, .int .i64 0, .int .i64 0, .bool false, .int .u32 0, .int .i64 0, .int .i64 0, .int .i64 0, .int .i64 0, .slice none 0 0, .slice none 0 0, .int .i64 0, .int .i64 0, .int .i64 0, .int .u64 0, .bool false] 39)
                            have hu := hu.alloc (.cells #[.int .u32 0, .int .i64 0, .int .i64 0, .bool false, .int .u32 0, .int .i64 0, .int .i64 0, .int .i64 0, .int .i64 0, .slice none 0 0, .slice none 0 0, .int .i64 0, .int .i64 0, .int .i64 0, .int .u64 0, .bool false] 39)
                            have ee := ee.alloc ee.size (.cells #[.int .u32 0, .int .i64 0, .int .i64 0, .bool false, .int .u32 0, .int .i64 0, .int .i64 0, .int .i64 0, .int .i64 0, .slice none 0 0, .slice none 0 0, .int .i64 0, .int .i64 0, .int .i64 0, .int .u64 0, .bool false] 39)
                            have Zn := hpN q2 (.cells #[.int .u32 0, .int .i64 0, .int .i64 0, .bool false, .int .u32 0, .int .i64 0, .int .i64 0, .int .i64 0, .int .i64 0, .slice none 0 0, .slice none 0 0, .int .i64 0, .int .i64 0, .int .i64 0, .int .u64 0, .bool false] 39) rfl
                            generalize q2.alloc (.cells #[.int .u32 0, .int .i64 0, .int .i64 0, .bool false, .int .u32 0, .int .i64 0, .int .i64 0, .int .i64 0, .int .i64 0, .slice none 0 0, .slice none 0 0, .int .i64 0, .int .i64 0, .int .i64 0, .int .u64 0, .bool false] 39) = q3 at Zg Zs Zb Zn hu ee ⊢
                            refine hK.out _ _ ⟨flatMid acL Zg hka, rowAt Zb, HPX2.out ▸ rangePart (flatRange pqL hu HPK.out) (pqC p')⟩ (fun hH => ?_)
                            clear hK K hH
                            try simp only [Act.put, List.getElem_toArray, List.getElem_cons_zero, List.getElem_cons_succ, List.setIfInBounds_toArray, List.set_cons_zero, List.set_cons_succ]
                            refine wpAnyH_ready (rs := [14]) (by kernel_rfl) (by simp) ?_
                            refine AllReadyH.cons rfl (fun K hK => ?_) AllReadyH.nil
                            rw [if_pos (by rfl)]
                            refine wp_store_row 39 _ _ rfl (q2.heap.size) ((a.vote br bn 1 p.x).cells).toArray rfl rfl 39 _ Zn sizeAc (by rfl) (Ac.one _) ?_
                            have N_ := setRow_heap q3 (q2.heap.size) _ ((a.vote br bn 1 p.x).cells).toArray _ _ Zn
                            have hu := ogOwnR (cs := ((a.vote br bn 1 p.x).cells).toArray) hu (ogKind hu Zn (by decide))
                            have ee := belowSet (cs := ((a.vote br bn 1 p.x).cells).toArray) ee Zn (by omega)
                            have Zg := hpR Zg (g' := q2.heap.size) (by omega) ((a.vote br bn 1 p.x).cells).toArray
                            have Zs := hpR Zs (g' := q2.heap.size) (by omega) ((a.vote br bn 1 p.x).cells).toArray
                            have Zb := hpR Zb (g' := q2.heap.size) (by omega) ((a.vote br bn 1 p.x).cells).toArray
                            clear Zn
                            have Zn := N_
                            clear N_
                            generalize q3.setRow (q2.heap.size) ((a.vote br bn 1 p.x).cells).toArray = q4 at Zg Zs Zb Zn hu ee ⊢
                            refine hK.out _ _ ⟨flatMid acL Zg hka, rowAt Zb, HPX2.out ▸ rangePart (flatRange pqL hu HPK.out) (pqC p')⟩ (fun hH => ?_)
                            clear hK K hH
                            try simp only [Act.put, List.getElem_toArray, List.getElem_cons_zero, List.getElem_cons_succ, List.setIfInBounds_toArray, List.set_cons_zero, List.set_cons_succ]
                            refine wpAnyH_take (i := 15) (v := .int .i64 (a.how br bn 1 p.x)) rfl (by kernel_rfl) (by kernel_rfl) (by kernel_rfl) (fun _ _ _ h => h) (Or.inl ⟨by rfl, fun w_ hS_ => by (first | (go_simp; done) | (go_simp; rfl))⟩) ⟨flatMid acL Zg hka, rowAt Zb, HPX2.out ▸ rangePart (flatRange pqL hu HPK.out) (pqC p')⟩ ?_
                            try simp only [Act.put, List.getElem_toArray, List.getElem_cons_zero, List.getElem_cons_succ, List.setIfInBounds_toArray, List.set_cons_zero, List.set_cons_succ]
                            refine wpAnyH_done (by kernel_rfl) ?_ _
                            clear HCV
                            go_upto_region 31 with fail
                            refine wp_region_lit ?_
                            iterate 27 (first | with_reducible refine isLoad (ty := 39) rfl ?_ | go_step)
                            refine wpList_load_mid rfl 39 _ rfl (q2.heap.size) 0 rfl (((a.vote br bn 1 p.x).cells)) _ (rowAt Zn) Tryd.underlying39 rfl sizeAc ?_
                            iterate 27 (first | with_reducible refine isStore (ty := 39) rfl ?_ | go_step)
                            refine wpList_store_mid rfl 39 _ _ rfl (g) (j * 16) (Ac.cells (a.vote br bn 1 p.x)).toArray rfl rfl (flatThere acL Zg hka) sizeAc (Ac.one _) ?_
                            have N_ : (q4.setCells (g) (j * 16) (Ac.cells (a.vote br bn 1 p.x))).heap[g]? = some (.cells (flat Ac.cells (l'.set j (a.vote br bn 1 p.x))).toArray 62) := ogPut acL Zg hka (a.vote br bn 1 p.x)
                            have hu := ogOwnC hu (ogKind hu Zg (by decide)) (Ac.cells (a.vote br bn 1 p.x)) (j * 16)
                            have ee := belowC (g := g) (by omega) (Ac.cells (a.vote br bn 1 p.x)) (j * 16) q4 ee
                            have Zs := hpCo (g' := g) (by omega) (Ac.cells (a.vote br bn 1 p.x)) (j * 16) q4 Zs
                            have Zb := hpCo (g' := g) (by omega) (Ac.cells (a.vote br bn 1 p.x)) (j * 16) q4 Zb
                            have Zn := hpCo (g' := g) (by omega) (Ac.cells (a.vote br bn 1 p.x)) (j * 16) q4 Zn
                            clear Zg
                            have Zg := N_
                            clear N_
                            change wpList _ _ _ _ _ (q4.setCells (g) (j * 16) (Ac.cells (a.vote br bn 1 p.x)))
                            generalize q4.setCells (g) (j * 16) (Ac.cells (a.vote br bn 1 p.x)) = q5 at Zg Zs Zb Zn hu ee ⊢
                            go_upto_region 32 with fail
                            have HJV := Lib.hid (HVJ.out.2.1)
                            generalize hvo : vo.getD j false = vb at HA
                            have HVB := Lib.hid hvo
                            clear hvo
                            cases vb with
                            | true =>
                              rw [Bool.true_or] at HA
                              have Zg : q5.drew.heap[g]? = some (.cells (flat Ac.cells (l'.set j (a.vote br bn 1 p.x))).toArray 62) := Zg
                              have Zs : q5.drew.heap[gs]? = some (.cells s.cells.toArray 66) := Zs
                              have Zb : q5.drew.heap[gb]? = some (.cells [.int .u32 (br : Int), .int .i64 bn].toArray 28) := Zb
                              have Zn : q5.drew.heap[q2.heap.size]? = some (.cells ((a.vote br bn 1 p.x).cells).toArray 39) := Zn
                              have hu := World.ownsRow.drew hu
                              have ee := belowDrewS ee
                              refine wp_region_held_drew (S := fun z' => True) (by kernel_rfl) trivial (fun hH => ?_)
                              clear hH
                              generalize q5.drew = q6 at Zg Zs Zb Zn hu ee ⊢
                              refine wpAnyH_take (i := 0) (v := .slice (some ⟨gp, 0, none⟩) all.length c) rfl (by kernel_rfl) (by kernel_rfl) (by kernel_rfl) (fun _ _ _ h => h) (Or.inl ⟨by rfl, fun w_ hS_ => by (first | (go_simp; done) | (go_simp; rfl))⟩) trivial ?_
                              try simp only [Act.put, List.getElem_toArray, List.getElem_cons_zero, List.getElem_cons_succ, List.setIfInBounds_toArray, List.set_cons_zero, List.set_cons_succ]
                              refine wpAnyH_take (i := 1) (v := .int .i64 (kk : Int)) rfl (by kernel_rfl) (by kernel_rfl) (by kernel_rfl) (fun _ _ _ h => h) (Or.inl ⟨by rfl, fun w_ hS_ => by (first | (go_simp; done) | (go_simp; rfl))⟩) trivial ?_
                              try simp only [Act.put, List.getElem_toArray, List.getElem_cons_zero, List.getElem_cons_succ, List.setIfInBounds_toArray, List.set_cons_zero, List.set_cons_succ]
                              refine wpAnyH_take (i := 2) (v := .int .i64 (j : Int)) rfl (by kernel_rfl) (by kernel_rfl) (by kernel_rfl) (fun _ _ _ h => h) (Or.inl ⟨by rfl, fun w_ hS_ => by (first | (go_simp; done) | (go_simp; rfl))⟩) trivial ?_
                              try simp only [Act.put, List.getElem_toArray, List.getElem_cons_zero, List.getElem_cons_succ, List.setIfInBounds_toArray, List.set_cons_zero, List.set_cons_succ]
                              refine wpAnyH_take (i := 3) (v := .slice (some ⟨gp, 0, none⟩) all.length c) rfl (by kernel_rfl) (by kernel_rfl) (by kernel_rfl) (fun _ _ _ h => h) (Or.inl ⟨by rfl, fun w_ hS_ => by (first | (go_simp; done) | (go_simp; rfl))⟩) trivial ?_
                              try simp only [Act.put, List.getElem_toArray, List.getElem_cons_zero, List.getElem_cons_succ, List.setIfInBounds_toArray, List.set_cons_zero, List.set_cons_succ]
                              refine wpAnyH_take (i := 4) (v := .int .i64 (kk : Int)) rfl (by kernel_rfl) (by kernel_rfl) (by kernel_rfl) (fun _ _ _ h => h) (Or.inl ⟨by rfl, fun w_ hS_ => by (first | (go_simp; done) | (go_simp; rfl))⟩) trivial ?_
                              try simp only [Act.put, List.getElem_toArray, List.getElem_cons_zero, List.getElem_cons_succ, List.setIfInBounds_toArray, List.set_cons_zero, List.set_cons_succ]
                              refine wpAnyH_take (i := 5) (v := .int .i64 (j : Int)) rfl (by kernel_rfl) (by kernel_rfl) (by kernel_rfl) (fun _ _ _ h => h) (Or.inl ⟨by rfl, fun w_ hS_ => by (first | (go_simp; done) | (go_simp; rfl))⟩) trivial ?_
                              try simp only [Act.put, List.getElem_toArray, List.getElem_cons_zero, List.getElem_cons_succ, List.setIfInBounds_toArray, List.set_cons_zero, List.set_cons_succ]
                              refine wpAnyH_take (i := 6) (v := .pointer (some ⟨gp, kk * 17, none⟩)) rfl (by kernel_rfl) (by kernel_rfl) (by kernel_rfl) (fun _ _ _ h => h) (Or.inl ⟨by rfl, fun w_ hS_ => by (first | (go_simp; done) | (go_simp; rfl))⟩) trivial ?_
                              try simp only [Act.put, List.getElem_toArray, List.getElem_cons_zero, List.getElem_cons_succ, List.setIfInBounds_toArray, List.set_cons_zero, List.set_cons_succ]
                              refine wpAnyH_take (i := 7) (v := .pointer (some ⟨gp, kk * 17 + 12, none⟩)) rfl (by kernel_rfl) (by kernel_rfl) (by kernel_rfl) (fun _ _ _ h => h) (Or.inl ⟨by rfl, fun w_ hS_ => by (first | (go_simp; done) | (go_simp; rfl))⟩) trivial ?_
                              try simp only [Act.put, List.getElem_toArray, List.getElem_cons_zero, List.getElem_cons_succ, List.setIfInBounds_toArray, List.set_cons_zero, List.set_cons_succ]
                              refine wpAnyH_take (i := 8) (v := .pointer (some ⟨gp, kk * 17 + 12 + j, none⟩)) rfl (by kernel_rfl) (by kernel_rfl) (by kernel_rfl) (fun _ _ _ h => h) (Or.inl ⟨by rfl, fun w_ hS_ => by (first | (go_simp; done) | (go_simp; rfl))⟩) trivial ?_
                              try simp only [Act.put, List.getElem_toArray, List.getElem_cons_zero, List.getElem_cons_succ, List.setIfInBounds_toArray, List.set_cons_zero, List.set_cons_succ]
                              refine wpAnyH_take (i := 14) (v := .pointer (some ⟨gp, kk * 17, none⟩)) rfl (by kernel_rfl) (by kernel_rfl) (by kernel_rfl) (fun _ _ _ h => h) (Or.inl ⟨by rfl, fun w_ hS_ => by (first | (go_simp; done) | (go_simp; rfl))⟩) trivial ?_
                              try simp only [Act.put, List.getElem_toArray, List.getElem_cons_zero, List.getElem_cons_succ, List.setIfInBounds_toArray, List.set_cons_zero, List.set_cons_succ]
                              refine wpAnyH_take (i := 15) (v := .pointer (some ⟨gp, kk * 17 + 12, none⟩)) rfl (by kernel_rfl) (by kernel_rfl) (by kernel_rfl) (fun _ _ _ h => h) (Or.inl ⟨by rfl, fun w_ hS_ => by (first | (go_simp; done) | (go_simp; rfl))⟩) trivial ?_
                              try simp only [Act.put, List.getElem_toArray, List.getElem_cons_zero, List.getElem_cons_succ, List.setIfInBounds_toArray, List.set_cons_zero, List.set_cons_succ]
                              refine wpAnyH_ready (rs := [9]) (by kernel_rfl) (by simp) ?_
                              refine AllReadyH.cons rfl (fun K hK => ?_) AllReadyH.nil
                              rw [if_pos (by rfl)]
                              have c_ := pqCell hu HPK.out j (by omega) (by rw [HPV.out, HVB.out])
                              go_simp
                              clear c_
                              refine hK.out _ _ trivial (fun hH => ?_)
                              clear hK K hH
                              try simp only [Act.put, List.getElem_toArray, List.getElem_cons_zero, List.getElem_cons_succ, List.setIfInBounds_toArray, List.set_cons_zero, List.set_cons_succ]
                              refine wpAnyH_take (i := 10) (v := .bool true) rfl (by kernel_rfl) (by kernel_rfl) (by kernel_rfl) (fun _ _ _ h => h) (Or.inl ⟨by rfl, fun w_ hS_ => by (first | (go_simp; done) | (go_simp; rfl))⟩) trivial ?_
                              try simp only [Act.put, List.getElem_toArray, List.getElem_cons_zero, List.getElem_cons_succ, List.setIfInBounds_toArray, List.set_cons_zero, List.set_cons_succ]
                              refine wpAnyH_take (i := 11) (v := undef) rfl (by kernel_rfl) (by kernel_rfl) (by kernel_rfl) (fun _ _ _ h => h) (Or.inr ⟨by rfl, rfl⟩) trivial ?_
                              try simp only [Act.put, List.getElem_toArray, List.getElem_cons_zero, List.getElem_cons_succ, List.setIfInBounds_toArray, List.set_cons_zero, List.set_cons_succ]
                              refine wpAnyH_take (i := 12) (v := undef) rfl (by kernel_rfl) (by kernel_rfl) (by kernel_rfl) (fun _ _ _ h => h) (Or.inr ⟨by rfl, rfl⟩) trivial ?_
                              try simp only [Act.put, List.getElem_toArray, List.getElem_cons_zero, List.getElem_cons_succ, List.setIfInBounds_toArray, List.set_cons_zero, List.set_cons_succ]
                              refine wpAnyH_take (i := 13) (v := .bool true) rfl (by kernel_rfl) (by kernel_rfl) (by kernel_rfl) (fun _ _ _ h => h) (Or.inl ⟨by rfl, fun w_ hS_ => by (first | (go_simp; done) | (go_simp; rfl))⟩) trivial ?_
                              try simp only [Act.put, List.getElem_toArray, List.getElem_cons_zero, List.getElem_cons_succ, List.setIfInBounds_toArray, List.set_cons_zero, List.set_cons_succ]
                              refine wpAnyH_take (i := 16) (v := .pointer (some ⟨gp, kk * 17 + 12 + j, none⟩)) rfl (by kernel_rfl) (by kernel_rfl) (by kernel_rfl) (fun _ _ _ h => h) (Or.inl ⟨by rfl, fun w_ hS_ => by (first | (go_simp; done) | (go_simp; rfl))⟩) trivial ?_
                              try simp only [Act.put, List.getElem_toArray, List.getElem_cons_zero, List.getElem_cons_succ, List.setIfInBounds_toArray, List.set_cons_zero, List.set_cons_succ]
                              refine wpAnyH_ready (rs := [17]) (by kernel_rfl) (by simp) ?_
                              refine AllReadyH.cons rfl (fun K hK => ?_) AllReadyH.nil
                              rw [if_pos (by rfl)]
                              have f_ : q6.frozen? ⟨gp, kk * 17 + 12 + j, none⟩ = false := World.ownsRow.frozenAt hu _
                              have c_ := pqCell hu HPK.out j (by omega) (by rw [HPV.out, HVB.out])
                              go_simp
                              clear f_ c_
                              have N_ := (World.ownsRow.stored hu (kk * 17 + 12 + j) (.bool true)).1
                              rw [pqStore HPK.out (by rw [HPV.out]; exact HJV.out) j (by omega) true] at N_
                              have hg_ := (hu.lt gp rfl).1
                              have ee := belowC (g := gp) (by omega) [.bool true] (kk * 17 + 12 + j) q6 ee
                              have Zg := hpCo (g' := gp) (fun e_ => ogKind hu Zg (by decide) (by rw [e_]; rfl)) [.bool true] (kk * 17 + 12 + j) q6 Zg
                              have Zs := hpCo (g' := gp) (fun e_ => ogKind hu Zs (by decide) (by rw [e_]; rfl)) [.bool true] (kk * 17 + 12 + j) q6 Zs
                              have Zb := hpCo (g' := gp) (fun e_ => ogKind hu Zb (by decide) (by rw [e_]; rfl)) [.bool true] (kk * 17 + 12 + j) q6 Zb
                              have Zn := hpCo (g' := gp) (fun e_ => ogKind hu Zn (by decide) (by rw [e_]; rfl)) [.bool true] (kk * 17 + 12 + j) q6 Zn
                              clear hu hg_
                              have hu : (q6.setCells (gp) (kk * 17 + 12 + j) [.bool true]).ownsRow _ _ _ _ _ _ := N_
                              clear N_
                              change K _ (q6.setCells (gp) (kk * 17 + 12 + j) [.bool true])
                              generalize q6.setCells (gp) (kk * 17 + 12 + j) [.bool true] = q7 at Zg Zs Zb Zn hu ee ⊢
                              refine hK.out _ _ trivial (fun hH => ?_)
                              clear hK K hH
                              try simp only [Act.put, List.getElem_toArray, List.getElem_cons_zero, List.getElem_cons_succ, List.setIfInBounds_toArray, List.set_cons_zero, List.set_cons_succ]
                              refine wpAnyH_done (by kernel_rfl) ?_ _
                              clear hj0 hj6 hk0 hk1
                              rw [List.set_set, HPV.out] at hu
                              have HP9 : Hid (({ p' with vo := vo.set j true } : One.Pq) = { p with vo := vo.set j true }) := by show _ = _; rw [HPP.out]
                              rw [HP9.out] at hu
                              go_wp2_with fail
                              go_roundw
                              case rel => exact ⟨j + 1, by omega, by go_num, by rw [HA.out]; exact Zg, by rw [HA.out]; exact hu, Zs, Zb, ee⟩
                              case measure => simp [intOf]; omega
                            | false =>
                              rw [Bool.false_or] at HA
                              have hq3 : ((a.how br bn 1 p.x) == 3) = decide ((a.how br bn 1 p.x) = 3) := by rw [Bool.eq_iff_iff]; simp
                              have Zg : q5.drew.heap[g]? = some (.cells (flat Ac.cells (l'.set j (a.vote br bn 1 p.x))).toArray 62) := Zg
                              have Zs : q5.drew.heap[gs]? = some (.cells s.cells.toArray 66) := Zs
                              have Zb : q5.drew.heap[gb]? = some (.cells [.int .u32 (br : Int), .int .i64 bn].toArray 28) := Zb
                              have Zn : q5.drew.heap[q2.heap.size]? = some (.cells ((a.vote br bn 1 p.x).cells).toArray 39) := Zn
                              have hu := World.ownsRow.drew hu
                              have ee := belowDrewS ee
                              refine wp_region_held_drew (S := fun z' => True) (by kernel_rfl) trivial (fun hH => ?_)
                              clear hH
                              generalize q5.drew = q6 at Zg Zs Zb Zn hu ee ⊢
                              refine wpAnyH_take (i := 0) (v := .slice (some ⟨gp, 0, none⟩) all.length c) rfl (by kernel_rfl) (by kernel_rfl) (by kernel_rfl) (fun _ _ _ h => h) (Or.inl ⟨by rfl, fun w_ hS_ => by (first | (go_simp; done) | (go_simp; rfl))⟩) trivial ?_
                              try simp only [Act.put, List.getElem_toArray, List.getElem_cons_zero, List.getElem_cons_succ, List.setIfInBounds_toArray, List.set_cons_zero, List.set_cons_succ]
                              refine wpAnyH_take (i := 1) (v := .int .i64 (kk : Int)) rfl (by kernel_rfl) (by kernel_rfl) (by kernel_rfl) (fun _ _ _ h => h) (Or.inl ⟨by rfl, fun w_ hS_ => by (first | (go_simp; done) | (go_simp; rfl))⟩) trivial ?_
                              try simp only [Act.put, List.getElem_toArray, List.getElem_cons_zero, List.getElem_cons_succ, List.setIfInBounds_toArray, List.set_cons_zero, List.set_cons_succ]
                              refine wpAnyH_take (i := 2) (v := .int .i64 (j : Int)) rfl (by kernel_rfl) (by kernel_rfl) (by kernel_rfl) (fun _ _ _ h => h) (Or.inl ⟨by rfl, fun w_ hS_ => by (first | (go_simp; done) | (go_simp; rfl))⟩) trivial ?_
                              try simp only [Act.put, List.getElem_toArray, List.getElem_cons_zero, List.getElem_cons_succ, List.setIfInBounds_toArray, List.set_cons_zero, List.set_cons_succ]
                              refine wpAnyH_take (i := 3) (v := .slice (some ⟨gp, 0, none⟩) all.length c) rfl (by kernel_rfl) (by kernel_rfl) (by kernel_rfl) (fun _ _ _ h => h) (Or.inl ⟨by rfl, fun w_ hS_ => by (first | (go_simp; done) | (go_simp; rfl))⟩) trivial ?_
                              try simp only [Act.put, List.getElem_toArray, List.getElem_cons_zero, List.getElem_cons_succ, List.setIfInBounds_toArray, List.set_cons_zero, List.set_cons_succ]
                              refine wpAnyH_take (i := 4) (v := .int .i64 (kk : Int)) rfl (by kernel_rfl) (by kernel_rfl) (by kernel_rfl) (fun _ _ _ h => h) (Or.inl ⟨by rfl, fun w_ hS_ => by (first | (go_simp; done) | (go_simp; rfl))⟩) trivial ?_
                              try simp only [Act.put, List.getElem_toArray, List.getElem_cons_zero, List.getElem_cons_succ, List.setIfInBounds_toArray, List.set_cons_zero, List.set_cons_succ]
                              refine wpAnyH_take (i := 5) (v := .int .i64 (j : Int)) rfl (by kernel_rfl) (by kernel_rfl) (by kernel_rfl) (fun _ _ _ h => h) (Or.inl ⟨by rfl, fun w_ hS_ => by (first | (go_simp; done) | (go_simp; rfl))⟩) trivial ?_
                              try simp only [Act.put, List.getElem_toArray, List.getElem_cons_zero, List.getElem_cons_succ, List.setIfInBounds_toArray, List.set_cons_zero, List.set_cons_succ]
                              refine wpAnyH_take (i := 6) (v := .pointer (some ⟨gp, kk * 17, none⟩)) rfl (by kernel_rfl) (by kernel_rfl) (by kernel_rfl) (fun _ _ _ h => h) (Or.inl ⟨by rfl, fun w_ hS_ => by (first | (go_simp; done) | (go_simp; rfl))⟩) trivial ?_
                              try simp only [Act.put, List.getElem_toArray, List.getElem_cons_zero, List.getElem_cons_succ, List.setIfInBounds_toArray, List.set_cons_zero, List.set_cons_succ]
                              refine wpAnyH_take (i := 7) (v := .pointer (some ⟨gp, kk * 17 + 12, none⟩)) rfl (by kernel_rfl) (by kernel_rfl) (by kernel_rfl) (fun _ _ _ h => h) (Or.inl ⟨by rfl, fun w_ hS_ => by (first | (go_simp; done) | (go_simp; rfl))⟩) trivial ?_
                              try simp only [Act.put, List.getElem_toArray, List.getElem_cons_zero, List.getElem_cons_succ, List.setIfInBounds_toArray, List.set_cons_zero, List.set_cons_succ]
                              refine wpAnyH_take (i := 8) (v := .pointer (some ⟨gp, kk * 17 + 12 + j, none⟩)) rfl (by kernel_rfl) (by kernel_rfl) (by kernel_rfl) (fun _ _ _ h => h) (Or.inl ⟨by rfl, fun w_ hS_ => by (first | (go_simp; done) | (go_simp; rfl))⟩) trivial ?_
                              try simp only [Act.put, List.getElem_toArray, List.getElem_cons_zero, List.getElem_cons_succ, List.setIfInBounds_toArray, List.set_cons_zero, List.set_cons_succ]
                              refine wpAnyH_take (i := 14) (v := .pointer (some ⟨gp, kk * 17, none⟩)) rfl (by kernel_rfl) (by kernel_rfl) (by kernel_rfl) (fun _ _ _ h => h) (Or.inl ⟨by rfl, fun w_ hS_ => by (first | (go_simp; done) | (go_simp; rfl))⟩) trivial ?_
                              try simp only [Act.put, List.getElem_toArray, List.getElem_cons_zero, List.getElem_cons_succ, List.setIfInBounds_toArray, List.set_cons_zero, List.set_cons_succ]
                              refine wpAnyH_take (i := 15) (v := .pointer (some ⟨gp, kk * 17 + 12, none⟩)) rfl (by kernel_rfl) (by kernel_rfl) (by kernel_rfl) (fun _ _ _ h => h) (Or.inl ⟨by rfl, fun w_ hS_ => by (first | (go_simp; done) | (go_simp; rfl))⟩) trivial ?_
                              try simp only [Act.put, List.getElem_toArray, List.getElem_cons_zero, List.getElem_cons_succ, List.setIfInBounds_toArray, List.set_cons_zero, List.set_cons_succ]
                              refine wpAnyH_ready (rs := [9]) (by kernel_rfl) (by simp) ?_
                              refine AllReadyH.cons rfl (fun K hK => ?_) AllReadyH.nil
                              rw [if_pos (by rfl)]
                              have c_ := pqCell hu HPK.out j (by omega) (by rw [HPV.out, HVB.out])
                              go_simp
                              clear c_
                              refine hK.out _ _ trivial (fun hH => ?_)
                              clear hK K hH
                              try simp only [Act.put, List.getElem_toArray, List.getElem_cons_zero, List.getElem_cons_succ, List.setIfInBounds_toArray, List.set_cons_zero, List.set_cons_succ]
                              refine wpAnyH_take (i := 10) (v := .bool false) rfl (by kernel_rfl) (by kernel_rfl) (by kernel_rfl) (fun _ _ _ h => h) (Or.inl ⟨by rfl, fun w_ hS_ => by (first | (go_simp; done) | (go_simp; rfl))⟩) trivial ?_
                              try simp only [Act.put, List.getElem_toArray, List.getElem_cons_zero, List.getElem_cons_succ, List.setIfInBounds_toArray, List.set_cons_zero, List.set_cons_succ]
                              refine wpAnyH_take (i := 11) (v := .int .i64 (a.how br bn 1 p.x)) rfl (by kernel_rfl) (by kernel_rfl) (by kernel_rfl) (fun _ _ _ h => h) (Or.inl ⟨by rfl, fun w_ hS_ => by (first | (go_simp; done) | (go_simp; rfl))⟩) trivial ?_
                              try simp only [Act.put, List.getElem_toArray, List.getElem_cons_zero, List.getElem_cons_succ, List.setIfInBounds_toArray, List.set_cons_zero, List.set_cons_succ]
                              refine wpAnyH_take (i := 12) (v := .bool (decide ((a.how br bn 1 p.x) = 3))) rfl (by kernel_rfl) (by kernel_rfl) (by kernel_rfl) (fun _ _ _ h => h) (Or.inl ⟨by rfl, fun w_ hS_ => by (first | (go_simp; done) | (go_simp; rfl))⟩) trivial ?_
                              try simp only [Act.put, List.getElem_toArray, List.getElem_cons_zero, List.getElem_cons_succ, List.setIfInBounds_toArray, List.set_cons_zero, List.set_cons_succ]
                              refine wpAnyH_take (i := 13) (v := .bool (decide ((a.how br bn 1 p.x) = 3))) rfl (by kernel_rfl) (by kernel_rfl) (by kernel_rfl) (fun _ _ _ h => h) (Or.inl ⟨by rfl, fun w_ hS_ => by (first | (go_simp; done) | (go_simp; rfl))⟩) trivial ?_
                              try simp only [Act.put, List.getElem_toArray, List.getElem_cons_zero, List.getElem_cons_succ, List.setIfInBounds_toArray, List.set_cons_zero, List.set_cons_succ]
                              refine wpAnyH_take (i := 16) (v := .pointer (some ⟨gp, kk * 17 + 12 + j, none⟩)) rfl (by kernel_rfl) (by kernel_rfl) (by kernel_rfl) (fun _ _ _ h => h) (Or.inl ⟨by rfl, fun w_ hS_ => by (first | (go_simp; done) | (go_simp; rfl))⟩) trivial ?_
                              try simp only [Act.put, List.getElem_toArray, List.getElem_cons_zero, List.getElem_cons_succ, List.setIfInBounds_toArray, List.set_cons_zero, List.set_cons_succ]
                              refine wpAnyH_ready (rs := [17]) (by kernel_rfl) (by simp) ?_
                              refine AllReadyH.cons rfl (fun K hK => ?_) AllReadyH.nil
                              rw [if_pos (by rfl)]
                              have f_ : q6.frozen? ⟨gp, kk * 17 + 12 + j, none⟩ = false := World.ownsRow.frozenAt hu _
                              have c_ := pqCell hu HPK.out j (by omega) (by rw [HPV.out, HVB.out])
                              go_simp
                              clear f_ c_
                              have N_ := (World.ownsRow.stored hu (kk * 17 + 12 + j) (.bool (decide ((a.how br bn 1 p.x) = 3)))).1
                              rw [pqStore HPK.out (by rw [HPV.out]; exact HJV.out) j (by omega) (decide ((a.how br bn 1 p.x) = 3))] at N_
                              have hg_ := (hu.lt gp rfl).1
                              have ee := belowC (g := gp) (by omega) [.bool (decide ((a.how br bn 1 p.x) = 3))] (kk * 17 + 12 + j) q6 ee
                              have Zg := hpCo (g' := gp) (fun e_ => ogKind hu Zg (by decide) (by rw [e_]; rfl)) [.bool (decide ((a.how br bn 1 p.x) = 3))] (kk * 17 + 12 + j) q6 Zg
                              have Zs := hpCo (g' := gp) (fun e_ => ogKind hu Zs (by decide) (by rw [e_]; rfl)) [.bool (decide ((a.how br bn 1 p.x) = 3))] (kk * 17 + 12 + j) q6 Zs
                              have Zb := hpCo (g' := gp) (fun e_ => ogKind hu Zb (by decide) (by rw [e_]; rfl)) [.bool (decide ((a.how br bn 1 p.x) = 3))] (kk * 17 + 12 + j) q6 Zb
                              have Zn := hpCo (g' := gp) (fun e_ => ogKind hu Zn (by decide) (by rw [e_]; rfl)) [.bool (decide ((a.how br bn 1 p.x) = 3))] (kk * 17 + 12 + j) q6 Zn
                              clear hu hg_
                              have hu : (q6.setCells (gp) (kk * 17 + 12 + j) [.bool (decide ((a.how br bn 1 p.x) = 3))]).ownsRow _ _ _ _ _ _ := N_
                              clear N_
                              change K _ (q6.setCells (gp) (kk * 17 + 12 + j) [.bool (decide ((a.how br bn 1 p.x) = 3))])
                              generalize q6.setCells (gp) (kk * 17 + 12 + j) [.bool (decide ((a.how br bn 1 p.x) = 3))] = q7 at Zg Zs Zb Zn hu ee ⊢
                              refine hK.out _ _ trivial (fun hH => ?_)
                              clear hK K hH
                              try simp only [Act.put, List.getElem_toArray, List.getElem_cons_zero, List.getElem_cons_succ, List.setIfInBounds_toArray, List.set_cons_zero, List.set_cons_succ]
                              refine wpAnyH_done (by kernel_rfl) ?_ _
                              clear hj0 hj6 hk0 hk1
                              rw [List.set_set, HPV.out] at hu
                              have HP9 : Hid (({ p' with vo := vo.set j (decide ((a.how br bn 1 p.x) = 3)) } : One.Pq) = { p with vo := vo.set j (decide ((a.how br bn 1 p.x) = 3)) }) := by show _ = _; rw [HPP.out]
                              rw [HP9.out] at hu
                              go_wp2_with fail
                              go_roundw
                              case rel => exact ⟨j + 1, by omega, by go_num, by rw [HA.out]; exact Zg, by rw [HA.out]; exact hu, Zs, Zb, ee⟩
                              case measure => simp [intOf]; omega
                          · rw [if_pos (by rfl)]
                            go_simp
                            have lZg := (Array.getElem?_eq_some_iff.1 Zg).1
                            have lZs := (Array.getElem?_eq_some_iff.1 Zs).1
                            have lZb := (Array.getElem?_eq_some_iff.1 Zb).1
                            have sz_ := ee.size
                            have Zg := hpA Zg (.cells #[.int .u32 0, .int .i64 0, .int .i64 0, .bool false, .int .u32 0, .int .i64 0, .int .i64 0, .int .i64 0, .int .i64 0, .slice none 0 0, .slice none 0 0, .int .i64 0, .int .i64 0, .int .i64 0, .int .u64 0, .bool false] 39)
                            have Zs := hpA Zs (.cells #[.int .u32 0, .int .i64 0, .int .i64 0, .bool false, .int .u32 0, .int .i64 0, .int .i64 0, .int .i64 0, .int .i64 0, .slice none 0 0, .slice none 0 0, .int .i64 0, .int .i64 0, .int .i64 0, .int .u64 0, .bool false] 39)
                            have Zb := hpA Zb (.cells #[.int .u32 0, .int .i64 0, .int .i64 0, .bool false, .int .u32 0, .int .i64 0, .int .i64 0, .int .i64 0, .int .i64 0, .slice none 0 0, .slice none 0 0, .int .i64 0, .int .i64 0, .int .i64 0, .int .u64 0, .bool false] 39)
                            have hu := hu.alloc (.cells #[.int .u32 0, .int .i64 0, .int .i64 0, .bool false, .int .u32 0, .int .i64 0, .int .i64 0, .int .i64 0, .int .i64 0, .slice none 0 0, .slice none 0 0, .int .i64 0, .int .i64 0, .int .i64 0, .int .u64 0, .bool false] 39)
                            have ee := ee.alloc ee.size (.cells #[.int .u32 0, .int .i64 0, .int .i64 0, .bool false, .int .u32 0, .int .i64 0, .int .i64 0, .int .i64 0, .int .i64 0, .slice none 0 0, .slice none 0 0, .int .i64 0, .int .i64 0, .int .i64 0, .int .u64 0, .bool false] 39)
                            have Zn := hpN q1 (.cells #[.int .u32 0, .int .i64 0, .int .i64 0, .bool false, .int .u32 0, .int .i64 0, .int .i64 0, .int .i64 0, .int .i64 0, .slice none 0 0, .slice none 0 0, .int .i64 0, .int .i64 0, .int .i64 0, .int .u64 0, .bool false] 39) rfl
                            generalize q1.alloc (.cells #[.int .u32 0, .int .i64 0, .int .i64 0, .bool false, .int .u32 0, .int .i64 0, .int .i64 0, .int .i64 0, .int .i64 0, .slice none 0 0, .slice none 0 0, .int .i64 0, .int .i64 0, .int .i64 0, .int .u64 0, .bool false] 39) = q2 at Zg Zs Zb Zn hu ee ⊢
                            refine hK.out _ _ ⟨flatMid acL Zg hka, rowAt Zb, HPX2.out ▸ rangePart (flatRange pqL hu HPK.out) (pqC p')⟩ (fun hH => ?_)
                            clear hK K hH
                            try simp only [Act.put, List.getElem_toArray, List.getElem_cons_zero, List.getElem_cons_succ, List.setIfInBounds_toArray, List.set_cons_zero, List.set_cons_succ]
                            refine wpAnyH_ready (rs := [9]) (by kernel_rfl) (by simp) ?_
                            refine AllReadyH.cons rfl (fun K hK => ?_) AllReadyH.nil
                            rw [if_pos (by rfl)]
                            go_simp
                            go_wp2_with (go_at_call 24; refine (HCV.out q2 ee).mono ?_; rintro e q3 ⟨rfl, t⟩)
                            have Zg := hpB Zg t
                            have Zs := hpB Zs t
                            have Zb := hpB Zb t
                            have Zn := hpB Zn t
                            have hu := ownBelow hu t
                            have ee := ee.trans (t.mono ee.size)
                            clear t
                            refine hK.out _ _ ⟨flatMid acL Zg hka, rowAt Zb, HPX2.out ▸ rangePart (flatRange pqL hu HPK.out) (pqC p')⟩ (fun hH => ?_)
                            clear hK K hH
                            try simp only [Act.put, List.getElem_toArray, List.getElem_cons_zero, List.getElem_cons_succ, List.setIfInBounds_toArray, List.set_cons_zero, List.set_cons_succ]
                            refine wpAnyH_take (i := 10) (v := .tuple #[.agg (a.vote br bn 1 p.x).cells.toArray, .int .i64 (a.how br bn 1 p.x)]) rfl (by kernel_rfl) (by kernel_rfl) (by kernel_rfl) (fun _ _ _ h => h) (Or.inl ⟨by rfl, fun w_ hS_ => by (first | (go_simp; done) | (go_simp; rfl))⟩) ⟨flatMid acL Zg hka, rowAt Zb, HPX2.out ▸ rangePart (flatRange pqL hu HPK.out) (pqC p')⟩ ?_
                            try simp only [Act.put, List.getElem_toArray, List.getElem_cons_zero, List.getElem_cons_succ, List.setIfInBounds_toArray, List.set_cons_zero, List.set_cons_succ]
                            refine wpAnyH_take (i := 11) (v := .agg (a.vote br bn 1 p.x).cells.toArray) rfl (by kernel_rfl) (by kernel_rfl) (by kernel_rfl) (fun _ _ _ h => h) (Or.inl ⟨by rfl, fun w_ hS_ => by (first | (go_simp; done) | (go_simp; rfl))⟩) ⟨flatMid acL Zg hka, rowAt Zb, HPX2.out ▸ rangePart (flatRange pqL hu HPK.out) (pqC p')⟩ ?_
                            try simp only [Act.put, List.getElem_toArray, List.getElem_cons_zero, List.getElem_cons_succ, List.setIfInBounds_toArray, List.set_cons_zero, List.set_cons_succ]
                            refine wpAnyH_take (i := 12) (v := .int .i64 (a.how br bn 1 p.x)) rfl (by kernel_rfl) (by kernel_rfl) (by kernel_rfl) (fun _ _ _ h => h) (Or.inl ⟨by rfl, fun w_ hS_ => by (first | (go_simp; done) | (go_simp; rfl))⟩) ⟨flatMid acL Zg hka, rowAt Zb, HPX2.out ▸ rangePart (flatRange pqL hu HPK.out) (pqC p')⟩ ?_
                            try simp only [Act.put, List.getElem_toArray, List.getElem_cons_zero, List.getElem_cons_succ, List.setIfInBounds_toArray, List.set_cons_zero, List.set_cons_succ]
                            refine wpAnyH_ready (rs := [14]) (by kernel_rfl) (by simp) ?_
                            refine AllReadyH.cons rfl (fun K hK => ?_) AllReadyH.nil
                            rw [if_pos (by rfl)]
                            refine wp_store_row 39 _ _ rfl (q1.heap.size) ((a.vote br bn 1 p.x).cells).toArray rfl rfl 39 _ Zn sizeAc (by rfl) (Ac.one _) ?_
                            have N_ := setRow_heap q3 (q1.heap.size) _ ((a.vote br bn 1 p.x).cells).toArray _ _ Zn
                            have hu := ogOwnR (cs := ((a.vote br bn 1 p.x).cells).toArray) hu (ogKind hu Zn (by decide))
                            have ee := belowSet (cs := ((a.vote br bn 1 p.x).cells).toArray) ee Zn (by omega)
                            have Zg := hpR Zg (g' := q1.heap.size) (by omega) ((a.vote br bn 1 p.x).cells).toArray
                            have Zs := hpR Zs (g' := q1.heap.size) (by omega) ((a.vote br bn 1 p.x).cells).toArray
                            have Zb := hpR Zb (g' := q1.heap.size) (by omega) ((a.vote br bn 1 p.x).cells).toArray
                            clear Zn
                            have Zn := N_
                            clear N_
                            generalize q3.setRow (q1.heap.size) ((a.vote br bn 1 p.x).cells).toArray = q4 at Zg Zs Zb Zn hu ee ⊢
                            refine hK.out _ _ ⟨flatMid acL Zg hka, rowAt Zb, HPX2.out ▸ rangePart (flatRange pqL hu HPK.out) (pqC p')⟩ (fun hH => ?_)
                            clear hK K hH
                            try simp only [Act.put, List.getElem_toArray, List.getElem_cons_zero, List.getElem_cons_succ, List.setIfInBounds_toArray, List.set_cons_zero, List.set_cons_succ]
                            refine wpAnyH_take (i := 15) (v := .int .i64 (a.how br bn 1 p.x)) rfl (by kernel_rfl) (by kernel_rfl) (by kernel_rfl) (fun _ _ _ h => h) (Or.inl ⟨by rfl, fun w_ hS_ => by (first | (go_simp; done) | (go_simp; rfl))⟩) ⟨flatMid acL Zg hka, rowAt Zb, HPX2.out ▸ rangePart (flatRange pqL hu HPK.out) (pqC p')⟩ ?_
                            try simp only [Act.put, List.getElem_toArray, List.getElem_cons_zero, List.getElem_cons_succ, List.setIfInBounds_toArray, List.set_cons_zero, List.set_cons_succ]
                            refine wpAnyH_done (by kernel_rfl) ?_ _
                            clear HCV
                            go_upto_region 31 with fail
                            refine wp_region_lit ?_
                            iterate 27 (first | with_reducible refine isLoad (ty := 39) rfl ?_ | go_step)
                            refine wpList_load_mid rfl 39 _ rfl (q1.heap.size) 0 rfl (((a.vote br bn 1 p.x).cells)) _ (rowAt Zn) Tryd.underlying39 rfl sizeAc ?_
                            iterate 27 (first | with_reducible refine isStore (ty := 39) rfl ?_ | go_step)
                            refine wpList_store_mid rfl 39 _ _ rfl (g) (j * 16) (Ac.cells (a.vote br bn 1 p.x)).toArray rfl rfl (flatThere acL Zg hka) sizeAc (Ac.one _) ?_
                            have N_ : (q4.setCells (g) (j * 16) (Ac.cells (a.vote br bn 1 p.x))).heap[g]? = some (.cells (flat Ac.cells (l'.set j (a.vote br bn 1 p.x))).toArray 62) := ogPut acL Zg hka (a.vote br bn 1 p.x)
                            have hu := ogOwnC hu (ogKind hu Zg (by decide)) (Ac.cells (a.vote br bn 1 p.x)) (j * 16)
                            have ee := belowC (g := g) (by omega) (Ac.cells (a.vote br bn 1 p.x)) (j * 16) q4 ee
                            have Zs := hpCo (g' := g) (by omega) (Ac.cells (a.vote br bn 1 p.x)) (j * 16) q4 Zs
                            have Zb := hpCo (g' := g) (by omega) (Ac.cells (a.vote br bn 1 p.x)) (j * 16) q4 Zb
                            have Zn := hpCo (g' := g) (by omega) (Ac.cells (a.vote br bn 1 p.x)) (j * 16) q4 Zn
                            clear Zg
                            have Zg := N_
                            clear N_
                            change wpList _ _ _ _ _ (q4.setCells (g) (j * 16) (Ac.cells (a.vote br bn 1 p.x)))
                            generalize q4.setCells (g) (j * 16) (Ac.cells (a.vote br bn 1 p.x)) = q5 at Zg Zs Zb Zn hu ee ⊢
                            go_upto_region 32 with fail
                            have HJV := Lib.hid (HVJ.out.2.1)
                            generalize hvo : vo.getD j false = vb at HA
                            have HVB := Lib.hid hvo
                            clear hvo
                            cases vb with
                            | true =>
                              rw [Bool.true_or] at HA
                              have Zg : q5.drew.heap[g]? = some (.cells (flat Ac.cells (l'.set j (a.vote br bn 1 p.x))).toArray 62) := Zg
                              have Zs : q5.drew.heap[gs]? = some (.cells s.cells.toArray 66) := Zs
                              have Zb : q5.drew.heap[gb]? = some (.cells [.int .u32 (br : Int), .int .i64 bn].toArray 28) := Zb
                              have Zn : q5.drew.heap[q1.heap.size]? = some (.cells ((a.vote br bn 1 p.x).cells).toArray 39) := Zn
                              have hu := World.ownsRow.drew hu
                              have ee := belowDrewS ee
                              refine wp_region_held_drew (S := fun z' => True) (by kernel_rfl) trivial (fun hH => ?_)
                              clear hH
                              generalize q5.drew = q6 at Zg Zs Zb Zn hu ee ⊢
                              refine wpAnyH_take (i := 0) (v := .slice (some ⟨gp, 0, none⟩) all.length c) rfl (by kernel_rfl) (by kernel_rfl) (by kernel_rfl) (fun _ _ _ h => h) (Or.inl ⟨by rfl, fun w_ hS_ => by (first | (go_simp; done) | (go_simp; rfl))⟩) trivial ?_
                              try simp only [Act.put, List.getElem_toArray, List.getElem_cons_zero, List.getElem_cons_succ, List.setIfInBounds_toArray, List.set_cons_zero, List.set_cons_succ]
                              refine wpAnyH_take (i := 1) (v := .int .i64 (kk : Int)) rfl (by kernel_rfl) (by kernel_rfl) (by kernel_rfl) (fun _ _ _ h => h) (Or.inl ⟨by rfl, fun w_ hS_ => by (first | (go_simp; done) | (go_simp; rfl))⟩) trivial ?_
                              try simp only [Act.put, List.getElem_toArray, List.getElem_cons_zero, List.getElem_cons_succ, List.setIfInBounds_toArray, List.set_cons_zero, List.set_cons_succ]
                              refine wpAnyH_take (i := 2) (v := .int .i64 (j : Int)) rfl (by kernel_rfl) (by kernel_rfl) (by kernel_rfl) (fun _ _ _ h => h) (Or.inl ⟨by rfl, fun w_ hS_ => by (first | (go_simp; done) | (go_simp; rfl))⟩) trivial ?_
                              try simp only [Act.put, List.getElem_toArray, List.getElem_cons_zero, List.getElem_cons_succ, List.setIfInBounds_toArray, List.set_cons_zero, List.set_cons_succ]
                              refine wpAnyH_take (i := 3) (v := .slice (some ⟨gp, 0, none⟩) all.length c) rfl (by kernel_rfl) (by kernel_rfl) (by kernel_rfl) (fun _ _ _ h => h) (Or.inl ⟨by rfl, fun w_ hS_ => by (first | (go_simp; done) | (go_simp; rfl))⟩) trivial ?_
                              try simp only [Act.put, List.getElem_toArray, List.getElem_cons_zero, List.getElem_cons_succ, List.setIfInBounds_toArray, List.set_cons_zero, List.set_cons_succ]
                              refine wpAnyH_take (i := 4) (v := .int .i64 (kk : Int)) rfl (by kernel_rfl) (by kernel_rfl) (by kernel_rfl) (fun _ _ _ h => h) (Or.inl ⟨by rfl, fun w_ hS_ => by (first | (go_simp; done) | (go_simp; rfl))⟩) trivial ?_
                              try simp only [Act.put, List.getElem_toArray, List.getElem_cons_zero, List.getElem_cons_succ, List.setIfInBounds_toArray, List.set_cons_zero, List.set_cons_succ]
                              refine wpAnyH_take (i := 5) (v := .int .i64 (j : Int)) rfl (by kernel_rfl) (by kernel_rfl) (by kernel_rfl) (fun _ _ _ h => h) (Or.inl ⟨by rfl, fun w_ hS_ => by (first | (go_simp; done) | (go_simp; rfl))⟩) trivial ?_
                              try simp only [Act.put, List.getElem_toArray, List.getElem_cons_zero, List.getElem_cons_succ, List.setIfInBounds_toArray, List.set_cons_zero, List.set_cons_succ]
                              refine wpAnyH_take (i := 6) (v := .pointer (some ⟨gp, kk * 17, none⟩)) rfl (by kernel_rfl) (by kernel_rfl) (by kernel_rfl) (fun _ _ _ h => h) (Or.inl ⟨by rfl, fun w_ hS_ => by (first | (go_simp; done) | (go_simp; rfl))⟩) trivial ?_
                              try simp only [Act.put, List.getElem_toArray, List.getElem_cons_zero, List.getElem_cons_succ, List.setIfInBounds_toArray, List.set_cons_zero, List.set_cons_succ]
                              refine wpAnyH_take (i := 7) (v := .pointer (some ⟨gp, kk * 17 + 12, none⟩)) rfl (by kernel_rfl) (by kernel_rfl) (by kernel_rfl) (fun _ _ _ h => h) (Or.inl ⟨by rfl, fun w_ hS_ => by (first | (go_simp; done) | (go_simp; rfl))⟩) trivial ?_
                              try simp only [Act.put, List.getElem_toArray, List.getElem_cons_zero, List.getElem_cons_succ, List.setIfInBounds_toArray, List.set_cons_zero, List.set_cons_succ]
                              refine wpAnyH_take (i := 8) (v := .pointer (some ⟨gp, kk * 17 + 12 + j, none⟩)) rfl (by kernel_rfl) (by kernel_rfl) (by kernel_rfl) (fun _ _ _ h => h) (Or.inl ⟨by rfl, fun w_ hS_ => by (first | (go_simp; done) | (go_simp; rfl))⟩) trivial ?_
                              try simp only [Act.put, List.getElem_toArray, List.getElem_cons_zero, List.getElem_cons_succ, List.setIfInBounds_toArray, List.set_cons_zero, List.set_cons_succ]
                              refine wpAnyH_take (i := 14) (v := .pointer (some ⟨gp, kk * 17, none⟩)) rfl (by kernel_rfl) (by kernel_rfl) (by kernel_rfl) (fun _ _ _ h => h) (Or.inl ⟨by rfl, fun w_ hS_ => by (first | (go_simp; done) | (go_simp; rfl))⟩) trivial ?_
                              try simp only [Act.put, List.getElem_toArray, List.getElem_cons_zero, List.getElem_cons_succ, List.setIfInBounds_toArray, List.set_cons_zero, List.set_cons_succ]
                              refine wpAnyH_take (i := 15) (v := .pointer (some ⟨gp, kk * 17 + 12, none⟩)) rfl (by kernel_rfl) (by kernel_rfl) (by kernel_rfl) (fun _ _ _ h => h) (Or.inl ⟨by rfl, fun w_ hS_ => by (first | (go_simp; done) | (go_simp; rfl))⟩) trivial ?_
                              try simp only [Act.put, List.getElem_toArray, List.getElem_cons_zero, List.getElem_cons_succ, List.setIfInBounds_toArray, List.set_cons_zero, List.set_cons_succ]
                              refine wpAnyH_ready (rs := [9]) (by kernel_rfl) (by simp) ?_
                              refine AllReadyH.cons rfl (fun K hK => ?_) AllReadyH.nil
                              rw [if_pos (by rfl)]
                              have c_ := pqCell hu HPK.out j (by omega) (by rw [HPV.out, HVB.out])
                              go_simp
                              clear c_
                              refine hK.out _ _ trivial (fun hH => ?_)
                              clear hK K hH
                              try simp only [Act.put, List.getElem_toArray, List.getElem_cons_zero, List.getElem_cons_succ, List.setIfInBounds_toArray, List.set_cons_zero, List.set_cons_succ]
                              refine wpAnyH_take (i := 10) (v := .bool true) rfl (by kernel_rfl) (by kernel_rfl) (by kernel_rfl) (fun _ _ _ h => h) (Or.inl ⟨by rfl, fun w_ hS_ => by (first | (go_simp; done) | (go_simp; rfl))⟩) trivial ?_
                              try simp only [Act.put, List.getElem_toArray, List.getElem_cons_zero, List.getElem_cons_succ, List.setIfInBounds_toArray, List.set_cons_zero, List.set_cons_succ]
                              refine wpAnyH_take (i := 11) (v := undef) rfl (by kernel_rfl) (by kernel_rfl) (by kernel_rfl) (fun _ _ _ h => h) (Or.inr ⟨by rfl, rfl⟩) trivial ?_
                              try simp only [Act.put, List.getElem_toArray, List.getElem_cons_zero, List.getElem_cons_succ, List.setIfInBounds_toArray, List.set_cons_zero, List.set_cons_succ]
                              refine wpAnyH_take (i := 12) (v := undef) rfl (by kernel_rfl) (by kernel_rfl) (by kernel_rfl) (fun _ _ _ h => h) (Or.inr ⟨by rfl, rfl⟩) trivial ?_
                              try simp only [Act.put, List.getElem_toArray, List.getElem_cons_zero, List.getElem_cons_succ, List.setIfInBounds_toArray, List.set_cons_zero, List.set_cons_succ]
                              refine wpAnyH_take (i := 13) (v := .bool true) rfl (by kernel_rfl) (by kernel_rfl) (by kernel_rfl) (fun _ _ _ h => h) (Or.inl ⟨by rfl, fun w_ hS_ => by (first | (go_simp; done) | (go_simp; rfl))⟩) trivial ?_
                              try simp only [Act.put, List.getElem_toArray, List.getElem_cons_zero, List.getElem_cons_succ, List.setIfInBounds_toArray, List.set_cons_zero, List.set_cons_succ]
                              refine wpAnyH_take (i := 16) (v := .pointer (some ⟨gp, kk * 17 + 12 + j, none⟩)) rfl (by kernel_rfl) (by kernel_rfl) (by kernel_rfl) (fun _ _ _ h => h) (Or.inl ⟨by rfl, fun w_ hS_ => by (first | (go_simp; done) | (go_simp; rfl))⟩) trivial ?_
                              try simp only [Act.put, List.getElem_toArray, List.getElem_cons_zero, List.getElem_cons_succ, List.setIfInBounds_toArray, List.set_cons_zero, List.set_cons_succ]
                              refine wpAnyH_ready (rs := [17]) (by kernel_rfl) (by simp) ?_
                              refine AllReadyH.cons rfl (fun K hK => ?_) AllReadyH.nil
                              rw [if_pos (by rfl)]
                              have f_ : q6.frozen? ⟨gp, kk * 17 + 12 + j, none⟩ = false := World.ownsRow.frozenAt hu _
                              have c_ := pqCell hu HPK.out j (by omega) (by rw [HPV.out, HVB.out])
                              go_simp
                              clear f_ c_
                              have N_ := (World.ownsRow.stored hu (kk * 17 + 12 + j) (.bool true)).1
                              rw [pqStore HPK.out (by rw [HPV.out]; exact HJV.out) j (by omega) true] at N_
                              have hg_ := (hu.lt gp rfl).1
                              have ee := belowC (g := gp) (by omega) [.bool true] (kk * 17 + 12 + j) q6 ee
                              have Zg := hpCo (g' := gp) (fun e_ => ogKind hu Zg (by decide) (by rw [e_]; rfl)) [.bool true] (kk * 17 + 12 + j) q6 Zg
                              have Zs := hpCo (g' := gp) (fun e_ => ogKind hu Zs (by decide) (by rw [e_]; rfl)) [.bool true] (kk * 17 + 12 + j) q6 Zs
                              have Zb := hpCo (g' := gp) (fun e_ => ogKind hu Zb (by decide) (by rw [e_]; rfl)) [.bool true] (kk * 17 + 12 + j) q6 Zb
                              have Zn := hpCo (g' := gp) (fun e_ => ogKind hu Zn (by decide) (by rw [e_]; rfl)) [.bool true] (kk * 17 + 12 + j) q6 Zn
                              clear hu hg_
                              have hu : (q6.setCells (gp) (kk * 17 + 12 + j) [.bool true]).ownsRow _ _ _ _ _ _ := N_
                              clear N_
                              change K _ (q6.setCells (gp) (kk * 17 + 12 + j) [.bool true])
                              generalize q6.setCells (gp) (kk * 17 + 12 + j) [.bool true] = q7 at Zg Zs Zb Zn hu ee ⊢
                              refine hK.out _ _ trivial (fun hH => ?_)
                              clear hK K hH
                              try simp only [Act.put, List.getElem_toArray, List.getElem_cons_zero, List.getElem_cons_succ, List.setIfInBounds_toArray, List.set_cons_zero, List.set_cons_succ]
                              refine wpAnyH_done (by kernel_rfl) ?_ _
                              clear hj0 hj6 hk0 hk1
                              rw [List.set_set, HPV.out] at hu
                              have HP9 : Hid (({ p' with vo := vo.set j true } : One.Pq) = { p with vo := vo.set j true }) := by show _ = _; rw [HPP.out]
                              rw [HP9.out] at hu
                              go_wp2_with fail
                              go_roundw
                              case rel => exact ⟨j + 1, by omega, by go_num, by rw [HA.out]; exact Zg, by rw [HA.out]; exact hu, Zs, Zb, ee⟩
                              case measure => simp [intOf]; omega
                            | false =>
                              rw [Bool.false_or] at HA
                              have hq3 : ((a.how br bn 1 p.x) == 3) = decide ((a.how br bn 1 p.x) = 3) := by rw [Bool.eq_iff_iff]; simp
                              have Zg : q5.drew.heap[g]? = some (.cells (flat Ac.cells (l'.set j (a.vote br bn 1 p.x))).toArray 62) := Zg
                              have Zs : q5.drew.heap[gs]? = some (.cells s.cells.toArray 66) := Zs
                              have Zb : q5.drew.heap[gb]? = some (.cells [.int .u32 (br : Int), .int .i64 bn].toArray 28) := Zb
                              have Zn : q5.drew.heap[q1.heap.size]? = some (.cells ((a.vote br bn 1 p.x).cells).toArray 39) := Zn
                              have hu := World.ownsRow.drew hu
                              have ee := belowDrewS ee
                              refine wp_region_held_drew (S := fun z' => True) (by kernel_rfl) trivial (fun hH => ?_)
                              clear hH
                              generalize q5.drew = q6 at Zg Zs Zb Zn hu ee ⊢
                              refine wpAnyH_take (i := 0) (v := .slice (some ⟨gp, 0, none⟩) all.length c) rfl (by kernel_rfl) (by kernel_rfl) (by kernel_rfl) (fun _ _ _ h => h) (Or.inl ⟨by rfl, fun w_ hS_ => by (first | (go_simp; done) | (go_simp; rfl))⟩) trivial ?_
                              try simp only [Act.put, List.getElem_toArray, List.getElem_cons_zero, List.getElem_cons_succ, List.setIfInBounds_toArray, List.set_cons_zero, List.set_cons_succ]
                              refine wpAnyH_take (i := 1) (v := .int .i64 (kk : Int)) rfl (by kernel_rfl) (by kernel_rfl) (by kernel_rfl) (fun _ _ _ h => h) (Or.inl ⟨by rfl, fun w_ hS_ => by (first | (go_simp; done) | (go_simp; rfl))⟩) trivial ?_
                              try simp only [Act.put, List.getElem_toArray, List.getElem_cons_zero, List.getElem_cons_succ, List.setIfInBounds_toArray, List.set_cons_zero, List.set_cons_succ]
                              refine wpAnyH_take (i := 2) (v := .int .i64 (j : Int)) rfl (by kernel_rfl) (by kernel_rfl) (by kernel_rfl) (fun _ _ _ h => h) (Or.inl ⟨by rfl, fun w_ hS_ => by (first | (go_simp; done) | (go_simp; rfl))⟩) trivial ?_
                              try simp only [Act.put, List.getElem_toArray, List.getElem_cons_zero, List.getElem_cons_succ, List.setIfInBounds_toArray, List.set_cons_zero, List.set_cons_succ]
                              refine wpAnyH_take (i := 3) (v := .slice (some ⟨gp, 0, none⟩) all.length c) rfl (by kernel_rfl) (by kernel_rfl) (by kernel_rfl) (fun _ _ _ h => h) (Or.inl ⟨by rfl, fun w_ hS_ => by (first | (go_simp; done) | (go_simp; rfl))⟩) trivial ?_
                              try simp only [Act.put, List.getElem_toArray, List.getElem_cons_zero, List.getElem_cons_succ, List.setIfInBounds_toArray, List.set_cons_zero, List.set_cons_succ]
                              refine wpAnyH_take (i := 4) (v := .int .i64 (kk : Int)) rfl (by kernel_rfl) (by kernel_rfl) (by kernel_rfl) (fun _ _ _ h => h) (Or.inl ⟨by rfl, fun w_ hS_ => by (first | (go_simp; done) | (go_simp; rfl))⟩) trivial ?_
                              try simp only [Act.put, List.getElem_toArray, List.getElem_cons_zero, List.getElem_cons_succ, List.setIfInBounds_toArray, List.set_cons_zero, List.set_cons_succ]
                              refine wpAnyH_take (i := 5) (v := .int .i64 (j : Int)) rfl (by kernel_rfl) (by kernel_rfl) (by kernel_rfl) (fun _ _ _ h => h) (Or.inl ⟨by rfl, fun w_ hS_ => by (first | (go_simp; done) | (go_simp; rfl))⟩) trivial ?_
                              try simp only [Act.put, List.getElem_toArray, List.getElem_cons_zero, List.getElem_cons_succ, List.setIfInBounds_toArray, List.set_cons_zero, List.set_cons_succ]
                              refine wpAnyH_take (i := 6) (v := .pointer (some ⟨gp, kk * 17, none⟩)) rfl (by kernel_rfl) (by kernel_rfl) (by kernel_rfl) (fun _ _ _ h => h) (Or.inl ⟨by rfl, fun w_ hS_ => by (first | (go_simp; done) | (go_simp; rfl))⟩) trivial ?_
                              try simp only [Act.put, List.getElem_toArray, List.getElem_cons_zero, List.getElem_cons_succ, List.setIfInBounds_toArray, List.set_cons_zero, List.set_cons_succ]
                              refine wpAnyH_take (i := 7) (v := .pointer (some ⟨gp, kk * 17 + 12, none⟩)) rfl (by kernel_rfl) (by kernel_rfl) (by kernel_rfl) (fun _ _ _ h => h) (Or.inl ⟨by rfl, fun w_ hS_ => by (first | (go_simp; done) | (go_simp; rfl))⟩) trivial ?_
                              try simp only [Act.put, List.getElem_toArray, List.getElem_cons_zero, List.getElem_cons_succ, List.setIfInBounds_toArray, List.set_cons_zero, List.set_cons_succ]
                              refine wpAnyH_take (i := 8) (v := .pointer (some ⟨gp, kk * 17 + 12 + j, none⟩)) rfl (by kernel_rfl) (by kernel_rfl) (by kernel_rfl) (fun _ _ _ h => h) (Or.inl ⟨by rfl, fun w_ hS_ => by (first | (go_simp; done) | (go_simp; rfl))⟩) trivial ?_
                              try simp only [Act.put, List.getElem_toArray, List.getElem_cons_zero, List.getElem_cons_succ, List.setIfInBounds_toArray, List.set_cons_zero, List.set_cons_succ]
                              refine wpAnyH_take (i := 14) (v := .pointer (some ⟨gp, kk * 17, none⟩)) rfl (by kernel_rfl) (by kernel_rfl) (by kernel_rfl) (fun _ _ _ h => h) (Or.inl ⟨by rfl, fun w_ hS_ => by (first | (go_simp; done) | (go_simp; rfl))⟩) trivial ?_
                              try simp only [Act.put, List.getElem_toArray, List.getElem_cons_zero, List.getElem_cons_succ, List.setIfInBounds_toArray, List.set_cons_zero, List.set_cons_succ]
                              refine wpAnyH_take (i := 15) (v := .pointer (some ⟨gp, kk * 17 + 12, none⟩)) rfl (by kernel_rfl) (by kernel_rfl) (by kernel_rfl) (fun _ _ _ h => h) (Or.inl ⟨by rfl, fun w_ hS_ => by (first | (go_simp; done) | (go_simp; rfl))⟩) trivial ?_
                              try simp only [Act.put, List.getElem_toArray, List.getElem_cons_zero, List.getElem_cons_succ, List.setIfInBounds_toArray, List.set_cons_zero, List.set_cons_succ]
                              refine wpAnyH_ready (rs := [9]) (by kernel_rfl) (by simp) ?_
                              refine AllReadyH.cons rfl (fun K hK => ?_) AllReadyH.nil
                              rw [if_pos (by rfl)]
                              have c_ := pqCell hu HPK.out j (by omega) (by rw [HPV.out, HVB.out])
                              go_simp
                              clear c_
                              refine hK.out _ _ trivial (fun hH => ?_)
                              clear hK K hH
                              try simp only [Act.put, List.getElem_toArray, List.getElem_cons_zero, List.getElem_cons_succ, List.setIfInBounds_toArray, List.set_cons_zero, List.set_cons_succ]
                              refine wpAnyH_take (i := 10) (v := .bool false) rfl (by kernel_rfl) (by kernel_rfl) (by kernel_rfl) (fun _ _ _ h => h) (Or.inl ⟨by rfl, fun w_ hS_ => by (first | (go_simp; done) | (go_simp; rfl))⟩) trivial ?_
                              try simp only [Act.put, List.getElem_toArray, List.getElem_cons_zero, List.getElem_cons_succ, List.setIfInBounds_toArray, List.set_cons_zero, List.set_cons_succ]
                              refine wpAnyH_take (i := 11) (v := .int .i64 (a.how br bn 1 p.x)) rfl (by kernel_rfl) (by kernel_rfl) (by kernel_rfl) (fun _ _ _ h => h) (Or.inl ⟨by rfl, fun w_ hS_ => by (first | (go_simp; done) | (go_simp; rfl))⟩) trivial ?_
                              try simp only [Act.put, List.getElem_toArray, List.getElem_cons_zero, List.getElem_cons_succ, List.setIfInBounds_toArray, List.set_cons_zero, List.set_cons_succ]
                              refine wpAnyH_take (i := 12) (v := .bool (decide ((a.how br bn 1 p.x) = 3))) rfl (by kernel_rfl) (by kernel_rfl) (by kernel_rfl) (fun _ _ _ h => h) (Or.inl ⟨by rfl, fun w_ hS_ => by (first | (go_simp; done) | (go_simp; rfl))⟩) trivial ?_
                              try simp only [Act.put, List.getElem_toArray, List.getElem_cons_zero, List.getElem_cons_succ, List.setIfInBounds_toArray, List.set_cons_zero, List.set_cons_succ]
                              refine wpAnyH_take (i := 13) (v := .bool (decide ((a.how br bn 1 p.x) = 3))) rfl (by kernel_rfl) (by kernel_rfl) (by kernel_rfl) (fun _ _ _ h => h) (Or.inl ⟨by rfl, fun w_ hS_ => by (first | (go_simp; done) | (go_simp; rfl))⟩) trivial ?_
                              try simp only [Act.put, List.getElem_toArray, List.getElem_cons_zero, List.getElem_cons_succ, List.setIfInBounds_toArray, List.set_cons_zero, List.set_cons_succ]
                              refine wpAnyH_take (i := 16) (v := .pointer (some ⟨gp, kk * 17 + 12 + j, none⟩)) rfl (by kernel_rfl) (by kernel_rfl) (by kernel_rfl) (fun _ _ _ h => h) (Or.inl ⟨by rfl, fun w_ hS_ => by (first | (go_simp; done) | (go_simp; rfl))⟩) trivial ?_
                              try simp only [Act.put, List.getElem_toArray, List.getElem_cons_zero, List.getElem_cons_succ, List.setIfInBounds_toArray, List.set_cons_zero, List.set_cons_succ]
                              refine wpAnyH_ready (rs := [17]) (by kernel_rfl) (by simp) ?_
                              refine AllReadyH.cons rfl (fun K hK => ?_) AllReadyH.nil
                              rw [if_pos (by rfl)]
                              have f_ : q6.frozen? ⟨gp, kk * 17 + 12 + j, none⟩ = false := World.ownsRow.frozenAt hu _
                              have c_ := pqCell hu HPK.out j (by omega) (by rw [HPV.out, HVB.out])
                              go_simp
                              clear f_ c_
                              have N_ := (World.ownsRow.stored hu (kk * 17 + 12 + j) (.bool (decide ((a.how br bn 1 p.x) = 3)))).1
                              rw [pqStore HPK.out (by rw [HPV.out]; exact HJV.out) j (by omega) (decide ((a.how br bn 1 p.x) = 3))] at N_
                              have hg_ := (hu.lt gp rfl).1
                              have ee := belowC (g := gp) (by omega) [.bool (decide ((a.how br bn 1 p.x) = 3))] (kk * 17 + 12 + j) q6 ee
                              have Zg := hpCo (g' := gp) (fun e_ => ogKind hu Zg (by decide) (by rw [e_]; rfl)) [.bool (decide ((a.how br bn 1 p.x) = 3))] (kk * 17 + 12 + j) q6 Zg
                              have Zs := hpCo (g' := gp) (fun e_ => ogKind hu Zs (by decide) (by rw [e_]; rfl)) [.bool (decide ((a.how br bn 1 p.x) = 3))] (kk * 17 + 12 + j) q6 Zs
                              have Zb := hpCo (g' := gp) (fun e_ => ogKind hu Zb (by decide) (by rw [e_]; rfl)) [.bool (decide ((a.how br bn 1 p.x) = 3))] (kk * 17 + 12 + j) q6 Zb
                              have Zn := hpCo (g' := gp) (fun e_ => ogKind hu Zn (by decide) (by rw [e_]; rfl)) [.bool (decide ((a.how br bn 1 p.x) = 3))] (kk * 17 + 12 + j) q6 Zn
                              clear hu hg_
                              have hu : (q6.setCells (gp) (kk * 17 + 12 + j) [.bool (decide ((a.how br bn 1 p.x) = 3))]).ownsRow _ _ _ _ _ _ := N_
                              clear N_
                              change K _ (q6.setCells (gp) (kk * 17 + 12 + j) [.bool (decide ((a.how br bn 1 p.x) = 3))])
                              generalize q6.setCells (gp) (kk * 17 + 12 + j) [.bool (decide ((a.how br bn 1 p.x) = 3))] = q7 at Zg Zs Zb Zn hu ee ⊢
                              refine hK.out _ _ trivial (fun hH => ?_)
                              clear hK K hH
                              try simp only [Act.put, List.getElem_toArray, List.getElem_cons_zero, List.getElem_cons_succ, List.setIfInBounds_toArray, List.set_cons_zero, List.set_cons_succ]
                              refine wpAnyH_done (by kernel_rfl) ?_ _
                              clear hj0 hj6 hk0 hk1
                              rw [List.set_set, HPV.out] at hu
                              have HP9 : Hid (({ p' with vo := vo.set j (decide ((a.how br bn 1 p.x) = 3)) } : One.Pq) = { p with vo := vo.set j (decide ((a.how br bn 1 p.x) = 3)) }) := by show _ = _; rw [HPP.out]
                              rw [HP9.out] at hu
                              go_wp2_with fail
                              go_roundw
                              case rel => exact ⟨j + 1, by omega, by go_num, by rw [HA.out]; exact Zg, by rw [HA.out]; exact hu, Zs, Zb, ee⟩
                              case measure => simp [intOf]; omega
                      · obtain rfl : n = j := by omega
                        clear hlt2 hj HVM HVJ
                        generalize One.vot (tb s.vt) br bn p.x ls p.vo n = R at HVG hu Zg
                        obtain ⟨l', vo⟩ := R
                        simp only at HVG hu Zg
                        have hl9 : (all.set kk { p with vo := vo }).length = all.length := List.length_set
                        generalize all.set kk { p with vo := vo } = al9 at HVG hu hl9
                        rw [← hl9] at hu ⊢
                        have hl99 : al9.length ≤ t + 1 := by omega
                        clear hl9
                        go_wp2_with fail
                        go_roundw
                        case rel => (first | exact ⟨t + 1, l', al9, some ⟨gp, 0, none⟩, c, by omega, by go_num, rfl, (by show _ ≤ _; omega), HVG, Zg, hu, ee⟩ | ((repeat apply Exists.intro); exact ⟨⟨t + 1, l', al9, some ⟨gp, 0, none⟩, c, by omega, by go_num, rfl, (by show _ ≤ _; omega), HVG, Zg, hu, ee⟩, rfl⟩))
                        case measure => simp [intOf]; omega
                  | none =>
                    have hd : decide (findI none < 0) = true := rfl
                    have HPG : Hid (∀ V, One.Holds1 n ls all V → One.Holds1 n (One.pre n br bn (tb s.ak) ls all).1 (One.pre n br bn (tb s.ak) ls all).2.1 V ∧ ∀ k, (One.pre n br bn (tb s.ak) ls all).2.2 = some k → ∃ p, (One.pre n br bn (tb s.ak) ls all).2.1[k]? = some p ∧ p.br = br ∧ p.bn = bn) := fun V hV => ⟨(One.pre_good hV hs5 (tb s.ak) br bn).1, (One.pre_good hV hs5 (tb s.ak) br bn).2.2⟩
                    have HPR : Hid (One.pre n br bn (tb s.ak) ls all = bif decide (n < 2 * (One.ask (tb s.ak) br bn ls n).2.length) then ((One.ask (tb s.ak) br bn ls n).1, all ++ [⟨br, bn, One.picked (One.ask (tb s.ak) br bn ls n).2 br bn, [false, false, false, false, false]⟩], some all.length) else ((One.ask (tb s.ak) br bn ls n).1, all, none)) := by
                      show _ = _
                      unfold One.pre
                      rw [hF]
                    have HLE := Lib.hid (fun z (hz : z.heap[g]? = some (.cells (flat Ac.cells ls).toArray 62 (0, 0))) (h1 : Below w.heap.size w z) (h2 : ls.length = 5) (h3 : ∀ a ∈ ls, flatC a.c) => olead g n s br bn ls z hz hs5 h2 HSS.out.2.2.1 hbr9 hbn5 h3 w.heap.size h1.size hwg (fun z' hz' => HT.out.below (h1.trans hz')))
                    have HLF : Hid (ls.length = 5 ∧ ∀ a ∈ ls, flatC a.c) := by obtain ⟨V, hV⟩ := HG.out; exact ⟨hV.len, fun a ha => (hV.sl a ha).2⟩
                    clear hF
                    go_upto_region 22 with fail
                    clear hd
                    refine wp_region_lit ?_
                    iterate 27 (first | with_reducible refine isLoad (ty := 66) rfl ?_ | go_step)
                    refine wpList_load_mid rfl 66 _ rfl (gs) 0 rfl ((s.cells)) _ (rowAt Zs) Tryd.underlying66 rfl sizeSt ?_
                    iterate 27 (first | with_reducible refine isLoad (ty := 28) rfl ?_ | go_step)
                    refine wpList_load_mid rfl 28 _ rfl (gb) 0 rfl (([.int .u32 (br : Int), .int .i64 bn])) _ (rowAt Zb) Tryd.underlying28 rfl sizeBal ?_
                    go_wp2_with fail
                    refine (HLE.out wr Zg ee HLF.out.1 HLF.out.2).mono ?_
                    rintro e u1 ⟨rfl, Zg2, t⟩
                    have hg2 := (Array.getElem?_eq_some_iff.1 Zg).1
                    have Zs := t.heap Zs (by omega)
                    have Zb := t.heap Zb (by omega)
                    have hu := t.own hu (fun i_ hi_ e_ => ogKind hu Zg (by decide) (by rw [hi_, e_]))
                    have ee := ee.trans (t.toBelow (B := w.heap.size) (fun i_ e_ => by omega) ee.size)
                    clear Zg t HLE hg2
                    have Zg := Zg2
                    clear Zg2
                    generalize One.ask (tb s.ak) br bn ls n = R at HPR Zg ⊢
                    obtain ⟨l1, pr⟩ := R
                    simp only at HPR Zg ⊢
                    generalize hM : decide (n < 2 * pr.length) = M at HPR ⊢
                    clear hM
                    try dsimp only
                    rename_i hK
                    refine hK _ _ ?_
                    clear hK
                    iterate 12 go_step
                    have lZg := (Array.getElem?_eq_some_iff.1 Zg).1
                    have lZs := (Array.getElem?_eq_some_iff.1 Zs).1
                    have lZb := (Array.getElem?_eq_some_iff.1 Zb).1
                    have sz_ := ee.size
                    have Zg := hpA Zg (.cells #[.int .i64 0, .int .i64 0, .int .i64 0, .slice none 0 0, .slice none 0 0, .int .i64 0, .int .i64 0, .int .i64 0, .int .u64 0, .bool false] 37)
                    have Zs := hpA Zs (.cells #[.int .i64 0, .int .i64 0, .int .i64 0, .slice none 0 0, .slice none 0 0, .int .i64 0, .int .i64 0, .int .i64 0, .int .u64 0, .bool false] 37)
                    have Zb := hpA Zb (.cells #[.int .i64 0, .int .i64 0, .int .i64 0, .slice none 0 0, .slice none 0 0, .int .i64 0, .int .i64 0, .int .i64 0, .int .u64 0, .bool false] 37)
                    have hu := hu.alloc (.cells #[.int .i64 0, .int .i64 0, .int .i64 0, .slice none 0 0, .slice none 0 0, .int .i64 0, .int .i64 0, .int .i64 0, .int .u64 0, .bool false] 37)
                    have ee := ee.alloc ee.size (.cells #[.int .i64 0, .int .i64 0, .int .i64 0, .slice none 0 0, .slice none 0 0, .int .i64 0, .int .i64 0, .int .i64 0, .int .u64 0, .bool false] 37)
                    have Zi := hpN u1 (.cells #[.int .i64 0, .int .i64 0, .int .i64 0, .slice none 0 0, .slice none 0 0, .int .i64 0, .int .i64 0, .int .i64 0, .int .u64 0, .bool false] 37) rfl
                    generalize u1.alloc (.cells #[.int .i64 0, .int .i64 0, .int .i64 0, .slice none 0 0, .slice none 0 0, .int .i64 0, .int .i64 0, .int .i64 0, .int .u64 0, .bool false] 37) = u2 at Zg Zs Zb Zi hu ee ⊢
                    iterate 27 (first | with_reducible refine isStore (ty := 37) rfl ?_ | go_step)
                    refine wpList_store_row rfl 37 _ _ rfl (u1.heap.size) ((bif M then One.picked pr br bn else Cm.zero).cells).toArray rfl rfl 37 _ Zi sizeCm (by rfl) (Cm.one _) ?_
                    have N_ := setRow_heap u2 (u1.heap.size) _ ((bif M then One.picked pr br bn else Cm.zero).cells).toArray _ _ Zi
                    have hu := ogOwnR (cs := ((bif M then One.picked pr br bn else Cm.zero).cells).toArray) hu (ogKind hu Zi (by decide))
                    have ee := belowSet (cs := ((bif M then One.picked pr br bn else Cm.zero).cells).toArray) ee Zi (by omega)
                    have Zg := hpR Zg (g' := u1.heap.size) (by omega) ((bif M then One.picked pr br bn else Cm.zero).cells).toArray
                    have Zs := hpR Zs (g' := u1.heap.size) (by omega) ((bif M then One.picked pr br bn else Cm.zero).cells).toArray
                    have Zb := hpR Zb (g' := u1.heap.size) (by omega) ((bif M then One.picked pr br bn else Cm.zero).cells).toArray
                    clear Zi
                    have Zi := N_
                    clear N_
                    generalize u2.setRow (u1.heap.size) ((bif M then One.picked pr br bn else Cm.zero).cells).toArray = u3 at Zg Zs Zb Zi hu ee ⊢
                    iterate 3 go_step
                    cases M with
                    | false =>
                      rw [cond_false] at HPR
                      rw [HPR.out] at HPG
                      have HG2 : Hid (∃ V, One.Holds1 n l1 all V) := by obtain ⟨V, hV⟩ := HG.out; exact ⟨V, (HPG.out V hV).1⟩
                      go_wp2_with fail
                      go_roundw
                      case rel => (first | exact ⟨t + 1, l1, all, A, c, by omega, by go_num, rfl, (by show _ ≤ _; omega), HG2, Zg, hu, ee⟩ | ((repeat apply Exists.intro); exact ⟨⟨t + 1, l1, all, A, c, by omega, by go_num, rfl, (by show _ ≤ _; omega), HG2, Zg, hu, ee⟩, rfl⟩))
                      case measure => simp [intOf]; omega
                    | true =>
                      rw [cond_true] at HPR
                      rw [HPR.out] at HPG
                      have HG0 := HG
                      clear HPR HG
                      have HPG2 := HPG.out
                      have Zi : u3.heap[u1.heap.size]? = some (.cells (One.picked pr br bn).cells.toArray 37) := Zi
                      generalize One.picked pr br bn = x at HPG Zi
                      go_upto_region 25 with fail
                      refine wp_region_lit ?_
                      iterate 27 (first | with_reducible refine isLoad (ty := 28) rfl ?_ | go_step)
                      refine wpList_load_mid rfl 28 _ rfl (gb) 0 rfl (([.int .u32 (br : Int), .int .i64 bn])) _ (rowAt Zb) Tryd.underlying28 rfl sizeBal ?_
                      iterate 27 (first | with_reducible refine isLoad (ty := 37) rfl ?_ | go_step)
                      refine wpList_load_mid rfl 37 _ rfl (u1.heap.size) 0 rfl (x.cells) _ (rowAt Zi) Tryd.underlying37 rfl sizeCm ?_
                      refine ogBuild rfl 69 #[(0, .tmp 88), (1, .tmp 89)] rfl [(0, .agg [.int .u32 (br : Int), .int .i64 bn].toArray), (1, .agg x.cells.toArray)] (⟨br, bn, x, [false, false, false, false, false]⟩ : One.Pq).cells.toArray ?hv ?hf ?hh
                      case hv => simp only [List.map_toArray, List.map_cons, List.map_nil]; rfl
                      case hf => exact (builtPq br bn x)
                      skip
                      refine wpList_buildSlice rfl 64 69 1 #[(0, .tmp 90)] rfl ((⟨br, bn, x, [false, false, false, false, false]⟩ : One.Pq).cells).toArray i1 (.agg #[.int .u32 0, .int .i64 0, .int .i64 0, .int .i64 0, .int .i64 0, .slice none 0 0, .slice none 0 0, .int .i64 0, .int .i64 0, .int .i64 0, .int .u64 0, .bool false, .bool false, .bool false, .bool false, .bool false, .bool false]) Tryd.underlying64 hi1 hz10 (by rw [hz11]; decide) (by rw [hz11]; decide) (by rw [hz11]; simp only [List.map_toArray, List.map_cons, List.map_nil]; exact ogFill (by omega) _ (pqL _) _ (by simp)) ?_
                      have lZg := (Array.getElem?_eq_some_iff.1 Zg).1
                      have lZs := (Array.getElem?_eq_some_iff.1 Zs).1
                      have lZb := (Array.getElem?_eq_some_iff.1 Zb).1
                      have lZi := (Array.getElem?_eq_some_iff.1 Zi).1
                      have sz_ := ee.size
                      have ne_hu_Zm : (Value.slice A all.length c).ownBlock ≠ some (u3.heap.size) := fun hb_ => by have hh_ := (hu.lt _ hb_).2; omega
                      have Zg := hpA Zg (.cells ((⟨br, bn, x, [false, false, false, false, false]⟩ : One.Pq).cells).toArray 69)
                      have Zs := hpA Zs (.cells ((⟨br, bn, x, [false, false, false, false, false]⟩ : One.Pq).cells).toArray 69)
                      have Zb := hpA Zb (.cells ((⟨br, bn, x, [false, false, false, false, false]⟩ : One.Pq).cells).toArray 69)
                      have Zi := hpA Zi (.cells ((⟨br, bn, x, [false, false, false, false, false]⟩ : One.Pq).cells).toArray 69)
                      have hu := hu.alloc (.cells ((⟨br, bn, x, [false, false, false, false, false]⟩ : One.Pq).cells).toArray 69)
                      have ee := ee.alloc ee.size (.cells ((⟨br, bn, x, [false, false, false, false, false]⟩ : One.Pq).cells).toArray 69)
                      have Zm := hpN u3 (.cells ((⟨br, bn, x, [false, false, false, false, false]⟩ : One.Pq).cells).toArray 69) rfl
                      generalize u3.alloc (.cells ((⟨br, bn, x, [false, false, false, false, false]⟩ : One.Pq).cells).toArray 69) = u4 at Zg Zs Zb Zi Zm hu ee ⊢
                      refine wpList_append_own _ rfl (.tmp 87) (.tmp 91) 64 rfl w.heap.size 69 i1 (.agg #[.int .u32 0, .int .i64 0, .int .i64 0, .int .i64 0, .int .i64 0, .slice none 0 0, .slice none 0 0, .int .i64 0, .int .i64 0, .int .i64 0, .int .u64 0, .bool false, .bool false, .bool false, .bool false, .bool false, .bool false]) 17 136 Tryd.underlying64 hi1 hz10 hz11 hz12 rfl (by decide) _ _ _ rfl hu ⟨u3.heap.size, 0, none⟩ 1 1 ((⟨br, bn, x, [false, false, false, false, false]⟩ : One.Pq).cells) rfl rfl (ogRowAdd Zm) (oneP2 _) (by unfold maxLen; omega) (by omega) ee.size ?_
                      intro u_ u5 ho_ hg_ _
                      clear Zm
                      clear Zi
                      have Zg := ogHeap Zg hu (by decide) hg_
                      have Zs := ogHeap Zs hu (by decide) hg_
                      have Zb := ogHeap Zb hu (by decide) hg_
                      have ee := ee.grown hg_ ee.size (fun g_ hg2_ => by have hh_ := (hu.lt g_ hg2_).1; omega)
                      clear hg_ hu
                      obtain ⟨A9, c9, hu9, hc9, _, _⟩ := ownShape ho_
                      subst hu9
                      have hu := ho_
                      clear ho_
                      obtain ⟨al2, hall⟩ : ∃ q, q = all ++ [(⟨br, bn, x, [false, false, false, false, false]⟩ : One.Pq)] := ⟨_, rfl⟩
                      have hlen : al2.length = all.length + 1 := by rw [hall]; simp
                      rw [← flat_snoc, ← hall] at hu
                      rw [← hall] at HPG
                      rw [← hlen] at hu ⊢
                      have hal2 : al2.length ≤ t + 1 := by omega
                      obtain ⟨p, hp⟩ : ∃ p, al2[all.length]? = some p := ⟨_, List.getElem?_eq_getElem (by omega)⟩
                      obtain ⟨gp, hgp, hwgp, _, _⟩ := ownPtr hu (by omega)
                      subst hgp
                      have HG : Hid (∃ V, One.Holds1 n l1 al2 V ∧ p.br = br ∧ p.bn = bn) := by
                        obtain ⟨V, hV⟩ := HG0.out
                        obtain ⟨q1, q2⟩ := HPG.out V hV
                        obtain ⟨p', e1, e2, e3⟩ := q2 _ rfl
                        rw [hp] at e1
                        injection e1 with e1
                        subst e1
                        exact ⟨V, q1, e2, e3⟩
                      obtain ⟨hp1, hp2⟩ : p.br = br ∧ p.bn = bn := by obtain ⟨V, _, h⟩ := HG.out; exact h
                      have HG : Hid (∃ V, One.Holds1 n l1 al2 V) := by obtain ⟨V, h, _⟩ := HG.out; exact ⟨V, h⟩
                      obtain ⟨kk, hkk2⟩ : ∃ kk, kk = all.length := ⟨_, rfl⟩
                      rw [← hkk2] at hp ⊢
                      clear HPG hall hlen hkk2 HG0
                      have hkk := (List.getElem?_eq_some_iff.1 hp).1
                      go_upto_region 27 with fail
                      have hu0 : al2.set kk { p with vo := p.vo } = al2 := by
                        show al2.set kk p = al2
                        rw [← (List.getElem?_eq_some_iff.1 hp).2]; exact List.set_getElem_self _
                      rw [← hu0, List.length_set] at hu
                      clear hu0
                      have HVM : Hid (∀ j, j ≤ n → (One.vot (tb s.vt) br bn p.x l1 p.vo j).1.length = 5 ∧ (One.vot (tb s.vt) br bn p.x l1 p.vo j).2.length = 5 ∧ (∀ a ∈ (One.vot (tb s.vt) br bn p.x l1 p.vo j).1, flatC a.c)) := fun j hj => by
                        obtain ⟨V, hV⟩ := HG.out
                        have := vot_mid hV hs5 (tb s.vt) hp j hj
                        rw [hp1, hp2] at this
                        exact this
                      have HVG : Hid (∃ V, One.Holds1 n (One.vot (tb s.vt) br bn p.x l1 p.vo n).1 (al2.set kk { p with vo := (One.vot (tb s.vt) br bn p.x l1 p.vo n).2 }) V) := by
                        obtain ⟨V, hV⟩ := HG.out
                        have := One.vot_good hV hs5 (tb s.vt) hp n (Nat.le_refl _)
                        have e_ : One.vot (tb s.vt) p.br p.bn p.x l1 p.vo n = (One.vot (tb s.vt) br bn p.x l1 p.vo n) := by rw [hp1, hp2]
                        rw [e_] at this
                        exact this
                      have HPX : Hid (flatC p.x) := by obtain ⟨V, hV⟩ := HG.out; exact (hV.vo p (List.mem_of_getElem? hp)).2.1
                      clear HG hp hp1 hp2
                      go_wp2_with fail
                      go_loopw [16] (fun i wr => ∃ j : Nat, j ≤ n ∧ i = .int .i64 (j : Int) ∧ Hid (wr.heap[g]? = some (.cells (flat Ac.cells (One.vot (tb s.vt) br bn p.x l1 p.vo j).1).toArray 62 (0, 0))) ∧ Hid (wr.ownsRow w.heap.size 69 17 (.slice (some ⟨gp, 0, none⟩) al2.length c9) al2.length (flat One.Pq.cells (al2.set kk { p with vo := (One.vot (tb s.vt) br bn p.x l1 p.vo j).2 }))) ∧ Hid (wr.heap[gs]? = some (.cells s.cells.toArray 66 (0, 0))) ∧ Hid (wr.heap[gb]? = some (.cells [.int .u32 (br : Int), .int .i64 bn].toArray 28 (0, 0))) ∧ Hid (Below w.heap.size w wr)) (fun i _ => n - (intOf i).toNat)
                      case atStart => exact ⟨0, Nat.zero_le _, rfl, Zg, hu, Zs, Zb, ee⟩
                      case round =>
                        clear Zg hu Zs Zb ee
                        obtain ⟨j, hj, rfl, Zg, hu, Zs, Zb, ee⟩ := hrel
                        have Zg := Zg.out
                        have hu := hu.out
                        have Zs := Zs.out
                        have Zb := Zb.out
                        have ee := ee.out
                        have HVJ := Lib.hid (HVM.out j hj)
                        by_cases hlt2 : j < n
                        · have HA : Hid ((One.vot (tb s.vt) br bn p.x l1 p.vo (j + 1)) = bif tb s.vt j then ((One.vot (tb s.vt) br bn p.x l1 p.vo j).1.set j ((One.at_ (One.vot (tb s.vt) br bn p.x l1 p.vo j).1 j).vote br bn 1 p.x), (One.vot (tb s.vt) br bn p.x l1 p.vo j).2.set j ((One.vot (tb s.vt) br bn p.x l1 p.vo j).2.getD j false || decide ((One.at_ (One.vot (tb s.vt) br bn p.x l1 p.vo j).1 j).how br bn 1 p.x = 3))) else (One.vot (tb s.vt) br bn p.x l1 p.vo j)) := rfl
                          generalize (One.vot (tb s.vt) br bn p.x l1 p.vo j) = R at HA HVJ hu Zg ⊢
                          obtain ⟨l', vo⟩ := R
                          simp only at HA HVJ hu Zg ⊢
                          have hj5 : j < l'.length := by rw [HVJ.out.1]; omega
                          have hka : l'[j]? = some (One.at_ l' j) := by unfold One.at_; rw [List.getD_eq_getElem?_getD, List.getElem?_eq_getElem hj5]; rfl
                          have HFA : Hid (flatC (One.at_ l' j).c) := HVJ.out.2.2 _ (List.mem_of_getElem? hka)
                          generalize One.at_ l' j = a at HA hka HFA
                          have hj0 : (0 : Int) ≤ (j : Int) := by omega
                          have hj6 : (j : Int) < 5 := by omega
                          have HB := Lib.hid (bit8 s.vt j HSS.out.2.2.2)
                          have c2 := rowCell Zs 3 (v := .int .u8 (s.vt : Int)) rfl
                          cases hb : tb s.vt j with
                          | false =>
                            rw [hb, cond_false] at HA
                            have hx : (bits BinOp.and IntKind.u8 ((s.vt : Int) / 2 ^ j) 1 == 0) = true := by rw [HB.out]; show (!tb s.vt j) = true; rw [hb]; rfl
                            clear hb HB
                            go_wp2_with fail
                            go_roundw
                            case rel => exact ⟨j + 1, by omega, by go_num, by rw [HA.out]; exact Zg, by rw [HA.out]; exact hu, Zs, Zb, ee⟩
                            case measure => simp [intOf]; omega
                          | true =>
                            rw [hb, cond_true] at HA
                            have hx : (bits BinOp.and IntKind.u8 ((s.vt : Int) / 2 ^ j) 1 == 0) = false := by rw [HB.out]; show (!tb s.vt j) = false; rw [hb]; rfl
                            clear hb HB
                            go_upto_region 30 with fail
                            clear hx c2
                            have hk0 : (0 : Int) ≤ (kk : Int) := by omega
                            have hk1 : (kk : Int) < (al2.length : Int) := by omega
                            obtain ⟨p', hp'⟩ : ∃ p' : One.Pq, p' = { p with vo := vo } := ⟨_, rfl⟩
                            have hpx : p'.x = p.x := by rw [hp']
                            have hpv : p'.vo = vo := by rw [hp']
                            have hpk : (al2.set kk p')[kk]? = some p' := by rw [List.getElem?_set, if_pos rfl, if_pos hkk]
                            rw [← hp'] at hu
                            have HPK := Lib.hid hpk
                            have HPX2 := Lib.hid hpx
                            have HPV := Lib.hid hpv
                            have HPP := Lib.hid hp'
                            clear hpk hpx hpv hp'
                            have HCV := Lib.hid (fun z (hz : Below w.heap.size w z) => c_vote a br bn 1 p.x z z.heap.size (Nat.le_refl _) (CmOk.flat HFA.out) (CmOk.flat HPX.out) (HT.out.below hz))
                            have Zg : wr.drew.heap[g]? = some (.cells (flat Ac.cells l').toArray 62) := Zg
                            have Zs : wr.drew.heap[gs]? = some (.cells s.cells.toArray 66) := Zs
                            have Zb : wr.drew.heap[gb]? = some (.cells [.int .u32 (br : Int), .int .i64 bn].toArray 28) := Zb
                            have hu := World.ownsRow.drew hu
                            have ee := belowDrewS ee
                            refine wp_region_held_drew (S := fun z' => z'.rangeAt g (j * 16) a.cells ∧ z'.rangeAt gb 0 [.int .u32 (br : Int), .int .i64 bn] ∧ z'.rangeAt gp (kk * 17 + 2) p.x.cells) (by kernel_rfl) ⟨flatMid acL Zg hka, rowAt Zb, HPX2.out ▸ rangePart (flatRange pqL hu HPK.out) (pqC p')⟩ (fun hH => ?_)
                            clear hH
                            generalize wr.drew = q1 at Zg Zs Zb hu ee ⊢
                            refine wpAnyH_take (i := 0) (v := .int .i64 (j : Int)) rfl (by kernel_rfl) (by kernel_rfl) (by kernel_rfl) (fun _ _ _ h => h) (Or.inl ⟨by rfl, fun w_ hS_ => by (first | (go_simp; done) | (go_simp; rfl))⟩) ⟨flatMid acL Zg hka, rowAt Zb, HPX2.out ▸ rangePart (flatRange pqL hu HPK.out) (pqC p')⟩ ?_
                            try simp only [Act.put, List.getElem_toArray, List.getElem_cons_zero, List.getElem_cons_succ, List.setIfInBounds_toArray, List.set_cons_zero, List.set_cons_succ]
                            refine wpAnyH_take (i := 1) (v := .pointer (some ⟨g, j * 16, none⟩)) rfl (by kernel_rfl) (by kernel_rfl) (by kernel_rfl) (fun _ _ _ h => h) (Or.inl ⟨by rfl, fun w_ hS_ => by (first | (go_simp; done) | (go_simp; rfl))⟩) ⟨flatMid acL Zg hka, rowAt Zb, HPX2.out ▸ rangePart (flatRange pqL hu HPK.out) (pqC p')⟩ ?_
                            try simp only [Act.put, List.getElem_toArray, List.getElem_cons_zero, List.getElem_cons_succ, List.setIfInBounds_toArray, List.set_cons_zero, List.set_cons_succ]
                            refine wpAnyH_take (i := 2) (v := .agg (a.cells).toArray) rfl (by kernel_rfl) (by kernel_rfl) (by kernel_rfl) (fun _ _ _ h => h) (yieldsIf_load_mid (by rfl) 39 _ rfl (g) (j * 16) rfl (a.cells) _ (fun _ h => h.1) Tryd.underlying39 rfl sizeAc) ⟨flatMid acL Zg hka, rowAt Zb, HPX2.out ▸ rangePart (flatRange pqL hu HPK.out) (pqC p')⟩ ?_
                            try simp only [Act.put, List.getElem_toArray, List.getElem_cons_zero, List.getElem_cons_succ, List.setIfInBounds_toArray, List.set_cons_zero, List.set_cons_succ]
                            refine wpAnyH_take (i := 3) (v := .agg ([.int .u32 (br : Int), .int .i64 bn]).toArray) rfl (by kernel_rfl) (by kernel_rfl) (by kernel_rfl) (fun _ _ _ h => h) (yieldsIf_load_mid (by rfl) 28 _ rfl (gb) (0) rfl ([.int .u32 (br : Int), .int .i64 bn]) _ (fun _ h => h.2.1) Tryd.underlying28 rfl sizeBal) ⟨flatMid acL Zg hka, rowAt Zb, HPX2.out ▸ rangePart (flatRange pqL hu HPK.out) (pqC p')⟩ ?_
                            try simp only [Act.put, List.getElem_toArray, List.getElem_cons_zero, List.getElem_cons_succ, List.setIfInBounds_toArray, List.set_cons_zero, List.set_cons_succ]
                            refine wpAnyH_take (i := 4) (v := .slice (some ⟨gp, 0, none⟩) al2.length c9) rfl (by kernel_rfl) (by kernel_rfl) (by kernel_rfl) (fun _ _ _ h => h) (Or.inl ⟨by rfl, fun w_ hS_ => by (first | (go_simp; done) | (go_simp; rfl))⟩) ⟨flatMid acL Zg hka, rowAt Zb, HPX2.out ▸ rangePart (flatRange pqL hu HPK.out) (pqC p')⟩ ?_
                            try simp only [Act.put, List.getElem_toArray, List.getElem_cons_zero, List.getElem_cons_succ, List.setIfInBounds_toArray, List.set_cons_zero, List.set_cons_succ]
                            refine wpAnyH_take (i := 5) (v := .int .i64 (kk : Int)) rfl (by kernel_rfl) (by kernel_rfl) (by kernel_rfl) (fun _ _ _ h => h) (Or.inl ⟨by rfl, fun w_ hS_ => by (first | (go_simp; done) | (go_simp; rfl))⟩) ⟨flatMid acL Zg hka, rowAt Zb, HPX2.out ▸ rangePart (flatRange pqL hu HPK.out) (pqC p')⟩ ?_
                            try simp only [Act.put, List.getElem_toArray, List.getElem_cons_zero, List.getElem_cons_succ, List.setIfInBounds_toArray, List.set_cons_zero, List.set_cons_succ]
                            refine wpAnyH_take (i := 6) (v := .pointer (some ⟨gp, kk * 17, none⟩)) rfl (by kernel_rfl) (by kernel_rfl) (by kernel_rfl) (fun _ _ _ h => h) (Or.inl ⟨by rfl, fun w_ hS_ => by (first | (go_simp; done) | (go_simp; rfl))⟩) ⟨flatMid acL Zg hka, rowAt Zb, HPX2.out ▸ rangePart (flatRange pqL hu HPK.out) (pqC p')⟩ ?_
                            try simp only [Act.put, List.getElem_toArray, List.getElem_cons_zero, List.getElem_cons_succ, List.setIfInBounds_toArray, List.set_cons_zero, List.set_cons_succ]
                            refine wpAnyH_take (i := 7) (v := .pointer (some ⟨gp, kk * 17 + 2, none⟩)) rfl (by kernel_rfl) (by kernel_rfl) (by kernel_rfl) (fun _ _ _ h => h) (Or.inl ⟨by rfl, fun w_ hS_ => by (first | (go_simp; done) | (go_simp; rfl))⟩) ⟨flatMid acL Zg hka, rowAt Zb, HPX2.out ▸ rangePart (flatRange pqL hu HPK.out) (pqC p')⟩ ?_
                            try simp only [Act.put, List.getElem_toArray, List.getElem_cons_zero, List.getElem_cons_succ, List.setIfInBounds_toArray, List.set_cons_zero, List.set_cons_succ]
                            refine wpAnyH_take (i := 8) (v := .agg (p.x.cells).toArray) rfl (by kernel_rfl) (by kernel_rfl) (by kernel_rfl) (fun _ _ _ h => h) (yieldsIf_load_mid (by rfl) 37 _ rfl (gp) (kk * 17 + 2) rfl (p.x.cells) _ (fun _ h => h.2.2) Tryd.underlying37 rfl sizeCm) ⟨flatMid acL Zg hka, rowAt Zb, HPX2.out ▸ rangePart (flatRange pqL hu HPK.out) (pqC p')⟩ ?_
                            try simp only [Act.put, List.getElem_toArray, List.getElem_cons_zero, List.getElem_cons_succ, List.setIfInBounds_toArray, List.set_cons_zero, List.set_cons_succ]
                            refine wpAnyH_ready (rs := [9, 13]) (by kernel_rfl) (by simp) ?_
                            refine AllReadyH.cons rfl (fun K hK => ?_) (AllReadyH.cons rfl (fun K hK => ?_) AllReadyH.nil)
                            · rw [if_pos (by rfl)]
                              go_simp
                              go_wp2_with (go_at_call 24; refine (HCV.out q1 ee).mono ?_; rintro e q2 ⟨rfl, t⟩)
                              have Zg := hpB Zg t
                              have Zs := hpB Zs t
                              have Zb := hpB Zb t
                              have hu := ownBelow hu t
                              have ee := ee.trans (t.mono ee.size)
                              clear t
                              refine hK.out _ _ ⟨flatMid acL Zg hka, rowAt Zb, HPX2.out ▸ rangePart (flatRange pqL hu HPK.out) (pqC p')⟩ (fun hH => ?_)
                              clear hK K hH
                              try simp only [Act.put, List.getElem_toArray, List.getElem_cons_zero, List.getElem_cons_succ, List.setIfInBounds_toArray, List.set_cons_zero, List.set_cons_succ]
                              refine wpAnyH_take (i := 10) (v := .tuple #[.agg (a.vote br bn 1 p.x).cells.toArray, .int .i64 (a.how br bn 1 p.x)]) rfl (by kernel_rfl) (by kernel_rfl) (by kernel_rfl) (fun _ _ _ h => h) (Or.inl ⟨by rfl, fun w_ hS_ => by (first | (go_simp; done) | (go_simp; rfl))⟩) ⟨flatMid acL Zg hka, rowAt Zb, HPX2.out ▸ rangePart (flatRange pqL hu HPK.out) (pqC p')⟩ ?_
                              try simp only [Act.put, List.getElem_toArray, List.getElem_cons_zero, List.getElem_cons_succ, List.setIfInBounds_toArray, List.set_cons_zero, List.set_cons_succ]
                              refine wpAnyH_take (i := 11) (v := .agg (a.vote br bn 1 p.x).cells.toArray) rfl (by kernel_rfl) (by kernel_rfl) (by kernel_rfl) (fun _ _ _ h => h) (Or.inl ⟨by rfl, fun w_ hS_ => by (first | (go_simp; done) | (go_simp; rfl))⟩) ⟨flatMid acL Zg hka, rowAt Zb, HPX2.out ▸ rangePart (flatRange pqL hu HPK.out) (pqC p')⟩ ?_
                              try simp only [Act.put, List.getElem_toArray, List.getElem_cons_zero, List.getElem_cons_succ, List.setIfInBounds_toArray, List.set_cons_zero, List.set_cons_succ]
                              refine wpAnyH_take (i := 12) (v := .int .i64 (a.how br bn 1 p.x)) rfl (by kernel_rfl) (by kernel_rfl) (by kernel_rfl) (fun _ _ _ h => h) (Or.inl ⟨by rfl, fun w_ hS_ => by (first | (go_simp; done) | (go_simp; rfl))⟩) ⟨flatMid acL Zg hka, rowAt Zb, HPX2.out ▸ rangePart (flatRange pqL hu HPK.out) (pqC p')⟩ ?_
                              try simp only [Act.put, List.getElem_toArray, List.getElem_cons_zero, List.getElem_cons_succ, List.setIfInBounds_toArray, List.set_cons_zero, List.set_cons_succ]
                              refine wpAnyH_ready (rs := [13]) (by kernel_rfl) (by simp) ?_
                              refine AllReadyH.cons rfl (fun K hK => ?_) AllReadyH.nil
                              rw [if_pos (by rfl)]
                              go_simp
                              have lZg := (Array.getElem?_eq_some_iff.1 Zg).1
                              have lZs := (Array.getElem?_eq_some_iff.1 Zs).1
                              have lZb := (Array.getElem?_eq_some_iff.1 Zb).1
                              have sz_ := ee.size
                              have Zg := hpA Zg (.cells #[.int .u32 0, .int .i64 0, .int .i64 0, .bool false, .int .u32 0, .int .i64 0, .int .i64 0, .int .i64 0, .int .i64 0, .slice none 0 0, .slice none 0 0, .int .i64 0, .int .i64 0, .int .i64 0, .int .u64 0, .bool false] 39)
                              have Zs := hpA Zs (.cells #[.int .u32 0, .int .i64 0, .int .i64 0, .bool false, .int .u32 0, .int .i64 0, .int .i64 0, .int .i64 0, .int .i64 0, .slice none 0 0, .slice none 0 0, .int .i64 0, .int .i64 0, .int .i64 0, .int .u64 0, .bool false] 39)
                              have Zb := hpA Zb (.cells #[.int .u32 0, .int .i64 0, .int .i64 0, .bool false, .int .u32 0, .int .i64 0, .int .i64 0, .int .i64 0, .int .i64 0, .slice none 0 0, .slice none 0 0, .int .i64 0, .int .i64 0, .int .i64 0, .int .u64 0, .bool false] 39)
                              have hu := hu.alloc (.cells #[.int .u32 0, .int .i64 0, .int .i64 0, .bool false, .int .u32 0, .int .i64 0, .int .i64 0, .int .i64 0, .int .i64 0, .slice none 0 0, .slice none 0 0, .int .i64 0, .int .i64 0, .int .i64 0, .int .u64 0, .bool false] 39)
                              have ee := ee.alloc ee.size (.cells #[.int .u32 0, .int .i64 0, .int .i64 0, .bool false, .int .u32 0, .int .i64 0, .int .i64 0, .int .i64 0, .int .i64 0, .slice none 0 0, .slice none 0 0, .int .i64 0, .int .i64 0, .int .i64 0, .int .u64 0, .bool false] 39)
                              have Zn := hpN q2 (.cells #[.int .u32 0, .int .i64 0, .int .i64 0, .bool false, .int .u32 0, .int .i64 0, .int .i64 0, .int .i64 0, .int .i64 0, .slice none 0 0, .slice none 0 0, .int .i64 0, .int .i64 0, .int .i64 0, .int .u64 0, .bool false] 39) rfl
                              generalize q2.alloc (.cells #[.int .u32 0, .int .i64 0, .int .i64 0, .bool false, .int .u32 0, .int .i64 0, .int .i64 0, .int .i64 0, .int .i64 0, .slice none 0 0, .slice none 0 0, .int .i64 0, .int .i64 0, .int .i64 0, .int .u64 0, .bool false] 39) = q3 at Zg Zs Zb Zn hu ee ⊢
                              refine hK.out _ _ ⟨flatMid acL Zg hka, rowAt Zb, HPX2.out ▸ rangePart (flatRange pqL hu HPK.out) (pqC p')⟩ (fun hH => ?_)
                              clear hK K hH
                              try simp only [Act.put, List.getElem_toArray, List.getElem_cons_zero, List.getElem_cons_succ, List.setIfInBounds_toArray, List.set_cons_zero, List.set_cons_succ]
                              refine wpAnyH_ready (rs := [14]) (by kernel_rfl) (by simp) ?_
                              refine AllReadyH.cons rfl (fun K hK => ?_) AllReadyH.nil
                              rw [if_pos (by rfl)]
                              refine wp_store_row 39 _ _ rfl (q2.heap.size) ((a.vote br bn 1 p.x).cells).toArray rfl rfl 39 _ Zn sizeAc (by rfl) (Ac.one _) ?_
                              have N_ := setRow_heap q3 (q2.heap.size) _ ((a.vote br bn 1 p.x).cells).toArray _ _ Zn
                              have hu := ogOwnR (cs := ((a.vote br bn 1 p.x).cells).toArray) hu (ogKind hu Zn (by decide))
                              have ee := belowSet (cs := ((a.vote br bn 1 p.x).cells).toArray) ee Zn (by omega)
                              have Zg := hpR Zg (g' := q2.heap.size) (by omega) ((a.vote br bn 1 p.x).cells).toArray
                              have Zs := hpR Zs (g' := q2.heap.size) (by omega) ((a.vote br bn 1 p.x).cells).toArray
                              have Zb := hpR Zb (g' := q2.heap.size) (by omega) ((a.vote br bn 1 p.x).cells).toArray
                              clear Zn
                              have Zn := N_
                              clear N_
                              generalize q3.setRow (q2.heap.size) ((a.vote br bn 1 p.x).cells).toArray = q4 at Zg Zs Zb Zn hu ee ⊢
                              refine hK.out _ _ ⟨flatMid acL Zg hka, rowAt Zb, HPX2.out ▸ rangePart (flatRange pqL hu HPK.out) (pqC p')⟩ (fun hH => ?_)
                              clear hK K hH
                              try simp only [Act.put, List.getElem_toArray, List.getElem_cons_zero, List.getElem_cons_succ, List.setIfInBounds_toArray, List.set_cons_zero, List.set_cons_succ]
                              refine wpAnyH_take (i := 15) (v := .int .i64 (a.how br bn 1 p.x)) rfl (by kernel_rfl) (by kernel_rfl) (by kernel_rfl) (fun _ _ _ h => h) (Or.inl ⟨by rfl, fun w_ hS_ => by (first | (go_simp; done) | (go_simp; rfl))⟩) ⟨flatMid acL Zg hka, rowAt Zb, HPX2.out ▸ rangePart (flatRange pqL hu HPK.out) (pqC p')⟩ ?_
                              try simp only [Act.put, List.getElem_toArray, List.getElem_cons_zero, List.getElem_cons_succ, List.setIfInBounds_toArray, List.set_cons_zero, List.set_cons_succ]
                              refine wpAnyH_done (by kernel_rfl) ?_ _
                              clear HCV
                              go_upto_region 31 with fail
                              refine wp_region_lit ?_
                              iterate 27 (first | with_reducible refine isLoad (ty := 39) rfl ?_ | go_step)
                              refine wpList_load_mid rfl 39 _ rfl (q2.heap.size) 0 rfl (((a.vote br bn 1 p.x).cells)) _ (rowAt Zn) Tryd.underlying39 rfl sizeAc ?_
                              iterate 27 (first | with_reducible refine isStore (ty := 39) rfl ?_ | go_step)
                              refine wpList_store_mid rfl 39 _ _ rfl (g) (j * 16) (Ac.cells (a.vote br bn 1 p.x)).toArray rfl rfl (flatThere acL Zg hka) sizeAc (Ac.one _) ?_
                              have N_ : (q4.setCells (g) (j * 16) (Ac.cells (a.vote br bn 1 p.x))).heap[g]? = some (.cells (flat Ac.cells (l'.set j (a.vote br bn 1 p.x))).toArray 62) := ogPut acL Zg hka (a.vote br bn 1 p.x)
                              have hu := ogOwnC hu (ogKind hu Zg (by decide)) (Ac.cells (a.vote br bn 1 p.x)) (j * 16)
                              have ee := belowC (g := g) (by omega) (Ac.cells (a.vote br bn 1 p.x)) (j * 16) q4 ee
                              have Zs := hpCo (g' := g) (by omega) (Ac.cells (a.vote br bn 1 p.x)) (j * 16) q4 Zs
                              have Zb := hpCo (g' := g) (by omega) (Ac.cells (a.vote br bn 1 p.x)) (j * 16) q4 Zb
                              have Zn := hpCo (g' := g) (by omega) (Ac.cells (a.vote br bn 1 p.x)) (j * 16) q4 Zn
                              clear Zg
                              have Zg := N_
                              clear N_
                              change wpList _ _ _ _ _ (q4.setCells (g) (j * 16) (Ac.cells (a.vote br bn 1 p.x)))
                              generalize q4.setCells (g) (j * 16) (Ac.cells (a.vote br bn 1 p.x)) = q5 at Zg Zs Zb Zn hu ee ⊢
                              go_upto_region 32 with fail
                              have HJV := Lib.hid (HVJ.out.2.1)
                              generalize hvo : vo.getD j false = vb at HA
                              have HVB := Lib.hid hvo
                              clear hvo
                              cases vb with
                              | true =>
                                rw [Bool.true_or] at HA
                                have Zg : q5.drew.heap[g]? = some (.cells (flat Ac.cells (l'.set j (a.vote br bn 1 p.x))).toArray 62) := Zg
                                have Zs : q5.drew.heap[gs]? = some (.cells s.cells.toArray 66) := Zs
                                have Zb : q5.drew.heap[gb]? = some (.cells [.int .u32 (br : Int), .int .i64 bn].toArray 28) := Zb
                                have Zn : q5.drew.heap[q2.heap.size]? = some (.cells ((a.vote br bn 1 p.x).cells).toArray 39) := Zn
                                have hu := World.ownsRow.drew hu
                                have ee := belowDrewS ee
                                refine wp_region_held_drew (S := fun z' => True) (by kernel_rfl) trivial (fun hH => ?_)
                                clear hH
                                generalize q5.drew = q6 at Zg Zs Zb Zn hu ee ⊢
                                refine wpAnyH_take (i := 0) (v := .slice (some ⟨gp, 0, none⟩) al2.length c9) rfl (by kernel_rfl) (by kernel_rfl) (by kernel_rfl) (fun _ _ _ h => h) (Or.inl ⟨by rfl, fun w_ hS_ => by (first | (go_simp; done) | (go_simp; rfl))⟩) trivial ?_
                                try simp only [Act.put, List.getElem_toArray, List.getElem_cons_zero, List.getElem_cons_succ, List.setIfInBounds_toArray, List.set_cons_zero, List.set_cons_succ]
                                refine wpAnyH_take (i := 1) (v := .int .i64 (kk : Int)) rfl (by kernel_rfl) (by kernel_rfl) (by kernel_rfl) (fun _ _ _ h => h) (Or.inl ⟨by rfl, fun w_ hS_ => by (first | (go_simp; done) | (go_simp; rfl))⟩) trivial ?_
                                try simp only [Act.put, List.getElem_toArray, List.getElem_cons_zero, List.getElem_cons_succ, List.setIfInBounds_toArray, List.set_cons_zero, List.set_cons_succ]
                                refine wpAnyH_take (i := 2) (v := .int .i64 (j : Int)) rfl (by kernel_rfl) (by kernel_rfl) (by kernel_rfl) (fun _ _ _ h => h) (Or.inl ⟨by rfl, fun w_ hS_ => by (first | (go_simp; done) | (go_simp; rfl))⟩) trivial ?_
                                try simp only [Act.put, List.getElem_toArray, List.getElem_cons_zero, List.getElem_cons_succ, List.setIfInBounds_toArray, List.set_cons_zero, List.set_cons_succ]
                                refine wpAnyH_take (i := 3) (v := .slice (some ⟨gp, 0, none⟩) al2.length c9) rfl (by kernel_rfl) (by kernel_rfl) (by kernel_rfl) (fun _ _ _ h => h) (Or.inl ⟨by rfl, fun w_ hS_ => by (first | (go_simp; done) | (go_simp; rfl))⟩) trivial ?_
                                try simp only [Act.put, List.getElem_toArray, List.getElem_cons_zero, List.getElem_cons_succ, List.setIfInBounds_toArray, List.set_cons_zero, List.set_cons_succ]
                                refine wpAnyH_take (i := 4) (v := .int .i64 (kk : Int)) rfl (by kernel_rfl) (by kernel_rfl) (by kernel_rfl) (fun _ _ _ h => h) (Or.inl ⟨by rfl, fun w_ hS_ => by (first | (go_simp; done) | (go_simp; rfl))⟩) trivial ?_
                                try simp only [Act.put, List.getElem_toArray, List.getElem_cons_zero, List.getElem_cons_succ, List.setIfInBounds_toArray, List.set_cons_zero, List.set_cons_succ]
                                refine wpAnyH_take (i := 5) (v := .int .i64 (j : Int)) rfl (by kernel_rfl) (by kernel_rfl) (by kernel_rfl) (fun _ _ _ h => h) (Or.inl ⟨by rfl, fun w_ hS_ => by (first | (go_simp; done) | (go_simp; rfl))⟩) trivial ?_
                                try simp only [Act.put, List.getElem_toArray, List.getElem_cons_zero, List.getElem_cons_succ, List.setIfInBounds_toArray, List.set_cons_zero, List.set_cons_succ]
                                refine wpAnyH_take (i := 6) (v := .pointer (some ⟨gp, kk * 17, none⟩)) rfl (by kernel_rfl) (by kernel_rfl) (by kernel_rfl) (fun _ _ _ h => h) (Or.inl ⟨by rfl, fun w_ hS_ => by (first | (go_simp; done) | (go_simp; rfl))⟩) trivial ?_
                                try simp only [Act.put, List.getElem_toArray, List.getElem_cons_zero, List.getElem_cons_succ, List.setIfInBounds_toArray, List.set_cons_zero, List.set_cons_succ]
                                refine wpAnyH_take (i := 7) (v := .pointer (some ⟨gp, kk * 17 + 12, none⟩)) rfl (by kernel_rfl) (by kernel_rfl) (by kernel_rfl) (fun _ _ _ h => h) (Or.inl ⟨by rfl, fun w_ hS_ => by (first | (go_simp; done) | (go_simp; rfl))⟩) trivial ?_
                                try simp only [Act.put, List.getElem_toArray, List.getElem_cons_zero, List.getElem_cons_succ, List.setIfInBounds_toArray, List.set_cons_zero, List.set_cons_succ]
                                refine wpAnyH_take (i := 8) (v := .pointer (some ⟨gp, kk * 17 + 12 + j, none⟩)) rfl (by kernel_rfl) (by kernel_rfl) (by kernel_rfl) (fun _ _ _ h => h) (Or.inl ⟨by rfl, fun w_ hS_ => by (first | (go_simp; done) | (go_simp; rfl))⟩) trivial ?_
                                try simp only [Act.put, List.getElem_toArray, List.getElem_cons_zero, List.getElem_cons_succ, List.setIfInBounds_toArray, List.set_cons_zero, List.set_cons_succ]
                                refine wpAnyH_take (i := 14) (v := .pointer (some ⟨gp, kk * 17, none⟩)) rfl (by kernel_rfl) (by kernel_rfl) (by kernel_rfl) (fun _ _ _ h => h) (Or.inl ⟨by rfl, fun w_ hS_ => by (first | (go_simp; done) | (go_simp; rfl))⟩) trivial ?_
                                try simp only [Act.put, List.getElem_toArray, List.getElem_cons_zero, List.getElem_cons_succ, List.setIfInBounds_toArray, List.set_cons_zero, List.set_cons_succ]
                                refine wpAnyH_take (i := 15) (v := .pointer (some ⟨gp, kk * 17 + 12, none⟩)) rfl (by kernel_rfl) (by kernel_rfl) (by kernel_rfl) (fun _ _ _ h => h) (Or.inl ⟨by rfl, fun w_ hS_ => by (first | (go_simp; done) | (go_simp; rfl))⟩) trivial ?_
                                try simp only [Act.put, List.getElem_toArray, List.getElem_cons_zero, List.getElem_cons_succ, List.setIfInBounds_toArray, List.set_cons_zero, List.set_cons_succ]
                                refine wpAnyH_ready (rs := [9]) (by kernel_rfl) (by simp) ?_
                                refine AllReadyH.cons rfl (fun K hK => ?_) AllReadyH.nil
                                rw [if_pos (by rfl)]
                                have c_ := pqCell hu HPK.out j (by omega) (by rw [HPV.out, HVB.out])
                                go_simp
                                clear c_
                                refine hK.out _ _ trivial (fun hH => ?_)
                                clear hK K hH
                                try simp only [Act.put, List.getElem_toArray, List.getElem_cons_zero, List.getElem_cons_succ, List.setIfInBounds_toArray, List.set_cons_zero, List.set_cons_succ]
                                refine wpAnyH_take (i := 10) (v := .bool true) rfl (by kernel_rfl) (by kernel_rfl) (by kernel_rfl) (fun _ _ _ h => h) (Or.inl ⟨by rfl, fun w_ hS_ => by (first | (go_simp; done) | (go_simp; rfl))⟩) trivial ?_
                                try simp only [Act.put, List.getElem_toArray, List.getElem_cons_zero, List.getElem_cons_succ, List.setIfInBounds_toArray, List.set_cons_zero, List.set_cons_succ]
                                refine wpAnyH_take (i := 11) (v := undef) rfl (by kernel_rfl) (by kernel_rfl) (by kernel_rfl) (fun _ _ _ h => h) (Or.inr ⟨by rfl, rfl⟩) trivial ?_
                                try simp only [Act.put, List.getElem_toArray, List.getElem_cons_zero, List.getElem_cons_succ, List.setIfInBounds_toArray, List.set_cons_zero, List.set_cons_succ]
                                refine wpAnyH_take (i := 12) (v := undef) rfl (by kernel_rfl) (by kernel_rfl) (by kernel_rfl) (fun _ _ _ h => h) (Or.inr ⟨by rfl, rfl⟩) trivial ?_
                                try simp only [Act.put, List.getElem_toArray, List.getElem_cons_zero, List.getElem_cons_succ, List.setIfInBounds_toArray, List.set_cons_zero, List.set_cons_succ]
                                refine wpAnyH_take (i := 13) (v := .bool true) rfl (by kernel_rfl) (by kernel_rfl) (by kernel_rfl) (fun _ _ _ h => h) (Or.inl ⟨by rfl, fun w_ hS_ => by (first | (go_simp; done) | (go_simp; rfl))⟩) trivial ?_
                                try simp only [Act.put, List.getElem_toArray, List.getElem_cons_zero, List.getElem_cons_succ, List.setIfInBounds_toArray, List.set_cons_zero, List.set_cons_succ]
                                refine wpAnyH_take (i := 16) (v := .pointer (some ⟨gp, kk * 17 + 12 + j, none⟩)) rfl (by kernel_rfl) (by kernel_rfl) (by kernel_rfl) (fun _ _ _ h => h) (Or.inl ⟨by rfl, fun w_ hS_ => by (first | (go_simp; done) | (go_simp; rfl))⟩) trivial ?_
                                try simp only [Act.put, List.getElem_toArray, List.getElem_cons_zero, List.getElem_cons_succ, List.setIfInBounds_toArray, List.set_cons_zero, List.set_cons_succ]
                                refine wpAnyH_ready (rs := [17]) (by kernel_rfl) (by simp) ?_
                                refine AllReadyH.cons rfl (fun K hK => ?_) AllReadyH.nil
                                rw [if_pos (by rfl)]
                                have f_ : q6.frozen? ⟨gp, kk * 17 + 12 + j, none⟩ = false := World.ownsRow.frozenAt hu _
                                have c_ := pqCell hu HPK.out j (by omega) (by rw [HPV.out, HVB.out])
                                go_simp
                                clear f_ c_
                                have N_ := (World.ownsRow.stored hu (kk * 17 + 12 + j) (.bool true)).1
                                rw [pqStore HPK.out (by rw [HPV.out]; exact HJV.out) j (by omega) true] at N_
                                have hg_ := (hu.lt gp rfl).1
                                have ee := belowC (g := gp) (by omega) [.bool true] (kk * 17 + 12 + j) q6 ee
                                have Zg := hpCo (g' := gp) (fun e_ => ogKind hu Zg (by decide) (by rw [e_]; rfl)) [.bool true] (kk * 17 + 12 + j) q6 Zg
                                have Zs := hpCo (g' := gp) (fun e_ => ogKind hu Zs (by decide) (by rw [e_]; rfl)) [.bool true] (kk * 17 + 12 + j) q6 Zs
                                have Zb := hpCo (g' := gp) (fun e_ => ogKind hu Zb (by decide) (by rw [e_]; rfl)) [.bool true] (kk * 17 + 12 + j) q6 Zb
                                have Zn := hpCo (g' := gp) (fun e_ => ogKind hu Zn (by decide) (by rw [e_]; rfl)) [.bool true] (kk * 17 + 12 + j) q6 Zn
                                clear hu hg_
                                have hu : (q6.setCells (gp) (kk * 17 + 12 + j) [.bool true]).ownsRow _ _ _ _ _ _ := N_
                                clear N_
                                change K _ (q6.setCells (gp) (kk * 17 + 12 + j) [.bool true])
                                generalize q6.setCells (gp) (kk * 17 + 12 + j) [.bool true] = q7 at Zg Zs Zb Zn hu ee ⊢
                                refine hK.out _ _ trivial (fun hH => ?_)
                                clear hK K hH
                                try simp only [Act.put, List.getElem_toArray, List.getElem_cons_zero, List.getElem_cons_succ, List.setIfInBounds_toArray, List.set_cons_zero, List.set_cons_succ]
                                refine wpAnyH_done (by kernel_rfl) ?_ _
                                clear hj0 hj6 hk0 hk1
                                rw [List.set_set, HPV.out] at hu
                                have HP9 : Hid (({ p' with vo := vo.set j true } : One.Pq) = { p with vo := vo.set j true }) := by show _ = _; rw [HPP.out]
                                rw [HP9.out] at hu
                                go_wp2_with fail
                                go_roundw
                                case rel => exact ⟨j + 1, by omega, by go_num, by rw [HA.out]; exact Zg, by rw [HA.out]; exact hu, Zs, Zb, ee⟩
                                case measure => simp [intOf]; omega
                              | false =>
                                rw [Bool.false_or] at HA
                                have hq3 : ((a.how br bn 1 p.x) == 3) = decide ((a.how br bn 1 p.x) = 3) := by rw [Bool.eq_iff_iff]; simp
                                have Zg : q5.drew.heap[g]? = some (.cells (flat Ac.cells (l'.set j (a.vote br bn 1 p.x))).toArray 62) := Zg
                                have Zs : q5.drew.heap[gs]? = some (.cells s.cells.toArray 66) := Zs
                                have Zb : q5.drew.heap[gb]? = some (.cells [.int .u32 (br : Int), .int .i64 bn].toArray 28) := Zb
                                have Zn : q5.drew.heap[q2.heap.size]? = some (.cells ((a.vote br bn 1 p.x).cells).toArray 39) := Zn
                                have hu := World.ownsRow.drew hu
                                have ee := belowDrewS ee
                                refine wp_region_held_drew (S := fun z' => True) (by kernel_rfl) trivial (fun hH => ?_)
                                clear hH
                                generalize q5.drew = q6 at Zg Zs Zb Zn hu ee ⊢
                                refine wpAnyH_take (i := 0) (v := .slice (some ⟨gp, 0, none⟩) al2.length c9) rfl (by kernel_rfl) (by kernel_rfl) (by kernel_rfl) (fun _ _ _ h => h) (Or.inl ⟨by rfl, fun w_ hS_ => by (first | (go_simp; done) | (go_simp; rfl))⟩) trivial ?_
                                try simp only [Act.put, List.getElem_toArray, List.getElem_cons_zero, List.getElem_cons_succ, List.setIfInBounds_toArray, List.set_cons_zero, List.set_cons_succ]
                                refine wpAnyH_take (i := 1) (v := .int .i64 (kk : Int)) rfl (by kernel_rfl) (by kernel_rfl) (by kernel_rfl) (fun _ _ _ h => h) (Or.inl ⟨by rfl, fun w_ hS_ => by (first | (go_simp; done) | (go_simp; rfl))⟩) trivial ?_
                                try simp only [Act.put, List.getElem_toArray, List.getElem_cons_zero, List.getElem_cons_succ, List.setIfInBounds_toArray, List.set_cons_zero, List.set_cons_succ]
                                refine wpAnyH_take (i := 2) (v := .int .i64 (j : Int)) rfl (by kernel_rfl) (by kernel_rfl) (by kernel_rfl) (fun _ _ _ h => h) (Or.inl ⟨by rfl, fun w_ hS_ => by (first | (go_simp; done) | (go_simp; rfl))⟩) trivial ?_
                                try simp only [Act.put, List.getElem_toArray, List.getElem_cons_zero, List.getElem_cons_succ, List.setIfInBounds_toArray, List.set_cons_zero, List.set_cons_succ]
                                refine wpAnyH_take (i := 3) (v := .slice (some ⟨gp, 0, none⟩) al2.length c9) rfl (by kernel_rfl) (by kernel_rfl) (by kernel_rfl) (fun _ _ _ h => h) (Or.inl ⟨by rfl, fun w_ hS_ => by (first | (go_simp; done) | (go_simp; rfl))⟩) trivial ?_
                                try simp only [Act.put, List.getElem_toArray, List.getElem_cons_zero, List.getElem_cons_succ, List.setIfInBounds_toArray, List.set_cons_zero, List.set_cons_succ]
                                refine wpAnyH_take (i := 4) (v := .int .i64 (kk : Int)) rfl (by kernel_rfl) (by kernel_rfl) (by kernel_rfl) (fun _ _ _ h => h) (Or.inl ⟨by rfl, fun w_ hS_ => by (first | (go_simp; done) | (go_simp; rfl))⟩) trivial ?_
                                try simp only [Act.put, List.getElem_toArray, List.getElem_cons_zero, List.getElem_cons_succ, List.setIfInBounds_toArray, List.set_cons_zero, List.set_cons_succ]
                                refine wpAnyH_take (i := 5) (v := .int .i64 (j : Int)) rfl (by kernel_rfl) (by kernel_rfl) (by kernel_rfl) (fun _ _ _ h => h) (Or.inl ⟨by rfl, fun w_ hS_ => by (first | (go_simp; done) | (go_simp; rfl))⟩) trivial ?_
                                try simp only [Act.put, List.getElem_toArray, List.getElem_cons_zero, List.getElem_cons_succ, List.setIfInBounds_toArray, List.set_cons_zero, List.set_cons_succ]
                                refine wpAnyH_take (i := 6) (v := .pointer (some ⟨gp, kk * 17, none⟩)) rfl (by kernel_rfl) (by kernel_rfl) (by kernel_rfl) (fun _ _ _ h => h) (Or.inl ⟨by rfl, fun w_ hS_ => by (first | (go_simp; done) | (go_simp; rfl))⟩) trivial ?_
                                try simp only [Act.put, List.getElem_toArray, List.getElem_cons_zero, List.getElem_cons_succ, List.setIfInBounds_toArray, List.set_cons_zero, List.set_cons_succ]
                                refine wpAnyH_take (i := 7) (v := .pointer (some ⟨gp, kk * 17 + 12, none⟩)) rfl (by kernel_rfl) (by kernel_rfl) (by kernel_rfl) (fun _ _ _ h => h) (Or.inl ⟨by rfl, fun w_ hS_ => by (first | (go_simp; done) | (go_simp; rfl))⟩) trivial ?_
                                try simp only [Act.put, List.getElem_toArray, List.getElem_cons_zero, List.getElem_cons_succ, List.setIfInBounds_toArray, List.set_cons_zero, List.set_cons_succ]
                                refine wpAnyH_take (i := 8) (v := .pointer (some ⟨gp, kk * 17 + 12 + j, none⟩)) rfl (by kernel_rfl) (by kernel_rfl) (by kernel_rfl) (fun _ _ _ h => h) (Or.inl ⟨by rfl, fun w_ hS_ => by (first | (go_simp; done) | (go_simp; rfl))⟩) trivial ?_
                                try simp only [Act.put, List.getElem_toArray, List.getElem_cons_zero, List.getElem_cons_succ, List.setIfInBounds_toArray, List.set_cons_zero, List.set_cons_succ]
                                refine wpAnyH_take (i := 14) (v := .pointer (some ⟨gp, kk * 17, none⟩)) rfl (by kernel_rfl) (by kernel_rfl) (by kernel_rfl) (fun _ _ _ h => h) (Or.inl ⟨by rfl, fun w_ hS_ => by (first | (go_simp; done) | (go_simp; rfl))⟩) trivial ?_
                                try simp only [Act.put, List.getElem_toArray, List.getElem_cons_zero, List.getElem_cons_succ, List.setIfInBounds_toArray, List.set_cons_zero, List.set_cons_succ]
                                refine wpAnyH_take (i := 15) (v := .pointer (some ⟨gp, kk * 17 + 12, none⟩)) rfl (by kernel_rfl) (by kernel_rfl) (by kernel_rfl) (fun _ _ _ h => h) (Or.inl ⟨by rfl, fun w_ hS_ => by (first | (go_simp; done) | (go_simp; rfl))⟩) trivial ?_
                                try simp only [Act.put, List.getElem_toArray, List.getElem_cons_zero, List.getElem_cons_succ, List.setIfInBounds_toArray, List.set_cons_zero, List.set_cons_succ]
                                refine wpAnyH_ready (rs := [9]) (by kernel_rfl) (by simp) ?_
                                refine AllReadyH.cons rfl (fun K hK => ?_) AllReadyH.nil
                                rw [if_pos (by rfl)]
                                have c_ := pqCell hu HPK.out j (by omega) (by rw [HPV.out, HVB.out])
                                go_simp
                                clear c_
                                refine hK.out _ _ trivial (fun hH => ?_)
                                clear hK K hH
                                try simp only [Act.put, List.getElem_toArray, List.getElem_cons_zero, List.getElem_cons_succ, List.setIfInBounds_toArray, List.set_cons_zero, List.set_cons_succ]
                                refine wpAnyH_take (i := 10) (v := .bool false) rfl (by kernel_rfl) (by kernel_rfl) (by kernel_rfl) (fun _ _ _ h => h) (Or.inl ⟨by rfl, fun w_ hS_ => by (first | (go_simp; done) | (go_simp; rfl))⟩) trivial ?_
                                try simp only [Act.put, List.getElem_toArray, List.getElem_cons_zero, List.getElem_cons_succ, List.setIfInBounds_toArray, List.set_cons_zero, List.set_cons_succ]
                                refine wpAnyH_take (i := 11) (v := .int .i64 (a.how br bn 1 p.x)) rfl (by kernel_rfl) (by kernel_rfl) (by kernel_rfl) (fun _ _ _ h => h) (Or.inl ⟨by rfl, fun w_ hS_ => by (first | (go_simp; done) | (go_simp; rfl))⟩) trivial ?_
                                try simp only [Act.put, List.getElem_toArray, List.getElem_cons_zero, List.getElem_cons_succ, List.setIfInBounds_toArray, List.set_cons_zero, List.set_cons_succ]
                                refine wpAnyH_take (i := 12) (v := .bool (decide ((a.how br bn 1 p.x) = 3))) rfl (by kernel_rfl) (by kernel_rfl) (by kernel_rfl) (fun _ _ _ h => h) (Or.inl ⟨by rfl, fun w_ hS_ => by (first | (go_simp; done) | (go_simp; rfl))⟩) trivial ?_
                                try simp only [Act.put, List.getElem_toArray, List.getElem_cons_zero, List.getElem_cons_succ, List.setIfInBounds_toArray, List.set_cons_zero, List.set_cons_succ]
                                refine wpAnyH_take (i := 13) (v := .bool (decide ((a.how br bn 1 p.x) = 3))) rfl (by kernel_rfl) (by kernel_rfl) (by kernel_rfl) (fun _ _ _ h => h) (Or.inl ⟨by rfl, fun w_ hS_ => by (first | (go_simp; done) | (go_simp; rfl))⟩) trivial ?_
                                try simp only [Act.put, List.getElem_toArray, List.getElem_cons_zero, List.getElem_cons_succ, List.setIfInBounds_toArray, List.set_cons_zero, List.set_cons_succ]
                                refine wpAnyH_take (i := 16) (v := .pointer (some ⟨gp, kk * 17 + 12 + j, none⟩)) rfl (by kernel_rfl) (by kernel_rfl) (by kernel_rfl) (fun _ _ _ h => h) (Or.inl ⟨by rfl, fun w_ hS_ => by (first | (go_simp; done) | (go_simp; rfl))⟩) trivial ?_
                                try simp only [Act.put, List.getElem_toArray, List.getElem_cons_zero, List.getElem_cons_succ, List.setIfInBounds_toArray, List.set_cons_zero, List.set_cons_succ]
                                refine wpAnyH_ready (rs := [17]) (by kernel_rfl) (by simp) ?_
                                refine AllReadyH.cons rfl (fun K hK => ?_) AllReadyH.nil
                                rw [if_pos (by rfl)]
                                have f_ : q6.frozen? ⟨gp, kk * 17 + 12 + j, none⟩ = false := World.ownsRow.frozenAt hu _
                                have c_ := pqCell hu HPK.out j (by omega) (by rw [HPV.out, HVB.out])
                                go_simp
                                clear f_ c_
                                have N_ := (World.ownsRow.stored hu (kk * 17 + 12 + j) (.bool (decide ((a.how br bn 1 p.x) = 3)))).1
                                rw [pqStore HPK.out (by rw [HPV.out]; exact HJV.out) j (by omega) (decide ((a.how br bn 1 p.x) = 3))] at N_
                                have hg_ := (hu.lt gp rfl).1
                                have ee := belowC (g := gp) (by omega) [.bool (decide ((a.how br bn 1 p.x) = 3))] (kk * 17 + 12 + j) q6 ee
                                have Zg := hpCo (g' := gp) (fun e_ => ogKind hu Zg (by decide) (by rw [e_]; rfl)) [.bool (decide ((a.how br bn 1 p.x) = 3))] (kk * 17 + 12 + j) q6 Zg
                                have Zs := hpCo (g' := gp) (fun e_ => ogKind hu Zs (by decide) (by rw [e_]; rfl)) [.bool (decide ((a.how br bn 1 p.x) = 3))] (kk * 17 + 12 + j) q6 Zs
                                have Zb := hpCo (g' := gp) (fun e_ => ogKind hu Zb (by decide) (by rw [e_]; rfl)) [.bool (decide ((a.how br bn 1 p.x) = 3))] (kk * 17 + 12 + j) q6 Zb
                                have Zn := hpCo (g' := gp) (fun e_ => ogKind hu Zn (by decide) (by rw [e_]; rfl)) [.bool (decide ((a.how br bn 1 p.x) = 3))] (kk * 17 + 12 + j) q6 Zn
                                clear hu hg_
                                have hu : (q6.setCells (gp) (kk * 17 + 12 + j) [.bool (decide ((a.how br bn 1 p.x) = 3))]).ownsRow _ _ _ _ _ _ := N_
                                clear N_
                                change K _ (q6.setCells (gp) (kk * 17 + 12 + j) [.bool (decide ((a.how br bn 1 p.x) = 3))])
                                generalize q6.setCells (gp) (kk * 17 + 12 + j) [.bool (decide ((a.how br bn 1 p.x) = 3))] = q7 at Zg Zs Zb Zn hu ee ⊢
                                refine hK.out _ _ trivial (fun hH => ?_)
                                clear hK K hH
                                try simp only [Act.put, List.getElem_toArray, List.getElem_cons_zero, List.getElem_cons_succ, List.setIfInBounds_toArray, List.set_cons_zero, List.set_cons_succ]
                                refine wpAnyH_done (by kernel_rfl) ?_ _
                                clear hj0 hj6 hk0 hk1
                                rw [List.set_set, HPV.out] at hu
                                have HP9 : Hid (({ p' with vo := vo.set j (decide ((a.how br bn 1 p.x) = 3)) } : One.Pq) = { p with vo := vo.set j (decide ((a.how br bn 1 p.x) = 3)) }) := by show _ = _; rw [HPP.out]
                                rw [HP9.out] at hu
                                go_wp2_with fail
                                go_roundw
                                case rel => exact ⟨j + 1, by omega, by go_num, by rw [HA.out]; exact Zg, by rw [HA.out]; exact hu, Zs, Zb, ee⟩
                                case measure => simp [intOf]; omega
                            · rw [if_pos (by rfl)]
                              go_simp
                              have lZg := (Array.getElem?_eq_some_iff.1 Zg).1
                              have lZs := (Array.getElem?_eq_some_iff.1 Zs).1
                              have lZb := (Array.getElem?_eq_some_iff.1 Zb).1
                              have sz_ := ee.size
                              have Zg := hpA Zg (.cells #[.int .u32 0, .int .i64 0, .int .i64 0, .bool false, .int .u32 0, .int .i64 0, .int .i64 0, .int .i64 0, .int .i64 0, .slice none 0 0, .slice none 0 0, .int .i64 0, .int .i64 0, .int .i64 0, .int .u64 0, .bool false] 39)
                              have Zs := hpA Zs (.cells #[.int .u32 0, .int .i64 0, .int .i64 0, .bool false, .int .u32 0, .int .i64 0, .int .i64 0, .int .i64 0, .int .i64 0, .slice none 0 0, .slice none 0 0, .int .i64 0, .int .i64 0, .int .i64 0, .int .u64 0, .bool false] 39)
                              have Zb := hpA Zb (.cells #[.int .u32 0, .int .i64 0, .int .i64 0, .bool false, .int .u32 0, .int .i64 0, .int .i64 0, .int .i64 0, .int .i64 0, .slice none 0 0, .slice none 0 0, .int .i64 0, .int .i64 0, .int .i64 0, .int .u64 0, .bool false] 39)
                              have hu := hu.alloc (.cells #[.int .u32 0, .int .i64 0, .int .i64 0, .bool false, .int .u32 0, .int .i64 0, .int .i64 0, .int .i64 0, .int .i64 0, .slice none 0 0, .slice none 0 0, .int .i64 0, .int .i64 0, .int .i64 0, .int .u64 0, .bool false] 39)
                              have ee := ee.alloc ee.size (.cells #[.int .u32 0, .int .i64 0, .int .i64 0, .bool false, .int .u32 0, .int .i64 0, .int .i64 0, .int .i64 0, .int .i64 0, .slice none 0 0, .slice none 0 0, .int .i64 0, .int .i64 0, .int .i64 0, .int .u64 0, .bool false] 39)
                              have Zn := hpN q1 (.cells #[.int .u32 0, .int .i64 0, .int .i64 0, .bool false, .int .u32 0, .int .i64 0, .int .i64 0, .int .i64 0, .int .i64 0, .slice none 0 0, .slice none 0 0, .int .i64 0, .int .i64 0, .int .i64 0, .int .u64 0, .bool false] 39) rfl
                              generalize q1.alloc (.cells #[.int .u32 0, .int .i64 0, .int .i64 0, .bool false, .int .u32 0, .int .i64 0, .int .i64 0, .int .i64 0, .int .i64 0, .slice none 0 0, .slice none 0 0, .int .i64 0, .int .i64 0, .int .i64 0, .int .u64 0, .bool false] 39) = q2 at Zg Zs Zb Zn hu ee ⊢
                              refine hK.out _ _ ⟨flatMid acL Zg hka, rowAt Zb, HPX2.out ▸ rangePart (flatRange pqL hu HPK.out) (pqC p')⟩ (fun hH => ?_)
                              clear hK K hH
                              try simp only [Act.put, List.getElem_toArray, List.getElem_cons_zero, List.getElem_cons_succ, List.setIfInBounds_toArray, List.set_cons_zero, List.set_cons_succ]
                              refine wpAnyH_ready (rs := [9]) (by kernel_rfl) (by simp) ?_
                              refine AllReadyH.cons rfl (fun K hK => ?_) AllReadyH.nil
                              rw [if_pos (by rfl)]
                              go_simp
                              go_wp2_with (go_at_call 24; refine (HCV.out q2 ee).mono ?_; rintro e q3 ⟨rfl, t⟩)
                              have Zg := hpB Zg t
                              have Zs := hpB Zs t
                              have Zb := hpB Zb t
                              have Zn := hpB Zn t
                              have hu := ownBelow hu t
                              have ee := ee.trans (t.mono ee.size)
                              clear t
                              refine hK.out _ _ ⟨flatMid acL Zg hka, rowAt Zb, HPX2.out ▸ rangePart (flatRange pqL hu HPK.out) (pqC p')⟩ (fun hH => ?_)
                              clear hK K hH
                              try simp only [Act.put, List.getElem_toArray, List.getElem_cons_zero, List.getElem_cons_succ, List.setIfInBounds_toArray, List.set_cons_zero, List.set_cons_succ]
                              refine wpAnyH_take (i := 10) (v := .tuple #[.agg (a.vote br bn 1 p.x).cells.toArray, .int .i64 (a.how br bn 1 p.x)]) rfl (by kernel_rfl) (by kernel_rfl) (by kernel_rfl) (fun _ _ _ h => h) (Or.inl ⟨by rfl, fun w_ hS_ => by (first | (go_simp; done) | (go_simp; rfl))⟩) ⟨flatMid acL Zg hka, rowAt Zb, HPX2.out ▸ rangePart (flatRange pqL hu HPK.out) (pqC p')⟩ ?_
                              try simp only [Act.put, List.getElem_toArray, List.getElem_cons_zero, List.getElem_cons_succ, List.setIfInBounds_toArray, List.set_cons_zero, List.set_cons_succ]
                              refine wpAnyH_take (i := 11) (v := .agg (a.vote br bn 1 p.x).cells.toArray) rfl (by kernel_rfl) (by kernel_rfl) (by kernel_rfl) (fun _ _ _ h => h) (Or.inl ⟨by rfl, fun w_ hS_ => by (first | (go_simp; done) | (go_simp; rfl))⟩) ⟨flatMid acL Zg hka, rowAt Zb, HPX2.out ▸ rangePart (flatRange pqL hu HPK.out) (pqC p')⟩ ?_
                              try simp only [Act.put, List.getElem_toArray, List.getElem_cons_zero, List.getElem_cons_succ, List.setIfInBounds_toArray, List.set_cons_zero, List.set_cons_succ]
                              refine wpAnyH_take (i := 12) (v := .int .i64 (a.how br bn 1 p.x)) rfl (by kernel_rfl) (by kernel_rfl) (by kernel_rfl) (fun _ _ _ h => h) (Or.inl ⟨by rfl, fun w_ hS_ => by (first | (go_simp; done) | (go_simp; rfl))⟩) ⟨flatMid acL Zg hka, rowAt Zb, HPX2.out ▸ rangePart (flatRange pqL hu HPK.out) (pqC p')⟩ ?_
                              try simp only [Act.put, List.getElem_toArray, List.getElem_cons_zero, List.getElem_cons_succ, List.setIfInBounds_toArray, List.set_cons_zero, List.set_cons_succ]
                              refine wpAnyH_ready (rs := [14]) (by kernel_rfl) (by simp) ?_
                              refine AllReadyH.cons rfl (fun K hK => ?_) AllReadyH.nil
                              rw [if_pos (by rfl)]
                              refine wp_store_row 39 _ _ rfl (q1.heap.size) ((a.vote br bn 1 p.x).cells).toArray rfl rfl 39 _ Zn sizeAc (by rfl) (Ac.one _) ?_
                              have N_ := setRow_heap q3 (q1.heap.size) _ ((a.vote br bn 1 p.x).cells).toArray _ _ Zn
                              have hu := ogOwnR (cs := ((a.vote br bn 1 p.x).cells).toArray) hu (ogKind hu Zn (by decide))
                              have ee := belowSet (cs := ((a.vote br bn 1 p.x).cells).toArray) ee Zn (by omega)
                              have Zg := hpR Zg (g' := q1.heap.size) (by omega) ((a.vote br bn 1 p.x).cells).toArray
                              have Zs := hpR Zs (g' := q1.heap.size) (by omega) ((a.vote br bn 1 p.x).cells).toArray
                              have Zb := hpR Zb (g' := q1.heap.size) (by omega) ((a.vote br bn 1 p.x).cells).toArray
                              clear Zn
                              have Zn := N_
                              clear N_
                              generalize q3.setRow (q1.heap.size) ((a.vote br bn 1 p.x).cells).toArray = q4 at Zg Zs Zb Zn hu ee ⊢
                              refine hK.out _ _ ⟨flatMid acL Zg hka, rowAt Zb, HPX2.out ▸ rangePart (flatRange pqL hu HPK.out) (pqC p')⟩ (fun hH => ?_)
                              clear hK K hH
                              try simp only [Act.put, List.getElem_toArray, List.getElem_cons_zero, List.getElem_cons_succ, List.setIfInBounds_toArray, List.set_cons_zero, List.set_cons_succ]
                              refine wpAnyH_take (i := 15) (v := .int .i64 (a.how br bn 1 p.x)) rfl (by kernel_rfl) (by kernel_rfl) (by kernel_rfl) (fun _ _ _ h => h) (Or.inl ⟨by rfl, fun w_ hS_ => by (first | (go_simp; done) | (go_simp; rfl))⟩) ⟨flatMid acL Zg hka, rowAt Zb, HPX2.out ▸ rangePart (flatRange pqL hu HPK.out) (pqC p')⟩ ?_
                              try simp only [Act.put, List.getElem_toArray, List.getElem_cons_zero, List.getElem_cons_succ, List.setIfInBounds_toArray, List.set_cons_zero, List.set_cons_succ]
                              refine wpAnyH_done (by kernel_rfl) ?_ _
                              clear HCV
                              go_upto_region 31 with fail
                              refine wp_region_lit ?_
                              iterate 27 (first | with_reducible refine isLoad (ty := 39) rfl ?_ | go_step)
                              refine wpList_load_mid rfl 39 _ rfl (q1.heap.size) 0 rfl (((a.vote br bn 1 p.x).cells)) _ (rowAt Zn) Tryd.underlying39 rfl sizeAc ?_
                              iterate 27 (first | with_reducible refine isStore (ty := 39) rfl ?_ | go_step)
                              refine wpList_store_mid rfl 39 _ _ rfl (g) (j * 16) (Ac.cells (a.vote br bn 1 p.x)).toArray rfl rfl (flatThere acL Zg hka) sizeAc (Ac.one _) ?_
                              have N_ : (q4.setCells (g) (j * 16) (Ac.cells (a.vote br bn 1 p.x))).heap[g]? = some (.cells (flat Ac.cells (l'.set j (a.vote br bn 1 p.x))).toArray 62) := ogPut acL Zg hka (a.vote br bn 1 p.x)
                              have hu := ogOwnC hu (ogKind hu Zg (by decide)) (Ac.cells (a.vote br bn 1 p.x)) (j * 16)
                              have ee := belowC (g := g) (by omega) (Ac.cells (a.vote br bn 1 p.x)) (j * 16) q4 ee
                              have Zs := hpCo (g' := g) (by omega) (Ac.cells (a.vote br bn 1 p.x)) (j * 16) q4 Zs
                              have Zb := hpCo (g' := g) (by omega) (Ac.cells (a.vote br bn 1 p.x)) (j * 16) q4 Zb
                              have Zn := hpCo (g' := g) (by omega) (Ac.cells (a.vote br bn 1 p.x)) (j * 16) q4 Zn
                              clear Zg
                              have Zg := N_
                              clear N_
                              change wpList _ _ _ _ _ (q4.setCells (g) (j * 16) (Ac.cells (a.vote br bn 1 p.x)))
                              generalize q4.setCells (g) (j * 16) (Ac.cells (a.vote br bn 1 p.x)) = q5 at Zg Zs Zb Zn hu ee ⊢
                              go_upto_region 32 with fail
                              have HJV := Lib.hid (HVJ.out.2.1)
                              generalize hvo : vo.getD j false = vb at HA
                              have HVB := Lib.hid hvo
                              clear hvo
                              cases vb with
                              | true =>
                                rw [Bool.true_or] at HA
                                have Zg : q5.drew.heap[g]? = some (.cells (flat Ac.cells (l'.set j (a.vote br bn 1 p.x))).toArray 62) := Zg
                                have Zs : q5.drew.heap[gs]? = some (.cells s.cells.toArray 66) := Zs
                                have Zb : q5.drew.heap[gb]? = some (.cells [.int .u32 (br : Int), .int .i64 bn].toArray 28) := Zb
                                have Zn : q5.drew.heap[q1.heap.size]? = some (.cells ((a.vote br bn 1 p.x).cells).toArray 39) := Zn
                                have hu := World.ownsRow.drew hu
                                have ee := belowDrewS ee
                                refine wp_region_held_drew (S := fun z' => True) (by kernel_rfl) trivial (fun hH => ?_)
                                clear hH
                                generalize q5.drew = q6 at Zg Zs Zb Zn hu ee ⊢
                                refine wpAnyH_take (i := 0) (v := .slice (some ⟨gp, 0, none⟩) al2.length c9) rfl (by kernel_rfl) (by kernel_rfl) (by kernel_rfl) (fun _ _ _ h => h) (Or.inl ⟨by rfl, fun w_ hS_ => by (first | (go_simp; done) | (go_simp; rfl))⟩) trivial ?_
                                try simp only [Act.put, List.getElem_toArray, List.getElem_cons_zero, List.getElem_cons_succ, List.setIfInBounds_toArray, List.set_cons_zero, List.set_cons_succ]
                                refine wpAnyH_take (i := 1) (v := .int .i64 (kk : Int)) rfl (by kernel_rfl) (by kernel_rfl) (by kernel_rfl) (fun _ _ _ h => h) (Or.inl ⟨by rfl, fun w_ hS_ => by (first | (go_simp; done) | (go_simp; rfl))⟩) trivial ?_
                                try simp only [Act.put, List.getElem_toArray, List.getElem_cons_zero, List.getElem_cons_succ, List.setIfInBounds_toArray, List.set_cons_zero, List.set_cons_succ]
                                refine wpAnyH_take (i := 2) (v := .int .i64 (j : Int)) rfl (by kernel_rfl) (by kernel_rfl) (by kernel_rfl) (fun _ _ _ h => h) (Or.inl ⟨by rfl, fun w_ hS_ => by (first | (go_simp; done) | (go_simp; rfl))⟩) trivial ?_
                                try simp only [Act.put, List.getElem_toArray, List.getElem_cons_zero, List.getElem_cons_succ, List.setIfInBounds_toArray, List.set_cons_zero, List.set_cons_succ]
                                refine wpAnyH_take (i := 3) (v := .slice (some ⟨gp, 0, none⟩) al2.length c9) rfl (by kernel_rfl) (by kernel_rfl) (by kernel_rfl) (fun _ _ _ h => h) (Or.inl ⟨by rfl, fun w_ hS_ => by (first | (go_simp; done) | (go_simp; rfl))⟩) trivial ?_
                                try simp only [Act.put, List.getElem_toArray, List.getElem_cons_zero, List.getElem_cons_succ, List.setIfInBounds_toArray, List.set_cons_zero, List.set_cons_succ]
                                refine wpAnyH_take (i := 4) (v := .int .i64 (kk : Int)) rfl (by kernel_rfl) (by kernel_rfl) (by kernel_rfl) (fun _ _ _ h => h) (Or.inl ⟨by rfl, fun w_ hS_ => by (first | (go_simp; done) | (go_simp; rfl))⟩) trivial ?_
                                try simp only [Act.put, List.getElem_toArray, List.getElem_cons_zero, List.getElem_cons_succ, List.setIfInBounds_toArray, List.set_cons_zero, List.set_cons_succ]
                                refine wpAnyH_take (i := 5) (v := .int .i64 (j : Int)) rfl (by kernel_rfl) (by kernel_rfl) (by kernel_rfl) (fun _ _ _ h => h) (Or.inl ⟨by rfl, fun w_ hS_ => by (first | (go_simp; done) | (go_simp; rfl))⟩) trivial ?_
                                try simp only [Act.put, List.getElem_toArray, List.getElem_cons_zero, List.getElem_cons_succ, List.setIfInBounds_toArray, List.set_cons_zero, List.set_cons_succ]
                                refine wpAnyH_take (i := 6) (v := .pointer (some ⟨gp, kk * 17, none⟩)) rfl (by kernel_rfl) (by kernel_rfl) (by kernel_rfl) (fun _ _ _ h => h) (Or.inl ⟨by rfl, fun w_ hS_ => by (first | (go_simp; done) | (go_simp; rfl))⟩) trivial ?_
                                try simp only [Act.put, List.getElem_toArray, List.getElem_cons_zero, List.getElem_cons_succ, List.setIfInBounds_toArray, List.set_cons_zero, List.set_cons_succ]
                                refine wpAnyH_take (i := 7) (v := .pointer (some ⟨gp, kk * 17 + 12, none⟩)) rfl (by kernel_rfl) (by kernel_rfl) (by kernel_rfl) (fun _ _ _ h => h) (Or.inl ⟨by rfl, fun w_ hS_ => by (first | (go_simp; done) | (go_simp; rfl))⟩) trivial ?_
                                try simp only [Act.put, List.getElem_toArray, List.getElem_cons_zero, List.getElem_cons_succ, List.setIfInBounds_toArray, List.set_cons_zero, List.set_cons_succ]
                                refine wpAnyH_take (i := 8) (v := .pointer (some ⟨gp, kk * 17 + 12 + j, none⟩)) rfl (by kernel_rfl) (by kernel_rfl) (by kernel_rfl) (fun _ _ _ h => h) (Or.inl ⟨by rfl, fun w_ hS_ => by (first | (go_simp; done) | (go_simp; rfl))⟩) trivial ?_
                                try simp only [Act.put, List.getElem_toArray, List.getElem_cons_zero, List.getElem_cons_succ, List.setIfInBounds_toArray, List.set_cons_zero, List.set_cons_succ]
                                refine wpAnyH_take (i := 14) (v := .pointer (some ⟨gp, kk * 17, none⟩)) rfl (by kernel_rfl) (by kernel_rfl) (by kernel_rfl) (fun _ _ _ h => h) (Or.inl ⟨by rfl, fun w_ hS_ => by (first | (go_simp; done) | (go_simp; rfl))⟩) trivial ?_
                                try simp only [Act.put, List.getElem_toArray, List.getElem_cons_zero, List.getElem_cons_succ, List.setIfInBounds_toArray, List.set_cons_zero, List.set_cons_succ]
                                refine wpAnyH_take (i := 15) (v := .pointer (some ⟨gp, kk * 17 + 12, none⟩)) rfl (by kernel_rfl) (by kernel_rfl) (by kernel_rfl) (fun _ _ _ h => h) (Or.inl ⟨by rfl, fun w_ hS_ => by (first | (go_simp; done) | (go_simp; rfl))⟩) trivial ?_
                                try simp only [Act.put, List.getElem_toArray, List.getElem_cons_zero, List.getElem_cons_succ, List.setIfInBounds_toArray, List.set_cons_zero, List.set_cons_succ]
                                refine wpAnyH_ready (rs := [9]) (by kernel_rfl) (by simp) ?_
                                refine AllReadyH.cons rfl (fun K hK => ?_) AllReadyH.nil
                                rw [if_pos (by rfl)]
                                have c_ := pqCell hu HPK.out j (by omega) (by rw [HPV.out, HVB.out])
                                go_simp
                                clear c_
                                refine hK.out _ _ trivial (fun hH => ?_)
                                clear hK K hH
                                try simp only [Act.put, List.getElem_toArray, List.getElem_cons_zero, List.getElem_cons_succ, List.setIfInBounds_toArray, List.set_cons_zero, List.set_cons_succ]
                                refine wpAnyH_take (i := 10) (v := .bool true) rfl (by kernel_rfl) (by kernel_rfl) (by kernel_rfl) (fun _ _ _ h => h) (Or.inl ⟨by rfl, fun w_ hS_ => by (first | (go_simp; done) | (go_simp; rfl))⟩) trivial ?_
                                try simp only [Act.put, List.getElem_toArray, List.getElem_cons_zero, List.getElem_cons_succ, List.setIfInBounds_toArray, List.set_cons_zero, List.set_cons_succ]
                                refine wpAnyH_take (i := 11) (v := undef) rfl (by kernel_rfl) (by kernel_rfl) (by kernel_rfl) (fun _ _ _ h => h) (Or.inr ⟨by rfl, rfl⟩) trivial ?_
                                try simp only [Act.put, List.getElem_toArray, List.getElem_cons_zero, List.getElem_cons_succ, List.setIfInBounds_toArray, List.set_cons_zero, List.set_cons_succ]
                                refine wpAnyH_take (i := 12) (v := undef) rfl (by kernel_rfl) (by kernel_rfl) (by kernel_rfl) (fun _ _ _ h => h) (Or.inr ⟨by rfl, rfl⟩) trivial ?_
                                try simp only [Act.put, List.getElem_toArray, List.getElem_cons_zero, List.getElem_cons_succ, List.setIfInBounds_toArray, List.set_cons_zero, List.set_cons_succ]
                                refine wpAnyH_take (i := 13) (v := .bool true) rfl (by kernel_rfl) (by kernel_rfl) (by kernel_rfl) (fun _ _ _ h => h) (Or.inl ⟨by rfl, fun w_ hS_ => by (first | (go_simp; done) | (go_simp; rfl))⟩) trivial ?_
                                try simp only [Act.put, List.getElem_toArray, List.getElem_cons_zero, List.getElem_cons_succ, List.setIfInBounds_toArray, List.set_cons_zero, List.set_cons_succ]
                                refine wpAnyH_take (i := 16) (v := .pointer (some ⟨gp, kk * 17 + 12 + j, none⟩)) rfl (by kernel_rfl) (by kernel_rfl) (by kernel_rfl) (fun _ _ _ h => h) (Or.inl ⟨by rfl, fun w_ hS_ => by (first | (go_simp; done) | (go_simp; rfl))⟩) trivial ?_
                                try simp only [Act.put, List.getElem_toArray, List.getElem_cons_zero, List.getElem_cons_succ, List.setIfInBounds_toArray, List.set_cons_zero, List.set_cons_succ]
                                refine wpAnyH_ready (rs := [17]) (by kernel_rfl) (by simp) ?_
                                refine AllReadyH.cons rfl (fun K hK => ?_) AllReadyH.nil
                                rw [if_pos (by rfl)]
                                have f_ : q6.frozen? ⟨gp, kk * 17 + 12 + j, none⟩ = false := World.ownsRow.frozenAt hu _
                                have c_ := pqCell hu HPK.out j (by omega) (by rw [HPV.out, HVB.out])
                                go_simp
                                clear f_ c_
                                have N_ := (World.ownsRow.stored hu (kk * 17 + 12 + j) (.bool true)).1
                                rw [pqStore HPK.out (by rw [HPV.out]; exact HJV.out) j (by omega) true] at N_
                                have hg_ := (hu.lt gp rfl).1
                                have ee := belowC (g := gp) (by omega) [.bool true] (kk * 17 + 12 + j) q6 ee
                                have Zg := hpCo (g' := gp) (fun e_ => ogKind hu Zg (by decide) (by rw [e_]; rfl)) [.bool true] (kk * 17 + 12 + j) q6 Zg
                                have Zs := hpCo (g' := gp) (fun e_ => ogKind hu Zs (by decide) (by rw [e_]; rfl)) [.bool true] (kk * 17 + 12 + j) q6 Zs
                                have Zb := hpCo (g' := gp) (fun e_ => ogKind hu Zb (by decide) (by rw [e_]; rfl)) [.bool true] (kk * 17 + 12 + j) q6 Zb
                                have Zn := hpCo (g' := gp) (fun e_ => ogKind hu Zn (by decide) (by rw [e_]; rfl)) [.bool true] (kk * 17 + 12 + j) q6 Zn
                                clear hu hg_
                                have hu : (q6.setCells (gp) (kk * 17 + 12 + j) [.bool true]).ownsRow _ _ _ _ _ _ := N_
                                clear N_
                                change K _ (q6.setCells (gp) (kk * 17 + 12 + j) [.bool true])
                                generalize q6.setCells (gp) (kk * 17 + 12 + j) [.bool true] = q7 at Zg Zs Zb Zn hu ee ⊢
                                refine hK.out _ _ trivial (fun hH => ?_)
                                clear hK K hH
                                try simp only [Act.put, List.getElem_toArray, List.getElem_cons_zero, List.getElem_cons_succ, List.setIfInBounds_toArray, List.set_cons_zero, List.set_cons_succ]
                                refine wpAnyH_done (by kernel_rfl) ?_ _
                                clear hj0 hj6 hk0 hk1
                                rw [List.set_set, HPV.out] at hu
                                have HP9 : Hid (({ p' with vo := vo.set j true } : One.Pq) = { p with vo := vo.set j true }) := by show _ = _; rw [HPP.out]
                                rw [HP9.out] at hu
                                go_wp2_with fail
                                go_roundw
                                case rel => exact ⟨j + 1, by omega, by go_num, by rw [HA.out]; exact Zg, by rw [HA.out]; exact hu, Zs, Zb, ee⟩
                                case measure => simp [intOf]; omega
                              | false =>
                                rw [Bool.false_or] at HA
                                have hq3 : ((a.how br bn 1 p.x) == 3) = decide ((a.how br bn 1 p.x) = 3) := by rw [Bool.eq_iff_iff]; simp
                                have Zg : q5.drew.heap[g]? = some (.cells (flat Ac.cells (l'.set j (a.vote br bn 1 p.x))).toArray 62) := Zg
                                have Zs : q5.drew.heap[gs]? = some (.cells s.cells.toArray 66) := Zs
                                have Zb : q5.drew.heap[gb]? = some (.cells [.int .u32 (br : Int), .int .i64 bn].toArray 28) := Zb
                                have Zn : q5.drew.heap[q1.heap.size]? = some (.cells ((a.vote br bn 1 p.x).cells).toArray 39) := Zn
                                have hu := World.ownsRow.drew hu
                                have ee := belowDrewS ee
                                refine wp_region_held_drew (S := fun z' => True) (by kernel_rfl) trivial (fun hH => ?_)
                                clear hH
                                generalize q5.drew = q6 at Zg Zs Zb Zn hu ee ⊢
                                refine wpAnyH_take (i := 0) (v := .slice (some ⟨gp, 0, none⟩) al2.length c9) rfl (by kernel_rfl) (by kernel_rfl) (by kernel_rfl) (fun _ _ _ h => h) (Or.inl ⟨by rfl, fun w_ hS_ => by (first | (go_simp; done) | (go_simp; rfl))⟩) trivial ?_
                                try simp only [Act.put, List.getElem_toArray, List.getElem_cons_zero, List.getElem_cons_succ, List.setIfInBounds_toArray, List.set_cons_zero, List.set_cons_succ]
                                refine wpAnyH_take (i := 1) (v := .int .i64 (kk : Int)) rfl (by kernel_rfl) (by kernel_rfl) (by kernel_rfl) (fun _ _ _ h => h) (Or.inl ⟨by rfl, fun w_ hS_ => by (first | (go_simp; done) | (go_simp; rfl))⟩) trivial ?_
                                try simp only [Act.put, List.getElem_toArray, List.getElem_cons_zero, List.getElem_cons_succ, List.setIfInBounds_toArray, List.set_cons_zero, List.set_cons_succ]
                                refine wpAnyH_take (i := 2) (v := .int .i64 (j : Int)) rfl (by kernel_rfl) (by kernel_rfl) (by kernel_rfl) (fun _ _ _ h => h) (Or.inl ⟨by rfl, fun w_ hS_ => by (first | (go_simp; done) | (go_simp; rfl))⟩) trivial ?_
                                try simp only [Act.put, List.getElem_toArray, List.getElem_cons_zero, List.getElem_cons_succ, List.setIfInBounds_toArray, List.set_cons_zero, List.set_cons_succ]
                                refine wpAnyH_take (i := 3) (v := .slice (some ⟨gp, 0, none⟩) al2.length c9) rfl (by kernel_rfl) (by kernel_rfl) (by kernel_rfl) (fun _ _ _ h => h) (Or.inl ⟨by rfl, fun w_ hS_ => by (first | (go_simp; done) | (go_simp; rfl))⟩) trivial ?_
                                try simp only [Act.put, List.getElem_toArray, List.getElem_cons_zero, List.getElem_cons_succ, List.setIfInBounds_toArray, List.set_cons_zero, List.set_cons_succ]
                                refine wpAnyH_take (i := 4) (v := .int .i64 (kk : Int)) rfl (by kernel_rfl) (by kernel_rfl) (by kernel_rfl) (fun _ _ _ h => h) (Or.inl ⟨by rfl, fun w_ hS_ => by (first | (go_simp; done) | (go_simp; rfl))⟩) trivial ?_
                                try simp only [Act.put, List.getElem_toArray, List.getElem_cons_zero, List.getElem_cons_succ, List.setIfInBounds_toArray, List.set_cons_zero, List.set_cons_succ]
                                refine wpAnyH_take (i := 5) (v := .int .i64 (j : Int)) rfl (by kernel_rfl) (by kernel_rfl) (by kernel_rfl) (fun _ _ _ h => h) (Or.inl ⟨by rfl, fun w_ hS_ => by (first | (go_simp; done) | (go_simp; rfl))⟩) trivial ?_
                                try simp only [Act.put, List.getElem_toArray, List.getElem_cons_zero, List.getElem_cons_succ, List.setIfInBounds_toArray, List.set_cons_zero, List.set_cons_succ]
                                refine wpAnyH_take (i := 6) (v := .pointer (some ⟨gp, kk * 17, none⟩)) rfl (by kernel_rfl) (by kernel_rfl) (by kernel_rfl) (fun _ _ _ h => h) (Or.inl ⟨by rfl, fun w_ hS_ => by (first | (go_simp; done) | (go_simp; rfl))⟩) trivial ?_
                                try simp only [Act.put, List.getElem_toArray, List.getElem_cons_zero, List.getElem_cons_succ, List.setIfInBounds_toArray, List.set_cons_zero, List.set_cons_succ]
                                refine wpAnyH_take (i := 7) (v := .pointer (some ⟨gp, kk * 17 + 12, none⟩)) rfl (by kernel_rfl) (by kernel_rfl) (by kernel_rfl) (fun _ _ _ h => h) (Or.inl ⟨by rfl, fun w_ hS_ => by (first | (go_simp; done) | (go_simp; rfl))⟩) trivial ?_
                                try simp only [Act.put, List.getElem_toArray, List.getElem_cons_zero, List.getElem_cons_succ, List.setIfInBounds_toArray, List.set_cons_zero, List.set_cons_succ]
                                refine wpAnyH_take (i := 8) (v := .pointer (some ⟨gp, kk * 17 + 12 + j, none⟩)) rfl (by kernel_rfl) (by kernel_rfl) (by kernel_rfl) (fun _ _ _ h => h) (Or.inl ⟨by rfl, fun w_ hS_ => by (first | (go_simp; done) | (go_simp; rfl))⟩) trivial ?_
                                try simp only [Act.put, List.getElem_toArray, List.getElem_cons_zero, List.getElem_cons_succ, List.setIfInBounds_toArray, List.set_cons_zero, List.set_cons_succ]
                                refine wpAnyH_take (i := 14) (v := .pointer (some ⟨gp, kk * 17, none⟩)) rfl (by kernel_rfl) (by kernel_rfl) (by kernel_rfl) (fun _ _ _ h => h) (Or.inl ⟨by rfl, fun w_ hS_ => by (first | (go_simp; done) | (go_simp; rfl))⟩) trivial ?_
                                try simp only [Act.put, List.getElem_toArray, List.getElem_cons_zero, List.getElem_cons_succ, List.setIfInBounds_toArray, List.set_cons_zero, List.set_cons_succ]
                                refine wpAnyH_take (i := 15) (v := .pointer (some ⟨gp, kk * 17 + 12, none⟩)) rfl (by kernel_rfl) (by kernel_rfl) (by kernel_rfl) (fun _ _ _ h => h) (Or.inl ⟨by rfl, fun w_ hS_ => by (first | (go_simp; done) | (go_simp; rfl))⟩) trivial ?_
                                try simp only [Act.put, List.getElem_toArray, List.getElem_cons_zero, List.getElem_cons_succ, List.setIfInBounds_toArray, List.set_cons_zero, List.set_cons_succ]
                                refine wpAnyH_ready (rs := [9]) (by kernel_rfl) (by simp) ?_
                                refine AllReadyH.cons rfl (fun K hK => ?_) AllReadyH.nil
                                rw [if_pos (by rfl)]
                                have c_ := pqCell hu HPK.out j (by omega) (by rw [HPV.out, HVB.out])
                                go_simp
                                clear c_
                                refine hK.out _ _ trivial (fun hH => ?_)
                                clear hK K hH
                                try simp only [Act.put, List.getElem_toArray, List.getElem_cons_zero, List.getElem_cons_succ, List.setIfInBounds_toArray, List.set_cons_zero, List.set_cons_succ]
                                refine wpAnyH_take (i := 10) (v := .bool false) rfl (by kernel_rfl) (by kernel_rfl) (by kernel_rfl) (fun _ _ _ h => h) (Or.inl ⟨by rfl, fun w_ hS_ => by (first | (go_simp; done) | (go_simp; rfl))⟩) trivial ?_
                                try simp only [Act.put, List.getElem_toArray, List.getElem_cons_zero, List.getElem_cons_succ, List.setIfInBounds_toArray, List.set_cons_zero, List.set_cons_succ]
                                refine wpAnyH_take (i := 11) (v := .int .i64 (a.how br bn 1 p.x)) rfl (by kernel_rfl) (by kernel_rfl) (by kernel_rfl) (fun _ _ _ h => h) (Or.inl ⟨by rfl, fun w_ hS_ => by (first | (go_simp; done) | (go_simp; rfl))⟩) trivial ?_
                                try simp only [Act.put, List.getElem_toArray, List.getElem_cons_zero, List.getElem_cons_succ, List.setIfInBounds_toArray, List.set_cons_zero, List.set_cons_succ]
                                refine wpAnyH_take (i := 12) (v := .bool (decide ((a.how br bn 1 p.x) = 3))) rfl (by kernel_rfl) (by kernel_rfl) (by kernel_rfl) (fun _ _ _ h => h) (Or.inl ⟨by rfl, fun w_ hS_ => by (first | (go_simp; done) | (go_simp; rfl))⟩) trivial ?_
                                try simp only [Act.put, List.getElem_toArray, List.getElem_cons_zero, List.getElem_cons_succ, List.setIfInBounds_toArray, List.set_cons_zero, List.set_cons_succ]
                                refine wpAnyH_take (i := 13) (v := .bool (decide ((a.how br bn 1 p.x) = 3))) rfl (by kernel_rfl) (by kernel_rfl) (by kernel_rfl) (fun _ _ _ h => h) (Or.inl ⟨by rfl, fun w_ hS_ => by (first | (go_simp; done) | (go_simp; rfl))⟩) trivial ?_
                                try simp only [Act.put, List.getElem_toArray, List.getElem_cons_zero, List.getElem_cons_succ, List.setIfInBounds_toArray, List.set_cons_zero, List.set_cons_succ]
                                refine wpAnyH_take (i := 16) (v := .pointer (some ⟨gp, kk * 17 + 12 + j, none⟩)) rfl (by kernel_rfl) (by kernel_rfl) (by kernel_rfl) (fun _ _ _ h => h) (Or.inl ⟨by rfl, fun w_ hS_ => by (first | (go_simp; done) | (go_simp; rfl))⟩) trivial ?_
                                try simp only [Act.put, List.getElem_toArray, List.getElem_cons_zero, List.getElem_cons_succ, List.setIfInBounds_toArray, List.set_cons_zero, List.set_cons_succ]
                                refine wpAnyH_ready (rs := [17]) (by kernel_rfl) (by simp) ?_
                                refine AllReadyH.cons rfl (fun K hK => ?_) AllReadyH.nil
                                rw [if_pos (by rfl)]
                                have f_ : q6.frozen? ⟨gp, kk * 17 + 12 + j, none⟩ = false := World.ownsRow.frozenAt hu _
                                have c_ := pqCell hu HPK.out j (by omega) (by rw [HPV.out, HVB.out])
                                go_simp
                                clear f_ c_
                                have N_ := (World.ownsRow.stored hu (kk * 17 + 12 + j) (.bool (decide ((a.how br bn 1 p.x) = 3)))).1
                                rw [pqStore HPK.out (by rw [HPV.out]; exact HJV.out) j (by omega) (decide ((a.how br bn 1 p.x) = 3))] at N_
                                have hg_ := (hu.lt gp rfl).1
                                have ee := belowC (g := gp) (by omega) [.bool (decide ((a.how br bn 1 p.x) = 3))] (kk * 17 + 12 + j) q6 ee
                                have Zg := hpCo (g' := gp) (fun e_ => ogKind hu Zg (by decide) (by rw [e_]; rfl)) [.bool (decide ((a.how br bn 1 p.x) = 3))] (kk * 17 + 12 + j) q6 Zg
                                have Zs := hpCo (g' := gp) (fun e_ => ogKind hu Zs (by decide) (by rw [e_]; rfl)) [.bool (decide ((a.how br bn 1 p.x) = 3))] (kk * 17 + 12 + j) q6 Zs
                                have Zb := hpCo (g' := gp) (fun e_ => ogKind hu Zb (by decide) (by rw [e_]; rfl)) [.bool (decide ((a.how br bn 1 p.x) = 3))] (kk * 17 + 12 + j) q6 Zb
                                have Zn := hpCo (g' := gp) (fun e_ => ogKind hu Zn (by decide) (by rw [e_]; rfl)) [.bool (decide ((a.how br bn 1 p.x) = 3))] (kk * 17 + 12 + j) q6 Zn
                                clear hu hg_
                                have hu : (q6.setCells (gp) (kk * 17 + 12 + j) [.bool (decide ((a.how br bn 1 p.x) = 3))]).ownsRow _ _ _ _ _ _ := N_
                                clear N_
                                change K _ (q6.setCells (gp) (kk * 17 + 12 + j) [.bool (decide ((a.how br bn 1 p.x) = 3))])
                                generalize q6.setCells (gp) (kk * 17 + 12 + j) [.bool (decide ((a.how br bn 1 p.x) = 3))] = q7 at Zg Zs Zb Zn hu ee ⊢
                                refine hK.out _ _ trivial (fun hH => ?_)
                                clear hK K hH
                                try simp only [Act.put, List.getElem_toArray, List.getElem_cons_zero, List.getElem_cons_succ, List.setIfInBounds_toArray, List.set_cons_zero, List.set_cons_succ]
                                refine wpAnyH_done (by kernel_rfl) ?_ _
                                clear hj0 hj6 hk0 hk1
                                rw [List.set_set, HPV.out] at hu
                                have HP9 : Hid (({ p' with vo := vo.set j (decide ((a.how br bn 1 p.x) = 3)) } : One.Pq) = { p with vo := vo.set j (decide ((a.how br bn 1 p.x) = 3)) }) := by show _ = _; rw [HPP.out]
                                rw [HP9.out] at hu
                                go_wp2_with fail
                                go_roundw
                                case rel => exact ⟨j + 1, by omega, by go_num, by rw [HA.out]; exact Zg, by rw [HA.out]; exact hu, Zs, Zb, ee⟩
                                case measure => simp [intOf]; omega
                        · obtain rfl : n = j := by omega
                          clear hlt2 hj HVM HVJ
                          generalize One.vot (tb s.vt) br bn p.x l1 p.vo n = R at HVG hu Zg
                          obtain ⟨l', vo⟩ := R
                          simp only at HVG hu Zg
                          have hl9 : (al2.set kk { p with vo := vo }).length = al2.length := List.length_set
                          generalize al2.set kk { p with vo := vo } = al9 at HVG hu hl9
                          rw [← hl9] at hu ⊢
                          have hl99 : al9.length ≤ t + 1 := by omega
                          clear hl9
                          go_wp2_with fail
                          go_roundw
                          case rel => (first | exact ⟨t + 1, l', al9, some ⟨gp, 0, none⟩, c9, by omega, by go_num, rfl, (by show _ ≤ _; omega), HVG, Zg, hu, ee⟩ | ((repeat apply Exists.intro); exact ⟨⟨t + 1, l', al9, some ⟨gp, 0, none⟩, c9, by omega, by go_num, rfl, (by show _ ≤ _; omega), HVG, Zg, hu, ee⟩, rfl⟩))
                          case measure => simp [intOf]; omega
            · obtain rfl : sn = t := by omega
              clear hlt ht
              obtain ⟨A8, c8, e8, hc8, hR8, _⟩ := flatOwn pqL (by omega) hu
              injection e8 with e81 e82 e83
              subst e81
              subst e83
              have hw8 := ee.size
              have HSI := Lib.hid (osingle A c n all wr hs5 (by omega) hc8 hR8 (fun x y hx hy => by obtain ⟨V, hV⟩ := HG.out; exact One.chosen_same hV hx hy))
              clear hu e82 hR8
              go_upto_region 33 with fail
              refine wp_region_lit ?_
              go_wp2_with fail
              refine (HSI.out).mono ?_
              rintro e v1 ⟨rfl, t⟩
              have Zg := hpB Zg t
              have ee := ee.trans (t.mono ee.size)
              clear t
              go_wp2_with fail
              go_ret
              exact ⟨rfl, ee⟩
theorem acceptOne_walk (W : World) (hT : Tabs W) (v0 v1 : Value) (h0 : Arg W 5 v0) (h1 : Arg W 60 v1) :
    Calls Tryd.prog 5 #[v0, v1] W fun e W' => e = .returned (.bool true) ∧ Below W.heap.size W W' := by
  obtain ⟨m, rfl, hm8⟩ := h0.u8 Tryd.underlying5
  obtain ⟨A, c, ls, rfl, h2, h3, h4, h5⟩ := h1.osts
  exact aone_mid A c ls m hm8 W h2 h3 h4 h5 hT
end Go.Proofs.YtbahooohkigcnaaDoor
