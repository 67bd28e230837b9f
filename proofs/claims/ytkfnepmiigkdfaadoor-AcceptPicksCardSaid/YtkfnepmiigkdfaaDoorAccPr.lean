/- The walk of the reference's Pick. Conditions: the script lies below; the tables lie. (Printed by gen_accp.py.) -/
import Derived.Test.YtkfnepmiigkdfaaDoorAccPk
namespace Go.Proofs.YtkfnepmiigkdfaaDoor
set_option maxRecDepth 20000
open Go.RowKit T
set_option linter.unusedSimpArgs false
set_option linter.unusedVariables false

theorem sizeRBal : (Tryd.prog.info? 40).map (·.size) = some 2 := by kernel_rfl
set_option maxHeartbeats 6400000 in
theorem rpick_any (A : Option Addr) (c : Nat) (l : List Ac) (w : World) (B0 : Nat) (hl : l.length ≤ 1000000) (hc : l.length ≤ c) (hR : RowsAt w B0 A 16 (l.map Ac.cells)) (hB : B0 ≤ w.heap.size) :
    Calls Tryd.prog 15 #[.slice A l.length c] w fun e w' => e = .returned (.tuple #[.agg (best (topOf l) l).c.cells.toArray, .bool (best (topOf l) l).ha]) ∧ Below w.heap.size w w' := by
  obtain ⟨n, hn⟩ : ∃ n, n = l.length := ⟨_, rfl⟩
  have HN := Lib.hid hn
  have HR := Lib.hid hR
  rw [← hn] at hc hl ⊢
  clear hn hR
  obtain ⟨u, hu⟩ : ∃ u, u = topOf l := ⟨_, rfl⟩
  have HU : Hid (topOf l = u) := hu.symm
  rw [← hu]
  clear hu
  obtain ⟨w0, hw0⟩ : ∃ w0, w0 = w.alloc (.cells #[.int .i64 0, .int .i64 0, .int .i64 0, .slice none 0 0, .slice none 0 0, .int .i64 0, .int .i64 0, .int .i64 0, .int .u64 0, .bool false] 41) := ⟨_, rfl⟩
  have ee : Below w.heap.size w w0 := by rw [hw0]; exact (Below.refl _ _).alloc (Nat.le_refl _) _
  have Zr : w0.heap[w.heap.size]? = some (.cells #[.int .i64 0, .int .i64 0, .int .i64 0, .slice none 0 0, .slice none 0 0, .int .i64 0, .int .i64 0, .int .i64 0, .int .u64 0, .bool false] 41) := by rw [hw0]; exact hpN _ _ rfl
  go_enter Tryd.func15, Tryd.ntmps15
  go_upto_region 1 with fail
  rw [← hw0]
  clear hw0
  go_wp2_with fail
  go_loopw [4, 5] (fun bv i wr => ∃ (k : Nat) (b : Int), k ≤ n ∧ i = .int .i64 (k : Int) ∧ bv = .int .i64 b ∧ Hid (PickAt u l k b) ∧ Hid (wr.heap[w.heap.size]? = some (.cells #[.int .i64 0, .int .i64 0, .int .i64 0, .slice none 0 0, .slice none 0 0, .int .i64 0, .int .i64 0, .int .i64 0, .int .u64 0, .bool false] 41)) ∧ Hid (Below w.heap.size w wr)) (fun _ i _ => n - (intOf i).toNat)
  case atStart => exact ⟨0, -1, Nat.zero_le _, rfl, rfl, PickAt.zero u l, Zr, ee⟩
  case round =>
    clear Zr ee
    obtain ⟨k, b, hk, rfl, rfl, HP, Zr, ee⟩ := hrel
    by_cases hlt : k < n
    · have hkl : k < l.length := by rw [← HN.out]; exact hlt
      obtain ⟨bo, off, rfl, hbo0, hr⟩ := rowsGet HR.out hkl
      have hbo : bo < w.heap.size := Nat.lt_of_lt_of_le hbo0 hB
      have HMEM : Hid (l[k]'hkl ∈ l) := List.getElem_mem hkl
      have HKE : Hid (takes u (best u (l.take k)) (l[k]'hkl) = false → PickAt u l (k + 1) b) := fun h => HP.out.keep hkl h
      have HTA : Hid (takes u (best u (l.take k)) (l[k]'hkl) = true → PickAt u l (k + 1) (k : Int)) := fun h => HP.out.take hkl h
      generalize l[k] = x at hr HMEM HKE HTA
      go_wp2_with fail
      go_loopw [6, 7] (fun f j wr => ∃ (m : Nat) (q : Bool), m ≤ n ∧ j = .int .i64 (m : Int) ∧ f = .bool q ∧ Hid (q = true ↔ ∀ y ∈ l.take m, y.sl ≤ x.sl) ∧ Hid (wr.heap[w.heap.size]? = some (.cells #[.int .i64 0, .int .i64 0, .int .i64 0, .slice none 0 0, .slice none 0 0, .int .i64 0, .int .i64 0, .int .i64 0, .int .u64 0, .bool false] 41)) ∧ Hid (Below w.heap.size w wr)) (fun _ j _ => n - (intOf j).toNat)
      case atStart => exact ⟨0, true, Nat.zero_le _, rfl, rfl, by show _ ↔ _; simp, Zr, ee⟩
      case round =>
        clear Zr ee
        obtain ⟨m, q, hm, rfl, rfl, HF, Zr, ee⟩ := hrel
        by_cases hmn : m < n
        · have hml : m < l.length := by rw [← HN.out]; exact hmn
          have hy := rowsAtK HR.out (List.getElem?_eq_getElem hml)
          have HY : Hid (∀ z, z ∈ l.take (m + 1) ↔ z ∈ l.take m ∨ z = l[m]'hml) := fun z => by
            rw [List.take_succ_eq_append_getElem hml, List.mem_append, List.mem_singleton]
          generalize l[m] = y at hy HY
          have y2 := rangeCell (rangeB hy ee.out hbo) 2 (v := .int .i64 y.sl) rfl
          have x2 := rangeCell (rangeB hr ee.out hbo) 2 (v := .int .i64 x.sl) rfl
          cases q with
          | false =>
            have HF2 : Hid (false = true ↔ ∀ z ∈ l.take (m + 1), z.sl ≤ x.sl) := by
              constructor
              · intro h; cases h
              · intro h; exact HF.out.2 fun z hz => h z ((HY.out z).2 (Or.inl hz))
            clear y2 x2
            go_wp2_with fail
            go_quiet (fail)
            go_wp2_with fail
            go_roundw
            case rel => exact ⟨m + 1, false, by omega, by go_num, rfl, HF2, Zr, belowDrewN ee.out _⟩
            case measure => simp [intOf]; omega
          | true =>
            have HF2 : Hid (decide (y.sl ≤ x.sl) = true ↔ ∀ z ∈ l.take (m + 1), z.sl ≤ x.sl) := by
              show _ ↔ _
              rw [decide_eq_true_eq]
              constructor
              · intro h z hz
                rcases (HY.out z).1 hz with hz | hz
                · exact HF.out.1 rfl z hz
                · rw [hz]; exact h
              · intro h; exact h y ((HY.out y).2 (Or.inr rfl))
            go_wp2_with fail
            go_quiet (fail)
            go_wp2_with fail
            go_roundw
            case rel => exact ⟨m + 1, _, by omega, by go_num, rfl, HF2, Zr, belowDrewN ee.out _⟩
            case measure => simp [intOf]; omega
        · obtain rfl : m = n := by omega
          have htk : l.take m = l := by rw [HN.out]; exact List.take_length
          rw [htk] at HF
          clear htk hmn
          have HQ : Hid (q = true ↔ x.sl = u) := by
            show _ ↔ _
            rw [HF.out, top_iff l x HMEM.out, HU.out]
          have x3 := rangeCell (rangeB hr ee.out hbo) 3 (v := .bool x.ha) rfl
          cases q with
          | false =>
            have HP2 : Hid (PickAt u l (k + 1) b) := HKE.out (by have h : x.sl ≠ u := fun h => Bool.noConfusion (HQ.out.2 h); simp [takes, h])
            clear HKE HTA x3
            go_wp2_with fail
            go_quiet (fail)
            go_wp2_with fail
            go_roundw
            case rel => exact ⟨k + 1, b, by omega, by go_num, rfl, HP2, Zr, belowDrewN ee.out _⟩
            case measure => simp [intOf]; omega
          | true =>
            have hxu : x.sl = u := HQ.out.1 rfl
            cases hx : x.ha with
            | false =>
              have HP2 : Hid (PickAt u l (k + 1) b) := HKE.out (by simp [takes, hx])
              rw [hx] at x3
              clear HKE HTA hx hxu
              go_wp2_with fail
              go_quiet (fail)
              go_wp2_with fail
              go_roundw
              case rel => exact ⟨k + 1, b, by omega, by go_num, rfl, HP2, Zr, belowDrewN ee.out _⟩
              case measure => simp [intOf]; omega
            | true =>
              rw [hx] at x3
              rcases HP.out with ⟨hb1, hb2⟩ | ⟨j, hb1, hb2, hb3⟩
              · have HP2 : Hid (PickAt u l (k + 1) (k : Int)) := HTA.out (by rw [hb2]; simp [takes, hx, hxu]; exact Or.inl rfl)
                subst hb1
                clear HKE HTA hx hxu hb2 HP
                go_wp2_with fail
                go_quiet (fail)
                go_wp2_with fail
                go_roundw
                case rel => exact ⟨k + 1, (k : Int), by omega, by go_num, rfl, HP2, Zr, belowDrewN ee.out _⟩
                case measure => simp [intOf]; omega
              · have hjl : j < l.length := (List.getElem?_eq_some_iff.1 hb2).1
                have hjm : j < m := by rw [HN.out]; exact hjl
                have hz := rowsAtK HR.out hb2
                subst hb1
                have HKE2 : Hid (B.less (best u (l.take k)).vr (best u (l.take k)).vn x.vr x.vn = false → PickAt u l (k + 1) (j : Int)) := fun h => HKE.out (by simp [takes, hx, hxu, hb3, Ac.bless, h])
                have HTA2 : Hid (B.less (best u (l.take k)).vr (best u (l.take k)).vn x.vr x.vn = true → PickAt u l (k + 1) (k : Int)) := fun h => HTA.out (by simp [takes, hx, hxu, hb3, Ac.bless, h])
                have hx3 := Lib.hid hx
                clear HKE HTA hb2 hb3 hx hxu HP
                generalize best u (l.take k) = b at hz HKE2 HTA2
                have HLE := Lib.hid (fun z => rbless_any b.vr b.vn x.vr x.vn z)
                generalize B.less b.vr b.vn x.vr x.vn = ml at HLE HKE2 HTA2
                have Zr := Zr.out
                have ee := ee.out
                have f1 : decide ((j : Int) < 0) = false := by simp
                clear x3
                go_upto_region 10 with fail
                have Zr : wr.drew.heap[w.heap.size]? = some (.cells #[.int .i64 0, .int .i64 0, .int .i64 0, .slice none 0 0, .slice none 0 0, .int .i64 0, .int .i64 0, .int .i64 0, .int .u64 0, .bool false] 41) := Zr
                have ee := belowDrewS ee
                refine wp_region_held_drew (S := fun z' => z'.cell? ⟨bo, off + k * 16 + 3, none⟩ = some (.bool true) ∧ z'.rangeAt bo (off + j * 16 + 4) [.int .u32 (b.vr : Int), .int .i64 b.vn] ∧ z'.rangeAt bo (off + k * 16 + 4) [.int .u32 (x.vr : Int), .int .i64 x.vn]) (by kernel_rfl) ⟨rangeCell (rangeB hr ee hbo) 3 (by rw [← hx3.out]; rfl), rangePart (rangeB hz ee hbo) (Ac.votes b), rangePart (rangeB hr ee hbo) (Ac.votes x)⟩ (fun hH => ?_)
                clear hH
                generalize wr.drew = z1 at Zr  ee ⊢
                refine wpAnyH_take (i := 0) (v := .bool true) rfl (by kernel_rfl) (by kernel_rfl) (by kernel_rfl) (fun _ _ _ h => h) (Or.inl ⟨by rfl, fun w_ hS_ => by (first | (go_simp; done) | (go_simp; rfl))⟩) ⟨rangeCell (rangeB hr ee hbo) 3 (by rw [← hx3.out]; rfl), rangePart (rangeB hz ee hbo) (Ac.votes b), rangePart (rangeB hr ee hbo) (Ac.votes x)⟩ ?_
                try simp only [Act.put, List.getElem_toArray, List.getElem_cons_zero, List.getElem_cons_succ, List.setIfInBounds_toArray, List.set_cons_zero, List.set_cons_succ]
                refine wpAnyH_take (i := 1) (v := .bool true) rfl (by kernel_rfl) (by kernel_rfl) (by kernel_rfl) (fun _ _ _ h => h) (Or.inl ⟨by rfl, fun w_ hS_ => by (first | (go_simp; done) | (go_simp; rfl))⟩) ⟨rangeCell (rangeB hr ee hbo) 3 (by rw [← hx3.out]; rfl), rangePart (rangeB hz ee hbo) (Ac.votes b), rangePart (rangeB hr ee hbo) (Ac.votes x)⟩ ?_
                try simp only [Act.put, List.getElem_toArray, List.getElem_cons_zero, List.getElem_cons_succ, List.setIfInBounds_toArray, List.set_cons_zero, List.set_cons_succ]
                refine wpAnyH_take (i := 2) (v := .slice (some ⟨bo, off, none⟩) m c) rfl (by kernel_rfl) (by kernel_rfl) (by kernel_rfl) (fun _ _ _ h => h) (Or.inl ⟨by rfl, fun w_ hS_ => by (first | (go_simp; done) | (go_simp; rfl))⟩) ⟨rangeCell (rangeB hr ee hbo) 3 (by rw [← hx3.out]; rfl), rangePart (rangeB hz ee hbo) (Ac.votes b), rangePart (rangeB hr ee hbo) (Ac.votes x)⟩ ?_
                try simp only [Act.put, List.getElem_toArray, List.getElem_cons_zero, List.getElem_cons_succ, List.setIfInBounds_toArray, List.set_cons_zero, List.set_cons_succ]
                refine wpAnyH_take (i := 3) (v := .int .i64 (k : Int)) rfl (by kernel_rfl) (by kernel_rfl) (by kernel_rfl) (fun _ _ _ h => h) (Or.inl ⟨by rfl, fun w_ hS_ => by (first | (go_simp; done) | (go_simp; rfl))⟩) ⟨rangeCell (rangeB hr ee hbo) 3 (by rw [← hx3.out]; rfl), rangePart (rangeB hz ee hbo) (Ac.votes b), rangePart (rangeB hr ee hbo) (Ac.votes x)⟩ ?_
                try simp only [Act.put, List.getElem_toArray, List.getElem_cons_zero, List.getElem_cons_succ, List.setIfInBounds_toArray, List.set_cons_zero, List.set_cons_succ]
                refine wpAnyH_take (i := 4) (v := .pointer (some ⟨bo, off + k * 16, none⟩)) rfl (by kernel_rfl) (by kernel_rfl) (by kernel_rfl) (fun _ _ _ h => h) (Or.inl ⟨by rfl, fun w_ hS_ => by (first | (go_simp; done) | (go_simp; rfl))⟩) ⟨rangeCell (rangeB hr ee hbo) 3 (by rw [← hx3.out]; rfl), rangePart (rangeB hz ee hbo) (Ac.votes b), rangePart (rangeB hr ee hbo) (Ac.votes x)⟩ ?_
                try simp only [Act.put, List.getElem_toArray, List.getElem_cons_zero, List.getElem_cons_succ, List.setIfInBounds_toArray, List.set_cons_zero, List.set_cons_succ]
                refine wpAnyH_take (i := 5) (v := .pointer (some ⟨bo, off + k * 16 + 3, none⟩)) rfl (by kernel_rfl) (by kernel_rfl) (by kernel_rfl) (fun _ _ _ h => h) (Or.inl ⟨by rfl, fun w_ hS_ => by (first | (go_simp; done) | (go_simp; rfl))⟩) ⟨rangeCell (rangeB hr ee hbo) 3 (by rw [← hx3.out]; rfl), rangePart (rangeB hz ee hbo) (Ac.votes b), rangePart (rangeB hr ee hbo) (Ac.votes x)⟩ ?_
                try simp only [Act.put, List.getElem_toArray, List.getElem_cons_zero, List.getElem_cons_succ, List.setIfInBounds_toArray, List.set_cons_zero, List.set_cons_succ]
                refine wpAnyH_take (i := 6) (v := .bool true) rfl (by kernel_rfl) (by kernel_rfl) (by kernel_rfl) (fun _ _ _ h => h) (Or.inl ⟨by rfl, fun w_ hS_ => by (obtain ⟨h1_, h2_, h3_⟩ := hS_; go_simp)⟩) ⟨rangeCell (rangeB hr ee hbo) 3 (by rw [← hx3.out]; rfl), rangePart (rangeB hz ee hbo) (Ac.votes b), rangePart (rangeB hr ee hbo) (Ac.votes x)⟩ ?_
                try simp only [Act.put, List.getElem_toArray, List.getElem_cons_zero, List.getElem_cons_succ, List.setIfInBounds_toArray, List.set_cons_zero, List.set_cons_succ]
                refine wpAnyH_take (i := 7) (v := .bool true) rfl (by kernel_rfl) (by kernel_rfl) (by kernel_rfl) (fun _ _ _ h => h) (Or.inl ⟨by rfl, fun w_ hS_ => by (first | (go_simp; done) | (go_simp; rfl))⟩) ⟨rangeCell (rangeB hr ee hbo) 3 (by rw [← hx3.out]; rfl), rangePart (rangeB hz ee hbo) (Ac.votes b), rangePart (rangeB hr ee hbo) (Ac.votes x)⟩ ?_
                try simp only [Act.put, List.getElem_toArray, List.getElem_cons_zero, List.getElem_cons_succ, List.setIfInBounds_toArray, List.set_cons_zero, List.set_cons_succ]
                refine wpAnyH_take (i := 8) (v := .bool true) rfl (by kernel_rfl) (by kernel_rfl) (by kernel_rfl) (fun _ _ _ h => h) (Or.inl ⟨by rfl, fun w_ hS_ => by (first | (go_simp; done) | (go_simp; rfl))⟩) ⟨rangeCell (rangeB hr ee hbo) 3 (by rw [← hx3.out]; rfl), rangePart (rangeB hz ee hbo) (Ac.votes b), rangePart (rangeB hr ee hbo) (Ac.votes x)⟩ ?_
                try simp only [Act.put, List.getElem_toArray, List.getElem_cons_zero, List.getElem_cons_succ, List.setIfInBounds_toArray, List.set_cons_zero, List.set_cons_succ]
                refine wpAnyH_take (i := 9) (v := .int .i64 (j : Int)) rfl (by kernel_rfl) (by kernel_rfl) (by kernel_rfl) (fun _ _ _ h => h) (Or.inl ⟨by rfl, fun w_ hS_ => by (first | (go_simp; done) | (go_simp; rfl))⟩) ⟨rangeCell (rangeB hr ee hbo) 3 (by rw [← hx3.out]; rfl), rangePart (rangeB hz ee hbo) (Ac.votes b), rangePart (rangeB hr ee hbo) (Ac.votes x)⟩ ?_
                try simp only [Act.put, List.getElem_toArray, List.getElem_cons_zero, List.getElem_cons_succ, List.setIfInBounds_toArray, List.set_cons_zero, List.set_cons_succ]
                refine wpAnyH_take (i := 10) (v := .bool false) rfl (by kernel_rfl) (by kernel_rfl) (by kernel_rfl) (fun _ _ _ h => h) (Or.inl ⟨by rfl, fun w_ hS_ => by (first | (go_simp; done) | (go_simp; rfl))⟩) ⟨rangeCell (rangeB hr ee hbo) 3 (by rw [← hx3.out]; rfl), rangePart (rangeB hz ee hbo) (Ac.votes b), rangePart (rangeB hr ee hbo) (Ac.votes x)⟩ ?_
                try simp only [Act.put, List.getElem_toArray, List.getElem_cons_zero, List.getElem_cons_succ, List.setIfInBounds_toArray, List.set_cons_zero, List.set_cons_succ]
                refine wpAnyH_take (i := 11) (v := .bool false) rfl (by kernel_rfl) (by kernel_rfl) (by kernel_rfl) (fun _ _ _ h => h) (Or.inl ⟨by rfl, fun w_ hS_ => by (first | (go_simp; done) | (go_simp; rfl))⟩) ⟨rangeCell (rangeB hr ee hbo) 3 (by rw [← hx3.out]; rfl), rangePart (rangeB hz ee hbo) (Ac.votes b), rangePart (rangeB hr ee hbo) (Ac.votes x)⟩ ?_
                try simp only [Act.put, List.getElem_toArray, List.getElem_cons_zero, List.getElem_cons_succ, List.setIfInBounds_toArray, List.set_cons_zero, List.set_cons_succ]
                refine wpAnyH_take (i := 12) (v := .slice (some ⟨bo, off, none⟩) m c) rfl (by kernel_rfl) (by kernel_rfl) (by kernel_rfl) (fun _ _ _ h => h) (Or.inl ⟨by rfl, fun w_ hS_ => by (first | (go_simp; done) | (go_simp; rfl))⟩) ⟨rangeCell (rangeB hr ee hbo) 3 (by rw [← hx3.out]; rfl), rangePart (rangeB hz ee hbo) (Ac.votes b), rangePart (rangeB hr ee hbo) (Ac.votes x)⟩ ?_
                try simp only [Act.put, List.getElem_toArray, List.getElem_cons_zero, List.getElem_cons_succ, List.setIfInBounds_toArray, List.set_cons_zero, List.set_cons_succ]
                refine wpAnyH_take (i := 13) (v := .int .i64 (j : Int)) rfl (by kernel_rfl) (by kernel_rfl) (by kernel_rfl) (fun _ _ _ h => h) (Or.inl ⟨by rfl, fun w_ hS_ => by (first | (go_simp; done) | (go_simp; rfl))⟩) ⟨rangeCell (rangeB hr ee hbo) 3 (by rw [← hx3.out]; rfl), rangePart (rangeB hz ee hbo) (Ac.votes b), rangePart (rangeB hr ee hbo) (Ac.votes x)⟩ ?_
                try simp only [Act.put, List.getElem_toArray, List.getElem_cons_zero, List.getElem_cons_succ, List.setIfInBounds_toArray, List.set_cons_zero, List.set_cons_succ]
                refine wpAnyH_take (i := 14) (v := .pointer (some ⟨bo, off + j * 16, none⟩)) rfl (by kernel_rfl) (by kernel_rfl) (by kernel_rfl) (fun _ _ _ h => h) (Or.inl ⟨by rfl, fun w_ hS_ => by (first | (go_simp; done) | (go_simp; rfl))⟩) ⟨rangeCell (rangeB hr ee hbo) 3 (by rw [← hx3.out]; rfl), rangePart (rangeB hz ee hbo) (Ac.votes b), rangePart (rangeB hr ee hbo) (Ac.votes x)⟩ ?_
                try simp only [Act.put, List.getElem_toArray, List.getElem_cons_zero, List.getElem_cons_succ, List.setIfInBounds_toArray, List.set_cons_zero, List.set_cons_succ]
                refine wpAnyH_take (i := 15) (v := .pointer (some ⟨bo, off + j * 16 + 4, none⟩)) rfl (by kernel_rfl) (by kernel_rfl) (by kernel_rfl) (fun _ _ _ h => h) (Or.inl ⟨by rfl, fun w_ hS_ => by (first | (go_simp; done) | (go_simp; rfl))⟩) ⟨rangeCell (rangeB hr ee hbo) 3 (by rw [← hx3.out]; rfl), rangePart (rangeB hz ee hbo) (Ac.votes b), rangePart (rangeB hr ee hbo) (Ac.votes x)⟩ ?_
                try simp only [Act.put, List.getElem_toArray, List.getElem_cons_zero, List.getElem_cons_succ, List.setIfInBounds_toArray, List.set_cons_zero, List.set_cons_succ]
                refine wpAnyH_take (i := 16) (v := .agg ([.int .u32 (b.vr : Int), .int .i64 b.vn]).toArray) rfl (by kernel_rfl) (by kernel_rfl) (by kernel_rfl) (fun _ _ _ h => h) (yieldsIf_load_mid (by rfl) 40 _ rfl (bo) (off + j * 16 + 4) rfl ([.int .u32 (b.vr : Int), .int .i64 b.vn]) _ (fun _ h => h.2.1) Tryd.underlying40 rfl sizeRBal) ⟨rangeCell (rangeB hr ee hbo) 3 (by rw [← hx3.out]; rfl), rangePart (rangeB hz ee hbo) (Ac.votes b), rangePart (rangeB hr ee hbo) (Ac.votes x)⟩ ?_
                try simp only [Act.put, List.getElem_toArray, List.getElem_cons_zero, List.getElem_cons_succ, List.setIfInBounds_toArray, List.set_cons_zero, List.set_cons_succ]
                refine wpAnyH_take (i := 17) (v := .slice (some ⟨bo, off, none⟩) m c) rfl (by kernel_rfl) (by kernel_rfl) (by kernel_rfl) (fun _ _ _ h => h) (Or.inl ⟨by rfl, fun w_ hS_ => by (first | (go_simp; done) | (go_simp; rfl))⟩) ⟨rangeCell (rangeB hr ee hbo) 3 (by rw [← hx3.out]; rfl), rangePart (rangeB hz ee hbo) (Ac.votes b), rangePart (rangeB hr ee hbo) (Ac.votes x)⟩ ?_
                try simp only [Act.put, List.getElem_toArray, List.getElem_cons_zero, List.getElem_cons_succ, List.setIfInBounds_toArray, List.set_cons_zero, List.set_cons_succ]
                refine wpAnyH_take (i := 18) (v := .int .i64 (k : Int)) rfl (by kernel_rfl) (by kernel_rfl) (by kernel_rfl) (fun _ _ _ h => h) (Or.inl ⟨by rfl, fun w_ hS_ => by (first | (go_simp; done) | (go_simp; rfl))⟩) ⟨rangeCell (rangeB hr ee hbo) 3 (by rw [← hx3.out]; rfl), rangePart (rangeB hz ee hbo) (Ac.votes b), rangePart (rangeB hr ee hbo) (Ac.votes x)⟩ ?_
                try simp only [Act.put, List.getElem_toArray, List.getElem_cons_zero, List.getElem_cons_succ, List.setIfInBounds_toArray, List.set_cons_zero, List.set_cons_succ]
                refine wpAnyH_take (i := 19) (v := .pointer (some ⟨bo, off + k * 16, none⟩)) rfl (by kernel_rfl) (by kernel_rfl) (by kernel_rfl) (fun _ _ _ h => h) (Or.inl ⟨by rfl, fun w_ hS_ => by (first | (go_simp; done) | (go_simp; rfl))⟩) ⟨rangeCell (rangeB hr ee hbo) 3 (by rw [← hx3.out]; rfl), rangePart (rangeB hz ee hbo) (Ac.votes b), rangePart (rangeB hr ee hbo) (Ac.votes x)⟩ ?_
                try simp only [Act.put, List.getElem_toArray, List.getElem_cons_zero, List.getElem_cons_succ, List.setIfInBounds_toArray, List.set_cons_zero, List.set_cons_succ]
                refine wpAnyH_take (i := 20) (v := .pointer (some ⟨bo, off + k * 16 + 4, none⟩)) rfl (by kernel_rfl) (by kernel_rfl) (by kernel_rfl) (fun _ _ _ h => h) (Or.inl ⟨by rfl, fun w_ hS_ => by (first | (go_simp; done) | (go_simp; rfl))⟩) ⟨rangeCell (rangeB hr ee hbo) 3 (by rw [← hx3.out]; rfl), rangePart (rangeB hz ee hbo) (Ac.votes b), rangePart (rangeB hr ee hbo) (Ac.votes x)⟩ ?_
                try simp only [Act.put, List.getElem_toArray, List.getElem_cons_zero, List.getElem_cons_succ, List.setIfInBounds_toArray, List.set_cons_zero, List.set_cons_succ]
                refine wpAnyH_take (i := 21) (v := .agg ([.int .u32 (x.vr : Int), .int .i64 x.vn]).toArray) rfl (by kernel_rfl) (by kernel_rfl) (by kernel_rfl) (fun _ _ _ h => h) (yieldsIf_load_mid (by rfl) 40 _ rfl (bo) (off + k * 16 + 4) rfl ([.int .u32 (x.vr : Int), .int .i64 x.vn]) _ (fun _ h => h.2.2) Tryd.underlying40 rfl sizeRBal) ⟨rangeCell (rangeB hr ee hbo) 3 (by rw [← hx3.out]; rfl), rangePart (rangeB hz ee hbo) (Ac.votes b), rangePart (rangeB hr ee hbo) (Ac.votes x)⟩ ?_
                try simp only [Act.put, List.getElem_toArray, List.getElem_cons_zero, List.getElem_cons_succ, List.setIfInBounds_toArray, List.set_cons_zero, List.set_cons_succ]
                refine wpAnyH_ready (rs := [22]) (by kernel_rfl) (by simp) ?_
                refine AllReadyH.cons rfl (fun K hK => ?_) AllReadyH.nil
                rw [if_pos (by rfl)]
                go_simp
                go_wp2_with (go_at_call 44; refine (HLE.out z1).mono ?_; rintro e z2 ⟨rfl, t⟩)
                have Zr := hpB Zr t
                have ee := ee.trans (t.mono ee.size)
                clear t
                refine hK.out _ _ ⟨rangeCell (rangeB hr ee hbo) 3 (by rw [← hx3.out]; rfl), rangePart (rangeB hz ee hbo) (Ac.votes b), rangePart (rangeB hr ee hbo) (Ac.votes x)⟩ (fun hH => ?_)
                clear hK K hH
                try simp only [Act.put, List.getElem_toArray, List.getElem_cons_zero, List.getElem_cons_succ, List.setIfInBounds_toArray, List.set_cons_zero, List.set_cons_succ]
                refine wpAnyH_take (i := 23) (v := .bool ml) rfl (by kernel_rfl) (by kernel_rfl) (by kernel_rfl) (fun _ _ _ h => h) (Or.inl ⟨by rfl, fun w_ hS_ => by (first | (go_simp; done) | (go_simp; rfl))⟩) ⟨rangeCell (rangeB hr ee hbo) 3 (by rw [← hx3.out]; rfl), rangePart (rangeB hz ee hbo) (Ac.votes b), rangePart (rangeB hr ee hbo) (Ac.votes x)⟩ ?_
                try simp only [Act.put, List.getElem_toArray, List.getElem_cons_zero, List.getElem_cons_succ, List.setIfInBounds_toArray, List.set_cons_zero, List.set_cons_succ]
                refine wpAnyH_take (i := 24) (v := .bool ml) rfl (by kernel_rfl) (by kernel_rfl) (by kernel_rfl) (fun _ _ _ h => h) (Or.inl ⟨by rfl, fun w_ hS_ => by (first | (go_simp; done) | (go_simp; rfl))⟩) ⟨rangeCell (rangeB hr ee hbo) 3 (by rw [← hx3.out]; rfl), rangePart (rangeB hz ee hbo) (Ac.votes b), rangePart (rangeB hr ee hbo) (Ac.votes x)⟩ ?_
                try simp only [Act.put, List.getElem_toArray, List.getElem_cons_zero, List.getElem_cons_succ, List.setIfInBounds_toArray, List.set_cons_zero, List.set_cons_succ]
                refine wpAnyH_done (by kernel_rfl) ?_ _
                cases ml with
                | false =>
                  have HP2 : Hid (PickAt u l (k + 1) (j : Int)) := HKE2.out rfl
                  clear HKE2 HTA2 HLE
                  go_wp2_with fail
                  go_roundw
                  case rel => exact ⟨k + 1, (j : Int), by omega, by go_num, rfl, HP2, Zr, ee⟩
                  case measure => simp [intOf]; omega
                | true =>
                  have HP2 : Hid (PickAt u l (k + 1) (k : Int)) := HTA2.out rfl
                  clear HKE2 HTA2 HLE
                  go_wp2_with fail
                  go_roundw
                  case rel => exact ⟨k + 1, (k : Int), by omega, by go_num, rfl, HP2, Zr, ee⟩
                  case measure => simp [intOf]; omega
    · obtain rfl : k = n := by omega
      have htk : l.take k = l := by rw [HN.out]; exact List.take_length
      have HPO := HP.out
      unfold PickAt at HPO
      rw [htk] at HPO
      clear htk hlt HP
      have Zr := Zr.out
      have ee := ee.out
      rcases HPO with ⟨hb1, hb2⟩ | ⟨j, hb1, hb2, hb3⟩
      · subst hb1
        have HB := Lib.hid hb2
        clear hb2
        go_upto_region 13 with fail
        refine wp_region_lit ?_
        iterate 27 (first | with_reducible refine isStore (ty := 41) rfl ?_ | go_step)
        refine wpList_store_row rfl 41 _ _ rfl (w.heap.size) (Cm.zero.cells).toArray rfl rfl 41 _ Zr sizeRCm (by rfl) (Cm.one _) ?_
        have N_ := setRow_heap wr (w.heap.size) _ (Cm.zero.cells).toArray _ _ Zr
        have ee := belowSet (cs := (Cm.zero.cells).toArray) ee Zr (by omega)
        clear Zr
        have Zr := N_
        clear N_
        generalize wr.setRow (w.heap.size) (Cm.zero.cells).toArray = z1 at Zr ee ⊢
        go_wp2_with fail
        refine bodyPost_ret (v := .tuple #[.agg Cm.zero.cells.toArray, .bool false]) (res_ct rfl rfl rfl Zr Tryd.underlying41 rfl sizeRCm) rfl ⟨by rw [HB.out]; rfl, ee⟩
      · subst hb1
        have hjl : j < l.length := (List.getElem?_eq_some_iff.1 hb2).1
        have hjm : j < k := by rw [HN.out]; exact hjl
        obtain ⟨bo, off, rfl, hbo0, _⟩ := rowsGet HR.out hjl
        have hbo : bo < w.heap.size := Nat.lt_of_lt_of_le hbo0 hB
        have hz := rowsAtK HR.out hb2
        have HB3 := Lib.hid hb3
        clear hb2 hb3
        have f1 : decide ((j : Int) < 0) = false := by simp
        obtain ⟨b, hbb⟩ : ∃ b, b = best u l := ⟨_, rfl⟩
        have HBB : Hid (best u l = b) := hbb.symm
        rw [← hbb] at hz HB3
        clear hbb
        go_upto_region 14 with fail
        refine wp_region_lit ?_
        iterate 27 (first | with_reducible refine isLoad (ty := 41) rfl ?_ | go_step)
        refine wpList_load_mid rfl 41 _ rfl (bo) (off + j * 16 + 6) rfl (b.c.cells) _ (rangePart (rangeB hz ee hbo) (Ac.part b)) Tryd.underlying41 rfl sizeRCm ?_
        iterate 27 (first | with_reducible refine isStore (ty := 41) rfl ?_ | go_step)
        refine wpList_store_row rfl 41 _ _ rfl (w.heap.size) (b.c.cells).toArray rfl rfl 41 _ Zr sizeRCm (by rfl) (Cm.one _) ?_
        have N_ := setRow_heap wr (w.heap.size) _ (b.c.cells).toArray _ _ Zr
        have ee := belowSet (cs := (b.c.cells).toArray) ee Zr (by omega)
        clear Zr
        have Zr := N_
        clear N_
        generalize wr.setRow (w.heap.size) (b.c.cells).toArray = z1 at Zr ee ⊢
        go_wp2_with fail
        refine bodyPost_ret (v := .tuple #[.agg b.c.cells.toArray, .bool true]) (res_ct rfl rfl rfl Zr Tryd.underlying41 rfl sizeRCm) rfl ⟨by rw [HBB.out, HB3.out], ee⟩
end Go.Proofs.YtkfnepmiigkdfaaDoor
