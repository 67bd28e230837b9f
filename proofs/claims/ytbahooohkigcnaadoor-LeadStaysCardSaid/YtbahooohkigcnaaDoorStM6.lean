/- An act on both leaders. Conditions: what lies, lies below; the tables lie. (Printed by gen_stays.py.) -/
import Derived.Test.YtbahooohkigcnaaDoorStM4
import Derived.Test.YtbahooohkigcnaaDoorStM5
import Derived.Test.YtbahooohkigcnaaDoorTxnE
namespace Go.Proofs.YtbahooohkigcnaaDoor
set_option maxRecDepth 20000
open Go.RowKit T Ag
set_option linter.unusedSimpArgs false
set_option linter.unusedVariables false

/-- what an act keeps of the program's leader -/
def LAct (kd : Int) (L L' : Ld) : Prop := NLs L L' ∧ (kd ≠ 1 → L'.br = L.br ∧ L'.bn = L.bn) ∧ (kd ≠ 1 → kd ≠ 5 → L.sl ≠ 0 → L'.sl = L.sl ∧ L'.x = L.x)
theorem LAct.ofKeep {kd : Int} {L L' : Ld} (h : LKeep L L') : LAct kd L L' := ⟨NLs.same h.1 h.2.1, fun _ => ⟨h.1, h.2.1⟩, fun _ _ => h.2.2⟩
theorem plain19 (a : Ac) (w : World) : Calls Tryd.prog 85 #[.agg a.cells.toArray] w fun e w' => e = .returned (.agg a.cells.toArray) ∧ Below w.heap.size w w' := by
  show Calls Tryd.prog 85 #[.agg #[.int .u32 (a.pr : Int), .int .i64 a.pn, .int .i64 a.sl, .bool a.ha, .int .u32 (a.vr : Int), .int .i64 a.vn, .int .i64 a.c.k, .int .i64 a.c.s, .int .i64 a.c.q, .slice a.c.A1 a.c.rs.length a.c.c1, .slice a.c.A2 a.c.ws.length a.c.c2, .int .i64 a.c.i, .int .i64 a.c.j, .int .i64 a.c.g, .int .u64 (a.c.st : Int), .bool a.c.y]] w fun e w' => e = .returned (.agg #[.int .u32 (a.pr : Int), .int .i64 a.pn, .int .i64 a.sl, .bool a.ha, .int .u32 (a.vr : Int), .int .i64 a.vn, .int .i64 a.c.k, .int .i64 a.c.s, .int .i64 a.c.q, .slice a.c.A1 a.c.rs.length a.c.c1, .slice a.c.A2 a.c.ws.length a.c.c2, .int .i64 a.c.i, .int .i64 a.c.j, .int .i64 a.c.g, .int .u64 (a.c.st : Int), .bool a.c.y]) ∧ Below w.heap.size w w'
  generalize a.c.rs.length = n1
  generalize a.c.ws.length = n2
  go_enter Tryd.func85, Tryd.ntmps85
  go_wp2_with fail
  refine bodyPost_ret (v := .agg #[.int .u32 (a.pr : Int), .int .i64 a.pn, .int .i64 a.sl, .bool a.ha, .int .u32 (a.vr : Int), .int .i64 a.vn, .int .i64 a.c.k, .int .i64 a.c.s, .int .i64 a.c.q, .slice a.c.A1 n1 a.c.c1, .slice a.c.A2 n2 a.c.c2, .int .i64 a.c.i, .int .i64 a.c.j, .int .i64 a.c.g, .int .u64 (a.c.st : Int), .bool a.c.y]) (by simp [results, Tryd.results85, go_sem]) rfl ⟨rfl, ?_⟩
  exact ((Below.refl _ _).alloc (Nat.le_refl _) _).alloc (by simp) _
set_option maxHeartbeats 25600000 in
theorem act19 (w : World) (B h r t : Nat) (L : Ld) (R : Rl) (o : LOp) (hk : LdK w B h t L) (hr : RlAt w B r t R) (ht : t ≤ 500) (okx : CmOk w B o.x) (oka : CmOk w B o.a.c) (hbr : o.br < 4294967296) (h6 : o.kd ≠ 6) (hT : ∀ z, Below B w z → Tabs z) :
    Calls Tryd.prog 44 #[.pointer (some ⟨h, 0, none⟩), .pointer (some ⟨r, 0, none⟩), .agg o.cells.toArray] w fun e w' => RetB e ∧ (∃ L', LdK w' B h (t + 1) L' ∧ LAct o.kd L L') ∧ (∃ R', RlAt w' B r (t + 1) R') ∧ Below B w w' ∧ KeepT w w' := by
  have KQ := KeepT.refl w
  have HT := Lib.hid hT
  have HK := Lib.hid hk
  have HR := Lib.hid hr
  have HX := Lib.hid okx
  have HA := Lib.hid oka
  have HBR := Lib.hid hbr
  have HBL := Lib.hid hk.b4
  have hlh := hk.lt
  have hBh := hk.hB
  have hlr := hr.lt
  have hB : B ≤ w.heap.size := by omega
  obtain ⟨w0, hw0⟩ : ∃ w0, w0 = w.alloc (.cells o.cells.toArray 99) := ⟨_, rfl⟩
  have e2 : Below w.heap.size w w0 := by rw [hw0]; exact (Below.refl _ _).alloc (Nat.le_refl _) _
  have ee : Below B w w0 := e2.mono hB
  have Zo : w0.heap[w.heap.size]? = some (.cells o.cells.toArray 99) := by rw [hw0]; exact hpN _ _ rfl
  clear hT hk hr okx oka hbr
  go_enter Tryd.func44, Tryd.ntmps44
  go_upto_region 1 with fail
  change Code.wp _ _ _ _ (w.alloc (.cells o.cells.toArray 99))
  rw [← hw0]
  clear hw0
  refine wp_region_lit ?_
  iterate 27 (first | with_reducible refine isLoad (ty := 28) rfl ?_ | go_step)
  refine wpList_load_mid rfl 28 _ rfl (w.heap.size) (3) rfl ([.int .u32 (o.br : Int), .int .i64 o.bn]) _ (rowMid Zo (3) (LOp.cb o)) Tryd.underlying28 rfl sizeBal ?_
  iterate 3 go_step
  have lZo := (Array.getElem?_eq_some_iff.1 Zo).1
  have sz_ := ee.size
  have Zo := hpA Zo (.cells #[.int .u32 0, .int .i64 0] 28)
  have ee := ee.alloc (Nat.le_trans hB ee.size) (.cells #[.int .u32 0, .int .i64 0] 28)
  have e2 := e2.alloc e2.size (.cells #[.int .u32 0, .int .i64 0] 28)
  have Zb := hpN w0 (.cells #[.int .u32 0, .int .i64 0] 28) rfl
  generalize w0.alloc (.cells #[.int .u32 0, .int .i64 0] 28) = z1 at Zo Zb ee e2 ⊢
  obtain ⟨gb, hg_gb⟩ : ∃ g_, g_ = w0.heap.size := ⟨_, rfl⟩
  have hgb : w.heap.size < gb := by have := e2.size; have := (Array.getElem?_eq_some_iff.1 Zo).1; omega
  rw [← hg_gb] at Zb ⊢
  clear hg_gb
  iterate 27 (first | with_reducible refine isStore (ty := 28) rfl ?_ | go_step)
  refine wpList_store_row rfl 28 _ _ rfl (gb) ([.int .u32 (o.br : Int), .int .i64 o.bn]).toArray rfl rfl 28 _ Zb sizeBal (by rfl) (by simp [Value.oneCell']) ?_
  have N_ := setRow_heap z1 (gb) _ ([.int .u32 (o.br : Int), .int .i64 o.bn]).toArray _ _ Zb
  have ee := belowSet (cs := ([.int .u32 (o.br : Int), .int .i64 o.bn]).toArray) ee Zb (by omega)
  have e2 := belowSet (cs := ([.int .u32 (o.br : Int), .int .i64 o.bn]).toArray) e2 Zb (by omega)
  have Zo := hpR Zo (g' := gb) (by omega) ([.int .u32 (o.br : Int), .int .i64 o.bn]).toArray
  clear Zb
  have Zb := N_
  clear N_
  generalize z1.setRow (gb) ([.int .u32 (o.br : Int), .int .i64 o.bn]).toArray = z2 at Zo Zb ee e2 ⊢
  have c5 := rowCell Zo 5 (v := .bool o.own) rfl
  generalize o.own = ow at c5
  cases ow with
  | true =>
    go_upto_region 3 with fail
    refine wp_region_lit ?_
    go_wp2_with fail
    refine (lballot z2 h L (HK.out.below e2).blk).mono ?_
    rintro e z3 ⟨rfl, t⟩
    have Zo := hpB Zo t
    have Zb := hpB Zb t
    have ee := ee.trans (t.mono (Nat.le_trans hB ee.size))
    have e2 := e2.trans (t.mono e2.size)
    clear t
    try dsimp only
    rename_i hK
    refine hK _ _ ?_
    clear hK
    iterate 27 (first | with_reducible refine isStore (ty := 28) rfl ?_ | go_step)
    refine wpList_store_row rfl 28 _ _ rfl (gb) ([.int .u32 (L.br : Int), .int .i64 L.bn]).toArray rfl rfl 28 _ Zb sizeBal (by rfl) (by simp [Value.oneCell']) ?_
    have N_ := setRow_heap z3 (gb) _ ([.int .u32 (L.br : Int), .int .i64 L.bn]).toArray _ _ Zb
    have ee := belowSet (cs := ([.int .u32 (L.br : Int), .int .i64 L.bn]).toArray) ee Zb (by omega)
    have e2 := belowSet (cs := ([.int .u32 (L.br : Int), .int .i64 L.bn]).toArray) e2 Zb (by omega)
    have Zo := hpR Zo (g' := gb) (by omega) ([.int .u32 (L.br : Int), .int .i64 L.bn]).toArray
    clear Zb
    have Zb := N_
    clear N_
    generalize z3.setRow (gb) ([.int .u32 (L.br : Int), .int .i64 L.bn]).toArray = z4 at Zo Zb ee e2 ⊢
    go_upto_region 4 with fail
    clear c5
    refine wp_region_lit ?_
    iterate 27 (first | with_reducible refine isLoad (ty := 28) rfl ?_ | go_step)
    refine wpList_load_mid rfl 28 _ rfl (gb) 0 rfl (([.int .u32 (L.br : Int), .int .i64 L.bn])) _ (rowAt Zb) Tryd.underlying28 rfl sizeBal ?_
    iterate 3 go_step
    have s2_ := e2.size
    have lZo := (Array.getElem?_eq_some_iff.1 Zo).1
    have lZb := (Array.getElem?_eq_some_iff.1 Zb).1
    have sz_ := ee.size
    have Zo := hpA Zo (.cells #[.int .u32 0, .int .i64 0] 40)
    have Zb := hpA Zb (.cells #[.int .u32 0, .int .i64 0] 40)
    have ee := ee.alloc (Nat.le_trans hB ee.size) (.cells #[.int .u32 0, .int .i64 0] 40)
    have e2 := e2.alloc e2.size (.cells #[.int .u32 0, .int .i64 0] 40)
    have Zc := hpN z4 (.cells #[.int .u32 0, .int .i64 0] 40) rfl
    generalize z4.alloc (.cells #[.int .u32 0, .int .i64 0] 40) = z5 at Zo Zb Zc ee e2 ⊢
    obtain ⟨gc, hg_gc⟩ : ∃ g_, g_ = z4.heap.size := ⟨_, rfl⟩
    have hgc : w.heap.size < gc := by omega
    have n1_ : gb < gc := by omega
    have n3_ : w.heap.size ≤ gc := by omega
    rw [← hg_gc] at Zc ⊢
    clear hg_gc
    iterate 27 (first | with_reducible refine isStore (ty := 40) rfl ?_ | go_step)
    refine wpList_store_row rfl 40 _ _ rfl (gc) ([.int .u32 (L.br : Int), .int .i64 L.bn]).toArray rfl rfl 40 _ Zc sizeRBal (by rfl) (by simp [Value.oneCell']) ?_
    have N_ := setRow_heap z5 (gc) _ ([.int .u32 (L.br : Int), .int .i64 L.bn]).toArray _ _ Zc
    have ee := belowSet (cs := ([.int .u32 (L.br : Int), .int .i64 L.bn]).toArray) ee Zc (by omega)
    have e2 := belowSet (cs := ([.int .u32 (L.br : Int), .int .i64 L.bn]).toArray) e2 Zc (by omega)
    have Zo := hpR Zo (g' := gc) (by omega) ([.int .u32 (L.br : Int), .int .i64 L.bn]).toArray
    have Zb := hpR Zb (g' := gc) (by omega) ([.int .u32 (L.br : Int), .int .i64 L.bn]).toArray
    clear Zc
    have Zc := N_
    clear N_
    generalize z5.setRow (gc) ([.int .u32 (L.br : Int), .int .i64 L.bn]).toArray = z6 at Zo Zb Zc ee e2 ⊢
    have c0 := rowCell Zo 0 (v := .int .i64 o.kd) rfl
    by_cases k1 : o.kd = 1
    · have e1 : (o.kd == 1) = true := by rw [k1]; rfl
      go_upto_region 7 with fail
      clear c0 e1
      refine wp_region_lit ?_
      iterate 27 (first | with_reducible refine isLoad (ty := 28) rfl ?_ | go_step)
      refine wpList_load_mid rfl 28 _ rfl (gb) 0 rfl (([.int .u32 (L.br : Int), .int .i64 L.bn])) _ (rowAt Zb) Tryd.underlying28 rfl sizeBal ?_
      go_wp2_with fail
      refine (kstart z6 B h t L L.br L.bn HBL.out (HK.out.below e2)).mono ?_
      rintro e z7 ⟨⟨a1, b1, g1, rfl⟩, ⟨L9, hk9, hst⟩, f_, p_⟩
      have Zo := f_.heap Zo (fun q_ => q_.elim (fun q_ => by have := HK.out.lt; omega) (fun q_ => ogKind (HK.out.below e2).row Zo (by decide) q_))
      have Zb := f_.heap Zb (fun q_ => q_.elim (fun q_ => by have := HK.out.lt; omega) (fun q_ => ogKind (HK.out.below e2).row Zb (by decide) q_))
      have Zc := f_.heap Zc (fun q_ => q_.elim (fun q_ => by have := HK.out.lt; omega) (fun q_ => ogKind (HK.out.below e2).row Zc (by decide) q_))
      have KQ := (KQ.below e2).trans ((HK.out.below e2).keepT f_)
      have HR9 : Hid (RlAt z7 B r t R) := (HR.out.below e2).moved (HK.out.below e2) f_ p_
      clear HR
      have HR := HR9
      clear HR9
      clear HK
      have HK := Lib.hid hk9
      clear hk9 f_ e2
      have ee := ee.trans p_
      have e2 : Below z7.heap.size z7 z7 := Below.refl _ _
      clear p_
      have HST := Lib.hid hst
      clear hst
      try dsimp only
      rename_i hK
      refine hK _ _ ?_
      clear hK
      iterate 12 go_step
      have s2_ := e2.size
      have lZo := (Array.getElem?_eq_some_iff.1 Zo).1
      have lZb := (Array.getElem?_eq_some_iff.1 Zb).1
      have lZc := (Array.getElem?_eq_some_iff.1 Zc).1
      have sz_ := ee.size
      have Zo := hpA Zo (.cells #[.int .u32 0, .int .i64 0] 28)
      have Zb := hpA Zb (.cells #[.int .u32 0, .int .i64 0] 28)
      have Zc := hpA Zc (.cells #[.int .u32 0, .int .i64 0] 28)
      have ee := ee.alloc (Nat.le_trans hB ee.size) (.cells #[.int .u32 0, .int .i64 0] 28)
      have e2 := e2.alloc e2.size (.cells #[.int .u32 0, .int .i64 0] 28)
      have Zp := hpN z7 (.cells #[.int .u32 0, .int .i64 0] 28) rfl
      generalize z7.alloc (.cells #[.int .u32 0, .int .i64 0] 28) = z8 at Zo Zb Zc Zp ee e2 ⊢
      obtain ⟨gp, hg_gp⟩ : ∃ g_, g_ = z7.heap.size := ⟨_, rfl⟩
      have hgp : w.heap.size < gp := by omega
      have n_gb_gp : gb < gp := by omega
      have n_gc_gp : gc < gp := by omega
      have n3_ : z7.heap.size ≤ gp := by omega
      rw [← hg_gp] at Zp ⊢
      clear hg_gp
      iterate 27 (first | with_reducible refine isStore (ty := 28) rfl ?_ | go_step)
      refine wpList_store_row rfl 28 _ _ rfl (gp) ([.int .u32 (a1 : Int), .int .i64 b1]).toArray rfl rfl 28 _ Zp sizeBal (by rfl) (by simp [Value.oneCell']) ?_
      have N_ := setRow_heap z8 (gp) _ ([.int .u32 (a1 : Int), .int .i64 b1]).toArray _ _ Zp
      have ee := belowSet (cs := ([.int .u32 (a1 : Int), .int .i64 b1]).toArray) ee Zp (by omega)
      have e2 := belowSet (cs := ([.int .u32 (a1 : Int), .int .i64 b1]).toArray) e2 Zp (by omega)
      have Zo := hpR Zo (g' := gp) (by omega) ([.int .u32 (a1 : Int), .int .i64 b1]).toArray
      have Zb := hpR Zb (g' := gp) (by omega) ([.int .u32 (a1 : Int), .int .i64 b1]).toArray
      have Zc := hpR Zc (g' := gp) (by omega) ([.int .u32 (a1 : Int), .int .i64 b1]).toArray
      clear Zp
      have Zp := N_
      clear N_
      generalize z8.setRow (gp) ([.int .u32 (a1 : Int), .int .i64 b1]).toArray = z9 at Zo Zb Zc Zp ee e2 ⊢
      go_upto_region 8 with fail
      refine wp_region_lit ?_
      iterate 27 (first | with_reducible refine isLoad (ty := 40) rfl ?_ | go_step)
      refine wpList_load_mid rfl 40 _ rfl (gc) 0 rfl (([.int .u32 (L.br : Int), .int .i64 L.bn])) _ (rowAt Zc) Tryd.underlying40 rfl sizeRBal ?_
      go_wp2_with fail
      refine (rstart z9 B r t R L.br L.bn HBL.out (HR.out.below e2)).mono ?_
      rintro e z10 ⟨⟨a2, b2, g2, rfl⟩, ⟨R9, hr9⟩, f_, p_⟩
      have Zo := (HR.out.below e2).heap f_ Zo (by decide) (by decide) (by decide)
      have Zb := (HR.out.below e2).heap f_ Zb (by decide) (by decide) (by decide)
      have Zc := (HR.out.below e2).heap f_ Zc (by decide) (by decide) (by decide)
      have Zp := (HR.out.below e2).heap f_ Zp (by decide) (by decide) (by decide)
      have KQ := (KQ.below e2).trans ((HR.out.below e2).keepT f_)
      have HK9 : Hid (LdK z10 B h (t + 1) L9) := (HK.out.below e2).other (HR.out.below e2) f_ p_
      clear HK
      have HK := HK9
      clear HK9
      clear HR
      have HR := Lib.hid hr9
      clear hr9 f_ e2
      have ee := ee.trans p_
      have e2 : Below z10.heap.size z10 z10 := Below.refl _ _
      clear p_
      try dsimp only
      rename_i hK
      refine hK _ _ ?_
      clear hK
      iterate 12 go_step
      have s2_ := e2.size
      have lZo := (Array.getElem?_eq_some_iff.1 Zo).1
      have lZb := (Array.getElem?_eq_some_iff.1 Zb).1
      have lZc := (Array.getElem?_eq_some_iff.1 Zc).1
      have lZp := (Array.getElem?_eq_some_iff.1 Zp).1
      have sz_ := ee.size
      have Zo := hpA Zo (.cells #[.int .u32 0, .int .i64 0] 40)
      have Zb := hpA Zb (.cells #[.int .u32 0, .int .i64 0] 40)
      have Zc := hpA Zc (.cells #[.int .u32 0, .int .i64 0] 40)
      have Zp := hpA Zp (.cells #[.int .u32 0, .int .i64 0] 40)
      have ee := ee.alloc (Nat.le_trans hB ee.size) (.cells #[.int .u32 0, .int .i64 0] 40)
      have e2 := e2.alloc e2.size (.cells #[.int .u32 0, .int .i64 0] 40)
      have Zq := hpN z10 (.cells #[.int .u32 0, .int .i64 0] 40) rfl
      generalize z10.alloc (.cells #[.int .u32 0, .int .i64 0] 40) = z11 at Zo Zb Zc Zp Zq ee e2 ⊢
      obtain ⟨gq, hg_gq⟩ : ∃ g_, g_ = z10.heap.size := ⟨_, rfl⟩
      have hgq : w.heap.size < gq := by omega
      have n_gb_gq : gb < gq := by omega
      have n_gc_gq : gc < gq := by omega
      have n_gp_gq : gp < gq := by omega
      have n3_ : z10.heap.size ≤ gq := by omega
      rw [← hg_gq] at Zq ⊢
      clear hg_gq
      iterate 27 (first | with_reducible refine isStore (ty := 40) rfl ?_ | go_step)
      refine wpList_store_row rfl 40 _ _ rfl (gq) ([.int .u32 (a2 : Int), .int .i64 b2]).toArray rfl rfl 40 _ Zq sizeRBal (by rfl) (by simp [Value.oneCell']) ?_
      have N_ := setRow_heap z11 (gq) _ ([.int .u32 (a2 : Int), .int .i64 b2]).toArray _ _ Zq
      have ee := belowSet (cs := ([.int .u32 (a2 : Int), .int .i64 b2]).toArray) ee Zq (by omega)
      have e2 := belowSet (cs := ([.int .u32 (a2 : Int), .int .i64 b2]).toArray) e2 Zq (by omega)
      have Zo := hpR Zo (g' := gq) (by omega) ([.int .u32 (a2 : Int), .int .i64 b2]).toArray
      have Zb := hpR Zb (g' := gq) (by omega) ([.int .u32 (a2 : Int), .int .i64 b2]).toArray
      have Zc := hpR Zc (g' := gq) (by omega) ([.int .u32 (a2 : Int), .int .i64 b2]).toArray
      have Zp := hpR Zp (g' := gq) (by omega) ([.int .u32 (a2 : Int), .int .i64 b2]).toArray
      clear Zq
      have Zq := N_
      clear N_
      generalize z11.setRow (gq) ([.int .u32 (a2 : Int), .int .i64 b2]).toArray = z12 at Zo Zb Zc Zp Zq ee e2 ⊢
      go_upto_region 9 with fail
      have p0 := rowCell Zp 0 rfl
      have p1 := rowCell Zp 1 rfl
      have q0 := rowCell Zq 0 rfl
      have q1 := rowCell Zq 1 rfl
      have hI := run_eqRBal9 a1 b1 a2 b2
      generalize decide (a1 = a2 ∧ b1 = b2) = d1 at hI
      generalize hg12 : (g1 == g2) = d2
      cases d1 with
      | false =>
        go_wp2_with fail
        go_ret
        exact ⟨RetB.mk _, ⟨L9, HK.out.below e2, ⟨HST.out, fun q => absurd k1 q, fun q => absurd k1 q⟩⟩, ⟨R9, HR.out.below e2⟩, ee, KQ.below e2⟩
      | true =>
        go_wp2_with fail
        go_ret
        exact ⟨RetB.mk _, ⟨L9, HK.out.below e2, ⟨HST.out, fun q => absurd k1 q, fun q => absurd k1 q⟩⟩, ⟨R9, HR.out.below e2⟩, ee, KQ.below e2⟩
    · have e1 : (o.kd == 1) = false := by simpa using k1
      by_cases k2 : o.kd = 2
      · have e3 : (o.kd == 2) = true := by rw [k2]; rfl
        go_upto_region 11 with fail
        clear c0 e1 e3
        have Zo : z6.drew.heap[w.heap.size]? = some (.cells o.cells.toArray 99) := Zo
        have Zb : z6.drew.heap[gb]? = some (.cells ([.int .u32 (L.br : Int), .int .i64 L.bn]).toArray 28) := Zb
        have Zc : z6.drew.heap[gc]? = some (.cells ([.int .u32 (L.br : Int), .int .i64 L.bn]).toArray 40) := Zc
        have ee := belowDrewS ee
        have e2 := belowDrewS e2
        refine wp_region_held_drew (S := fun z' => z'.cell? ⟨w.heap.size, 1, none⟩ = some (.int .i64 o.nd) ∧ z'.rangeAt gb (0) ([.int .u32 (L.br : Int), .int .i64 L.bn]) ∧ z'.rangeAt w.heap.size (6) o.a.cells ∧ z'.rangeAt gc (0) ([.int .u32 (L.br : Int), .int .i64 L.bn])) (by kernel_rfl) ⟨(rowCell Zo (1) rfl), (rowAt Zb), (rowMid Zo (6) (LOp.ca o)), (rowAt Zc)⟩ (fun hH => ?_)
        clear hH
        generalize z6.drew = z7 at Zo Zb Zc ee e2 ⊢
        refine wpAnyH_take (i := 0) (v := .pointer (some ⟨h, 0, none⟩)) rfl (by kernel_rfl) (by kernel_rfl) (by kernel_rfl) (fun _ _ _ h => h) (Or.inl ⟨by rfl, fun w_ hS_ => by (first | (go_simp; done) | (go_simp; rfl))⟩) ⟨(rowCell Zo (1) rfl), (rowAt Zb), (rowMid Zo (6) (LOp.ca o)), (rowAt Zc)⟩ ?_
        try simp only [Act.put, List.getElem_toArray, List.getElem_cons_zero, List.getElem_cons_succ, List.setIfInBounds_toArray, List.set_cons_zero, List.set_cons_succ]
        refine wpAnyH_take (i := 1) (v := .pointer (some ⟨w.heap.size, 1, none⟩)) rfl (by kernel_rfl) (by kernel_rfl) (by kernel_rfl) (fun _ _ _ h => h) (Or.inl ⟨by rfl, fun w_ hS_ => by (first | (go_simp; done) | (go_simp; rfl))⟩) ⟨(rowCell Zo (1) rfl), (rowAt Zb), (rowMid Zo (6) (LOp.ca o)), (rowAt Zc)⟩ ?_
        try simp only [Act.put, List.getElem_toArray, List.getElem_cons_zero, List.getElem_cons_succ, List.setIfInBounds_toArray, List.set_cons_zero, List.set_cons_succ]
        refine wpAnyH_take (i := 2) (v := .int .i64 o.nd) rfl (by kernel_rfl) (by kernel_rfl) (by kernel_rfl) (fun _ _ _ h => h) (Or.inl ⟨by rfl, fun w_ hS_ => by (have c_ := hS_.1; first | (go_simp; done) | (go_simp; rfl))⟩) ⟨(rowCell Zo (1) rfl), (rowAt Zb), (rowMid Zo (6) (LOp.ca o)), (rowAt Zc)⟩ ?_
        try simp only [Act.put, List.getElem_toArray, List.getElem_cons_zero, List.getElem_cons_succ, List.setIfInBounds_toArray, List.set_cons_zero, List.set_cons_succ]
        refine wpAnyH_take (i := 3) (v := .agg ([.int .u32 (L.br : Int), .int .i64 L.bn]).toArray) rfl (by kernel_rfl) (by kernel_rfl) (by kernel_rfl) (fun _ _ _ h => h) (yieldsIf_load_mid (by rfl) 28 _ rfl (gb) (0) rfl ([.int .u32 (L.br : Int), .int .i64 L.bn]) _ (fun _ h => h.2.1) Tryd.underlying28 rfl sizeBal) ⟨(rowCell Zo (1) rfl), (rowAt Zb), (rowMid Zo (6) (LOp.ca o)), (rowAt Zc)⟩ ?_
        try simp only [Act.put, List.getElem_toArray, List.getElem_cons_zero, List.getElem_cons_succ, List.setIfInBounds_toArray, List.set_cons_zero, List.set_cons_succ]
        refine wpAnyH_take (i := 4) (v := .pointer (some ⟨w.heap.size, 6, none⟩)) rfl (by kernel_rfl) (by kernel_rfl) (by kernel_rfl) (fun _ _ _ h => h) (Or.inl ⟨by rfl, fun w_ hS_ => by (first | (go_simp; done) | (go_simp; rfl))⟩) ⟨(rowCell Zo (1) rfl), (rowAt Zb), (rowMid Zo (6) (LOp.ca o)), (rowAt Zc)⟩ ?_
        try simp only [Act.put, List.getElem_toArray, List.getElem_cons_zero, List.getElem_cons_succ, List.setIfInBounds_toArray, List.set_cons_zero, List.set_cons_succ]
        refine wpAnyH_take (i := 5) (v := .agg (o.a.cells).toArray) rfl (by kernel_rfl) (by kernel_rfl) (by kernel_rfl) (fun _ _ _ h => h) (yieldsIf_load_mid (by rfl) 39 _ rfl (w.heap.size) (6) rfl (o.a.cells) _ (fun _ h => h.2.2.1) Tryd.underlying39 rfl sizeAc) ⟨(rowCell Zo (1) rfl), (rowAt Zb), (rowMid Zo (6) (LOp.ca o)), (rowAt Zc)⟩ ?_
        try simp only [Act.put, List.getElem_toArray, List.getElem_cons_zero, List.getElem_cons_succ, List.setIfInBounds_toArray, List.set_cons_zero, List.set_cons_succ]
        refine wpAnyH_take (i := 7) (v := .pointer (some ⟨r, 0, none⟩)) rfl (by kernel_rfl) (by kernel_rfl) (by kernel_rfl) (fun _ _ _ h => h) (Or.inl ⟨by rfl, fun w_ hS_ => by (first | (go_simp; done) | (go_simp; rfl))⟩) ⟨(rowCell Zo (1) rfl), (rowAt Zb), (rowMid Zo (6) (LOp.ca o)), (rowAt Zc)⟩ ?_
        try simp only [Act.put, List.getElem_toArray, List.getElem_cons_zero, List.getElem_cons_succ, List.setIfInBounds_toArray, List.set_cons_zero, List.set_cons_succ]
        refine wpAnyH_take (i := 8) (v := .pointer (some ⟨w.heap.size, 1, none⟩)) rfl (by kernel_rfl) (by kernel_rfl) (by kernel_rfl) (fun _ _ _ h => h) (Or.inl ⟨by rfl, fun w_ hS_ => by (first | (go_simp; done) | (go_simp; rfl))⟩) ⟨(rowCell Zo (1) rfl), (rowAt Zb), (rowMid Zo (6) (LOp.ca o)), (rowAt Zc)⟩ ?_
        try simp only [Act.put, List.getElem_toArray, List.getElem_cons_zero, List.getElem_cons_succ, List.setIfInBounds_toArray, List.set_cons_zero, List.set_cons_succ]
        refine wpAnyH_take (i := 9) (v := .int .i64 o.nd) rfl (by kernel_rfl) (by kernel_rfl) (by kernel_rfl) (fun _ _ _ h => h) (Or.inl ⟨by rfl, fun w_ hS_ => by (have c_ := hS_.1; first | (go_simp; done) | (go_simp; rfl))⟩) ⟨(rowCell Zo (1) rfl), (rowAt Zb), (rowMid Zo (6) (LOp.ca o)), (rowAt Zc)⟩ ?_
        try simp only [Act.put, List.getElem_toArray, List.getElem_cons_zero, List.getElem_cons_succ, List.setIfInBounds_toArray, List.set_cons_zero, List.set_cons_succ]
        refine wpAnyH_take (i := 10) (v := .agg ([.int .u32 (L.br : Int), .int .i64 L.bn]).toArray) rfl (by kernel_rfl) (by kernel_rfl) (by kernel_rfl) (fun _ _ _ h => h) (yieldsIf_load_mid (by rfl) 40 _ rfl (gc) (0) rfl ([.int .u32 (L.br : Int), .int .i64 L.bn]) _ (fun _ h => h.2.2.2) Tryd.underlying40 rfl sizeRBal) ⟨(rowCell Zo (1) rfl), (rowAt Zb), (rowMid Zo (6) (LOp.ca o)), (rowAt Zc)⟩ ?_
        try simp only [Act.put, List.getElem_toArray, List.getElem_cons_zero, List.getElem_cons_succ, List.setIfInBounds_toArray, List.set_cons_zero, List.set_cons_succ]
        refine wpAnyH_take (i := 11) (v := .pointer (some ⟨w.heap.size, 6, none⟩)) rfl (by kernel_rfl) (by kernel_rfl) (by kernel_rfl) (fun _ _ _ h => h) (Or.inl ⟨by rfl, fun w_ hS_ => by (first | (go_simp; done) | (go_simp; rfl))⟩) ⟨(rowCell Zo (1) rfl), (rowAt Zb), (rowMid Zo (6) (LOp.ca o)), (rowAt Zc)⟩ ?_
        try simp only [Act.put, List.getElem_toArray, List.getElem_cons_zero, List.getElem_cons_succ, List.setIfInBounds_toArray, List.set_cons_zero, List.set_cons_succ]
        refine wpAnyH_take (i := 12) (v := .agg (o.a.cells).toArray) rfl (by kernel_rfl) (by kernel_rfl) (by kernel_rfl) (fun _ _ _ h => h) (yieldsIf_load_mid (by rfl) 39 _ rfl (w.heap.size) (6) rfl (o.a.cells) _ (fun _ h => h.2.2.1) Tryd.underlying39 rfl sizeAc) ⟨(rowCell Zo (1) rfl), (rowAt Zb), (rowMid Zo (6) (LOp.ca o)), (rowAt Zc)⟩ ?_
        try simp only [Act.put, List.getElem_toArray, List.getElem_cons_zero, List.getElem_cons_succ, List.setIfInBounds_toArray, List.set_cons_zero, List.set_cons_succ]
        refine wpAnyH_ready (rs := [6]) (by kernel_rfl) (by simp) ?_
        refine AllReadyH.cons rfl (fun K hK => ?_) AllReadyH.nil
        rw [if_pos (by rfl)]
        go_simp
        go_wp2_with (go_at_call 36; refine (kpromise z7 B h t L o.nd L.br L.bn o.a (HK.out.below e2) (by omega) (HA.out.below ee (Nat.le_refl _)) (HT.out _ ee)).mono ?_; rintro e z8 ⟨⟨b1, rfl⟩, ⟨L9, hk9, hst⟩, f_, p_⟩)
        have Zo := f_.heap Zo (fun q_ => q_.elim (fun q_ => by have := HK.out.lt; omega) (fun q_ => ogKind (HK.out.below e2).row Zo (by decide) q_))
        have Zb := f_.heap Zb (fun q_ => q_.elim (fun q_ => by have := HK.out.lt; omega) (fun q_ => ogKind (HK.out.below e2).row Zb (by decide) q_))
        have Zc := f_.heap Zc (fun q_ => q_.elim (fun q_ => by have := HK.out.lt; omega) (fun q_ => ogKind (HK.out.below e2).row Zc (by decide) q_))
        have HST := Lib.hid hst
        clear hst
        have KQ := (KQ.below e2).trans ((HK.out.below e2).keepT f_)
        have HR9 : Hid (RlAt z8 B r t R) := (HR.out.below e2).moved (HK.out.below e2) f_ p_
        clear HR
        have HR := HR9
        clear HR9
        clear HK
        have HK := Lib.hid hk9
        clear hk9 f_ e2
        have ee := ee.trans p_
        have e2 : Below z8.heap.size z8 z8 := Below.refl _ _
        clear p_
        refine hK.out _ _ ⟨(rowCell Zo (1) rfl), (rowAt Zb), (rowMid Zo (6) (LOp.ca o)), (rowAt Zc)⟩ (fun hH => ?_)
        clear hK K hH
        try simp only [Act.put, List.getElem_toArray, List.getElem_cons_zero, List.getElem_cons_succ, List.setIfInBounds_toArray, List.set_cons_zero, List.set_cons_succ]
        refine wpAnyH_ready (rs := [13]) (by kernel_rfl) (by simp) ?_
        refine AllReadyH.cons rfl (fun K hK => ?_) AllReadyH.nil
        rw [if_pos (by rfl)]
        go_simp
        go_wp2_with (go_at_call 85; refine (plain19 o.a z8).mono ?_; rintro e z9 ⟨rfl, t_⟩)
        have Zo := hpB Zo t_
        have Zb := hpB Zb t_
        have Zc := hpB Zc t_
        have ee := ee.trans (t_.mono (Nat.le_trans hB ee.size))
        have e2 := e2.trans (t_.mono e2.size)
        clear t_
        refine hK.out _ _ ⟨(rowCell Zo (1) rfl), (rowAt Zb), (rowMid Zo (6) (LOp.ca o)), (rowAt Zc)⟩ (fun hH => ?_)
        clear hK K hH
        try simp only [Act.put, List.getElem_toArray, List.getElem_cons_zero, List.getElem_cons_succ, List.setIfInBounds_toArray, List.set_cons_zero, List.set_cons_succ]
        refine wpAnyH_ready (rs := [14]) (by kernel_rfl) (by simp) ?_
        refine AllReadyH.cons rfl (fun K hK => ?_) AllReadyH.nil
        rw [if_pos (by rfl)]
        go_simp
        go_wp2_with (go_at_call 84; refine (rpromise z9 B r t R o.nd L.br L.bn o.a (HR.out.below e2) (by omega) (HA.out.below ee (Nat.le_refl _))).mono ?_; rintro e z10 ⟨⟨b2, rfl⟩, ⟨R9, hr9⟩, f_, p_⟩)
        have Zo := (HR.out.below e2).heap f_ Zo (by decide) (by decide) (by decide)
        have Zb := (HR.out.below e2).heap f_ Zb (by decide) (by decide) (by decide)
        have Zc := (HR.out.below e2).heap f_ Zc (by decide) (by decide) (by decide)
        have KQ := (KQ.below e2).trans ((HR.out.below e2).keepT f_)
        have HK9 : Hid (LdK z10 B h (t + 1) L9) := (HK.out.below e2).other (HR.out.below e2) f_ p_
        clear HK
        have HK := HK9
        clear HK9
        clear HR
        have HR := Lib.hid hr9
        clear hr9 f_ e2
        have ee := ee.trans p_
        have e2 : Below z10.heap.size z10 z10 := Below.refl _ _
        clear p_
        refine hK.out _ _ ⟨(rowCell Zo (1) rfl), (rowAt Zb), (rowMid Zo (6) (LOp.ca o)), (rowAt Zc)⟩ (fun hH => ?_)
        clear hK K hH
        try simp only [Act.put, List.getElem_toArray, List.getElem_cons_zero, List.getElem_cons_succ, List.setIfInBounds_toArray, List.set_cons_zero, List.set_cons_succ]
        refine wpAnyH_take (i := 15) (v := .bool (b1 == b2)) rfl (by kernel_rfl) (by kernel_rfl) (by kernel_rfl) (fun _ _ _ h => h) (Or.inl ⟨by rfl, fun w_ hS_ => by (first | (go_simp; done) | (go_simp; rfl))⟩) ⟨(rowCell Zo (1) rfl), (rowAt Zb), (rowMid Zo (6) (LOp.ca o)), (rowAt Zc)⟩ ?_
        try simp only [Act.put, List.getElem_toArray, List.getElem_cons_zero, List.getElem_cons_succ, List.setIfInBounds_toArray, List.set_cons_zero, List.set_cons_succ]
        refine wpAnyH_take (i := 16) (v := .bool (b1 == b2)) rfl (by kernel_rfl) (by kernel_rfl) (by kernel_rfl) (fun _ _ _ h => h) (Or.inl ⟨by rfl, fun w_ hS_ => by (first | (go_simp; done) | (go_simp; rfl))⟩) ⟨(rowCell Zo (1) rfl), (rowAt Zb), (rowMid Zo (6) (LOp.ca o)), (rowAt Zc)⟩ ?_
        try simp only [Act.put, List.getElem_toArray, List.getElem_cons_zero, List.getElem_cons_succ, List.setIfInBounds_toArray, List.set_cons_zero, List.set_cons_succ]
        refine wpAnyH_done (by kernel_rfl) ?_ _
        go_wp2_with fail
        go_ret
        exact ⟨RetB.mk _, ⟨L9, HK.out.below e2, LAct.ofKeep HST.out⟩, ⟨R9, HR.out.below e2⟩, ee, KQ.below e2⟩
      · have e3 : (o.kd == 2) = false := by simpa using k2
        by_cases k3 : o.kd = 3
        · have e4 : (o.kd == 3) = true := by rw [k3]; rfl
          go_upto_region 13 with fail
          clear c0 e1 e3 e4
          have c2 := rowCell Zo 2 (v := .int .i64 o.sl) rfl
          refine wp_region_lit ?_
          iterate 27 (first | with_reducible refine isLoad (ty := 37) rfl ?_ | go_step)
          refine wpList_load_mid rfl 37 _ rfl (w.heap.size) (22) rfl (o.x.cells) _ (rowMid Zo (22) (LOp.cx o)) Tryd.underlying37 rfl sizeCm ?_
          go_wp2_with fail
          refine (kpropose z6 B h t L o.sl o.x (HK.out.below e2) (by omega) (HX.out.below ee (Nat.le_refl _)) (HT.out _ ee)).mono ?_
          rintro e z7 ⟨⟨y1, b1, hy1, rfl⟩, ⟨L9, hk9, hst⟩, f_, p_⟩
          have Zo := f_.heap Zo (fun q_ => q_.elim (fun q_ => by have := HK.out.lt; omega) (fun q_ => ogKind (HK.out.below e2).row Zo (by decide) q_))
          have Zb := f_.heap Zb (fun q_ => q_.elim (fun q_ => by have := HK.out.lt; omega) (fun q_ => ogKind (HK.out.below e2).row Zb (by decide) q_))
          have Zc := f_.heap Zc (fun q_ => q_.elim (fun q_ => by have := HK.out.lt; omega) (fun q_ => ogKind (HK.out.below e2).row Zc (by decide) q_))
          have KQ := (KQ.below e2).trans ((HK.out.below e2).keepT f_)
          have HR9 : Hid (RlAt z7 B r t R) := (HR.out.below e2).moved (HK.out.below e2) f_ p_
          clear HR
          have HR := HR9
          clear HR9
          clear HK
          have HK := Lib.hid hk9
          clear hk9 f_ e2
          have ee := ee.trans p_
          have e2 : Below z7.heap.size z7 z7 := Below.refl _ _
          clear p_
          have HST := Lib.hid hst
          clear hst c2
          obtain ⟨wy, hwy⟩ : ∃ wy, wy = z7 := ⟨_, rfl⟩
          have ey : Below B wy z7 := by rw [hwy]; exact Below.refl _ _
          have hBy : B ≤ wy.heap.size := by rw [hwy]; have := HK.out.lt; have := HK.out.hB; omega
          rw [← hwy] at hy1
          clear hwy
          have HY1 := Lib.hid hy1
          clear hy1
          try dsimp only
          rename_i hK
          refine hK _ _ ?_
          clear hK
          iterate 12 go_step
          have s2_ := e2.size
          have lZo := (Array.getElem?_eq_some_iff.1 Zo).1
          have lZb := (Array.getElem?_eq_some_iff.1 Zb).1
          have lZc := (Array.getElem?_eq_some_iff.1 Zc).1
          have sz_ := ee.size
          have Zo := hpA Zo (.cells #[.int .i64 0, .int .i64 0, .int .i64 0, .slice none 0 0, .slice none 0 0, .int .i64 0, .int .i64 0, .int .i64 0, .int .u64 0, .bool false] 37)
          have Zb := hpA Zb (.cells #[.int .i64 0, .int .i64 0, .int .i64 0, .slice none 0 0, .slice none 0 0, .int .i64 0, .int .i64 0, .int .i64 0, .int .u64 0, .bool false] 37)
          have Zc := hpA Zc (.cells #[.int .i64 0, .int .i64 0, .int .i64 0, .slice none 0 0, .slice none 0 0, .int .i64 0, .int .i64 0, .int .i64 0, .int .u64 0, .bool false] 37)
          have ee := ee.alloc (Nat.le_trans hB ee.size) (.cells #[.int .i64 0, .int .i64 0, .int .i64 0, .slice none 0 0, .slice none 0 0, .int .i64 0, .int .i64 0, .int .i64 0, .int .u64 0, .bool false] 37)
          have e2 := e2.alloc e2.size (.cells #[.int .i64 0, .int .i64 0, .int .i64 0, .slice none 0 0, .slice none 0 0, .int .i64 0, .int .i64 0, .int .i64 0, .int .u64 0, .bool false] 37)
          have ey := ey.alloc (Nat.le_trans hBy ey.size) (.cells #[.int .i64 0, .int .i64 0, .int .i64 0, .slice none 0 0, .slice none 0 0, .int .i64 0, .int .i64 0, .int .i64 0, .int .u64 0, .bool false] 37)
          have Zp := hpN z7 (.cells #[.int .i64 0, .int .i64 0, .int .i64 0, .slice none 0 0, .slice none 0 0, .int .i64 0, .int .i64 0, .int .i64 0, .int .u64 0, .bool false] 37) rfl
          generalize z7.alloc (.cells #[.int .i64 0, .int .i64 0, .int .i64 0, .slice none 0 0, .slice none 0 0, .int .i64 0, .int .i64 0, .int .i64 0, .int .u64 0, .bool false] 37) = z8 at Zo Zb Zc Zp ee e2 ey ⊢
          obtain ⟨gp, hg_gp⟩ : ∃ g_, g_ = z7.heap.size := ⟨_, rfl⟩
          have hgp : w.heap.size < gp := by omega
          have n_gb_gp : gb < gp := by omega
          have n_gc_gp : gc < gp := by omega
          have n3_ : z7.heap.size ≤ gp := by omega
          rw [← hg_gp] at Zp ⊢
          clear hg_gp
          iterate 27 (first | with_reducible refine isStore (ty := 37) rfl ?_ | go_step)
          refine wpList_store_row rfl 37 _ _ rfl (gp) (y1.cells).toArray rfl rfl 37 _ Zp sizeCm (by rfl) (Cm.one _) ?_
          have N_ := setRow_heap z8 (gp) _ (y1.cells).toArray _ _ Zp
          have ee := belowSet (cs := (y1.cells).toArray) ee Zp (by omega)
          have e2 := belowSet (cs := (y1.cells).toArray) e2 Zp (by omega)
          have ey := belowSet (cs := (y1.cells).toArray) ey Zp (by omega)
          have Zo := hpR Zo (g' := gp) (by omega) (y1.cells).toArray
          have Zb := hpR Zb (g' := gp) (by omega) (y1.cells).toArray
          have Zc := hpR Zc (g' := gp) (by omega) (y1.cells).toArray
          clear Zp
          have Zp := N_
          clear N_
          generalize z8.setRow (gp) (y1.cells).toArray = z9 at Zo Zb Zc Zp ee e2 ey ⊢
          go_upto_region 14 with fail
          have c2 := rowCell Zo 2 (v := .int .i64 o.sl) rfl
          refine wp_region_lit ?_
          iterate 27 (first | with_reducible refine isLoad (ty := 37) rfl ?_ | go_step)
          refine wpList_load_mid rfl 37 _ rfl (w.heap.size) (22) rfl (o.x.cells) _ (rowMid Zo (22) (LOp.cx o)) Tryd.underlying37 rfl sizeCm ?_
          go_wp2_with fail
          refine (rpropose z9 B r t R o.sl o.x (HR.out.below e2) (by omega) (HX.out.below ee (Nat.le_refl _))).mono ?_
          rintro e z10 ⟨⟨y2, b2, hy2, rfl⟩, ⟨R9, hr9⟩, f_, p_⟩
          have Zo := (HR.out.below e2).heap f_ Zo (by decide) (by decide) (by decide)
          have Zb := (HR.out.below e2).heap f_ Zb (by decide) (by decide) (by decide)
          have Zc := (HR.out.below e2).heap f_ Zc (by decide) (by decide) (by decide)
          have Zp := (HR.out.below e2).heap f_ Zp (by decide) (by decide) (by decide)
          have KQ := (KQ.below e2).trans ((HR.out.below e2).keepT f_)
          have HK9 : Hid (LdK z10 B h (t + 1) L9) := (HK.out.below e2).other (HR.out.below e2) f_ p_
          clear HK
          have HK := HK9
          clear HK9
          clear HR
          have HR := Lib.hid hr9
          clear hr9 f_ e2
          have ee := ee.trans p_
          have ey := ey.trans p_
          have e2 : Below z10.heap.size z10 z10 := Below.refl _ _
          clear p_
          obtain ⟨wz, hwz⟩ : ∃ wz, wz = z10 := ⟨_, rfl⟩
          have ez : Below B wz z10 := by rw [hwz]; exact Below.refl _ _
          have hBz : B ≤ wz.heap.size := by rw [hwz]; have := HK.out.lt; have := HK.out.hB; omega
          rw [← hwz] at hy2
          clear hwz c2
          have HY2 := Lib.hid hy2
          clear hy2
          try dsimp only
          rename_i hK
          refine hK _ _ ?_
          clear hK
          iterate 12 go_step
          have s2_ := e2.size
          have lZo := (Array.getElem?_eq_some_iff.1 Zo).1
          have lZb := (Array.getElem?_eq_some_iff.1 Zb).1
          have lZc := (Array.getElem?_eq_some_iff.1 Zc).1
          have lZp := (Array.getElem?_eq_some_iff.1 Zp).1
          have sz_ := ee.size
          have Zo := hpA Zo (.cells #[.int .i64 0, .int .i64 0, .int .i64 0, .slice none 0 0, .slice none 0 0, .int .i64 0, .int .i64 0, .int .i64 0, .int .u64 0, .bool false] 41)
          have Zb := hpA Zb (.cells #[.int .i64 0, .int .i64 0, .int .i64 0, .slice none 0 0, .slice none 0 0, .int .i64 0, .int .i64 0, .int .i64 0, .int .u64 0, .bool false] 41)
          have Zc := hpA Zc (.cells #[.int .i64 0, .int .i64 0, .int .i64 0, .slice none 0 0, .slice none 0 0, .int .i64 0, .int .i64 0, .int .i64 0, .int .u64 0, .bool false] 41)
          have Zp := hpA Zp (.cells #[.int .i64 0, .int .i64 0, .int .i64 0, .slice none 0 0, .slice none 0 0, .int .i64 0, .int .i64 0, .int .i64 0, .int .u64 0, .bool false] 41)
          have ee := ee.alloc (Nat.le_trans hB ee.size) (.cells #[.int .i64 0, .int .i64 0, .int .i64 0, .slice none 0 0, .slice none 0 0, .int .i64 0, .int .i64 0, .int .i64 0, .int .u64 0, .bool false] 41)
          have e2 := e2.alloc e2.size (.cells #[.int .i64 0, .int .i64 0, .int .i64 0, .slice none 0 0, .slice none 0 0, .int .i64 0, .int .i64 0, .int .i64 0, .int .u64 0, .bool false] 41)
          have ey := ey.alloc (Nat.le_trans hBy ey.size) (.cells #[.int .i64 0, .int .i64 0, .int .i64 0, .slice none 0 0, .slice none 0 0, .int .i64 0, .int .i64 0, .int .i64 0, .int .u64 0, .bool false] 41)
          have ez := ez.alloc (Nat.le_trans hBz ez.size) (.cells #[.int .i64 0, .int .i64 0, .int .i64 0, .slice none 0 0, .slice none 0 0, .int .i64 0, .int .i64 0, .int .i64 0, .int .u64 0, .bool false] 41)
          have Zq := hpN z10 (.cells #[.int .i64 0, .int .i64 0, .int .i64 0, .slice none 0 0, .slice none 0 0, .int .i64 0, .int .i64 0, .int .i64 0, .int .u64 0, .bool false] 41) rfl
          generalize z10.alloc (.cells #[.int .i64 0, .int .i64 0, .int .i64 0, .slice none 0 0, .slice none 0 0, .int .i64 0, .int .i64 0, .int .i64 0, .int .u64 0, .bool false] 41) = z11 at Zo Zb Zc Zp Zq ee e2 ey ez ⊢
          obtain ⟨gq, hg_gq⟩ : ∃ g_, g_ = z10.heap.size := ⟨_, rfl⟩
          have hgq : w.heap.size < gq := by omega
          have n_gb_gq : gb < gq := by omega
          have n_gc_gq : gc < gq := by omega
          have n_gp_gq : gp < gq := by omega
          have n3_ : z10.heap.size ≤ gq := by omega
          rw [← hg_gq] at Zq ⊢
          clear hg_gq
          iterate 27 (first | with_reducible refine isStore (ty := 41) rfl ?_ | go_step)
          refine wpList_store_row rfl 41 _ _ rfl (gq) (y2.cells).toArray rfl rfl 41 _ Zq sizeRCm (by rfl) (Cm.one _) ?_
          have N_ := setRow_heap z11 (gq) _ (y2.cells).toArray _ _ Zq
          have ee := belowSet (cs := (y2.cells).toArray) ee Zq (by omega)
          have e2 := belowSet (cs := (y2.cells).toArray) e2 Zq (by omega)
          have ey := belowSet (cs := (y2.cells).toArray) ey Zq (by omega)
          have ez := belowSet (cs := (y2.cells).toArray) ez Zq (by omega)
          have Zo := hpR Zo (g' := gq) (by omega) (y2.cells).toArray
          have Zb := hpR Zb (g' := gq) (by omega) (y2.cells).toArray
          have Zc := hpR Zc (g' := gq) (by omega) (y2.cells).toArray
          have Zp := hpR Zp (g' := gq) (by omega) (y2.cells).toArray
          clear Zq
          have Zq := N_
          clear N_
          generalize z11.setRow (gq) (y2.cells).toArray = z12 at Zo Zb Zc Zp Zq ee e2 ey ez ⊢
          go_upto_region 15 with fail
          generalize hb12 : (b1 == b2) = d1
          cases d1 with
          | false =>
            go_wp2_with fail
            go_ret
            exact ⟨RetB.mk _, ⟨L9, HK.out.below e2, LAct.ofKeep HST.out⟩, ⟨R9, HR.out.below e2⟩, ee, KQ.below e2⟩
          | true =>
            refine wp_region_lit ?_
            iterate 60 (first | with_reducible refine isLoad (ty := 37) rfl ?_ | go_step)
            refine wpList_load_g (by rfl) 37 _ rfl (gp) 0 rfl (y1.cells) _ (rowAt Zp) Tryd.underlying37 rfl sizeCm ?_
            iterate 60 (first | with_reducible refine isLoad (ty := 41) rfl ?_ | go_step)
            refine wpList_load_g (by rfl) 41 _ rfl (gq) 0 rfl (y2.cells) _ (rowAt Zq) Tryd.underlying41 rfl sizeRCm ?_
            go_wp2_with fail
            refine (cr_csame y1 y2 z12 z12.heap.size (Nat.le_refl _) ((HY1.out.below ey (Nat.le_refl _)).more (Nat.le_trans hBy ey.size)) ((HY2.out.below ez (Nat.le_refl _)).more (Nat.le_trans hBz ez.size))).mono ?_
            rintro e z13 ⟨rfl, t⟩
            have Zo := hpB Zo t
            have Zb := hpB Zb t
            have Zc := hpB Zc t
            have Zp := hpB Zp t
            have Zq := hpB Zq t
            have ee := ee.trans (t.mono (Nat.le_trans hB ee.size))
            have e2 := e2.trans (t.mono e2.size)
            have ey := ey.trans (t.mono (Nat.le_trans hBy ey.size))
            have ez := ez.trans (t.mono (Nat.le_trans hBz ez.size))
            clear t
            try dsimp only
            rename_i hK
            refine hK _ _ ?_
            clear hK
            go_wp2_with fail
            go_ret
            exact ⟨RetB.mk _, ⟨L9, HK.out.below e2, LAct.ofKeep HST.out⟩, ⟨R9, HR.out.below e2⟩, ee, KQ.below e2⟩
        · have e4 : (o.kd == 3) = false := by simpa using k3
          by_cases k4 : o.kd = 4
          · have e5 : (o.kd == 4) = true := by rw [k4]; rfl
            go_upto_region 17 with fail
            clear c0 e1 e3 e4 e5
            have Zo : z6.drew.heap[w.heap.size]? = some (.cells o.cells.toArray 99) := Zo
            have Zb : z6.drew.heap[gb]? = some (.cells ([.int .u32 (L.br : Int), .int .i64 L.bn]).toArray 28) := Zb
            have Zc : z6.drew.heap[gc]? = some (.cells ([.int .u32 (L.br : Int), .int .i64 L.bn]).toArray 40) := Zc
            have ee := belowDrewS ee
            have e2 := belowDrewS e2
            refine wp_region_held_drew (S := fun z' => z'.cell? ⟨w.heap.size, 1, none⟩ = some (.int .i64 o.nd) ∧ z'.rangeAt gb (0) ([.int .u32 (L.br : Int), .int .i64 L.bn]) ∧ z'.cell? ⟨w.heap.size, 2, none⟩ = some (.int .i64 o.sl) ∧ z'.rangeAt gc (0) ([.int .u32 (L.br : Int), .int .i64 L.bn])) (by kernel_rfl) ⟨(rowCell Zo (1) rfl), (rowAt Zb), (rowCell Zo (2) rfl), (rowAt Zc)⟩ (fun hH => ?_)
            clear hH
            generalize z6.drew = z7 at Zo Zb Zc ee e2 ⊢
            refine wpAnyH_take (i := 0) (v := .pointer (some ⟨h, 0, none⟩)) rfl (by kernel_rfl) (by kernel_rfl) (by kernel_rfl) (fun _ _ _ h => h) (Or.inl ⟨by rfl, fun w_ hS_ => by (first | (go_simp; done) | (go_simp; rfl))⟩) ⟨(rowCell Zo (1) rfl), (rowAt Zb), (rowCell Zo (2) rfl), (rowAt Zc)⟩ ?_
            try simp only [Act.put, List.getElem_toArray, List.getElem_cons_zero, List.getElem_cons_succ, List.setIfInBounds_toArray, List.set_cons_zero, List.set_cons_succ]
            refine wpAnyH_take (i := 1) (v := .pointer (some ⟨w.heap.size, 1, none⟩)) rfl (by kernel_rfl) (by kernel_rfl) (by kernel_rfl) (fun _ _ _ h => h) (Or.inl ⟨by rfl, fun w_ hS_ => by (first | (go_simp; done) | (go_simp; rfl))⟩) ⟨(rowCell Zo (1) rfl), (rowAt Zb), (rowCell Zo (2) rfl), (rowAt Zc)⟩ ?_
            try simp only [Act.put, List.getElem_toArray, List.getElem_cons_zero, List.getElem_cons_succ, List.setIfInBounds_toArray, List.set_cons_zero, List.set_cons_succ]
            refine wpAnyH_take (i := 2) (v := .int .i64 o.nd) rfl (by kernel_rfl) (by kernel_rfl) (by kernel_rfl) (fun _ _ _ h => h) (Or.inl ⟨by rfl, fun w_ hS_ => by (have c_ := hS_.1; first | (go_simp; done) | (go_simp; rfl))⟩) ⟨(rowCell Zo (1) rfl), (rowAt Zb), (rowCell Zo (2) rfl), (rowAt Zc)⟩ ?_
            try simp only [Act.put, List.getElem_toArray, List.getElem_cons_zero, List.getElem_cons_succ, List.setIfInBounds_toArray, List.set_cons_zero, List.set_cons_succ]
            refine wpAnyH_take (i := 3) (v := .agg ([.int .u32 (L.br : Int), .int .i64 L.bn]).toArray) rfl (by kernel_rfl) (by kernel_rfl) (by kernel_rfl) (fun _ _ _ h => h) (yieldsIf_load_mid (by rfl) 28 _ rfl (gb) (0) rfl ([.int .u32 (L.br : Int), .int .i64 L.bn]) _ (fun _ h => h.2.1) Tryd.underlying28 rfl sizeBal) ⟨(rowCell Zo (1) rfl), (rowAt Zb), (rowCell Zo (2) rfl), (rowAt Zc)⟩ ?_
            try simp only [Act.put, List.getElem_toArray, List.getElem_cons_zero, List.getElem_cons_succ, List.setIfInBounds_toArray, List.set_cons_zero, List.set_cons_succ]
            refine wpAnyH_take (i := 4) (v := .pointer (some ⟨w.heap.size, 2, none⟩)) rfl (by kernel_rfl) (by kernel_rfl) (by kernel_rfl) (fun _ _ _ h => h) (Or.inl ⟨by rfl, fun w_ hS_ => by (first | (go_simp; done) | (go_simp; rfl))⟩) ⟨(rowCell Zo (1) rfl), (rowAt Zb), (rowCell Zo (2) rfl), (rowAt Zc)⟩ ?_
            try simp only [Act.put, List.getElem_toArray, List.getElem_cons_zero, List.getElem_cons_succ, List.setIfInBounds_toArray, List.set_cons_zero, List.set_cons_succ]
            refine wpAnyH_take (i := 5) (v := .int .i64 o.sl) rfl (by kernel_rfl) (by kernel_rfl) (by kernel_rfl) (fun _ _ _ h => h) (Or.inl ⟨by rfl, fun w_ hS_ => by (have c_ := hS_.2.2.1; first | (go_simp; done) | (go_simp; rfl))⟩) ⟨(rowCell Zo (1) rfl), (rowAt Zb), (rowCell Zo (2) rfl), (rowAt Zc)⟩ ?_
            try simp only [Act.put, List.getElem_toArray, List.getElem_cons_zero, List.getElem_cons_succ, List.setIfInBounds_toArray, List.set_cons_zero, List.set_cons_succ]
            refine wpAnyH_take (i := 7) (v := .pointer (some ⟨r, 0, none⟩)) rfl (by kernel_rfl) (by kernel_rfl) (by kernel_rfl) (fun _ _ _ h => h) (Or.inl ⟨by rfl, fun w_ hS_ => by (first | (go_simp; done) | (go_simp; rfl))⟩) ⟨(rowCell Zo (1) rfl), (rowAt Zb), (rowCell Zo (2) rfl), (rowAt Zc)⟩ ?_
            try simp only [Act.put, List.getElem_toArray, List.getElem_cons_zero, List.getElem_cons_succ, List.setIfInBounds_toArray, List.set_cons_zero, List.set_cons_succ]
            refine wpAnyH_take (i := 8) (v := .pointer (some ⟨w.heap.size, 1, none⟩)) rfl (by kernel_rfl) (by kernel_rfl) (by kernel_rfl) (fun _ _ _ h => h) (Or.inl ⟨by rfl, fun w_ hS_ => by (first | (go_simp; done) | (go_simp; rfl))⟩) ⟨(rowCell Zo (1) rfl), (rowAt Zb), (rowCell Zo (2) rfl), (rowAt Zc)⟩ ?_
            try simp only [Act.put, List.getElem_toArray, List.getElem_cons_zero, List.getElem_cons_succ, List.setIfInBounds_toArray, List.set_cons_zero, List.set_cons_succ]
            refine wpAnyH_take (i := 9) (v := .int .i64 o.nd) rfl (by kernel_rfl) (by kernel_rfl) (by kernel_rfl) (fun _ _ _ h => h) (Or.inl ⟨by rfl, fun w_ hS_ => by (have c_ := hS_.1; first | (go_simp; done) | (go_simp; rfl))⟩) ⟨(rowCell Zo (1) rfl), (rowAt Zb), (rowCell Zo (2) rfl), (rowAt Zc)⟩ ?_
            try simp only [Act.put, List.getElem_toArray, List.getElem_cons_zero, List.getElem_cons_succ, List.setIfInBounds_toArray, List.set_cons_zero, List.set_cons_succ]
            refine wpAnyH_take (i := 10) (v := .agg ([.int .u32 (L.br : Int), .int .i64 L.bn]).toArray) rfl (by kernel_rfl) (by kernel_rfl) (by kernel_rfl) (fun _ _ _ h => h) (yieldsIf_load_mid (by rfl) 40 _ rfl (gc) (0) rfl ([.int .u32 (L.br : Int), .int .i64 L.bn]) _ (fun _ h => h.2.2.2) Tryd.underlying40 rfl sizeRBal) ⟨(rowCell Zo (1) rfl), (rowAt Zb), (rowCell Zo (2) rfl), (rowAt Zc)⟩ ?_
            try simp only [Act.put, List.getElem_toArray, List.getElem_cons_zero, List.getElem_cons_succ, List.setIfInBounds_toArray, List.set_cons_zero, List.set_cons_succ]
            refine wpAnyH_take (i := 11) (v := .pointer (some ⟨w.heap.size, 2, none⟩)) rfl (by kernel_rfl) (by kernel_rfl) (by kernel_rfl) (fun _ _ _ h => h) (Or.inl ⟨by rfl, fun w_ hS_ => by (first | (go_simp; done) | (go_simp; rfl))⟩) ⟨(rowCell Zo (1) rfl), (rowAt Zb), (rowCell Zo (2) rfl), (rowAt Zc)⟩ ?_
            try simp only [Act.put, List.getElem_toArray, List.getElem_cons_zero, List.getElem_cons_succ, List.setIfInBounds_toArray, List.set_cons_zero, List.set_cons_succ]
            refine wpAnyH_take (i := 12) (v := .int .i64 o.sl) rfl (by kernel_rfl) (by kernel_rfl) (by kernel_rfl) (fun _ _ _ h => h) (Or.inl ⟨by rfl, fun w_ hS_ => by (have c_ := hS_.2.2.1; first | (go_simp; done) | (go_simp; rfl))⟩) ⟨(rowCell Zo (1) rfl), (rowAt Zb), (rowCell Zo (2) rfl), (rowAt Zc)⟩ ?_
            try simp only [Act.put, List.getElem_toArray, List.getElem_cons_zero, List.getElem_cons_succ, List.setIfInBounds_toArray, List.set_cons_zero, List.set_cons_succ]
            refine wpAnyH_ready (rs := [6]) (by kernel_rfl) (by simp) ?_
            refine AllReadyH.cons rfl (fun K hK => ?_) AllReadyH.nil
            rw [if_pos (by rfl)]
            go_simp
            go_wp2_with (go_at_call 38; refine (kvote z7 B h t L o.nd L.br L.bn o.sl (HK.out.below e2)).mono ?_; rintro e z8 ⟨⟨b1, rfl⟩, ⟨L9, hk9, hst⟩, f_, p_⟩)
            have Zo := f_.heap Zo (fun q_ => q_.elim (fun q_ => by have := HK.out.lt; omega) (fun q_ => ogKind (HK.out.below e2).row Zo (by decide) q_))
            have Zb := f_.heap Zb (fun q_ => q_.elim (fun q_ => by have := HK.out.lt; omega) (fun q_ => ogKind (HK.out.below e2).row Zb (by decide) q_))
            have Zc := f_.heap Zc (fun q_ => q_.elim (fun q_ => by have := HK.out.lt; omega) (fun q_ => ogKind (HK.out.below e2).row Zc (by decide) q_))
            have HST := Lib.hid hst
            clear hst
            have KQ := (KQ.below e2).trans ((HK.out.below e2).keepT f_)
            have HR9 : Hid (RlAt z8 B r t R) := (HR.out.below e2).moved (HK.out.below e2) f_ p_
            clear HR
            have HR := HR9
            clear HR9
            clear HK
            have HK := Lib.hid hk9
            clear hk9 f_ e2
            have ee := ee.trans p_
            have e2 : Below z8.heap.size z8 z8 := Below.refl _ _
            clear p_
            refine hK.out _ _ ⟨(rowCell Zo (1) rfl), (rowAt Zb), (rowCell Zo (2) rfl), (rowAt Zc)⟩ (fun hH => ?_)
            clear hK K hH
            try simp only [Act.put, List.getElem_toArray, List.getElem_cons_zero, List.getElem_cons_succ, List.setIfInBounds_toArray, List.set_cons_zero, List.set_cons_succ]
            refine wpAnyH_ready (rs := [13]) (by kernel_rfl) (by simp) ?_
            refine AllReadyH.cons rfl (fun K hK => ?_) AllReadyH.nil
            rw [if_pos (by rfl)]
            go_simp
            go_wp2_with (go_at_call 87; refine (rvote z8 B r t R o.nd L.br L.bn o.sl (HR.out.below e2) (by omega)).mono ?_; rintro e z9 ⟨⟨b2, rfl⟩, ⟨R9, hr9⟩, f_, p_⟩)
            have Zo := (HR.out.below e2).heap f_ Zo (by decide) (by decide) (by decide)
            have Zb := (HR.out.below e2).heap f_ Zb (by decide) (by decide) (by decide)
            have Zc := (HR.out.below e2).heap f_ Zc (by decide) (by decide) (by decide)
            have KQ := (KQ.below e2).trans ((HR.out.below e2).keepT f_)
            have HK9 : Hid (LdK z9 B h (t + 1) L9) := (HK.out.below e2).other (HR.out.below e2) f_ p_
            clear HK
            have HK := HK9
            clear HK9
            clear HR
            have HR := Lib.hid hr9
            clear hr9 f_ e2
            have ee := ee.trans p_
            have e2 : Below z9.heap.size z9 z9 := Below.refl _ _
            clear p_
            refine hK.out _ _ ⟨(rowCell Zo (1) rfl), (rowAt Zb), (rowCell Zo (2) rfl), (rowAt Zc)⟩ (fun hH => ?_)
            clear hK K hH
            try simp only [Act.put, List.getElem_toArray, List.getElem_cons_zero, List.getElem_cons_succ, List.setIfInBounds_toArray, List.set_cons_zero, List.set_cons_succ]
            refine wpAnyH_take (i := 14) (v := .bool (b1 == b2)) rfl (by kernel_rfl) (by kernel_rfl) (by kernel_rfl) (fun _ _ _ h => h) (Or.inl ⟨by rfl, fun w_ hS_ => by (first | (go_simp; done) | (go_simp; rfl))⟩) ⟨(rowCell Zo (1) rfl), (rowAt Zb), (rowCell Zo (2) rfl), (rowAt Zc)⟩ ?_
            try simp only [Act.put, List.getElem_toArray, List.getElem_cons_zero, List.getElem_cons_succ, List.setIfInBounds_toArray, List.set_cons_zero, List.set_cons_succ]
            refine wpAnyH_take (i := 15) (v := .bool (b1 == b2)) rfl (by kernel_rfl) (by kernel_rfl) (by kernel_rfl) (fun _ _ _ h => h) (Or.inl ⟨by rfl, fun w_ hS_ => by (first | (go_simp; done) | (go_simp; rfl))⟩) ⟨(rowCell Zo (1) rfl), (rowAt Zb), (rowCell Zo (2) rfl), (rowAt Zc)⟩ ?_
            try simp only [Act.put, List.getElem_toArray, List.getElem_cons_zero, List.getElem_cons_succ, List.setIfInBounds_toArray, List.set_cons_zero, List.set_cons_succ]
            refine wpAnyH_done (by kernel_rfl) ?_ _
            go_wp2_with fail
            go_ret
            exact ⟨RetB.mk _, ⟨L9, HK.out.below e2, LAct.ofKeep HST.out⟩, ⟨R9, HR.out.below e2⟩, ee, KQ.below e2⟩
          · have e5 : (o.kd == 4) = false := by simpa using k4
            by_cases k5 : o.kd = 5
            · have e6 : (o.kd == 5) = true := by rw [k5]; rfl
              go_upto_region 19 with fail
              clear c0 e1 e3 e4 e5 e6
              go_wp2_with fail
              refine (kdone z6 B h t L (HK.out.below e2)).mono ?_
              rintro e z7 ⟨⟨b1, rfl⟩, ⟨L9, hk9, hst⟩, f_, p_⟩
              have Zo := f_.heap Zo (fun q_ => q_.elim (fun q_ => by have := HK.out.lt; omega) (fun q_ => ogKind (HK.out.below e2).row Zo (by decide) q_))
              have Zb := f_.heap Zb (fun q_ => q_.elim (fun q_ => by have := HK.out.lt; omega) (fun q_ => ogKind (HK.out.below e2).row Zb (by decide) q_))
              have Zc := f_.heap Zc (fun q_ => q_.elim (fun q_ => by have := HK.out.lt; omega) (fun q_ => ogKind (HK.out.below e2).row Zc (by decide) q_))
              have KQ := (KQ.below e2).trans ((HK.out.below e2).keepT f_)
              have HR9 : Hid (RlAt z7 B r t R) := (HR.out.below e2).moved (HK.out.below e2) f_ p_
              clear HR
              have HR := HR9
              clear HR9
              clear HK
              have HK := Lib.hid hk9
              clear hk9 f_ e2
              have ee := ee.trans p_
              have e2 : Below z7.heap.size z7 z7 := Below.refl _ _
              clear p_
              have HST := Lib.hid hst
              clear hst
              try dsimp only
              rename_i hK
              refine hK _ _ ?_
              clear hK
              go_wp2_with fail
              refine (rdone z7 B r t R (HR.out.below e2) (by omega)).mono ?_
              rintro e z8 ⟨⟨b2, rfl⟩, ⟨R9, hr9⟩, f_, p_⟩
              have Zo := (HR.out.below e2).heap f_ Zo (by decide) (by decide) (by decide)
              have Zb := (HR.out.below e2).heap f_ Zb (by decide) (by decide) (by decide)
              have Zc := (HR.out.below e2).heap f_ Zc (by decide) (by decide) (by decide)
              have KQ := (KQ.below e2).trans ((HR.out.below e2).keepT f_)
              have HK9 : Hid (LdK z8 B h (t + 1) L9) := (HK.out.below e2).other (HR.out.below e2) f_ p_
              clear HK
              have HK := HK9
              clear HK9
              clear HR
              have HR := Lib.hid hr9
              clear hr9 f_ e2
              have ee := ee.trans p_
              have e2 : Below z8.heap.size z8 z8 := Below.refl _ _
              clear p_
              try dsimp only
              rename_i hK
              refine hK _ _ ?_
              clear hK
              go_wp2_with fail
              go_ret
              exact ⟨RetB.mk _, ⟨L9, HK.out.below e2, ⟨NLs.same HST.out.1 HST.out.2, fun _ => HST.out, fun _ q => absurd k5 q⟩⟩, ⟨R9, HR.out.below e2⟩, ee, KQ.below e2⟩
            · have e6 : (o.kd == 5) = false := by simpa using k5
              have e7 : (o.kd == 6) = false := by simpa using h6
              go_wp2_with fail
              go_ret
              exact ⟨RetB.mk _, ⟨L, (HK.out.below e2).more, LAct.ofKeep (LKeep.refl L)⟩, ⟨R, (HR.out.below e2).more⟩, ee, KQ.below e2⟩
  | false =>
    go_upto_region 4 with fail
    clear c5
    refine wp_region_lit ?_
    iterate 27 (first | with_reducible refine isLoad (ty := 28) rfl ?_ | go_step)
    refine wpList_load_mid rfl 28 _ rfl (gb) 0 rfl (([.int .u32 (o.br : Int), .int .i64 o.bn])) _ (rowAt Zb) Tryd.underlying28 rfl sizeBal ?_
    iterate 3 go_step
    have s2_ := e2.size
    have lZo := (Array.getElem?_eq_some_iff.1 Zo).1
    have lZb := (Array.getElem?_eq_some_iff.1 Zb).1
    have sz_ := ee.size
    have Zo := hpA Zo (.cells #[.int .u32 0, .int .i64 0] 40)
    have Zb := hpA Zb (.cells #[.int .u32 0, .int .i64 0] 40)
    have ee := ee.alloc (Nat.le_trans hB ee.size) (.cells #[.int .u32 0, .int .i64 0] 40)
    have e2 := e2.alloc e2.size (.cells #[.int .u32 0, .int .i64 0] 40)
    have Zc := hpN z2 (.cells #[.int .u32 0, .int .i64 0] 40) rfl
    generalize z2.alloc (.cells #[.int .u32 0, .int .i64 0] 40) = z3 at Zo Zb Zc ee e2 ⊢
    obtain ⟨gc, hg_gc⟩ : ∃ g_, g_ = z2.heap.size := ⟨_, rfl⟩
    have hgc : w.heap.size < gc := by omega
    have n1_ : gb < gc := by omega
    have n3_ : w.heap.size ≤ gc := by omega
    rw [← hg_gc] at Zc ⊢
    clear hg_gc
    iterate 27 (first | with_reducible refine isStore (ty := 40) rfl ?_ | go_step)
    refine wpList_store_row rfl 40 _ _ rfl (gc) ([.int .u32 (o.br : Int), .int .i64 o.bn]).toArray rfl rfl 40 _ Zc sizeRBal (by rfl) (by simp [Value.oneCell']) ?_
    have N_ := setRow_heap z3 (gc) _ ([.int .u32 (o.br : Int), .int .i64 o.bn]).toArray _ _ Zc
    have ee := belowSet (cs := ([.int .u32 (o.br : Int), .int .i64 o.bn]).toArray) ee Zc (by omega)
    have e2 := belowSet (cs := ([.int .u32 (o.br : Int), .int .i64 o.bn]).toArray) e2 Zc (by omega)
    have Zo := hpR Zo (g' := gc) (by omega) ([.int .u32 (o.br : Int), .int .i64 o.bn]).toArray
    have Zb := hpR Zb (g' := gc) (by omega) ([.int .u32 (o.br : Int), .int .i64 o.bn]).toArray
    clear Zc
    have Zc := N_
    clear N_
    generalize z3.setRow (gc) ([.int .u32 (o.br : Int), .int .i64 o.bn]).toArray = z4 at Zo Zb Zc ee e2 ⊢
    have c0 := rowCell Zo 0 (v := .int .i64 o.kd) rfl
    by_cases k1 : o.kd = 1
    · have e1 : (o.kd == 1) = true := by rw [k1]; rfl
      go_upto_region 7 with fail
      clear c0 e1
      refine wp_region_lit ?_
      iterate 27 (first | with_reducible refine isLoad (ty := 28) rfl ?_ | go_step)
      refine wpList_load_mid rfl 28 _ rfl (gb) 0 rfl (([.int .u32 (o.br : Int), .int .i64 o.bn])) _ (rowAt Zb) Tryd.underlying28 rfl sizeBal ?_
      go_wp2_with fail
      refine (kstart z4 B h t L o.br o.bn HBR.out (HK.out.below e2)).mono ?_
      rintro e z5 ⟨⟨a1, b1, g1, rfl⟩, ⟨L9, hk9, hst⟩, f_, p_⟩
      have Zo := f_.heap Zo (fun q_ => q_.elim (fun q_ => by have := HK.out.lt; omega) (fun q_ => ogKind (HK.out.below e2).row Zo (by decide) q_))
      have Zb := f_.heap Zb (fun q_ => q_.elim (fun q_ => by have := HK.out.lt; omega) (fun q_ => ogKind (HK.out.below e2).row Zb (by decide) q_))
      have Zc := f_.heap Zc (fun q_ => q_.elim (fun q_ => by have := HK.out.lt; omega) (fun q_ => ogKind (HK.out.below e2).row Zc (by decide) q_))
      have KQ := (KQ.below e2).trans ((HK.out.below e2).keepT f_)
      have HR9 : Hid (RlAt z5 B r t R) := (HR.out.below e2).moved (HK.out.below e2) f_ p_
      clear HR
      have HR := HR9
      clear HR9
      clear HK
      have HK := Lib.hid hk9
      clear hk9 f_ e2
      have ee := ee.trans p_
      have e2 : Below z5.heap.size z5 z5 := Below.refl _ _
      clear p_
      have HST := Lib.hid hst
      clear hst
      try dsimp only
      rename_i hK
      refine hK _ _ ?_
      clear hK
      iterate 12 go_step
      have s2_ := e2.size
      have lZo := (Array.getElem?_eq_some_iff.1 Zo).1
      have lZb := (Array.getElem?_eq_some_iff.1 Zb).1
      have lZc := (Array.getElem?_eq_some_iff.1 Zc).1
      have sz_ := ee.size
      have Zo := hpA Zo (.cells #[.int .u32 0, .int .i64 0] 28)
      have Zb := hpA Zb (.cells #[.int .u32 0, .int .i64 0] 28)
      have Zc := hpA Zc (.cells #[.int .u32 0, .int .i64 0] 28)
      have ee := ee.alloc (Nat.le_trans hB ee.size) (.cells #[.int .u32 0, .int .i64 0] 28)
      have e2 := e2.alloc e2.size (.cells #[.int .u32 0, .int .i64 0] 28)
      have Zp := hpN z5 (.cells #[.int .u32 0, .int .i64 0] 28) rfl
      generalize z5.alloc (.cells #[.int .u32 0, .int .i64 0] 28) = z6 at Zo Zb Zc Zp ee e2 ⊢
      obtain ⟨gp, hg_gp⟩ : ∃ g_, g_ = z5.heap.size := ⟨_, rfl⟩
      have hgp : w.heap.size < gp := by omega
      have n_gb_gp : gb < gp := by omega
      have n_gc_gp : gc < gp := by omega
      have n3_ : z5.heap.size ≤ gp := by omega
      rw [← hg_gp] at Zp ⊢
      clear hg_gp
      iterate 27 (first | with_reducible refine isStore (ty := 28) rfl ?_ | go_step)
      refine wpList_store_row rfl 28 _ _ rfl (gp) ([.int .u32 (a1 : Int), .int .i64 b1]).toArray rfl rfl 28 _ Zp sizeBal (by rfl) (by simp [Value.oneCell']) ?_
      have N_ := setRow_heap z6 (gp) _ ([.int .u32 (a1 : Int), .int .i64 b1]).toArray _ _ Zp
      have ee := belowSet (cs := ([.int .u32 (a1 : Int), .int .i64 b1]).toArray) ee Zp (by omega)
      have e2 := belowSet (cs := ([.int .u32 (a1 : Int), .int .i64 b1]).toArray) e2 Zp (by omega)
      have Zo := hpR Zo (g' := gp) (by omega) ([.int .u32 (a1 : Int), .int .i64 b1]).toArray
      have Zb := hpR Zb (g' := gp) (by omega) ([.int .u32 (a1 : Int), .int .i64 b1]).toArray
      have Zc := hpR Zc (g' := gp) (by omega) ([.int .u32 (a1 : Int), .int .i64 b1]).toArray
      clear Zp
      have Zp := N_
      clear N_
      generalize z6.setRow (gp) ([.int .u32 (a1 : Int), .int .i64 b1]).toArray = z7 at Zo Zb Zc Zp ee e2 ⊢
      go_upto_region 8 with fail
      refine wp_region_lit ?_
      iterate 27 (first | with_reducible refine isLoad (ty := 40) rfl ?_ | go_step)
      refine wpList_load_mid rfl 40 _ rfl (gc) 0 rfl (([.int .u32 (o.br : Int), .int .i64 o.bn])) _ (rowAt Zc) Tryd.underlying40 rfl sizeRBal ?_
      go_wp2_with fail
      refine (rstart z7 B r t R o.br o.bn HBR.out (HR.out.below e2)).mono ?_
      rintro e z8 ⟨⟨a2, b2, g2, rfl⟩, ⟨R9, hr9⟩, f_, p_⟩
      have Zo := (HR.out.below e2).heap f_ Zo (by decide) (by decide) (by decide)
      have Zb := (HR.out.below e2).heap f_ Zb (by decide) (by decide) (by decide)
      have Zc := (HR.out.below e2).heap f_ Zc (by decide) (by decide) (by decide)
      have Zp := (HR.out.below e2).heap f_ Zp (by decide) (by decide) (by decide)
      have KQ := (KQ.below e2).trans ((HR.out.below e2).keepT f_)
      have HK9 : Hid (LdK z8 B h (t + 1) L9) := (HK.out.below e2).other (HR.out.below e2) f_ p_
      clear HK
      have HK := HK9
      clear HK9
      clear HR
      have HR := Lib.hid hr9
      clear hr9 f_ e2
      have ee := ee.trans p_
      have e2 : Below z8.heap.size z8 z8 := Below.refl _ _
      clear p_
      try dsimp only
      rename_i hK
      refine hK _ _ ?_
      clear hK
      iterate 12 go_step
      have s2_ := e2.size
      have lZo := (Array.getElem?_eq_some_iff.1 Zo).1
      have lZb := (Array.getElem?_eq_some_iff.1 Zb).1
      have lZc := (Array.getElem?_eq_some_iff.1 Zc).1
      have lZp := (Array.getElem?_eq_some_iff.1 Zp).1
      have sz_ := ee.size
      have Zo := hpA Zo (.cells #[.int .u32 0, .int .i64 0] 40)
      have Zb := hpA Zb (.cells #[.int .u32 0, .int .i64 0] 40)
      have Zc := hpA Zc (.cells #[.int .u32 0, .int .i64 0] 40)
      have Zp := hpA Zp (.cells #[.int .u32 0, .int .i64 0] 40)
      have ee := ee.alloc (Nat.le_trans hB ee.size) (.cells #[.int .u32 0, .int .i64 0] 40)
      have e2 := e2.alloc e2.size (.cells #[.int .u32 0, .int .i64 0] 40)
      have Zq := hpN z8 (.cells #[.int .u32 0, .int .i64 0] 40) rfl
      generalize z8.alloc (.cells #[.int .u32 0, .int .i64 0] 40) = z9 at Zo Zb Zc Zp Zq ee e2 ⊢
      obtain ⟨gq, hg_gq⟩ : ∃ g_, g_ = z8.heap.size := ⟨_, rfl⟩
      have hgq : w.heap.size < gq := by omega
      have n_gb_gq : gb < gq := by omega
      have n_gc_gq : gc < gq := by omega
      have n_gp_gq : gp < gq := by omega
      have n3_ : z8.heap.size ≤ gq := by omega
      rw [← hg_gq] at Zq ⊢
      clear hg_gq
      iterate 27 (first | with_reducible refine isStore (ty := 40) rfl ?_ | go_step)
      refine wpList_store_row rfl 40 _ _ rfl (gq) ([.int .u32 (a2 : Int), .int .i64 b2]).toArray rfl rfl 40 _ Zq sizeRBal (by rfl) (by simp [Value.oneCell']) ?_
      have N_ := setRow_heap z9 (gq) _ ([.int .u32 (a2 : Int), .int .i64 b2]).toArray _ _ Zq
      have ee := belowSet (cs := ([.int .u32 (a2 : Int), .int .i64 b2]).toArray) ee Zq (by omega)
      have e2 := belowSet (cs := ([.int .u32 (a2 : Int), .int .i64 b2]).toArray) e2 Zq (by omega)
      have Zo := hpR Zo (g' := gq) (by omega) ([.int .u32 (a2 : Int), .int .i64 b2]).toArray
      have Zb := hpR Zb (g' := gq) (by omega) ([.int .u32 (a2 : Int), .int .i64 b2]).toArray
      have Zc := hpR Zc (g' := gq) (by omega) ([.int .u32 (a2 : Int), .int .i64 b2]).toArray
      have Zp := hpR Zp (g' := gq) (by omega) ([.int .u32 (a2 : Int), .int .i64 b2]).toArray
      clear Zq
      have Zq := N_
      clear N_
      generalize z9.setRow (gq) ([.int .u32 (a2 : Int), .int .i64 b2]).toArray = z10 at Zo Zb Zc Zp Zq ee e2 ⊢
      go_upto_region 9 with fail
      have p0 := rowCell Zp 0 rfl
      have p1 := rowCell Zp 1 rfl
      have q0 := rowCell Zq 0 rfl
      have q1 := rowCell Zq 1 rfl
      have hI := run_eqRBal9 a1 b1 a2 b2
      generalize decide (a1 = a2 ∧ b1 = b2) = d1 at hI
      generalize hg12 : (g1 == g2) = d2
      cases d1 with
      | false =>
        go_wp2_with fail
        go_ret
        exact ⟨RetB.mk _, ⟨L9, HK.out.below e2, ⟨HST.out, fun q => absurd k1 q, fun q => absurd k1 q⟩⟩, ⟨R9, HR.out.below e2⟩, ee, KQ.below e2⟩
      | true =>
        go_wp2_with fail
        go_ret
        exact ⟨RetB.mk _, ⟨L9, HK.out.below e2, ⟨HST.out, fun q => absurd k1 q, fun q => absurd k1 q⟩⟩, ⟨R9, HR.out.below e2⟩, ee, KQ.below e2⟩
    · have e1 : (o.kd == 1) = false := by simpa using k1
      by_cases k2 : o.kd = 2
      · have e3 : (o.kd == 2) = true := by rw [k2]; rfl
        go_upto_region 11 with fail
        clear c0 e1 e3
        have Zo : z4.drew.heap[w.heap.size]? = some (.cells o.cells.toArray 99) := Zo
        have Zb : z4.drew.heap[gb]? = some (.cells ([.int .u32 (o.br : Int), .int .i64 o.bn]).toArray 28) := Zb
        have Zc : z4.drew.heap[gc]? = some (.cells ([.int .u32 (o.br : Int), .int .i64 o.bn]).toArray 40) := Zc
        have ee := belowDrewS ee
        have e2 := belowDrewS e2
        refine wp_region_held_drew (S := fun z' => z'.cell? ⟨w.heap.size, 1, none⟩ = some (.int .i64 o.nd) ∧ z'.rangeAt gb (0) ([.int .u32 (o.br : Int), .int .i64 o.bn]) ∧ z'.rangeAt w.heap.size (6) o.a.cells ∧ z'.rangeAt gc (0) ([.int .u32 (o.br : Int), .int .i64 o.bn])) (by kernel_rfl) ⟨(rowCell Zo (1) rfl), (rowAt Zb), (rowMid Zo (6) (LOp.ca o)), (rowAt Zc)⟩ (fun hH => ?_)
        clear hH
        generalize z4.drew = z5 at Zo Zb Zc ee e2 ⊢
        refine wpAnyH_take (i := 0) (v := .pointer (some ⟨h, 0, none⟩)) rfl (by kernel_rfl) (by kernel_rfl) (by kernel_rfl) (fun _ _ _ h => h) (Or.inl ⟨by rfl, fun w_ hS_ => by (first | (go_simp; done) | (go_simp; rfl))⟩) ⟨(rowCell Zo (1) rfl), (rowAt Zb), (rowMid Zo (6) (LOp.ca o)), (rowAt Zc)⟩ ?_
        try simp only [Act.put, List.getElem_toArray, List.getElem_cons_zero, List.getElem_cons_succ, List.setIfInBounds_toArray, List.set_cons_zero, List.set_cons_succ]
        refine wpAnyH_take (i := 1) (v := .pointer (some ⟨w.heap.size, 1, none⟩)) rfl (by kernel_rfl) (by kernel_rfl) (by kernel_rfl) (fun _ _ _ h => h) (Or.inl ⟨by rfl, fun w_ hS_ => by (first | (go_simp; done) | (go_simp; rfl))⟩) ⟨(rowCell Zo (1) rfl), (rowAt Zb), (rowMid Zo (6) (LOp.ca o)), (rowAt Zc)⟩ ?_
        try simp only [Act.put, List.getElem_toArray, List.getElem_cons_zero, List.getElem_cons_succ, List.setIfInBounds_toArray, List.set_cons_zero, List.set_cons_succ]
        refine wpAnyH_take (i := 2) (v := .int .i64 o.nd) rfl (by kernel_rfl) (by kernel_rfl) (by kernel_rfl) (fun _ _ _ h => h) (Or.inl ⟨by rfl, fun w_ hS_ => by (have c_ := hS_.1; first | (go_simp; done) | (go_simp; rfl))⟩) ⟨(rowCell Zo (1) rfl), (rowAt Zb), (rowMid Zo (6) (LOp.ca o)), (rowAt Zc)⟩ ?_
        try simp only [Act.put, List.getElem_toArray, List.getElem_cons_zero, List.getElem_cons_succ, List.setIfInBounds_toArray, List.set_cons_zero, List.set_cons_succ]
        refine wpAnyH_take (i := 3) (v := .agg ([.int .u32 (o.br : Int), .int .i64 o.bn]).toArray) rfl (by kernel_rfl) (by kernel_rfl) (by kernel_rfl) (fun _ _ _ h => h) (yieldsIf_load_mid (by rfl) 28 _ rfl (gb) (0) rfl ([.int .u32 (o.br : Int), .int .i64 o.bn]) _ (fun _ h => h.2.1) Tryd.underlying28 rfl sizeBal) ⟨(rowCell Zo (1) rfl), (rowAt Zb), (rowMid Zo (6) (LOp.ca o)), (rowAt Zc)⟩ ?_
        try simp only [Act.put, List.getElem_toArray, List.getElem_cons_zero, List.getElem_cons_succ, List.setIfInBounds_toArray, List.set_cons_zero, List.set_cons_succ]
        refine wpAnyH_take (i := 4) (v := .pointer (some ⟨w.heap.size, 6, none⟩)) rfl (by kernel_rfl) (by kernel_rfl) (by kernel_rfl) (fun _ _ _ h => h) (Or.inl ⟨by rfl, fun w_ hS_ => by (first | (go_simp; done) | (go_simp; rfl))⟩) ⟨(rowCell Zo (1) rfl), (rowAt Zb), (rowMid Zo (6) (LOp.ca o)), (rowAt Zc)⟩ ?_
        try simp only [Act.put, List.getElem_toArray, List.getElem_cons_zero, List.getElem_cons_succ, List.setIfInBounds_toArray, List.set_cons_zero, List.set_cons_succ]
        refine wpAnyH_take (i := 5) (v := .agg (o.a.cells).toArray) rfl (by kernel_rfl) (by kernel_rfl) (by kernel_rfl) (fun _ _ _ h => h) (yieldsIf_load_mid (by rfl) 39 _ rfl (w.heap.size) (6) rfl (o.a.cells) _ (fun _ h => h.2.2.1) Tryd.underlying39 rfl sizeAc) ⟨(rowCell Zo (1) rfl), (rowAt Zb), (rowMid Zo (6) (LOp.ca o)), (rowAt Zc)⟩ ?_
        try simp only [Act.put, List.getElem_toArray, List.getElem_cons_zero, List.getElem_cons_succ, List.setIfInBounds_toArray, List.set_cons_zero, List.set_cons_succ]
        refine wpAnyH_take (i := 7) (v := .pointer (some ⟨r, 0, none⟩)) rfl (by kernel_rfl) (by kernel_rfl) (by kernel_rfl) (fun _ _ _ h => h) (Or.inl ⟨by rfl, fun w_ hS_ => by (first | (go_simp; done) | (go_simp; rfl))⟩) ⟨(rowCell Zo (1) rfl), (rowAt Zb), (rowMid Zo (6) (LOp.ca o)), (rowAt Zc)⟩ ?_
        try simp only [Act.put, List.getElem_toArray, List.getElem_cons_zero, List.getElem_cons_succ, List.setIfInBounds_toArray, List.set_cons_zero, List.set_cons_succ]
        refine wpAnyH_take (i := 8) (v := .pointer (some ⟨w.heap.size, 1, none⟩)) rfl (by kernel_rfl) (by kernel_rfl) (by kernel_rfl) (fun _ _ _ h => h) (Or.inl ⟨by rfl, fun w_ hS_ => by (first | (go_simp; done) | (go_simp; rfl))⟩) ⟨(rowCell Zo (1) rfl), (rowAt Zb), (rowMid Zo (6) (LOp.ca o)), (rowAt Zc)⟩ ?_
        try simp only [Act.put, List.getElem_toArray, List.getElem_cons_zero, List.getElem_cons_succ, List.setIfInBounds_toArray, List.set_cons_zero, List.set_cons_succ]
        refine wpAnyH_take (i := 9) (v := .int .i64 o.nd) rfl (by kernel_rfl) (by kernel_rfl) (by kernel_rfl) (fun _ _ _ h => h) (Or.inl ⟨by rfl, fun w_ hS_ => by (have c_ := hS_.1; first | (go_simp; done) | (go_simp; rfl))⟩) ⟨(rowCell Zo (1) rfl), (rowAt Zb), (rowMid Zo (6) (LOp.ca o)), (rowAt Zc)⟩ ?_
        try simp only [Act.put, List.getElem_toArray, List.getElem_cons_zero, List.getElem_cons_succ, List.setIfInBounds_toArray, List.set_cons_zero, List.set_cons_succ]
        refine wpAnyH_take (i := 10) (v := .agg ([.int .u32 (o.br : Int), .int .i64 o.bn]).toArray) rfl (by kernel_rfl) (by kernel_rfl) (by kernel_rfl) (fun _ _ _ h => h) (yieldsIf_load_mid (by rfl) 40 _ rfl (gc) (0) rfl ([.int .u32 (o.br : Int), .int .i64 o.bn]) _ (fun _ h => h.2.2.2) Tryd.underlying40 rfl sizeRBal) ⟨(rowCell Zo (1) rfl), (rowAt Zb), (rowMid Zo (6) (LOp.ca o)), (rowAt Zc)⟩ ?_
        try simp only [Act.put, List.getElem_toArray, List.getElem_cons_zero, List.getElem_cons_succ, List.setIfInBounds_toArray, List.set_cons_zero, List.set_cons_succ]
        refine wpAnyH_take (i := 11) (v := .pointer (some ⟨w.heap.size, 6, none⟩)) rfl (by kernel_rfl) (by kernel_rfl) (by kernel_rfl) (fun _ _ _ h => h) (Or.inl ⟨by rfl, fun w_ hS_ => by (first | (go_simp; done) | (go_simp; rfl))⟩) ⟨(rowCell Zo (1) rfl), (rowAt Zb), (rowMid Zo (6) (LOp.ca o)), (rowAt Zc)⟩ ?_
        try simp only [Act.put, List.getElem_toArray, List.getElem_cons_zero, List.getElem_cons_succ, List.setIfInBounds_toArray, List.set_cons_zero, List.set_cons_succ]
        refine wpAnyH_take (i := 12) (v := .agg (o.a.cells).toArray) rfl (by kernel_rfl) (by kernel_rfl) (by kernel_rfl) (fun _ _ _ h => h) (yieldsIf_load_mid (by rfl) 39 _ rfl (w.heap.size) (6) rfl (o.a.cells) _ (fun _ h => h.2.2.1) Tryd.underlying39 rfl sizeAc) ⟨(rowCell Zo (1) rfl), (rowAt Zb), (rowMid Zo (6) (LOp.ca o)), (rowAt Zc)⟩ ?_
        try simp only [Act.put, List.getElem_toArray, List.getElem_cons_zero, List.getElem_cons_succ, List.setIfInBounds_toArray, List.set_cons_zero, List.set_cons_succ]
        refine wpAnyH_ready (rs := [6]) (by kernel_rfl) (by simp) ?_
        refine AllReadyH.cons rfl (fun K hK => ?_) AllReadyH.nil
        rw [if_pos (by rfl)]
        go_simp
        go_wp2_with (go_at_call 36; refine (kpromise z5 B h t L o.nd o.br o.bn o.a (HK.out.below e2) (by omega) (HA.out.below ee (Nat.le_refl _)) (HT.out _ ee)).mono ?_; rintro e z6 ⟨⟨b1, rfl⟩, ⟨L9, hk9, hst⟩, f_, p_⟩)
        have Zo := f_.heap Zo (fun q_ => q_.elim (fun q_ => by have := HK.out.lt; omega) (fun q_ => ogKind (HK.out.below e2).row Zo (by decide) q_))
        have Zb := f_.heap Zb (fun q_ => q_.elim (fun q_ => by have := HK.out.lt; omega) (fun q_ => ogKind (HK.out.below e2).row Zb (by decide) q_))
        have Zc := f_.heap Zc (fun q_ => q_.elim (fun q_ => by have := HK.out.lt; omega) (fun q_ => ogKind (HK.out.below e2).row Zc (by decide) q_))
        have HST := Lib.hid hst
        clear hst
        have KQ := (KQ.below e2).trans ((HK.out.below e2).keepT f_)
        have HR9 : Hid (RlAt z6 B r t R) := (HR.out.below e2).moved (HK.out.below e2) f_ p_
        clear HR
        have HR := HR9
        clear HR9
        clear HK
        have HK := Lib.hid hk9
        clear hk9 f_ e2
        have ee := ee.trans p_
        have e2 : Below z6.heap.size z6 z6 := Below.refl _ _
        clear p_
        refine hK.out _ _ ⟨(rowCell Zo (1) rfl), (rowAt Zb), (rowMid Zo (6) (LOp.ca o)), (rowAt Zc)⟩ (fun hH => ?_)
        clear hK K hH
        try simp only [Act.put, List.getElem_toArray, List.getElem_cons_zero, List.getElem_cons_succ, List.setIfInBounds_toArray, List.set_cons_zero, List.set_cons_succ]
        refine wpAnyH_ready (rs := [13]) (by kernel_rfl) (by simp) ?_
        refine AllReadyH.cons rfl (fun K hK => ?_) AllReadyH.nil
        rw [if_pos (by rfl)]
        go_simp
        go_wp2_with (go_at_call 85; refine (plain19 o.a z6).mono ?_; rintro e z7 ⟨rfl, t_⟩)
        have Zo := hpB Zo t_
        have Zb := hpB Zb t_
        have Zc := hpB Zc t_
        have ee := ee.trans (t_.mono (Nat.le_trans hB ee.size))
        have e2 := e2.trans (t_.mono e2.size)
        clear t_
        refine hK.out _ _ ⟨(rowCell Zo (1) rfl), (rowAt Zb), (rowMid Zo (6) (LOp.ca o)), (rowAt Zc)⟩ (fun hH => ?_)
        clear hK K hH
        try simp only [Act.put, List.getElem_toArray, List.getElem_cons_zero, List.getElem_cons_succ, List.setIfInBounds_toArray, List.set_cons_zero, List.set_cons_succ]
        refine wpAnyH_ready (rs := [14]) (by kernel_rfl) (by simp) ?_
        refine AllReadyH.cons rfl (fun K hK => ?_) AllReadyH.nil
        rw [if_pos (by rfl)]
        go_simp
        go_wp2_with (go_at_call 84; refine (rpromise z7 B r t R o.nd o.br o.bn o.a (HR.out.below e2) (by omega) (HA.out.below ee (Nat.le_refl _))).mono ?_; rintro e z8 ⟨⟨b2, rfl⟩, ⟨R9, hr9⟩, f_, p_⟩)
        have Zo := (HR.out.below e2).heap f_ Zo (by decide) (by decide) (by decide)
        have Zb := (HR.out.below e2).heap f_ Zb (by decide) (by decide) (by decide)
        have Zc := (HR.out.below e2).heap f_ Zc (by decide) (by decide) (by decide)
        have KQ := (KQ.below e2).trans ((HR.out.below e2).keepT f_)
        have HK9 : Hid (LdK z8 B h (t + 1) L9) := (HK.out.below e2).other (HR.out.below e2) f_ p_
        clear HK
        have HK := HK9
        clear HK9
        clear HR
        have HR := Lib.hid hr9
        clear hr9 f_ e2
        have ee := ee.trans p_
        have e2 : Below z8.heap.size z8 z8 := Below.refl _ _
        clear p_
        refine hK.out _ _ ⟨(rowCell Zo (1) rfl), (rowAt Zb), (rowMid Zo (6) (LOp.ca o)), (rowAt Zc)⟩ (fun hH => ?_)
        clear hK K hH
        try simp only [Act.put, List.getElem_toArray, List.getElem_cons_zero, List.getElem_cons_succ, List.setIfInBounds_toArray, List.set_cons_zero, List.set_cons_succ]
        refine wpAnyH_take (i := 15) (v := .bool (b1 == b2)) rfl (by kernel_rfl) (by kernel_rfl) (by kernel_rfl) (fun _ _ _ h => h) (Or.inl ⟨by rfl, fun w_ hS_ => by (first | (go_simp; done) | (go_simp; rfl))⟩) ⟨(rowCell Zo (1) rfl), (rowAt Zb), (rowMid Zo (6) (LOp.ca o)), (rowAt Zc)⟩ ?_
        try simp only [Act.put, List.getElem_toArray, List.getElem_cons_zero, List.getElem_cons_succ, List.setIfInBounds_toArray, List.set_cons_zero, List.set_cons_succ]
        refine wpAnyH_take (i := 16) (v := .bool (b1 == b2)) rfl (by kernel_rfl) (by kernel_rfl) (by kernel_rfl) (fun _ _ _ h => h) (Or.inl ⟨by rfl, fun w_ hS_ => by (first | (go_simp; done) | (go_simp; rfl))⟩) ⟨(rowCell Zo (1) rfl), (rowAt Zb), (rowMid Zo (6) (LOp.ca o)), (rowAt Zc)⟩ ?_
        try simp only [Act.put, List.getElem_toArray, List.getElem_cons_zero, List.getElem_cons_succ, List.setIfInBounds_toArray, List.set_cons_zero, List.set_cons_succ]
        refine wpAnyH_done (by kernel_rfl) ?_ _
        go_wp2_with fail
        go_ret
        exact ⟨RetB.mk _, ⟨L9, HK.out.below e2, LAct.ofKeep HST.out⟩, ⟨R9, HR.out.below e2⟩, ee, KQ.below e2⟩
      · have e3 : (o.kd == 2) = false := by simpa using k2
        by_cases k3 : o.kd = 3
        · have e4 : (o.kd == 3) = true := by rw [k3]; rfl
          go_upto_region 13 with fail
          clear c0 e1 e3 e4
          have c2 := rowCell Zo 2 (v := .int .i64 o.sl) rfl
          refine wp_region_lit ?_
          iterate 27 (first | with_reducible refine isLoad (ty := 37) rfl ?_ | go_step)
          refine wpList_load_mid rfl 37 _ rfl (w.heap.size) (22) rfl (o.x.cells) _ (rowMid Zo (22) (LOp.cx o)) Tryd.underlying37 rfl sizeCm ?_
          go_wp2_with fail
          refine (kpropose z4 B h t L o.sl o.x (HK.out.below e2) (by omega) (HX.out.below ee (Nat.le_refl _)) (HT.out _ ee)).mono ?_
          rintro e z5 ⟨⟨y1, b1, hy1, rfl⟩, ⟨L9, hk9, hst⟩, f_, p_⟩
          have Zo := f_.heap Zo (fun q_ => q_.elim (fun q_ => by have := HK.out.lt; omega) (fun q_ => ogKind (HK.out.below e2).row Zo (by decide) q_))
          have Zb := f_.heap Zb (fun q_ => q_.elim (fun q_ => by have := HK.out.lt; omega) (fun q_ => ogKind (HK.out.below e2).row Zb (by decide) q_))
          have Zc := f_.heap Zc (fun q_ => q_.elim (fun q_ => by have := HK.out.lt; omega) (fun q_ => ogKind (HK.out.below e2).row Zc (by decide) q_))
          have KQ := (KQ.below e2).trans ((HK.out.below e2).keepT f_)
          have HR9 : Hid (RlAt z5 B r t R) := (HR.out.below e2).moved (HK.out.below e2) f_ p_
          clear HR
          have HR := HR9
          clear HR9
          clear HK
          have HK := Lib.hid hk9
          clear hk9 f_ e2
          have ee := ee.trans p_
          have e2 : Below z5.heap.size z5 z5 := Below.refl _ _
          clear p_
          have HST := Lib.hid hst
          clear hst c2
          obtain ⟨wy, hwy⟩ : ∃ wy, wy = z5 := ⟨_, rfl⟩
          have ey : Below B wy z5 := by rw [hwy]; exact Below.refl _ _
          have hBy : B ≤ wy.heap.size := by rw [hwy]; have := HK.out.lt; have := HK.out.hB; omega
          rw [← hwy] at hy1
          clear hwy
          have HY1 := Lib.hid hy1
          clear hy1
          try dsimp only
          rename_i hK
          refine hK _ _ ?_
          clear hK
          iterate 12 go_step
          have s2_ := e2.size
          have lZo := (Array.getElem?_eq_some_iff.1 Zo).1
          have lZb := (Array.getElem?_eq_some_iff.1 Zb).1
          have lZc := (Array.getElem?_eq_some_iff.1 Zc).1
          have sz_ := ee.size
          have Zo := hpA Zo (.cells #[.int .i64 0, .int .i64 0, .int .i64 0, .slice none 0 0, .slice none 0 0, .int .i64 0, .int .i64 0, .int .i64 0, .int .u64 0, .bool false] 37)
          have Zb := hpA Zb (.cells #[.int .i64 0, .int .i64 0, .int .i64 0, .slice none 0 0, .slice none 0 0, .int .i64 0, .int .i64 0, .int .i64 0, .int .u64 0, .bool false] 37)
          have Zc := hpA Zc (.cells #[.int .i64 0, .int .i64 0, .int .i64 0, .slice none 0 0, .slice none 0 0, .int .i64 0, .int .i64 0, .int .i64 0, .int .u64 0, .bool false] 37)
          have ee := ee.alloc (Nat.le_trans hB ee.size) (.cells #[.int .i64 0, .int .i64 0, .int .i64 0, .slice none 0 0, .slice none 0 0, .int .i64 0, .int .i64 0, .int .i64 0, .int .u64 0, .bool false] 37)
          have e2 := e2.alloc e2.size (.cells #[.int .i64 0, .int .i64 0, .int .i64 0, .slice none 0 0, .slice none 0 0, .int .i64 0, .int .i64 0, .int .i64 0, .int .u64 0, .bool false] 37)
          have ey := ey.alloc (Nat.le_trans hBy ey.size) (.cells #[.int .i64 0, .int .i64 0, .int .i64 0, .slice none 0 0, .slice none 0 0, .int .i64 0, .int .i64 0, .int .i64 0, .int .u64 0, .bool false] 37)
          have Zp := hpN z5 (.cells #[.int .i64 0, .int .i64 0, .int .i64 0, .slice none 0 0, .slice none 0 0, .int .i64 0, .int .i64 0, .int .i64 0, .int .u64 0, .bool false] 37) rfl
          generalize z5.alloc (.cells #[.int .i64 0, .int .i64 0, .int .i64 0, .slice none 0 0, .slice none 0 0, .int .i64 0, .int .i64 0, .int .i64 0, .int .u64 0, .bool false] 37) = z6 at Zo Zb Zc Zp ee e2 ey ⊢
          obtain ⟨gp, hg_gp⟩ : ∃ g_, g_ = z5.heap.size := ⟨_, rfl⟩
          have hgp : w.heap.size < gp := by omega
          have n_gb_gp : gb < gp := by omega
          have n_gc_gp : gc < gp := by omega
          have n3_ : z5.heap.size ≤ gp := by omega
          rw [← hg_gp] at Zp ⊢
          clear hg_gp
          iterate 27 (first | with_reducible refine isStore (ty := 37) rfl ?_ | go_step)
          refine wpList_store_row rfl 37 _ _ rfl (gp) (y1.cells).toArray rfl rfl 37 _ Zp sizeCm (by rfl) (Cm.one _) ?_
          have N_ := setRow_heap z6 (gp) _ (y1.cells).toArray _ _ Zp
          have ee := belowSet (cs := (y1.cells).toArray) ee Zp (by omega)
          have e2 := belowSet (cs := (y1.cells).toArray) e2 Zp (by omega)
          have ey := belowSet (cs := (y1.cells).toArray) ey Zp (by omega)
          have Zo := hpR Zo (g' := gp) (by omega) (y1.cells).toArray
          have Zb := hpR Zb (g' := gp) (by omega) (y1.cells).toArray
          have Zc := hpR Zc (g' := gp) (by omega) (y1.cells).toArray
          clear Zp
          have Zp := N_
          clear N_
          generalize z6.setRow (gp) (y1.cells).toArray = z7 at Zo Zb Zc Zp ee e2 ey ⊢
          go_upto_region 14 with fail
          have c2 := rowCell Zo 2 (v := .int .i64 o.sl) rfl
          refine wp_region_lit ?_
          iterate 27 (first | with_reducible refine isLoad (ty := 37) rfl ?_ | go_step)
          refine wpList_load_mid rfl 37 _ rfl (w.heap.size) (22) rfl (o.x.cells) _ (rowMid Zo (22) (LOp.cx o)) Tryd.underlying37 rfl sizeCm ?_
          go_wp2_with fail
          refine (rpropose z7 B r t R o.sl o.x (HR.out.below e2) (by omega) (HX.out.below ee (Nat.le_refl _))).mono ?_
          rintro e z8 ⟨⟨y2, b2, hy2, rfl⟩, ⟨R9, hr9⟩, f_, p_⟩
          have Zo := (HR.out.below e2).heap f_ Zo (by decide) (by decide) (by decide)
          have Zb := (HR.out.below e2).heap f_ Zb (by decide) (by decide) (by decide)
          have Zc := (HR.out.below e2).heap f_ Zc (by decide) (by decide) (by decide)
          have Zp := (HR.out.below e2).heap f_ Zp (by decide) (by decide) (by decide)
          have KQ := (KQ.below e2).trans ((HR.out.below e2).keepT f_)
          have HK9 : Hid (LdK z8 B h (t + 1) L9) := (HK.out.below e2).other (HR.out.below e2) f_ p_
          clear HK
          have HK := HK9
          clear HK9
          clear HR
          have HR := Lib.hid hr9
          clear hr9 f_ e2
          have ee := ee.trans p_
          have ey := ey.trans p_
          have e2 : Below z8.heap.size z8 z8 := Below.refl _ _
          clear p_
          obtain ⟨wz, hwz⟩ : ∃ wz, wz = z8 := ⟨_, rfl⟩
          have ez : Below B wz z8 := by rw [hwz]; exact Below.refl _ _
          have hBz : B ≤ wz.heap.size := by rw [hwz]; have := HK.out.lt; have := HK.out.hB; omega
          rw [← hwz] at hy2
          clear hwz c2
          have HY2 := Lib.hid hy2
          clear hy2
          try dsimp only
          rename_i hK
          refine hK _ _ ?_
          clear hK
          iterate 12 go_step
          have s2_ := e2.size
          have lZo := (Array.getElem?_eq_some_iff.1 Zo).1
          have lZb := (Array.getElem?_eq_some_iff.1 Zb).1
          have lZc := (Array.getElem?_eq_some_iff.1 Zc).1
          have lZp := (Array.getElem?_eq_some_iff.1 Zp).1
          have sz_ := ee.size
          have Zo := hpA Zo (.cells #[.int .i64 0, .int .i64 0, .int .i64 0, .slice none 0 0, .slice none 0 0, .int .i64 0, .int .i64 0, .int .i64 0, .int .u64 0, .bool false] 41)
          have Zb := hpA Zb (.cells #[.int .i64 0, .int .i64 0, .int .i64 0, .slice none 0 0, .slice none 0 0, .int .i64 0, .int .i64 0, .int .i64 0, .int .u64 0, .bool false] 41)
          have Zc := hpA Zc (.cells #[.int .i64 0, .int .i64 0, .int .i64 0, .slice none 0 0, .slice none 0 0, .int .i64 0, .int .i64 0, .int .i64 0, .int .u64 0, .bool false] 41)
          have Zp := hpA Zp (.cells #[.int .i64 0, .int .i64 0, .int .i64 0, .slice none 0 0, .slice none 0 0, .int .i64 0, .int .i64 0, .int .i64 0, .int .u64 0, .bool false] 41)
          have ee := ee.alloc (Nat.le_trans hB ee.size) (.cells #[.int .i64 0, .int .i64 0, .int .i64 0, .slice none 0 0, .slice none 0 0, .int .i64 0, .int .i64 0, .int .i64 0, .int .u64 0, .bool false] 41)
          have e2 := e2.alloc e2.size (.cells #[.int .i64 0, .int .i64 0, .int .i64 0, .slice none 0 0, .slice none 0 0, .int .i64 0, .int .i64 0, .int .i64 0, .int .u64 0, .bool false] 41)
          have ey := ey.alloc (Nat.le_trans hBy ey.size) (.cells #[.int .i64 0, .int .i64 0, .int .i64 0, .slice none 0 0, .slice none 0 0, .int .i64 0, .int .i64 0, .int .i64 0, .int .u64 0, .bool false] 41)
          have ez := ez.alloc (Nat.le_trans hBz ez.size) (.cells #[.int .i64 0, .int .i64 0, .int .i64 0, .slice none 0 0, .slice none 0 0, .int .i64 0, .int .i64 0, .int .i64 0, .int .u64 0, .bool false] 41)
          have Zq := hpN z8 (.cells #[.int .i64 0, .int .i64 0, .int .i64 0, .slice none 0 0, .slice none 0 0, .int .i64 0, .int .i64 0, .int .i64 0, .int .u64 0, .bool false] 41) rfl
          generalize z8.alloc (.cells #[.int .i64 0, .int .i64 0, .int .i64 0, .slice none 0 0, .slice none 0 0, .int .i64 0, .int .i64 0, .int .i64 0, .int .u64 0, .bool false] 41) = z9 at Zo Zb Zc Zp Zq ee e2 ey ez ⊢
          obtain ⟨gq, hg_gq⟩ : ∃ g_, g_ = z8.heap.size := ⟨_, rfl⟩
          have hgq : w.heap.size < gq := by omega
          have n_gb_gq : gb < gq := by omega
          have n_gc_gq : gc < gq := by omega
          have n_gp_gq : gp < gq := by omega
          have n3_ : z8.heap.size ≤ gq := by omega
          rw [← hg_gq] at Zq ⊢
          clear hg_gq
          iterate 27 (first | with_reducible refine isStore (ty := 41) rfl ?_ | go_step)
          refine wpList_store_row rfl 41 _ _ rfl (gq) (y2.cells).toArray rfl rfl 41 _ Zq sizeRCm (by rfl) (Cm.one _) ?_
          have N_ := setRow_heap z9 (gq) _ (y2.cells).toArray _ _ Zq
          have ee := belowSet (cs := (y2.cells).toArray) ee Zq (by omega)
          have e2 := belowSet (cs := (y2.cells).toArray) e2 Zq (by omega)
          have ey := belowSet (cs := (y2.cells).toArray) ey Zq (by omega)
          have ez := belowSet (cs := (y2.cells).toArray) ez Zq (by omega)
          have Zo := hpR Zo (g' := gq) (by omega) (y2.cells).toArray
          have Zb := hpR Zb (g' := gq) (by omega) (y2.cells).toArray
          have Zc := hpR Zc (g' := gq) (by omega) (y2.cells).toArray
          have Zp := hpR Zp (g' := gq) (by omega) (y2.cells).toArray
          clear Zq
          have Zq := N_
          clear N_
          generalize z9.setRow (gq) (y2.cells).toArray = z10 at Zo Zb Zc Zp Zq ee e2 ey ez ⊢
          go_upto_region 15 with fail
          generalize hb12 : (b1 == b2) = d1
          cases d1 with
          | false =>
            go_wp2_with fail
            go_ret
            exact ⟨RetB.mk _, ⟨L9, HK.out.below e2, LAct.ofKeep HST.out⟩, ⟨R9, HR.out.below e2⟩, ee, KQ.below e2⟩
          | true =>
            refine wp_region_lit ?_
            iterate 60 (first | with_reducible refine isLoad (ty := 37) rfl ?_ | go_step)
            refine wpList_load_g (by rfl) 37 _ rfl (gp) 0 rfl (y1.cells) _ (rowAt Zp) Tryd.underlying37 rfl sizeCm ?_
            iterate 60 (first | with_reducible refine isLoad (ty := 41) rfl ?_ | go_step)
            refine wpList_load_g (by rfl) 41 _ rfl (gq) 0 rfl (y2.cells) _ (rowAt Zq) Tryd.underlying41 rfl sizeRCm ?_
            go_wp2_with fail
            refine (cr_csame y1 y2 z10 z10.heap.size (Nat.le_refl _) ((HY1.out.below ey (Nat.le_refl _)).more (Nat.le_trans hBy ey.size)) ((HY2.out.below ez (Nat.le_refl _)).more (Nat.le_trans hBz ez.size))).mono ?_
            rintro e z11 ⟨rfl, t⟩
            have Zo := hpB Zo t
            have Zb := hpB Zb t
            have Zc := hpB Zc t
            have Zp := hpB Zp t
            have Zq := hpB Zq t
            have ee := ee.trans (t.mono (Nat.le_trans hB ee.size))
            have e2 := e2.trans (t.mono e2.size)
            have ey := ey.trans (t.mono (Nat.le_trans hBy ey.size))
            have ez := ez.trans (t.mono (Nat.le_trans hBz ez.size))
            clear t
            try dsimp only
            rename_i hK
            refine hK _ _ ?_
            clear hK
            go_wp2_with fail
            go_ret
            exact ⟨RetB.mk _, ⟨L9, HK.out.below e2, LAct.ofKeep HST.out⟩, ⟨R9, HR.out.below e2⟩, ee, KQ.below e2⟩
        · have e4 : (o.kd == 3) = false := by simpa using k3
          by_cases k4 : o.kd = 4
          · have e5 : (o.kd == 4) = true := by rw [k4]; rfl
            go_upto_region 17 with fail
            clear c0 e1 e3 e4 e5
            have Zo : z4.drew.heap[w.heap.size]? = some (.cells o.cells.toArray 99) := Zo
            have Zb : z4.drew.heap[gb]? = some (.cells ([.int .u32 (o.br : Int), .int .i64 o.bn]).toArray 28) := Zb
            have Zc : z4.drew.heap[gc]? = some (.cells ([.int .u32 (o.br : Int), .int .i64 o.bn]).toArray 40) := Zc
            have ee := belowDrewS ee
            have e2 := belowDrewS e2
            refine wp_region_held_drew (S := fun z' => z'.cell? ⟨w.heap.size, 1, none⟩ = some (.int .i64 o.nd) ∧ z'.rangeAt gb (0) ([.int .u32 (o.br : Int), .int .i64 o.bn]) ∧ z'.cell? ⟨w.heap.size, 2, none⟩ = some (.int .i64 o.sl) ∧ z'.rangeAt gc (0) ([.int .u32 (o.br : Int), .int .i64 o.bn])) (by kernel_rfl) ⟨(rowCell Zo (1) rfl), (rowAt Zb), (rowCell Zo (2) rfl), (rowAt Zc)⟩ (fun hH => ?_)
            clear hH
            generalize z4.drew = z5 at Zo Zb Zc ee e2 ⊢
            refine wpAnyH_take (i := 0) (v := .pointer (some ⟨h, 0, none⟩)) rfl (by kernel_rfl) (by kernel_rfl) (by kernel_rfl) (fun _ _ _ h => h) (Or.inl ⟨by rfl, fun w_ hS_ => by (first | (go_simp; done) | (go_simp; rfl))⟩) ⟨(rowCell Zo (1) rfl), (rowAt Zb), (rowCell Zo (2) rfl), (rowAt Zc)⟩ ?_
            try simp only [Act.put, List.getElem_toArray, List.getElem_cons_zero, List.getElem_cons_succ, List.setIfInBounds_toArray, List.set_cons_zero, List.set_cons_succ]
            refine wpAnyH_take (i := 1) (v := .pointer (some ⟨w.heap.size, 1, none⟩)) rfl (by kernel_rfl) (by kernel_rfl) (by kernel_rfl) (fun _ _ _ h => h) (Or.inl ⟨by rfl, fun w_ hS_ => by (first | (go_simp; done) | (go_simp; rfl))⟩) ⟨(rowCell Zo (1) rfl), (rowAt Zb), (rowCell Zo (2) rfl), (rowAt Zc)⟩ ?_
            try simp only [Act.put, List.getElem_toArray, List.getElem_cons_zero, List.getElem_cons_succ, List.setIfInBounds_toArray, List.set_cons_zero, List.set_cons_succ]
            refine wpAnyH_take (i := 2) (v := .int .i64 o.nd) rfl (by kernel_rfl) (by kernel_rfl) (by kernel_rfl) (fun _ _ _ h => h) (Or.inl ⟨by rfl, fun w_ hS_ => by (have c_ := hS_.1; first | (go_simp; done) | (go_simp; rfl))⟩) ⟨(rowCell Zo (1) rfl), (rowAt Zb), (rowCell Zo (2) rfl), (rowAt Zc)⟩ ?_
            try simp only [Act.put, List.getElem_toArray, List.getElem_cons_zero, List.getElem_cons_succ, List.setIfInBounds_toArray, List.set_cons_zero, List.set_cons_succ]
            refine wpAnyH_take (i := 3) (v := .agg ([.int .u32 (o.br : Int), .int .i64 o.bn]).toArray) rfl (by kernel_rfl) (by kernel_rfl) (by kernel_rfl) (fun _ _ _ h => h) (yieldsIf_load_mid (by rfl) 28 _ rfl (gb) (0) rfl ([.int .u32 (o.br : Int), .int .i64 o.bn]) _ (fun _ h => h.2.1) Tryd.underlying28 rfl sizeBal) ⟨(rowCell Zo (1) rfl), (rowAt Zb), (rowCell Zo (2) rfl), (rowAt Zc)⟩ ?_
            try simp only [Act.put, List.getElem_toArray, List.getElem_cons_zero, List.getElem_cons_succ, List.setIfInBounds_toArray, List.set_cons_zero, List.set_cons_succ]
            refine wpAnyH_take (i := 4) (v := .pointer (some ⟨w.heap.size, 2, none⟩)) rfl (by kernel_rfl) (by kernel_rfl) (by kernel_rfl) (fun _ _ _ h => h) (Or.inl ⟨by rfl, fun w_ hS_ => by (first | (go_simp; done) | (go_simp; rfl))⟩) ⟨(rowCell Zo (1) rfl), (rowAt Zb), (rowCell Zo (2) rfl), (rowAt Zc)⟩ ?_
            try simp only [Act.put, List.getElem_toArray, List.getElem_cons_zero, List.getElem_cons_succ, List.setIfInBounds_toArray, List.set_cons_zero, List.set_cons_succ]
            refine wpAnyH_take (i := 5) (v := .int .i64 o.sl) rfl (by kernel_rfl) (by kernel_rfl) (by kernel_rfl) (fun _ _ _ h => h) (Or.inl ⟨by rfl, fun w_ hS_ => by (have c_ := hS_.2.2.1; first | (go_simp; done) | (go_simp; rfl))⟩) ⟨(rowCell Zo (1) rfl), (rowAt Zb), (rowCell Zo (2) rfl), (rowAt Zc)⟩ ?_
            try simp only [Act.put, List.getElem_toArray, List.getElem_cons_zero, List.getElem_cons_succ, List.setIfInBounds_toArray, List.set_cons_zero, List.set_cons_succ]
            refine wpAnyH_take (i := 7) (v := .pointer (some ⟨r, 0, none⟩)) rfl (by kernel_rfl) (by kernel_rfl) (by kernel_rfl) (fun _ _ _ h => h) (Or.inl ⟨by rfl, fun w_ hS_ => by (first | (go_simp; done) | (go_simp; rfl))⟩) ⟨(rowCell Zo (1) rfl), (rowAt Zb), (rowCell Zo (2) rfl), (rowAt Zc)⟩ ?_
            try simp only [Act.put, List.getElem_toArray, List.getElem_cons_zero, List.getElem_cons_succ, List.setIfInBounds_toArray, List.set_cons_zero, List.set_cons_succ]
            refine wpAnyH_take (i := 8) (v := .pointer (some ⟨w.heap.size, 1, none⟩)) rfl (by kernel_rfl) (by kernel_rfl) (by kernel_rfl) (fun _ _ _ h => h) (Or.inl ⟨by rfl, fun w_ hS_ => by (first | (go_simp; done) | (go_simp; rfl))⟩) ⟨(rowCell Zo (1) rfl), (rowAt Zb), (rowCell Zo (2) rfl), (rowAt Zc)⟩ ?_
            try simp only [Act.put, List.getElem_toArray, List.getElem_cons_zero, List.getElem_cons_succ, List.setIfInBounds_toArray, List.set_cons_zero, List.set_cons_succ]
            refine wpAnyH_take (i := 9) (v := .int .i64 o.nd) rfl (by kernel_rfl) (by kernel_rfl) (by kernel_rfl) (fun _ _ _ h => h) (Or.inl ⟨by rfl, fun w_ hS_ => by (have c_ := hS_.1; first | (go_simp; done) | (go_simp; rfl))⟩) ⟨(rowCell Zo (1) rfl), (rowAt Zb), (rowCell Zo (2) rfl), (rowAt Zc)⟩ ?_
            try simp only [Act.put, List.getElem_toArray, List.getElem_cons_zero, List.getElem_cons_succ, List.setIfInBounds_toArray, List.set_cons_zero, List.set_cons_succ]
            refine wpAnyH_take (i := 10) (v := .agg ([.int .u32 (o.br : Int), .int .i64 o.bn]).toArray) rfl (by kernel_rfl) (by kernel_rfl) (by kernel_rfl) (fun _ _ _ h => h) (yieldsIf_load_mid (by rfl) 40 _ rfl (gc) (0) rfl ([.int .u32 (o.br : Int), .int .i64 o.bn]) _ (fun _ h => h.2.2.2) Tryd.underlying40 rfl sizeRBal) ⟨(rowCell Zo (1) rfl), (rowAt Zb), (rowCell Zo (2) rfl), (rowAt Zc)⟩ ?_
            try simp only [Act.put, List.getElem_toArray, List.getElem_cons_zero, List.getElem_cons_succ, List.setIfInBounds_toArray, List.set_cons_zero, List.set_cons_succ]
            refine wpAnyH_take (i := 11) (v := .pointer (some ⟨w.heap.size, 2, none⟩)) rfl (by kernel_rfl) (by kernel_rfl) (by kernel_rfl) (fun _ _ _ h => h) (Or.inl ⟨by rfl, fun w_ hS_ => by (first | (go_simp; done) | (go_simp; rfl))⟩) ⟨(rowCell Zo (1) rfl), (rowAt Zb), (rowCell Zo (2) rfl), (rowAt Zc)⟩ ?_
            try simp only [Act.put, List.getElem_toArray, List.getElem_cons_zero, List.getElem_cons_succ, List.setIfInBounds_toArray, List.set_cons_zero, List.set_cons_succ]
            refine wpAnyH_take (i := 12) (v := .int .i64 o.sl) rfl (by kernel_rfl) (by kernel_rfl) (by kernel_rfl) (fun _ _ _ h => h) (Or.inl ⟨by rfl, fun w_ hS_ => by (have c_ := hS_.2.2.1; first | (go_simp; done) | (go_simp; rfl))⟩) ⟨(rowCell Zo (1) rfl), (rowAt Zb), (rowCell Zo (2) rfl), (rowAt Zc)⟩ ?_
            try simp only [Act.put, List.getElem_toArray, List.getElem_cons_zero, List.getElem_cons_succ, List.setIfInBounds_toArray, List.set_cons_zero, List.set_cons_succ]
            refine wpAnyH_ready (rs := [6]) (by kernel_rfl) (by simp) ?_
            refine AllReadyH.cons rfl (fun K hK => ?_) AllReadyH.nil
            rw [if_pos (by rfl)]
            go_simp
            go_wp2_with (go_at_call 38; refine (kvote z5 B h t L o.nd o.br o.bn o.sl (HK.out.below e2)).mono ?_; rintro e z6 ⟨⟨b1, rfl⟩, ⟨L9, hk9, hst⟩, f_, p_⟩)
            have Zo := f_.heap Zo (fun q_ => q_.elim (fun q_ => by have := HK.out.lt; omega) (fun q_ => ogKind (HK.out.below e2).row Zo (by decide) q_))
            have Zb := f_.heap Zb (fun q_ => q_.elim (fun q_ => by have := HK.out.lt; omega) (fun q_ => ogKind (HK.out.below e2).row Zb (by decide) q_))
            have Zc := f_.heap Zc (fun q_ => q_.elim (fun q_ => by have := HK.out.lt; omega) (fun q_ => ogKind (HK.out.below e2).row Zc (by decide) q_))
            have HST := Lib.hid hst
            clear hst
            have KQ := (KQ.below e2).trans ((HK.out.below e2).keepT f_)
            have HR9 : Hid (RlAt z6 B r t R) := (HR.out.below e2).moved (HK.out.below e2) f_ p_
            clear HR
            have HR := HR9
            clear HR9
            clear HK
            have HK := Lib.hid hk9
            clear hk9 f_ e2
            have ee := ee.trans p_
            have e2 : Below z6.heap.size z6 z6 := Below.refl _ _
            clear p_
            refine hK.out _ _ ⟨(rowCell Zo (1) rfl), (rowAt Zb), (rowCell Zo (2) rfl), (rowAt Zc)⟩ (fun hH => ?_)
            clear hK K hH
            try simp only [Act.put, List.getElem_toArray, List.getElem_cons_zero, List.getElem_cons_succ, List.setIfInBounds_toArray, List.set_cons_zero, List.set_cons_succ]
            refine wpAnyH_ready (rs := [13]) (by kernel_rfl) (by simp) ?_
            refine AllReadyH.cons rfl (fun K hK => ?_) AllReadyH.nil
            rw [if_pos (by rfl)]
            go_simp
            go_wp2_with (go_at_call 87; refine (rvote z6 B r t R o.nd o.br o.bn o.sl (HR.out.below e2) (by omega)).mono ?_; rintro e z7 ⟨⟨b2, rfl⟩, ⟨R9, hr9⟩, f_, p_⟩)
            have Zo := (HR.out.below e2).heap f_ Zo (by decide) (by decide) (by decide)
            have Zb := (HR.out.below e2).heap f_ Zb (by decide) (by decide) (by decide)
            have Zc := (HR.out.below e2).heap f_ Zc (by decide) (by decide) (by decide)
            have KQ := (KQ.below e2).trans ((HR.out.below e2).keepT f_)
            have HK9 : Hid (LdK z7 B h (t + 1) L9) := (HK.out.below e2).other (HR.out.below e2) f_ p_
            clear HK
            have HK := HK9
            clear HK9
            clear HR
            have HR := Lib.hid hr9
            clear hr9 f_ e2
            have ee := ee.trans p_
            have e2 : Below z7.heap.size z7 z7 := Below.refl _ _
            clear p_
            refine hK.out _ _ ⟨(rowCell Zo (1) rfl), (rowAt Zb), (rowCell Zo (2) rfl), (rowAt Zc)⟩ (fun hH => ?_)
            clear hK K hH
            try simp only [Act.put, List.getElem_toArray, List.getElem_cons_zero, List.getElem_cons_succ, List.setIfInBounds_toArray, List.set_cons_zero, List.set_cons_succ]
            refine wpAnyH_take (i := 14) (v := .bool (b1 == b2)) rfl (by kernel_rfl) (by kernel_rfl) (by kernel_rfl) (fun _ _ _ h => h) (Or.inl ⟨by rfl, fun w_ hS_ => by (first | (go_simp; done) | (go_simp; rfl))⟩) ⟨(rowCell Zo (1) rfl), (rowAt Zb), (rowCell Zo (2) rfl), (rowAt Zc)⟩ ?_
            try simp only [Act.put, List.getElem_toArray, List.getElem_cons_zero, List.getElem_cons_succ, List.setIfInBounds_toArray, List.set_cons_zero, List.set_cons_succ]
            refine wpAnyH_take (i := 15) (v := .bool (b1 == b2)) rfl (by kernel_rfl) (by kernel_rfl) (by kernel_rfl) (fun _ _ _ h => h) (Or.inl ⟨by rfl, fun w_ hS_ => by (first | (go_simp; done) | (go_simp; rfl))⟩) ⟨(rowCell Zo (1) rfl), (rowAt Zb), (rowCell Zo (2) rfl), (rowAt Zc)⟩ ?_
            try simp only [Act.put, List.getElem_toArray, List.getElem_cons_zero, List.getElem_cons_succ, List.setIfInBounds_toArray, List.set_cons_zero, List.set_cons_succ]
            refine wpAnyH_done (by kernel_rfl) ?_ _
            go_wp2_with fail
            go_ret
            exact ⟨RetB.mk _, ⟨L9, HK.out.below e2, LAct.ofKeep HST.out⟩, ⟨R9, HR.out.below e2⟩, ee, KQ.below e2⟩
          · have e5 : (o.kd == 4) = false := by simpa using k4
            by_cases k5 : o.kd = 5
            · have e6 : (o.kd == 5) = true := by rw [k5]; rfl
              go_upto_region 19 with fail
              clear c0 e1 e3 e4 e5 e6
              go_wp2_with fail
              refine (kdone z4 B h t L (HK.out.below e2)).mono ?_
              rintro e z5 ⟨⟨b1, rfl⟩, ⟨L9, hk9, hst⟩, f_, p_⟩
              have Zo := f_.heap Zo (fun q_ => q_.elim (fun q_ => by have := HK.out.lt; omega) (fun q_ => ogKind (HK.out.below e2).row Zo (by decide) q_))
              have Zb := f_.heap Zb (fun q_ => q_.elim (fun q_ => by have := HK.out.lt; omega) (fun q_ => ogKind (HK.out.below e2).row Zb (by decide) q_))
              have Zc := f_.heap Zc (fun q_ => q_.elim (fun q_ => by have := HK.out.lt; omega) (fun q_ => ogKind (HK.out.below e2).row Zc (by decide) q_))
              have KQ := (KQ.below e2).trans ((HK.out.below e2).keepT f_)
              have HR9 : Hid (RlAt z5 B r t R) := (HR.out.below e2).moved (HK.out.below e2) f_ p_
              clear HR
              have HR := HR9
              clear HR9
              clear HK
              have HK := Lib.hid hk9
              clear hk9 f_ e2
              have ee := ee.trans p_
              have e2 : Below z5.heap.size z5 z5 := Below.refl _ _
              clear p_
              have HST := Lib.hid hst
              clear hst
              try dsimp only
              rename_i hK
              refine hK _ _ ?_
              clear hK
              go_wp2_with fail
              refine (rdone z5 B r t R (HR.out.below e2) (by omega)).mono ?_
              rintro e z6 ⟨⟨b2, rfl⟩, ⟨R9, hr9⟩, f_, p_⟩
              have Zo := (HR.out.below e2).heap f_ Zo (by decide) (by decide) (by decide)
              have Zb := (HR.out.below e2).heap f_ Zb (by decide) (by decide) (by decide)
              have Zc := (HR.out.below e2).heap f_ Zc (by decide) (by decide) (by decide)
              have KQ := (KQ.below e2).trans ((HR.out.below e2).keepT f_)
              have HK9 : Hid (LdK z6 B h (t + 1) L9) := (HK.out.below e2).other (HR.out.below e2) f_ p_
              clear HK
              have HK := HK9
              clear HK9
              clear HR
              have HR := Lib.hid hr9
              clear hr9 f_ e2
              have ee := ee.trans p_
              have e2 : Below z6.heap.size z6 z6 := Below.refl _ _
              clear p_
              try dsimp only
              rename_i hK
              refine hK _ _ ?_
              clear hK
              go_wp2_with fail
              go_ret
              exact ⟨RetB.mk _, ⟨L9, HK.out.below e2, ⟨NLs.same HST.out.1 HST.out.2, fun _ => HST.out, fun _ q => absurd k5 q⟩⟩, ⟨R9, HR.out.below e2⟩, ee, KQ.below e2⟩
            · have e6 : (o.kd == 5) = false := by simpa using k5
              have e7 : (o.kd == 6) = false := by simpa using h6
              go_wp2_with fail
              go_ret
              exact ⟨RetB.mk _, ⟨L, (HK.out.below e2).more, LAct.ofKeep (LKeep.refl L)⟩, ⟨R, (HR.out.below e2).more⟩, ee, KQ.below e2⟩
end Go.Proofs.YtbahooohkigcnaaDoor
