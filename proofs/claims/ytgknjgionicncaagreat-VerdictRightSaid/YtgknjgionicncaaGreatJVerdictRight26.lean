/- Texts joined by wip/tools/merge.py: Vx6 SetE Vx7 Vx8 Xx1 Vx9. -/
import Derived.Test.YtgknjgionicncaaGreatJVerdictRight12
import Derived.Test.YtgknjgionicncaaGreatJVerdictRight25
import Derived.Test.YtgknjgionicncaaGreatJVerdictRight24
import Derived.Test.YtgknjgionicncaaGreatJVerdictRight22
namespace Go.Proofs.YtgknjgionicncaaGreat.V
open Go.RowKit Go.Proofs.YtgknjgionicncaaGreat.Q Go.Proofs.YtgknjgionicncaaGreat.X Go.Proofs.YtgknjgionicncaaGreatW.PrintWords Go.Proofs.YtgknjgionicncaaGreatW.PrintLast Go.Proofs.YtgknjgionicncaaGreatW.PrintMore
attribute [local go_sem] max2_int min2_int max_two min_two max_three min_three max_four min_four
set_option linter.unusedVariables false
set_option linter.unusedSimpArgs false
def loop_turned.l0 : Nat → List (S72) → Int → List (S72) → Int → Int → Option ((List (S72)))
 | 0, _, _, _, _, _ => none
 | k + 1, x0, x3, x6, x7, x8 => if x8 < x7 then (if 0 ≤ x8 then (if x8 < (x6.length : Int) then (if 0 ≤ x3 then (if x3 < (x0.length : Int) then (if ((rd_T72 x6 x8).f0) < ((rd_T72 x0 x3).f0) then (loop_turned.l0 k x0 x8 x6 x7 (wrap64 (x8 + 1))) else (loop_turned.l0 k x0 x3 x6 x7 (wrap64 (x8 + 1)))) else (none)) else (none)) else (none)) else (none)) else (if 0 ≤ x3 then (if x3 ≤ (x0.length : Int) then ((api_Edge_139.f k (([(x0.drop (x3 : Int).toNat), (x0.take (x3 : Int).toNat)] : List (List (S72))))).bind fun t170 => (some t170)) else (none)) else (none))
def loop_turned.f (k : Nat) (l0 : List (S72)) : Option ((List (S72))) := loop_turned.l0 k l0 0 l0 (l0.length : Int) 0
theorem loop_turned.mono_l : ∀ k, (∀ y0 y1 y2 y3 y4, LeO (loop_turned.l0 k y0 y1 y2 y3 y4) (loop_turned.l0 (k + 1) y0 y1 y2 y3 y4))
 | 0 => fun _ _ _ _ _ r h => by simp [loop_turned.l0] at h
 | k + 1 => by
  have ih0 := loop_turned.mono_l k
  ·intro y0 y1 y2 y3 y4
   unfold loop_turned.l0
   have m0 := @api_Edge_139.mono
   exact zM
theorem loop_turned.mono : ∀ a0 k, LeO (loop_turned.f k a0) (loop_turned.f (k + 1) a0) := by
 intro a0 k
 have ih0 := loop_turned.mono_l k
 unfold loop_turned.f
 have m0 := @api_Edge_139.mono
 exact zM
def loop_turned.T5 : Bool × List (List Nat × List Nat) := (true, [([], []), ([0], [0]), ([], []), ([], []), ([2, 3], [2, 3]), ([4], [4]), ([5], [5]), ([1, 6], [1, 6])])
def loop_turned.B5 : List Nat := [0, 1, 0, 0, 12, 28, 60, 127]
theorem loop_turned.tab5 : rtab .any (opsOf Tryz.f112 5) = loop_turned.T5 := by kernel_rfl
theorem loop_turned.bits5 : waitsOk loop_turned.T5.2 loop_turned.B5 = true := by kernel_rfl
def loop_turned.T8 : Bool × List (List Nat × List Nat) := (true, [([], []), ([], []), ([0, 1], [0, 1]), ([], []), ([], []), ([3, 4], [3, 4]), ([2, 5], [2, 5]), ([6], [6]), ([7, 7, 0, 1, 2, 3, 4, 5, 6, 7], [7])])
def loop_turned.B8 : List Nat := [0, 0, 3, 0, 0, 24, 63, 127, 255]
theorem loop_turned.tab8 : rtab .any (opsOf Tryz.f112 8) = loop_turned.T8 := by kernel_rfl
theorem loop_turned.bits8 : waitsOk loop_turned.T8.2 loop_turned.B8 = true := by kernel_rfl
set_option maxHeartbeats 8000000 in
set_option maxRecDepth 100000 in
theorem loop_turned.calls (k : Nat) (P0_ : Nat → Prop) (A0 : Option Addr) (c0 : Nat) (l0 : List (S72)) (r : List (S72)) (w : World) (hs0 : Kd.V k72 72 w w.heap.size (fun k_ => P0_ k_) (.slice A0 l0.length c0) l0) (h : loop_turned.f k l0 = some r) :
  Calls Tryz.prog 112 #[.slice A0 l0.length c0] w fun e w' => ∃ v0_ : Value, e = .returned (v0_) ∧ Kd.R k72 72 w' w.heap.size (fun k_ => (w.heap.size ≤ k_)) v0_ r ∧ Below w.heap.size w w' := by
 have hu72 := Tryz.underlying72
 have HO0 := Aside0.mk (show Kd.V k72 72 w w.heap.size (fun k_ => (P0_ k_ ∨ w.heap.size ≤ k_)) (.slice A0 l0.length c0) l0 from Kd.V_mono hs0 (fun k_ hk => .inl hk))
 have HB := Aside0.mk (Below.refl w.heap.size w)
 have H : (loop_turned.l0 k l0 0 l0 (l0.length : Int) 0) = some r := h
 clear h
 have H' := Aside0.mk H
 clear H
 go_enter Tryz.func112, Tryz.ntmps112
 go_wp2
 go_loopg [3, 8] k (fun kq v3 v8 w' => ∃ (x3_1 : Int) (x8_1 : Int), v3 = .int .i64 x3_1 ∧ v8 = .int .i64 x8_1 ∧ Aside0 (loop_turned.l0 kq l0 x3_1 l0 (l0.length : Int) x8_1 = some r) ∧ Aside0 (kq ≤ k) ∧ Aside0 (Kd.V k72 72 w' w.heap.size (fun k_ => (P0_ k_ ∨ w.heap.size ≤ k_)) (.slice A0 l0.length c0) l0) ∧ Aside0 (Kd.V k72 72 w' w.heap.size (fun k_ => (P0_ k_ ∨ w.heap.size ≤ k_)) (.slice A0 l0.length c0) l0) ∧ Aside0 (Below w.heap.size w w'))
 case atStart => exact ⟨(0), (0), zE, zE, H', ⟨Nat.le_refl _⟩, ⟨zRV HO0.out⟩, ⟨zRV HO0.out⟩, ⟨zB⟩⟩
 case round =>
  clear H'
  (try clear c1)
  obtain ⟨x3_1, x8_1, rfl, rfl, HA, HK1, HO_0, HO_6, HB⟩ := hrel
  cases gk with
  | zero => exact absurd HA.out (by simp [loop_turned.l0])
  | succ k1 =>
   have H := HA.out
   clear HA
   simp only [loop_turned.l0] at H
   by_cases c2 : x8_1 < (l0.length : Int)
   ·rw [if_pos c2] at H
    have c2b0 := decide_eq_true c2
    clear c2
    obtain ⟨c3b0, H⟩ := zt H
    obtain ⟨c4b0, H⟩ := zt H
    obtain ⟨c5b0, H⟩ := zt H
    obtain ⟨c6b0, H⟩ := zt H
    by_cases c7 : ((rd_T72 l0 x8_1).f0) < ((rd_T72 l0 x3_1).f0)
    ·rw [if_pos c7] at H
     have c7b0 := decide_eq_true c7
     clear c7
     have H' := Aside0.mk H
     clear H
     have p173 : 0 ≤ (x8_1 : Int) := of_decide_eq_true zA
     have q173 : x8_1 < (l0.length : Int) := of_decide_eq_true zA
     obtain ⟨ad173, e173, hx173_0, hx173_1, hx173_2, hx173_3, hx173_4, hx173_5⟩ := at_T72 (Kd.V_reads' HO_6.out).2.2 x8_1 p173 q173
     cases e173
     replace p173 := eq_true p173
     replace q173 := eq_true q173
     try go_wp2_with (first | ((with_reducible refine gate_dst (N := 5) rfl ?_); refine zbox (N := 5) (cs := #[.int .i64 0, .int .i64 0, .int .i64 0, .int .i64 0, .int .i64 0, .bool false]) (t := 72) ?_; intro gb174 hg w8 hbox hb; replace HO_0 := Aside0.mk (Kd.V_below (Kd.V_elderB (zRV HO_0.out) gb174 (Nat.le_of_eq hg.symm)) hb); replace HO_6 := Aside0.mk (Kd.V_below (Kd.V_elderB (zRV HO_6.out) gb174 (Nat.le_of_eq hg.symm)) hb); have BK174 := Aside0.mk (hbox); have GW174 := Aside0.mk ((by rw [hg]; exact (below_size zB) : w.heap.size ≤ gb174)); have GE174 := Aside0.mk ((by rw [hg]; exact (below_size zB) : w.heap.size ≤ gb174)); replace HB := Aside0.mk (below_step zB hb); clear hb hbox hg; obtain ⟨hcz9_0, hcz9_1, hcz9_2, hcz9_3, hcz9_4, hcz9_5, hfz9_0, hfz9_1, hfz9_2, hfz9_3, hfz9_4, hfz9_5⟩ := zb6 BK174.out))
     have n0_ : Aside0 (Kd.V k72 72 ((((((w8.setCell ⟨gb174, 0, none⟩ (.int .i64 ((rd_T72 l0 x8_1).f0))).setCell ⟨gb174, 1, none⟩ (.int .i64 ((rd_T72 l0 x8_1).f1))).setCell ⟨gb174, 2, none⟩ (.int .i64 ((rd_T72 l0 x8_1).f2))).setCell ⟨gb174, 3, none⟩ (.int .i64 ((rd_T72 l0 x8_1).f3.f0))).setCell ⟨gb174, 4, none⟩ (.int .i64 ((rd_T72 l0 x8_1).f3.f1))).setCell ⟨gb174, 5, none⟩ (.bool ((rd_T72 l0 x8_1).f4))) w.heap.size (fun k_ => (P0_ k_ ∨ w.heap.size ≤ k_) ∧ k_ ≠ gb174) (.slice (some ad173) l0.length c0) l0) := ⟨by (with_reducible repeat (first | apply Kd.V_alloc | apply Kd.V_drewN | apply Kd.V_drew)); exact Kd.V_mono (Kd.V_far (p := ⟨gb174, 5, none⟩) (Kd.V_far (p := ⟨gb174, 4, none⟩) (Kd.V_far (p := ⟨gb174, 3, none⟩) (Kd.V_far (p := ⟨gb174, 2, none⟩) (Kd.V_far (p := ⟨gb174, 1, none⟩) (Kd.V_far (p := ⟨gb174, 0, none⟩) (Kd.V_mono HO_0.out (fun k_ hk => (⟨hk, hk.2⟩ : _ ∧ k_ ≠ gb174))) (fun _ hk => hk.2) (.int .i64 ((rd_T72 l0 x8_1).f0))) (fun _ hk => hk.2) (.int .i64 ((rd_T72 l0 x8_1).f1))) (fun _ hk => hk.2) (.int .i64 ((rd_T72 l0 x8_1).f2))) (fun _ hk => hk.2) (.int .i64 ((rd_T72 l0 x8_1).f3.f0))) (fun _ hk => hk.2) (.int .i64 ((rd_T72 l0 x8_1).f3.f1))) (fun _ hk => hk.2) (.bool ((rd_T72 l0 x8_1).f4))) (fun _ hk => ⟨hk.1.1, hk.1.2⟩)⟩
     have n1_ : Aside0 (Kd.V k72 72 ((((((w8.setCell ⟨gb174, 0, none⟩ (.int .i64 ((rd_T72 l0 x8_1).f0))).setCell ⟨gb174, 1, none⟩ (.int .i64 ((rd_T72 l0 x8_1).f1))).setCell ⟨gb174, 2, none⟩ (.int .i64 ((rd_T72 l0 x8_1).f2))).setCell ⟨gb174, 3, none⟩ (.int .i64 ((rd_T72 l0 x8_1).f3.f0))).setCell ⟨gb174, 4, none⟩ (.int .i64 ((rd_T72 l0 x8_1).f3.f1))).setCell ⟨gb174, 5, none⟩ (.bool ((rd_T72 l0 x8_1).f4))) w.heap.size (fun k_ => (P0_ k_ ∨ w.heap.size ≤ k_) ∧ k_ ≠ gb174) (.slice (some ad173) l0.length c0) l0) := ⟨by (with_reducible repeat (first | apply Kd.V_alloc | apply Kd.V_drewN | apply Kd.V_drew)); exact Kd.V_mono (Kd.V_far (p := ⟨gb174, 5, none⟩) (Kd.V_far (p := ⟨gb174, 4, none⟩) (Kd.V_far (p := ⟨gb174, 3, none⟩) (Kd.V_far (p := ⟨gb174, 2, none⟩) (Kd.V_far (p := ⟨gb174, 1, none⟩) (Kd.V_far (p := ⟨gb174, 0, none⟩) (Kd.V_mono HO_6.out (fun k_ hk => (⟨hk, hk.2⟩ : _ ∧ k_ ≠ gb174))) (fun _ hk => hk.2) (.int .i64 ((rd_T72 l0 x8_1).f0))) (fun _ hk => hk.2) (.int .i64 ((rd_T72 l0 x8_1).f1))) (fun _ hk => hk.2) (.int .i64 ((rd_T72 l0 x8_1).f2))) (fun _ hk => hk.2) (.int .i64 ((rd_T72 l0 x8_1).f3.f0))) (fun _ hk => hk.2) (.int .i64 ((rd_T72 l0 x8_1).f3.f1))) (fun _ hk => hk.2) (.bool ((rd_T72 l0 x8_1).f4))) (fun _ hk => ⟨hk.1.1, hk.1.2⟩)⟩
     have n2_ : Aside0 (((((((w8.setCell ⟨gb174, 0, none⟩ (.int .i64 ((rd_T72 l0 x8_1).f0))).setCell ⟨gb174, 1, none⟩ (.int .i64 ((rd_T72 l0 x8_1).f1))).setCell ⟨gb174, 2, none⟩ (.int .i64 ((rd_T72 l0 x8_1).f2))).setCell ⟨gb174, 3, none⟩ (.int .i64 ((rd_T72 l0 x8_1).f3.f0))).setCell ⟨gb174, 4, none⟩ (.int .i64 ((rd_T72 l0 x8_1).f3.f1))).setCell ⟨gb174, 5, none⟩ (.bool ((rd_T72 l0 x8_1).f4))).heap[gb174]? = some (.cells #[.int .i64 ((rd_T72 l0 x8_1).f0), .int .i64 ((rd_T72 l0 x8_1).f1), .int .i64 ((rd_T72 l0 x8_1).f2), .int .i64 ((rd_T72 l0 x8_1).f3.f0), .int .i64 ((rd_T72 l0 x8_1).f3.f1), .bool ((rd_T72 l0 x8_1).f4)] 72 (0, 0))) := ⟨zP BK174.out⟩
     have n3_ : Aside0 (Below w.heap.size w ((((((w8.setCell ⟨gb174, 0, none⟩ (.int .i64 ((rd_T72 l0 x8_1).f0))).setCell ⟨gb174, 1, none⟩ (.int .i64 ((rd_T72 l0 x8_1).f1))).setCell ⟨gb174, 2, none⟩ (.int .i64 ((rd_T72 l0 x8_1).f2))).setCell ⟨gb174, 3, none⟩ (.int .i64 ((rd_T72 l0 x8_1).f3.f0))).setCell ⟨gb174, 4, none⟩ (.int .i64 ((rd_T72 l0 x8_1).f3.f1))).setCell ⟨gb174, 5, none⟩ (.bool ((rd_T72 l0 x8_1).f4)))) := ⟨zG GE174.out⟩
     (try clear HO_0); (try clear HO_6); (try clear BK174); (try clear HB)
     generalize ((((((w8.setCell ⟨gb174, 0, none⟩ (.int .i64 ((rd_T72 l0 x8_1).f0))).setCell ⟨gb174, 1, none⟩ (.int .i64 ((rd_T72 l0 x8_1).f1))).setCell ⟨gb174, 2, none⟩ (.int .i64 ((rd_T72 l0 x8_1).f2))).setCell ⟨gb174, 3, none⟩ (.int .i64 ((rd_T72 l0 x8_1).f3.f0))).setCell ⟨gb174, 4, none⟩ (.int .i64 ((rd_T72 l0 x8_1).f3.f1))).setCell ⟨gb174, 5, none⟩ (.bool ((rd_T72 l0 x8_1).f4))) = w10 at n0_ n1_ n2_ n3_ ⊢
     have HO_0 := n0_
     have HO_6 := n1_
     have BK174 := n2_
     have HB := n3_
     clear n0_ n1_ n2_ n3_
     replace HO_0 := Aside0.mk (Kd.V_drew HO_0.out)
     replace HO_6 := Aside0.mk (Kd.V_drew HO_6.out)
     replace BK174 := Aside0.mk (blk_drew BK174.out)
     replace HB := Aside0.mk (below_drew1 HB.out)
     have p175 : 0 ≤ (x3_1 : Int) := of_decide_eq_true zA
     have q175 : x3_1 < (l0.length : Int) := of_decide_eq_true zA
     obtain ⟨ad175, e175, hx175_0, hx175_1, hx175_2, hx175_3, hx175_4, hx175_5⟩ := at_T72 (Kd.V_reads' HO_0.out).2.2 x3_1 p175 q175
     obtain rfl : ad173 = ad175 := (by injection e175)
     replace p175 := eq_true p175
     replace q175 := eq_true q175
     refine start_ (n := 8) (S := fun w' => w'.cell? ⟨gb174, 0, none⟩ = some (.int .i64 ((rd_T72 l0 x8_1).f0)) ∧ w'.cell? ⟨gb174, 1, none⟩ = some (.int .i64 ((rd_T72 l0 x8_1).f1)) ∧ w'.cell? ⟨gb174, 2, none⟩ = some (.int .i64 ((rd_T72 l0 x8_1).f2)) ∧ w'.cell? ⟨gb174, 3, none⟩ = some (.int .i64 ((rd_T72 l0 x8_1).f3.f0)) ∧ w'.cell? ⟨gb174, 4, none⟩ = some (.int .i64 ((rd_T72 l0 x8_1).f3.f1)) ∧ w'.cell? ⟨gb174, 5, none⟩ = some (.bool ((rd_T72 l0 x8_1).f4)) ∧ w'.cell? (ad173.add ((x3_1).toNat * 6)) = some (.int .i64 ((rd_T72 l0 x3_1).f0)) ∧ w'.cell? ⟨(ad173.add ((x3_1).toNat * 6)).block, (ad173.add ((x3_1).toNat * 6)).off + 1, none⟩ = some (.int .i64 ((rd_T72 l0 x3_1).f1)) ∧ w'.cell? ⟨(ad173.add ((x3_1).toNat * 6)).block, (ad173.add ((x3_1).toNat * 6)).off + 2, none⟩ = some (.int .i64 ((rd_T72 l0 x3_1).f2)) ∧ w'.cell? ⟨(ad173.add ((x3_1).toNat * 6)).block, (ad173.add ((x3_1).toNat * 6)).off + 3, none⟩ = some (.int .i64 ((rd_T72 l0 x3_1).f3.f0)) ∧ w'.cell? ⟨(ad173.add ((x3_1).toNat * 6)).block, (ad173.add ((x3_1).toNat * 6)).off + 4, none⟩ = some (.int .i64 ((rd_T72 l0 x3_1).f3.f1)) ∧ w'.cell? ⟨(ad173.add ((x3_1).toNat * 6)).block, (ad173.add ((x3_1).toNat * 6)).off + 5, none⟩ = some (.bool ((rd_T72 l0 x3_1).f4))) (ds := []) #[false, false, false, false, false, false, false, false] (by kernel_rfl) rfl rfl ⟨(blk_cell BK174.out 0).trans rfl, (blk_cell BK174.out 1).trans rfl, (blk_cell BK174.out 2).trans rfl, (blk_cell BK174.out 3).trans rfl, (blk_cell BK174.out 4).trans rfl, (blk_cell BK174.out 5).trans rfl, hx175_0, hx175_1, hx175_2, hx175_3, hx175_4, hx175_5⟩ (fun hHeld => ?_); refine with_tabW loop_turned.tab5 loop_turned.bits5 (fun HT_ HW_ => ?_)
     generalize w10.drew = w11 at HO_0 HO_6 BK174 HB hx175_0 hx175_1 hx175_2 hx175_3 hx175_4 hx175_5 hHeld ⊢
     refine zp 0 (some 13) ?_
     refine zp 2 (some 15) ?_
     refine zp 3 (some 16) ?_
     refine zp 4 (some 17) ?_
     refine zp 5 (some 18) ?_
     refine zt12 1 (some 14) ?_
     refine zt12 6 (some 19) ?_
     refine zp 7 (some 20) ?_
     refine done_ (done_of HT_.out (by kernel_rfl)) ?_
     try go_wp2
     go_roundg k1
     case measure => have := HK1.out; omega
     case rel => exact ⟨(x8_1), (wrap64 (x8_1 + 1)), zE, zE, H', ⟨by have := HK1.out; omega⟩, ⟨by (with_reducible repeat (first | apply Kd.V_alloc | apply Kd.V_drewN | apply Kd.V_drew)); exact Kd.V_mono HO_0.out (fun _ hk => hk.1)⟩, ⟨by (with_reducible repeat (first | apply Kd.V_alloc | apply Kd.V_drewN | apply Kd.V_drew)); exact Kd.V_mono HO_6.out (fun _ hk => hk.1)⟩, ⟨zG GE174.out⟩⟩
    ·rw [if_neg c7] at H
     have c7b0 := decide_eq_false c7
     clear c7
     have H' := Aside0.mk H
     clear H
     have p173 : 0 ≤ (x8_1 : Int) := of_decide_eq_true zA
     have q173 : x8_1 < (l0.length : Int) := of_decide_eq_true zA
     obtain ⟨ad173, e173, hx173_0, hx173_1, hx173_2, hx173_3, hx173_4, hx173_5⟩ := at_T72 (Kd.V_reads' HO_6.out).2.2 x8_1 p173 q173
     cases e173
     replace p173 := eq_true p173
     replace q173 := eq_true q173
     try go_wp2_with (first | ((with_reducible refine gate_dst (N := 5) rfl ?_); refine zbox (N := 5) (cs := #[.int .i64 0, .int .i64 0, .int .i64 0, .int .i64 0, .int .i64 0, .bool false]) (t := 72) ?_; intro gb174 hg w12 hbox hb; replace HO_0 := Aside0.mk (Kd.V_below (Kd.V_elderB (zRV HO_0.out) gb174 (Nat.le_of_eq hg.symm)) hb); replace HO_6 := Aside0.mk (Kd.V_below (Kd.V_elderB (zRV HO_6.out) gb174 (Nat.le_of_eq hg.symm)) hb); have BK174 := Aside0.mk (hbox); have GW174 := Aside0.mk ((by rw [hg]; exact (below_size zB) : w.heap.size ≤ gb174)); have GE174 := Aside0.mk ((by rw [hg]; exact (below_size zB) : w.heap.size ≤ gb174)); replace HB := Aside0.mk (below_step zB hb); clear hb hbox hg; obtain ⟨hcz13_0, hcz13_1, hcz13_2, hcz13_3, hcz13_4, hcz13_5, hfz13_0, hfz13_1, hfz13_2, hfz13_3, hfz13_4, hfz13_5⟩ := zb6 BK174.out))
     have n0_ : Aside0 (Kd.V k72 72 ((((((w12.setCell ⟨gb174, 0, none⟩ (.int .i64 ((rd_T72 l0 x8_1).f0))).setCell ⟨gb174, 1, none⟩ (.int .i64 ((rd_T72 l0 x8_1).f1))).setCell ⟨gb174, 2, none⟩ (.int .i64 ((rd_T72 l0 x8_1).f2))).setCell ⟨gb174, 3, none⟩ (.int .i64 ((rd_T72 l0 x8_1).f3.f0))).setCell ⟨gb174, 4, none⟩ (.int .i64 ((rd_T72 l0 x8_1).f3.f1))).setCell ⟨gb174, 5, none⟩ (.bool ((rd_T72 l0 x8_1).f4))) w.heap.size (fun k_ => (P0_ k_ ∨ w.heap.size ≤ k_) ∧ k_ ≠ gb174) (.slice (some ad173) l0.length c0) l0) := ⟨by (with_reducible repeat (first | apply Kd.V_alloc | apply Kd.V_drewN | apply Kd.V_drew)); exact Kd.V_mono (Kd.V_far (p := ⟨gb174, 5, none⟩) (Kd.V_far (p := ⟨gb174, 4, none⟩) (Kd.V_far (p := ⟨gb174, 3, none⟩) (Kd.V_far (p := ⟨gb174, 2, none⟩) (Kd.V_far (p := ⟨gb174, 1, none⟩) (Kd.V_far (p := ⟨gb174, 0, none⟩) (Kd.V_mono HO_0.out (fun k_ hk => (⟨hk, hk.2⟩ : _ ∧ k_ ≠ gb174))) (fun _ hk => hk.2) (.int .i64 ((rd_T72 l0 x8_1).f0))) (fun _ hk => hk.2) (.int .i64 ((rd_T72 l0 x8_1).f1))) (fun _ hk => hk.2) (.int .i64 ((rd_T72 l0 x8_1).f2))) (fun _ hk => hk.2) (.int .i64 ((rd_T72 l0 x8_1).f3.f0))) (fun _ hk => hk.2) (.int .i64 ((rd_T72 l0 x8_1).f3.f1))) (fun _ hk => hk.2) (.bool ((rd_T72 l0 x8_1).f4))) (fun _ hk => ⟨hk.1.1, hk.1.2⟩)⟩
     have n1_ : Aside0 (Kd.V k72 72 ((((((w12.setCell ⟨gb174, 0, none⟩ (.int .i64 ((rd_T72 l0 x8_1).f0))).setCell ⟨gb174, 1, none⟩ (.int .i64 ((rd_T72 l0 x8_1).f1))).setCell ⟨gb174, 2, none⟩ (.int .i64 ((rd_T72 l0 x8_1).f2))).setCell ⟨gb174, 3, none⟩ (.int .i64 ((rd_T72 l0 x8_1).f3.f0))).setCell ⟨gb174, 4, none⟩ (.int .i64 ((rd_T72 l0 x8_1).f3.f1))).setCell ⟨gb174, 5, none⟩ (.bool ((rd_T72 l0 x8_1).f4))) w.heap.size (fun k_ => (P0_ k_ ∨ w.heap.size ≤ k_) ∧ k_ ≠ gb174) (.slice (some ad173) l0.length c0) l0) := ⟨by (with_reducible repeat (first | apply Kd.V_alloc | apply Kd.V_drewN | apply Kd.V_drew)); exact Kd.V_mono (Kd.V_far (p := ⟨gb174, 5, none⟩) (Kd.V_far (p := ⟨gb174, 4, none⟩) (Kd.V_far (p := ⟨gb174, 3, none⟩) (Kd.V_far (p := ⟨gb174, 2, none⟩) (Kd.V_far (p := ⟨gb174, 1, none⟩) (Kd.V_far (p := ⟨gb174, 0, none⟩) (Kd.V_mono HO_6.out (fun k_ hk => (⟨hk, hk.2⟩ : _ ∧ k_ ≠ gb174))) (fun _ hk => hk.2) (.int .i64 ((rd_T72 l0 x8_1).f0))) (fun _ hk => hk.2) (.int .i64 ((rd_T72 l0 x8_1).f1))) (fun _ hk => hk.2) (.int .i64 ((rd_T72 l0 x8_1).f2))) (fun _ hk => hk.2) (.int .i64 ((rd_T72 l0 x8_1).f3.f0))) (fun _ hk => hk.2) (.int .i64 ((rd_T72 l0 x8_1).f3.f1))) (fun _ hk => hk.2) (.bool ((rd_T72 l0 x8_1).f4))) (fun _ hk => ⟨hk.1.1, hk.1.2⟩)⟩
     have n2_ : Aside0 (((((((w12.setCell ⟨gb174, 0, none⟩ (.int .i64 ((rd_T72 l0 x8_1).f0))).setCell ⟨gb174, 1, none⟩ (.int .i64 ((rd_T72 l0 x8_1).f1))).setCell ⟨gb174, 2, none⟩ (.int .i64 ((rd_T72 l0 x8_1).f2))).setCell ⟨gb174, 3, none⟩ (.int .i64 ((rd_T72 l0 x8_1).f3.f0))).setCell ⟨gb174, 4, none⟩ (.int .i64 ((rd_T72 l0 x8_1).f3.f1))).setCell ⟨gb174, 5, none⟩ (.bool ((rd_T72 l0 x8_1).f4))).heap[gb174]? = some (.cells #[.int .i64 ((rd_T72 l0 x8_1).f0), .int .i64 ((rd_T72 l0 x8_1).f1), .int .i64 ((rd_T72 l0 x8_1).f2), .int .i64 ((rd_T72 l0 x8_1).f3.f0), .int .i64 ((rd_T72 l0 x8_1).f3.f1), .bool ((rd_T72 l0 x8_1).f4)] 72 (0, 0))) := ⟨zP BK174.out⟩
     have n3_ : Aside0 (Below w.heap.size w ((((((w12.setCell ⟨gb174, 0, none⟩ (.int .i64 ((rd_T72 l0 x8_1).f0))).setCell ⟨gb174, 1, none⟩ (.int .i64 ((rd_T72 l0 x8_1).f1))).setCell ⟨gb174, 2, none⟩ (.int .i64 ((rd_T72 l0 x8_1).f2))).setCell ⟨gb174, 3, none⟩ (.int .i64 ((rd_T72 l0 x8_1).f3.f0))).setCell ⟨gb174, 4, none⟩ (.int .i64 ((rd_T72 l0 x8_1).f3.f1))).setCell ⟨gb174, 5, none⟩ (.bool ((rd_T72 l0 x8_1).f4)))) := ⟨zG GE174.out⟩
     (try clear HO_0); (try clear HO_6); (try clear BK174); (try clear HB)
     generalize ((((((w12.setCell ⟨gb174, 0, none⟩ (.int .i64 ((rd_T72 l0 x8_1).f0))).setCell ⟨gb174, 1, none⟩ (.int .i64 ((rd_T72 l0 x8_1).f1))).setCell ⟨gb174, 2, none⟩ (.int .i64 ((rd_T72 l0 x8_1).f2))).setCell ⟨gb174, 3, none⟩ (.int .i64 ((rd_T72 l0 x8_1).f3.f0))).setCell ⟨gb174, 4, none⟩ (.int .i64 ((rd_T72 l0 x8_1).f3.f1))).setCell ⟨gb174, 5, none⟩ (.bool ((rd_T72 l0 x8_1).f4))) = w14 at n0_ n1_ n2_ n3_ ⊢
     have HO_0 := n0_
     have HO_6 := n1_
     have BK174 := n2_
     have HB := n3_
     clear n0_ n1_ n2_ n3_
     replace HO_0 := Aside0.mk (Kd.V_drew HO_0.out)
     replace HO_6 := Aside0.mk (Kd.V_drew HO_6.out)
     replace BK174 := Aside0.mk (blk_drew BK174.out)
     replace HB := Aside0.mk (below_drew1 HB.out)
     have p175 : 0 ≤ (x3_1 : Int) := of_decide_eq_true zA
     have q175 : x3_1 < (l0.length : Int) := of_decide_eq_true zA
     obtain ⟨ad175, e175, hx175_0, hx175_1, hx175_2, hx175_3, hx175_4, hx175_5⟩ := at_T72 (Kd.V_reads' HO_0.out).2.2 x3_1 p175 q175
     obtain rfl : ad173 = ad175 := (by injection e175)
     replace p175 := eq_true p175
     replace q175 := eq_true q175
     refine start_ (n := 8) (S := fun w' => w'.cell? ⟨gb174, 0, none⟩ = some (.int .i64 ((rd_T72 l0 x8_1).f0)) ∧ w'.cell? ⟨gb174, 1, none⟩ = some (.int .i64 ((rd_T72 l0 x8_1).f1)) ∧ w'.cell? ⟨gb174, 2, none⟩ = some (.int .i64 ((rd_T72 l0 x8_1).f2)) ∧ w'.cell? ⟨gb174, 3, none⟩ = some (.int .i64 ((rd_T72 l0 x8_1).f3.f0)) ∧ w'.cell? ⟨gb174, 4, none⟩ = some (.int .i64 ((rd_T72 l0 x8_1).f3.f1)) ∧ w'.cell? ⟨gb174, 5, none⟩ = some (.bool ((rd_T72 l0 x8_1).f4)) ∧ w'.cell? (ad173.add ((x3_1).toNat * 6)) = some (.int .i64 ((rd_T72 l0 x3_1).f0)) ∧ w'.cell? ⟨(ad173.add ((x3_1).toNat * 6)).block, (ad173.add ((x3_1).toNat * 6)).off + 1, none⟩ = some (.int .i64 ((rd_T72 l0 x3_1).f1)) ∧ w'.cell? ⟨(ad173.add ((x3_1).toNat * 6)).block, (ad173.add ((x3_1).toNat * 6)).off + 2, none⟩ = some (.int .i64 ((rd_T72 l0 x3_1).f2)) ∧ w'.cell? ⟨(ad173.add ((x3_1).toNat * 6)).block, (ad173.add ((x3_1).toNat * 6)).off + 3, none⟩ = some (.int .i64 ((rd_T72 l0 x3_1).f3.f0)) ∧ w'.cell? ⟨(ad173.add ((x3_1).toNat * 6)).block, (ad173.add ((x3_1).toNat * 6)).off + 4, none⟩ = some (.int .i64 ((rd_T72 l0 x3_1).f3.f1)) ∧ w'.cell? ⟨(ad173.add ((x3_1).toNat * 6)).block, (ad173.add ((x3_1).toNat * 6)).off + 5, none⟩ = some (.bool ((rd_T72 l0 x3_1).f4))) (ds := []) #[false, false, false, false, false, false, false, false] (by kernel_rfl) rfl rfl ⟨(blk_cell BK174.out 0).trans rfl, (blk_cell BK174.out 1).trans rfl, (blk_cell BK174.out 2).trans rfl, (blk_cell BK174.out 3).trans rfl, (blk_cell BK174.out 4).trans rfl, (blk_cell BK174.out 5).trans rfl, hx175_0, hx175_1, hx175_2, hx175_3, hx175_4, hx175_5⟩ (fun hHeld => ?_); refine with_tabW loop_turned.tab5 loop_turned.bits5 (fun HT_ HW_ => ?_)
     generalize w14.drew = w15 at HO_0 HO_6 BK174 HB hx175_0 hx175_1 hx175_2 hx175_3 hx175_4 hx175_5 hHeld ⊢
     refine zp 0 (some 13) ?_
     refine zp 2 (some 15) ?_
     refine zp 3 (some 16) ?_
     refine zp 4 (some 17) ?_
     refine zp 5 (some 18) ?_
     refine zt12 1 (some 14) ?_
     refine zt12 6 (some 19) ?_
     refine zp 7 (some 20) ?_
     refine done_ (done_of HT_.out (by kernel_rfl)) ?_
     try go_wp2
     go_roundg k1
     case measure => have := HK1.out; omega
     case rel => exact ⟨(x3_1), (wrap64 (x8_1 + 1)), zE, zE, H', ⟨by have := HK1.out; omega⟩, ⟨by (with_reducible repeat (first | apply Kd.V_alloc | apply Kd.V_drewN | apply Kd.V_drew)); exact Kd.V_mono HO_0.out (fun _ hk => hk.1)⟩, ⟨by (with_reducible repeat (first | apply Kd.V_alloc | apply Kd.V_drewN | apply Kd.V_drew)); exact Kd.V_mono HO_6.out (fun _ hk => hk.1)⟩, ⟨zG GE174.out⟩⟩
   ·rw [if_neg c2] at H
    have c2b0 := decide_eq_false c2
    clear c2
    obtain ⟨c16, H⟩ := zj H
    have c16b0 := eq_true c16
    have c16b1 : decide (0 ≤ x3_1) = true := decide_eq_true c16
    clear c16
    obtain ⟨c17, H⟩ := zj H
    have c17b0 := eq_true c17
    have c17b1 : decide (x3_1 ≤ (l0.length : Int)) = true := decide_eq_true c17
    clear c17
    obtain ⟨y157, hy157⟩ : ∃ y_ : List (S72), y_ = (l0.drop (x3_1 : Int).toNat) := ⟨_, rfl⟩
    first | (replace H := zo H hy157) | rw [← hy157] at H
    have Ny157 := Aside0.mk hy157
    clear hy157
    have c18b0 := eq_true (of_decide_eq_true zA : 0 ≤ x3_1)
    have c19b0 := eq_true (of_decide_eq_true zA : x3_1 ≤ (l0.length : Int))
    obtain ⟨y162, hy162⟩ : ∃ y_ : List (S72), y_ = (l0.take (x3_1 : Int).toNat) := ⟨_, rfl⟩
    first | (replace H := zo H hy162) | rw [← hy162] at H
    have Ny162 := Aside0.mk hy162
    clear hy162
    obtain ⟨y167, hy167⟩ : ∃ y_ : List (List (S72)), y_ = (([y157, y162] : List (List (S72)))) := ⟨_, rfl⟩
    first | (replace H := zo H hy167) | rw [← hy167] at H
    have Ny167 := Aside0.mk hy167
    clear hy167
    replace H := Option.bind_eq_some_iff.mp H
    obtain ⟨t170, A200, H⟩ := H
    have A20 := Aside0.mk A200
    clear A200
    obtain rfl := Option.some.inj H
    try go_wp2
    replace HO_0 := Aside0.mk (Kd.V_drew HO_0.out)
    replace HO_6 := Aside0.mk (Kd.V_drew HO_6.out)
    replace HB := Aside0.mk (below_drew1 HB.out)
    have q22 : (x3_1 : Int) ≤ ((l0.length : Int) : Int) := of_decide_eq_true zA
    obtain ⟨i022, hi022, _, hsz22, _⟩ := info_parts info72
    have hroom22 : l0.length ≤ c0 := (Kd.V_reads' HO_0.out).2.1
    have hC22 : Kd.F k72 _ _ A0 l0.length l0 := (Kd.V_at (base := w.heap.size) HO_0.out).2.2
    have q022 : (0 : Int) ≤ (x3_1 : Int) := of_decide_eq_true zA
    have hcut22 := cut_from (P := Tryz.prog) 29 72 .i64 Tryz.underlying29 hi022 6 hsz22 A0 l0.length c0 x3_1 q022 q22
    have hr22 := Kd.F_cut (m := (x3_1 : Int).toNat) (c := c0) hC22 (by omega) hroom22
    obtain ⟨A22, hA22⟩ : ∃ A1, A1 = (if c0 = (x3_1 : Int).toNat then A0 else (A0 : Option Addr).map (·.add ((x3_1 : Int).toNat * 6))) := ⟨_, rfl⟩
    obtain ⟨c22, hc22⟩ : ∃ c1, c1 = c0 - (x3_1 : Int).toNat := ⟨_, rfl⟩
    have hy22 : y157.length = l0.length - (x3_1 : Int).toNat := (by rw [Ny157.out, List.length_drop] <;> omega)
    rw [show (l0).drop (x3_1 : Int).toNat = y157 from Ny157.out.symm] at hr22
    replace hr22 : Kd.F k72 _ _ A22 y157.length y157 := (by rw [hA22]; exact hr22)
    rw [← hy22, ← hA22, ← hc22] at hcut22
    have HO161 := Aside0.mk (show Kd.V k72 72 _ w.heap.size _ (.slice A22 y157.length c22) y157 from Kd.V_mk (by rw [hy22, hc22]; exact Nat.sub_le_sub_right hroom22 _) hr22)
    have HC161 := Aside0.mk (show y157.length ≤ c22 from by rw [hy22, hc22]; exact Nat.sub_le_sub_right hroom22 _)
    clear hr22 hC22 hroom22 hi022 hsz22 hc22
    have KY22 := Aside0.mk hy22
    have KA22 := Aside0.mk hA22
    clear hy22 hA22
    replace q22 := eq_true q22
    have q23 : (x3_1 : Int) ≤ ((l0.length : Int) : Int) := of_decide_eq_true zA
    obtain ⟨i023, hi023, _, hsz23, _⟩ := info_parts info72
    have hroom23 : l0.length ≤ c0 := (Kd.V_reads' HO_0.out).2.1
    have hC23 : Kd.F k72 _ _ A0 l0.length l0 := (Kd.V_at (base := w.heap.size) HO_0.out).2.2
    have hcut23 := cut_to (P := Tryz.prog) 29 72 .i64 Tryz.underlying29 hi023 A0 l0.length c0 x3_1 (of_decide_eq_true zA) q23 hroom23
    have hr23 := Kd.F_take (m := (x3_1 : Int).toNat) hC23 (by omega)
    have hy23 : y162.length = (x3_1 : Int).toNat := (by rw [Ny162.out, List.length_take]; omega)
    rw [← Ny162.out] at hr23
    rw [← hy23] at hcut23
    have HO166 := Aside0.mk (show Kd.V k72 72 _ w.heap.size _ (.slice A0 y162.length c0) y162 from Kd.V_mk (by omega) hr23)
    have HC166 := Aside0.mk (show y162.length ≤ c0 from by omega)
    clear hr23 hC23 hroom23 hi023 hsz23
    have KY23 := Aside0.mk hy23
    clear hy23
    replace q23 := eq_true q23
    refine start_ (n := 9) (S := fun w' => True) (ds := []) #[false, false, false, false, false, false, false, false, false] (by kernel_rfl) rfl rfl trivial (fun hHeld => ?_); refine with_tabW loop_turned.tab8 loop_turned.bits8 (fun HT_ HW_ => ?_)
    generalize wr.drew = w21 at HO_0 HO_6 HB HO161 HO166 hHeld ⊢
    refine zp 0 (some 23) ?_
    refine zp 1 (some 24) ?_
    refine zp 2 (some 25) ?_
    refine zp 3 (some 26) ?_
    refine zp 4 (some 27) ?_
    refine zp 5 (some 28) ?_
    refine z1 6 (some 29) (fun K hK => ?_)
    refine Kd.N_lit_step (Kd.slice 72 k72) _ 29 ?hg (N' := 29) ?hd (xs := ([y157, y162] : List (List (S72)))) (inner := [.slice A22 y157.length c22, .slice A0 y162.length c0]) (ok := (fun k_ => (P0_ k_ ∨ w.heap.size ≤ k_))) (okp := (fun k_ => (P0_ k_ ∨ w.heap.size ≤ k_))) ?hr ?hp (fun _ hk => hk) ((show ∀ k_, w21.heap.size ≤ k_ → (fun k_ => (P0_ k_ ∨ w.heap.size ≤ k_)) k_ from fun k_ hk => (.inr (Nat.le_trans (below_size zB) hk))) _ (Nat.le_refl _)) (Below.refl _ _) (Nat.le_refl _) (by simp) ?_; (case hd => rfl); (case hg => rfl); (case hr => first | (go_simp; done) | (go_simp; rfl)); (case hp => exact (Reps.one (show Kd.FK (Kd.slice 72 k72) _ _ y157 [.slice A22 y157.length c22] from (Kd.FK_slice_mk (Kd.V_reads' (Kd.V_mono (ok' := (fun k_ => (P0_ k_ ∨ w.heap.size ≤ k_))) (HO161.out) (fun k_ hk => hk))).2.1 (Kd.V_F (Kd.V_mono (ok' := (fun k_ => (P0_ k_ ∨ w.heap.size ≤ k_))) (HO161.out) (fun k_ hk => hk))))) (Reps.one (show Kd.FK (Kd.slice 72 k72) _ _ y162 [.slice A0 y162.length c0] from (Kd.FK_slice_mk (Kd.V_reads' (Kd.V_mono (ok' := (fun k_ => (P0_ k_ ∨ w.heap.size ≤ k_))) (HO166.out) (fun k_ hk => hk))).2.1 (Kd.V_F (Kd.V_mono (ok' := (fun k_ => (P0_ k_ ∨ w.heap.size ≤ k_))) (HO166.out) (fun k_ hk => hk))))) (Reps.none _ _))))
    intro v168 w24 ho25 hb hg_ hnew_
    clear hg_ hnew_
    (first | rw [← Ny167.out] at ho25 | (simp only [Int.reduceToNat] at ho25; rw [← Ny167.out] at ho25))
    replace HO_0 := Aside0.mk (Kd.V_elder' (zRV HO_0.out) (Kd.N_base ho25) hb)
    replace HO_6 := Aside0.mk (Kd.V_elder' (zRV HO_6.out) (Kd.N_base ho25) hb)
    replace HO161 := Aside0.mk (Kd.V_elder' (zRV HO161.out) (Kd.N_base ho25) hb)
    replace HO166 := Aside0.mk (Kd.V_elder' (zRV HO166.out) (Kd.N_base ho25) hb)
    have HO169 := Aside0.mk (Kd.N_lower ho25 (below_size zB))
    replace HB := Aside0.mk (below_step zB hb)
    clear hb ho25
    obtain ⟨Ao26, co26, eo26⟩ := Kd.N_slice HO169.out
    (first | subst eo26 | (injection eo26 with f1_ f2_ f3_; have f4_ := f1_.symm; have f5_ := f3_.symm; clear f1_ f2_ f3_; subst f4_; subst f5_))
    refine hK.out _ _ trivial (fun hHeld => ?_)
    clear hK K
    refine norm_ (a' := ?_) ?_ ?_
    rotate_left
    ·show Act.put _ (some 29) _ = _
     simp only [Act.put, List.setIfInBounds_toArray, List.set_cons_zero, List.set_cons_succ, i64_w, i32_w]
     rfl
    refine z1 7 (some 30) (fun K hK => ?_)
    refine goes_ Tryz.func139 (by kernel_rfl) rfl #[.slice Ao26 y167.length co26] (by rfl) rfl rfl zL ?_
    with_reducible refine (api_Edge_139.calls k1 _ _ y167 t170 _ ?side1 ?side2 A20.out).mono ?_
    (case side1 => exact zC ((Kd.N_reads' HO169.out).2.2))
    (case side2 => exact (Kd.N_reads' HO169.out).2.1)
    rintro e w27 ⟨v171, rfl, ho0, hb⟩
    refine ⟨_, rfl, ?_⟩
    replace HO_0 := Aside0.mk (Kd.V_elder' (zRV HO_0.out) (Kd.R_base ho0) hb)
    replace HO_6 := Aside0.mk (Kd.V_elder' (zRV HO_6.out) (Kd.R_base ho0) hb)
    replace HO161 := Aside0.mk (Kd.V_elder' (zRV HO161.out) (Kd.R_base ho0) hb)
    replace HO166 := Aside0.mk (Kd.V_elder' (zRV HO166.out) (Kd.R_base ho0) hb)
    replace HO169 := Aside0.mk (Kd.N_elder' (zRN HO169.out) (Kd.R_base ho0) hb)
    have HO172 := Aside0.mk (Kd.R_lower (Kd.R_newM (M := fun k_ => (w.heap.size ≤ k_)) ho0 (below_size zB) (fun k_ h_ => h_)) (below_size zB))
    replace HB := Aside0.mk (below_step zB hb)
    (try clear hb); (try clear hb2); (try clear hk); (try clear hi); (try clear ho0)
    refine hK.out _ _ trivial (fun hHeld => ?_)
    clear hK K
    refine norm_ (a' := ?_) ?_ ?_
    rotate_left
    ·show Act.put _ (some 30) _ = _
     simp only [Act.put, List.setIfInBounds_toArray, List.set_cons_zero, List.set_cons_succ, i64_w, i32_w]
     rfl
    refine zp 8 (some 2) ?_
    refine done_ (done_of HT_.out (by kernel_rfl)) ?_
    try go_wp2
    go_ret
    exact ⟨_, by first | rfl | (simp [errW_none, errW_some] <;> rfl) | (simp [*, errW_none, errW_some] <;> rfl), zR1 HO172.out, zB⟩
def slices_Index_int_int.l0 : Nat → List Int → Int → Int → Int → Option (Int)
 | 0, _, _, _, _ => none
 | k + 1, x0, x1, x7, x8 => if x8 < x7 then (if 0 ≤ x8 then (if x8 < (x0.length : Int) then (if x1 = (rd x0 x8) then (some x8) else (slices_Index_int_int.l0 k x0 x1 x7 (wrap64 (x8 + 1)))) else (none)) else (none)) else (some (-1))
def slices_Index_int_int.f (k : Nat) (l0 : List Int) (a1 : Int) : Option (Int) := slices_Index_int_int.l0 k l0 a1 (l0.length : Int) 0
theorem slices_Index_int_int.mono_l : ∀ k, (∀ y0 y1 y2 y3, LeO (slices_Index_int_int.l0 k y0 y1 y2 y3) (slices_Index_int_int.l0 (k + 1) y0 y1 y2 y3))
 | 0 => fun _ _ _ _ r h => by simp [slices_Index_int_int.l0] at h
 | k + 1 => by
  have ih0 := slices_Index_int_int.mono_l k
  ·intro y0 y1 y2 y3
   unfold slices_Index_int_int.l0
   exact zM
theorem slices_Index_int_int.mono : ∀ a0 a1 k, LeO (slices_Index_int_int.f k a0 a1) (slices_Index_int_int.f (k + 1) a0 a1) := by
 intro a0 a1 k
 have ih0 := slices_Index_int_int.mono_l k
 unfold slices_Index_int_int.f
 exact zM
set_option maxHeartbeats 8000000 in
set_option maxRecDepth 100000 in
theorem slices_Index_int_int.calls (k : Nat) (A0 : Option Addr) (c0 : Nat) (l0 : List Int) (a1 : Int) (r : Int) (w : World) (hr0 : Kd.C (Kd.int .i64) w A0 l0.length l0) (hc0 : l0.length ≤ c0) (h : slices_Index_int_int.f k l0 a1 = some r) :
  Calls Tryz.prog 141 #[.slice A0 l0.length c0, .int .i64 a1] w fun e w' => e = .returned (.int .i64 r) ∧ Drawn0 w w' := by
 have HR0 := Aside0.mk hr0
 have HC0 := Aside0.mk hc0
 clear hr0 hc0
 have H : (slices_Index_int_int.l0 k l0 a1 (l0.length : Int) 0) = some r := h
 clear h
 have H' := Aside0.mk H
 clear H
 go_enter Tryz.func141, Tryz.ntmps141
 go_wp2
 go_loopg [8] k (fun kq v8 w' => ∃ (x8_1 : Int), v8 = .int .i64 x8_1 ∧ Aside0 (slices_Index_int_int.l0 kq l0 a1 (l0.length : Int) x8_1 = some r) ∧ Aside0 (kq ≤ k) ∧ Drawn0 w w')
 case atStart => exact ⟨(0), zE, H', ⟨Nat.le_refl _⟩, zD0⟩
 case round =>
  clear H'
  (try clear c1); (try clear p2)
  obtain ⟨x8_1, rfl, HA, HK1, ⟨m1, rfl⟩⟩ := hrel
  cases gk with
  | zero => exact absurd HA.out (by simp [slices_Index_int_int.l0])
  | succ k1 =>
   have H := HA.out
   clear HA
   simp only [slices_Index_int_int.l0] at H
   by_cases c3 : x8_1 < (l0.length : Int)
   ·rw [if_pos c3] at H
    have c3b0 := decide_eq_true c3
    clear c3
    obtain ⟨c4b0, H⟩ := zt H
    obtain ⟨c5b0, H⟩ := zt H
    by_cases c6 : a1 = (rd l0 x8_1)
    ·rw [if_pos c6] at H
     have c6b0 : (a1 == (rd l0 x8_1)) = true := beq_iff_eq.mpr c6
     have c6b1 : (a1 != (rd l0 x8_1)) = false := bne_eq_false_iff_eq.mpr c6
     clear c6
     obtain rfl := Option.some.inj H
     have p176 : 0 ≤ (x8_1 : Int) := of_decide_eq_true zA
     have q176 : x8_1 < (l0.length : Int) := of_decide_eq_true zA
     obtain ⟨ad176, e176, hx176_0⟩ := Kd.at_int HR0.out x8_1 p176 q176
     cases e176
     replace p176 := eq_true p176
     replace q176 := eq_true q176
     go_wp2
     go_ret
     exact ⟨zE, zD0⟩
    ·rw [if_neg c6] at H
     have c6b0 : (a1 == (rd l0 x8_1)) = false := beq_eq_false_iff_ne.mpr c6
     have c6b1 : (a1 != (rd l0 x8_1)) = true := bne_iff_ne.mpr c6
     have H' := Aside0.mk H
     clear H
     have p176 : 0 ≤ (x8_1 : Int) := of_decide_eq_true zA
     have q176 : x8_1 < (l0.length : Int) := of_decide_eq_true zA
     obtain ⟨ad176, e176, hx176_0⟩ := Kd.at_int HR0.out x8_1 p176 q176
     cases e176
     replace p176 := eq_true p176
     replace q176 := eq_true q176
     go_wp2
     go_roundg k1
     case measure => have := HK1.out; omega
     case rel => exact ⟨(wrap64 (x8_1 + 1)), zE, H', ⟨by have := HK1.out; omega⟩, zD0⟩
   ·rw [if_neg c3] at H
    have c3b0 := decide_eq_false c3
    clear c3
    obtain rfl := Option.some.inj H
    go_wp2
    go_ret
    exact ⟨zE, zD0⟩
def slices_Contains_int_int.f (k : Nat) (l0 : List Int) (a1 : Int) : Option (Bool) := (slices_Index_int_int.f k l0 a1).bind fun t177 => (some (decide (t177 ≥ 0)))
theorem slices_Contains_int_int.mono : ∀ a0 a1 k, LeO (slices_Contains_int_int.f k a0 a1) (slices_Contains_int_int.f (k + 1) a0 a1) := by
 intro a0 a1 k
 unfold slices_Contains_int_int.f
 have m0 := @slices_Index_int_int.mono
 exact zM
set_option maxHeartbeats 8000000 in
set_option maxRecDepth 100000 in
theorem slices_Contains_int_int.calls (k : Nat) (A0 : Option Addr) (c0 : Nat) (l0 : List Int) (a1 : Int) (r : Bool) (w : World) (hr0 : Kd.C (Kd.int .i64) w A0 l0.length l0) (hc0 : l0.length ≤ c0) (h : slices_Contains_int_int.f k l0 a1 = some r) :
  Calls Tryz.prog 140 #[.slice A0 l0.length c0, .int .i64 a1] w fun e w' => e = .returned (.bool r) ∧ Drawn0 w w' := by
 have HR0 := Aside0.mk hr0
 have HC0 := Aside0.mk hc0
 clear hr0 hc0
 have H : ((slices_Index_int_int.f k l0 a1).bind fun t177 => (some (decide (t177 ≥ 0)))) = some r := h
 clear h
 replace H := Option.bind_eq_some_iff.mp H
 obtain ⟨t177, A30, H⟩ := H
 have A3 := Aside0.mk A30
 clear A30
 obtain rfl := Option.some.inj H
 go_enter Tryz.func140, Tryz.ntmps140
 go_wp2_with (first | ((with_reducible refine gate_callee (f := 141) rfl ?_); refine goesL_ (some 7) rfl rfl Tryz.func141 (by kernel_rfl) rfl #[.slice A0 l0.length c0, .int .i64 a1] rfl zL ?_; (with_reducible refine (slices_Index_int_int.calls k _ _ l0 a1 t177 _ ?side1 ?side2 A3.out).mono ?_); (case side1 => exact zC (HR0.out)); (case side2 => exact HC0.out); rintro e w' ⟨rfl, ⟨nd, rfl⟩⟩; refine ⟨_, rfl, ?_⟩))
 go_ret
 exact ⟨zE, zD0⟩
def api_Edge_142.f (l0 : List (S72)) : Option (List (S72)) := if l0.length ≤ 1759218604441 then some l0 else none
theorem api_Edge_142.calls (A0 : Option Addr) (c0 : Nat) (l0 : List (S72)) (r : List (S72)) (w : World) (hr0 : Kd.C k72 w A0 l0.length l0) (hc0 : l0.length ≤ c0) (h : api_Edge_142.f l0 = some r) :
  Calls Tryz.prog 142 #[.slice A0 l0.length c0] w fun e w' => ∃ v0_ : Value, e = .returned (v0_) ∧ Kd.R k72 72 w' w.heap.size (fun _ => True) v0_ r ∧ Below w.heap.size w w' := by
 unfold api_Edge_142.f at h
 split at h
 ·rename_i hl
  obtain rfl := Option.some.inj h
  exact L.cloneE_calls l0 hl A0 c0 w hr0 hc0
 ·cases h
end Go.Proofs.YtgknjgionicncaaGreat.V
namespace Go.Proofs.YtgknjgionicncaaGreat.L
open Go.RowKit Go.Proofs.YtgknjgionicncaaGreat.Q Go.Proofs.YtgknjgionicncaaGreatW.PrintWords Go.Proofs.YtgknjgionicncaaGreatW.PrintLast Go.Proofs.YtgknjgionicncaaGreatW.PrintMore Go.Proofs.YtgknjgionicncaaGreatW.MapB Go.Proofs.YtgknjgionicncaaGreatW.Lib
set_option linter.unusedVariables false
set_option maxRecDepth 100000 in
theorem store_edge {ops : Array Oper} {o : Oper} {a : Act} {Q : Exit → Act → World → Prop} {K : Act → World → Prop} {w0 W : World} {base g n cap o' : Nat} {ok : Nat → Prop} (xi : Int) (m : List S72) (s : S72) (p x : Operand) (hP : o.op = .store 72 p x)
  (hw : Region.wanted o (yielded ops a.tmps) = true) (hN : o.dst = none)
  (haddr : a.eval p = .pointer (some ⟨g, o', none⟩)) (hoff : o' = xi.toNat * 6) (hx : a.eval x = .agg #[.int .i64 s.f0, .int .i64 s.f1, .int .i64 s.f2, .int .i64 s.f3.f0, .int .i64 s.f3.f1, .bool s.f4]) (HO : Kd.R k72 72 W base ok (.slice (some ⟨g, 0, none⟩) n cap) m) (h0 : 0 ≤ xi) (h1 : xi < n) (HB : Below base w0 W)
  (h : ∀ w1, Kd.R k72 72 w1 base ok (.slice (some ⟨g, 0, none⟩) n cap) (m.set xi.toNat s) → W.grownBy w1 (some g) → Below base w0 w1 → K a w1) : if Region.wanted o (yielded ops a.tmps) = true then Oper.wp Tryz.prog o a W K Q else K (a.put none undef) W := by
 obtain ⟨ce, hcl, hM, hcc, _⟩ := Kd.R_elem HO z72 xi h0 h1
 obtain rfl := k72_openM hM
 subst hoff
 have hbg : base ≤ g := Kd.R_base HO g (by simp [Value.ownBlock])
 have hnx : n = m.length := (Kd.R_reads' HO).1
 obtain ⟨hrow, hg⟩ := Kd.R_seg (seg := [.int .i64 s.f0, .int .i64 s.f1, .int .i64 s.f2, .int .i64 s.f3.f0, .int .i64 s.f3.f1, .bool s.f4]) (j := 0) (okp := fun _ => False) HO xi h0 h1 hcl hcc (show 0 + 6 ≤ 6 by decide) (k72_mkM _ _ _ s) (fun _ h => h.elim)
 have hB : Below base w0 (W.setCells g (xi.toNat * 6 + 0) [.int .i64 s.f0, .int .i64 s.f1, .int .i64 s.f2, .int .i64 s.f3.f0, .int .i64 s.f3.f1, .bool s.f4]) := HB.grown hg (Nat.le_trans hbg (Nat.le_of_lt (World.block_lt_of_cell? W _ (hcc 0 _ rfl)))) (fun j hj => by cases hj; exact hbg)
 have hrun : (Instr.storeAt 72 (.pointer (some ⟨g, xi.toNat * 6, none⟩)) (.agg #[.int .i64 s.f0, .int .i64 s.f1, .int .i64 s.f2, .int .i64 s.f3.f0, .int .i64 s.f3.f1, .bool s.f4])).run Tryz.prog W = .ok () (W.setCells g (xi.toNat * 6 + 0) [.int .i64 s.f0, .int .i64 s.f1, .int .i64 s.f2, .int .i64 s.f3.f0, .int .i64 s.f3.f1, .bool s.f4]) := by
  obtain ⟨_, inner, hown, hr⟩ := HO
  rcases hown.2 with ⟨hv, _⟩ | ⟨g', cap', cur, hv, hb, hh, hnc, hcm, hcs, _⟩
  ·cases hv
  injection hv with ha _ hc
  injection ha with ha
  injection ha with hg'
  subst hg'; subst hc
  refine run_store_run 72 _ _ hh rfl (by kernel_rfl) ?_ (fun q hq => ?_)
  ·have h2 : xi.toNat * 6 + 6 ≤ n * 6 := by omega
   have h3 : n * 6 ≤ cap * 6 := Nat.mul_le_mul_right _ (by omega)
   have hk : k72.sz = 6 := rfl
   simp only [hk] at hcs
   simp only [List.length_cons, List.length_nil]
   omega
  ·simp only [List.mem_cons, List.not_mem_nil, or_false] at hq
   rcases hq with rfl | rfl | rfl | rfl | rfl | rfl <;> rfl
 rw [if_pos hw]
 unfold Oper.wp execOp
 simp only [hP, haddr, hx, Sem.run_bind, Sem.run_pure, Result.andThen_ok, hrun]
 show K (a.put o.dst undef) _
 rw [hN]
 exact h _ hrow hg hB
end Go.Proofs.YtgknjgionicncaaGreat.L
namespace Go.Proofs.YtgknjgionicncaaGreat.V
open Go.RowKit Go.Proofs.YtgknjgionicncaaGreat.Q Go.Proofs.YtgknjgionicncaaGreat.X Go.Proofs.YtgknjgionicncaaGreatW.PrintWords Go.Proofs.YtgknjgionicncaaGreatW.PrintLast Go.Proofs.YtgknjgionicncaaGreatW.PrintMore
attribute [local go_sem] max2_int min2_int max_two min_two max_three min_three max_four min_four
set_option linter.unusedVariables false
set_option linter.unusedSimpArgs false
def api_Edge_143.l0 : Nat → List (S72) → Int → Int → Option ((List (S72)))
 | 0, _, _, _ => none
 | k + 1, x0, x2, x3 => if x2 < x3 then (if 0 ≤ x3 then (if x3 < (x0.length : Int) then (if 0 ≤ x2 then (if x2 < (x0.length : Int) then (api_Edge_143.l0 k ((x0.set (x2 : Int).toNat (⟨(rd_T72 x0 x3).f0, (rd_T72 x0 x3).f1, (rd_T72 x0 x3).f2, (⟨(rd_T72 x0 x3).f3.f0, (rd_T72 x0 x3).f3.f1⟩ : S57), (rd_T72 x0 x3).f4⟩ : S72)).set (x3 : Int).toNat (⟨(rd_T72 x0 x2).f0, (rd_T72 x0 x2).f1, (rd_T72 x0 x2).f2, (⟨(rd_T72 x0 x2).f3.f0, (rd_T72 x0 x2).f3.f1⟩ : S57), (rd_T72 x0 x2).f4⟩ : S72)) (wrap64 (x2 + 1)) (wrap64 (x3 - 1))) else (none)) else (none)) else (none)) else (none)) else (some x0)
def api_Edge_143.f (k : Nat) (l0 : List (S72)) : Option ((List (S72))) := api_Edge_143.l0 k l0 0 (wrap64 ((l0.length : Int) - 1))
theorem api_Edge_143.mono_l : ∀ k, (∀ y0 y1 y2, LeO (api_Edge_143.l0 k y0 y1 y2) (api_Edge_143.l0 (k + 1) y0 y1 y2))
 | 0 => fun _ _ _ r h => by simp [api_Edge_143.l0] at h
 | k + 1 => by
  have ih0 := api_Edge_143.mono_l k
  ·intro y0 y1 y2
   unfold api_Edge_143.l0
   exact zM
theorem api_Edge_143.mono : ∀ a0 k, LeO (api_Edge_143.f k a0) (api_Edge_143.f (k + 1) a0) := by
 intro a0 k
 have ih0 := api_Edge_143.mono_l k
 unfold api_Edge_143.f
 exact zM
def api_Edge_143.T3 : Bool × List (List Nat × List Nat) := (true, [([], []), ([], []), ([], []), ([], []), ([], []), ([], []), ([4, 5], [4, 5]), ([6], [6]), ([], []), ([], []), ([8, 9], [8, 9]), ([10], [10]), ([0, 1, 0, 1, 4, 5, 6, 7, 11], [0, 1]), ([12, 7, 0, 1, 4, 5, 6, 7, 11], [7, 12]), ([2, 3, 0, 1, 2, 3, 4, 5, 6, 7, 8, 9, 10, 11, 12, 13], [2, 3]), ([14, 11, 13, 0, 1, 2, 3, 4, 5, 6, 7, 8, 9, 10, 11, 12, 13], [11, 14])])
def api_Edge_143.B3 : List Nat := [0, 0, 0, 0, 0, 0, 48, 112, 0, 0, 768, 1792, 4083, 8179, 16383, 32767]
theorem api_Edge_143.tab3 : rtab .any (opsOf Tryz.f143 3) = api_Edge_143.T3 := by kernel_rfl
theorem api_Edge_143.bits3 : waitsOk api_Edge_143.T3.2 api_Edge_143.B3 = true := by kernel_rfl
set_option maxHeartbeats 8000000 in
set_option maxRecDepth 100000 in
theorem api_Edge_143.calls (k : Nat) (P0_ : Nat → Prop) (u9000_ : Value) (l0 : List (S72)) (r : List (S72)) (w0 w : World) (hB : Below w0.heap.size w0 w) (ho0 : Kd.R k72 72 w w0.heap.size P0_ u9000_ l0) (h : api_Edge_143.f k l0 = some r) :
  Calls Tryz.prog 143 #[u9000_] w fun e w' => e = .returned (.tuple #[]) ∧ Kd.R k72 72 w' w0.heap.size (fun k_ => (P0_ k_ ∨ w.heap.size ≤ k_)) u9000_ r ∧ Below w0.heap.size w0 w' ∧ Kept w w' (fun k_ => P0_ k_) := by
 have hu72 := Tryz.underlying72
 have HO0 := Aside0.mk (show Kd.R k72 72 w w0.heap.size (fun k_ => (P0_ k_ ∨ w.heap.size ≤ k_)) u9000_ l0 from Kd.R_mono ho0 (fun k_ hk => (.inl hk)))
 have HK := Aside0.mk (Kept.refl w (fun k_ => P0_ k_))
 have HW0 := Aside0.mk hB.size
 have HB := Aside0.mk hB
 clear hB
 have H : (api_Edge_143.l0 k l0 0 (wrap64 ((l0.length : Int) - 1))) = some r := h
 clear h
 have H' := Aside0.mk H
 clear H
 obtain ⟨Ao2, co2, eo2⟩ := Kd.R_slice HO0.out
 subst eo2
 go_enter Tryz.func143, Tryz.ntmps143
 go_wp2
 go_loopg [2, 3] k (fun kq v2 v3 w' => ∃ (x0_1 : List (S72)) (x2_1 : Int) (x3_1 : Int), v2 = .int .i64 x2_1 ∧ v3 = .int .i64 x3_1 ∧ Aside0 (api_Edge_143.l0 kq x0_1 x2_1 x3_1 = some r) ∧ Aside0 (kq ≤ k) ∧ Aside0 (Kd.R k72 72 w' w0.heap.size (fun k_ => (P0_ k_ ∨ w.heap.size ≤ k_)) (.slice Ao2 l0.length co2) x0_1) ∧ Aside0 (Kept w w' (fun k_ => P0_ k_)) ∧ Aside0 (Below w0.heap.size w0 w'))
 case atStart => exact ⟨(l0), (0), (wrap64 ((l0.length : Int) - 1)), zE, zE, H', ⟨Nat.le_refl _⟩, ⟨zR HO0.out⟩, ⟨zH0⟩, ⟨zB⟩⟩
 case round =>
  clear H'
  (try clear c1); (try clear p2)
  obtain ⟨x0_1, x2_1, x3_1, rfl, rfl, HA, HK1, HO_0, HK, HB⟩ := hrel
  have hl0_1 := (Kd.R_reads' HO_0.out).1
  rw [hl0_1] at HO_0
  (try simp only [hl0_1])
  cases gk with
  | zero => exact absurd HA.out (by simp [api_Edge_143.l0])
  | succ k1 =>
   have H := HA.out
   clear HA
   simp only [api_Edge_143.l0] at H
   by_cases c3 : x2_1 < x3_1
   ·rw [if_pos c3] at H
    have c3b0 := decide_eq_true c3
    clear c3
    obtain ⟨c4b0, H⟩ := zt H
    obtain ⟨c5, H⟩ := zj H
    have c5b0 : decide (x3_1 < (x0_1.length : Int)) = true := decide_eq_true c5
    have c5b0z := c5b0
    (try simp only [hl0_1] at c5b0z)
    clear c5
    obtain ⟨c6b0, H⟩ := zt H
    obtain ⟨c7, H⟩ := zj H
    have c7b0 : decide (x2_1 < (x0_1.length : Int)) = true := decide_eq_true c7
    have c7b0z := c7b0
    (try simp only [hl0_1] at c7b0z)
    clear c7
    obtain ⟨y180, hy180⟩ : ∃ y_ : List (S72), y_ = (x0_1.set (x2_1 : Int).toNat (⟨(rd_T72 x0_1 x3_1).f0, (rd_T72 x0_1 x3_1).f1, (rd_T72 x0_1 x3_1).f2, (⟨(rd_T72 x0_1 x3_1).f3.f0, (rd_T72 x0_1 x3_1).f3.f1⟩ : S57), (rd_T72 x0_1 x3_1).f4⟩ : S72)) := ⟨_, rfl⟩
    first | (replace H := zo H hy180) | rw [← hy180] at H
    have Ny180 := Aside0.mk hy180
    clear hy180
    obtain ⟨y181, hy181⟩ : ∃ y_ : List (S72), y_ = (y180.set (x3_1 : Int).toNat (⟨(rd_T72 x0_1 x2_1).f0, (rd_T72 x0_1 x2_1).f1, (rd_T72 x0_1 x2_1).f2, (⟨(rd_T72 x0_1 x2_1).f3.f0, (rd_T72 x0_1 x2_1).f3.f1⟩ : S57), (rd_T72 x0_1 x2_1).f4⟩ : S72)) := ⟨_, rfl⟩
    first | (replace H := zo H hy181) | rw [← hy181] at H
    have Ny181 := Aside0.mk hy181
    clear hy181
    have H' := Aside0.mk H
    clear H
    try go_wp2
    replace HO_0 := Aside0.mk (Kd.R_drew HO_0.out)
    replace HK := Aside0.mk (Kept.drew HK.out)
    replace HB := Aside0.mk (below_drew1 HB.out)
    have p178 : 0 ≤ (x3_1 : Int) := of_decide_eq_true zA
    have q178 : x3_1 < (x0_1.length : Int) := of_decide_eq_true zA
    obtain ⟨ad178, e178, hx178_0, hx178_1, hx178_2, hx178_3, hx178_4, hx178_5⟩ := at_T72 (Kd.R_reads' HO_0.out).2.2 x3_1 p178 q178
    cases e178
    replace p178 := eq_true p178
    replace q178 := eq_true q178
    have p179 : 0 ≤ (x2_1 : Int) := of_decide_eq_true zA
    have q179 : x2_1 < (x0_1.length : Int) := of_decide_eq_true zA
    obtain ⟨ad179, e179, hx179_0, hx179_1, hx179_2, hx179_3, hx179_4, hx179_5⟩ := at_T72 (Kd.R_reads' HO_0.out).2.2 x2_1 p179 q179
    obtain rfl : ad178 = ad179 := (by injection e179)
    replace p179 := eq_true p179
    replace q179 := eq_true q179
    have p8 : 0 ≤ (x2_1 : Int) := of_decide_eq_true zA
    have q8 : (x2_1 : Int) < ((x0_1.length : Int) : Int) := of_decide_eq_true zA
    obtain ⟨go8, co8, eo8, gb8, gl8, cl8, HG8⟩ := Kd.R_form HO_0.out (by omega)
    (first | cases eo8 | (injection eo8 with ea_ en_ ec_; (first | subst ea_ | (injection ea_ with ea_; subst ea_)); subst ec_; clear en_))
    have GB8 := Aside0.mk gb8
    have GG8 := Aside0.mk HG8
    clear gb8 gl8 HG8
    have HMgo8 := Aside0.mk (show (P0_ go8 ∨ w.heap.size ≤ go8) from (HO_0.out.1 _ rfl))
    (first | simp only [add_plain] at hx178_0 | skip)
    (first | simp only [add_plain] at hx178_1 | skip)
    (first | simp only [add_plain] at hx178_2 | skip)
    (first | simp only [add_plain] at hx178_3 | skip)
    (first | simp only [add_plain] at hx178_4 | skip)
    (first | simp only [add_plain] at hx178_5 | skip)
    (first | simp only [add_plain] at hx179_0 | skip)
    (first | simp only [add_plain] at hx179_1 | skip)
    (first | simp only [add_plain] at hx179_2 | skip)
    (first | simp only [add_plain] at hx179_3 | skip)
    (first | simp only [add_plain] at hx179_4 | skip)
    (first | simp only [add_plain] at hx179_5 | skip)
    obtain ⟨ce8, hcl8, hM8, hcc8, hfr8⟩ := Kd.R_elem HO_0.out z72 (x2_1 : Int) p8 q8
    obtain rfl := k72_openM hM8
    have hx8_0 : World.cell? _ ⟨go8, (x2_1 : Int).toNat * 6, none⟩ = some (.int .i64 ((rd_T72 x0_1 x2_1).f0)) := hcc8 0 _ rfl
    have hx8_1 : World.cell? _ ⟨go8, (x2_1 : Int).toNat * 6 + 1, none⟩ = some (.int .i64 ((rd_T72 x0_1 x2_1).f1)) := hcc8 1 _ rfl
    have hx8_2 : World.cell? _ ⟨go8, (x2_1 : Int).toNat * 6 + 2, none⟩ = some (.int .i64 ((rd_T72 x0_1 x2_1).f2)) := hcc8 2 _ rfl
    have hx8_3 : World.cell? _ ⟨go8, (x2_1 : Int).toNat * 6 + 3, none⟩ = some (.int .i64 ((rd_T72 x0_1 x2_1).f3.f0)) := hcc8 3 _ rfl
    have hx8_4 : World.cell? _ ⟨go8, (x2_1 : Int).toNat * 6 + 4, none⟩ = some (.int .i64 ((rd_T72 x0_1 x2_1).f3.f1)) := hcc8 4 _ rfl
    have hx8_5 : World.cell? _ ⟨go8, (x2_1 : Int).toNat * 6 + 5, none⟩ = some (.bool ((rd_T72 x0_1 x2_1).f4)) := hcc8 5 _ rfl
    have hf8_0 : World.frozen? _ ⟨go8, (x2_1 : Int).toNat * 6, none⟩ = false := hfr8 0
    have hf8_1 : World.frozen? _ ⟨go8, (x2_1 : Int).toNat * 6 + 1, none⟩ = false := hfr8 1
    have hf8_2 : World.frozen? _ ⟨go8, (x2_1 : Int).toNat * 6 + 2, none⟩ = false := hfr8 2
    have hf8_3 : World.frozen? _ ⟨go8, (x2_1 : Int).toNat * 6 + 3, none⟩ = false := hfr8 3
    have hf8_4 : World.frozen? _ ⟨go8, (x2_1 : Int).toNat * 6 + 4, none⟩ = false := hfr8 4
    have hf8_5 : World.frozen? _ ⟨go8, (x2_1 : Int).toNat * 6 + 5, none⟩ = false := hfr8 5
    clear hcl8 hcc8 hfr8 hM8
    replace p8 := eq_true p8
    replace q8 := eq_true q8
    obtain ⟨ce11, hcl11, hM11, hcc11, hfr11⟩ := Kd.R_elem HO_0.out z72 (x2_1 : Int) (of_decide_eq_true zA) (by have h_ : (x2_1 : Int) < ((x0_1.length : Int) : Int) := of_decide_eq_true zA; first | exact h_ | (have e_ := (Kd.R_reads' HO_0.out).1; omega) | simpa using h_)
    obtain rfl := k72_openM hM11
    have HP11 := (Kd.R_seg HO_0.out (x2_1 : Int) (of_decide_eq_true zA) (by have h_ : (x2_1 : Int) < ((x0_1.length : Int) : Int) := of_decide_eq_true zA; first | exact h_ | (have e_ := (Kd.R_reads' HO_0.out).1; omega) | simpa using h_) (seg := [.int .i64 ((rd_T72 x0_1 x3_1).f0), .int .i64 ((rd_T72 x0_1 x3_1).f1), .int .i64 ((rd_T72 x0_1 x3_1).f2), .int .i64 ((rd_T72 x0_1 x3_1).f3.f0), .int .i64 ((rd_T72 x0_1 x3_1).f3.f1), .bool ((rd_T72 x0_1 x3_1).f4)]) (j := 0) hcl11 hcc11 (show 6 ≤ 6 from by decide) (x' := (⟨(rd_T72 x0_1 x3_1).f0, (rd_T72 x0_1 x3_1).f1, (rd_T72 x0_1 x3_1).f2, (⟨(rd_T72 x0_1 x3_1).f3.f0, (rd_T72 x0_1 x3_1).f3.f1⟩ : S57), (rd_T72 x0_1 x3_1).f4⟩ : S72)) (k72_mkM _ _ _ (⟨(rd_T72 x0_1 x3_1).f0, (rd_T72 x0_1 x3_1).f1, (rd_T72 x0_1 x3_1).f2, (⟨(rd_T72 x0_1 x3_1).f3.f0, (rd_T72 x0_1 x3_1).f3.f1⟩ : S57), (rd_T72 x0_1 x3_1).f4⟩ : S72) ) (fun _ hk => hk)).1
    rw [← Ny180.out] at HP11
    have HQ11 := Aside0.mk HP11
    clear hcl11 hcc11 hfr11 hM11 HP11
    have p9 : 0 ≤ (x3_1 : Int) := of_decide_eq_true zA
    have q9 : (x3_1 : Int) < ((x0_1.length : Int) : Int) := of_decide_eq_true zA
    obtain ⟨ce9, hcl9, hM9, hcc9, hfr9⟩ := Kd.R_elem HQ11.out z72 (x3_1 : Int) p9 q9
    obtain rfl := k72_openM hM9
    have hx9_0 : World.cell? _ ⟨go8, (x3_1 : Int).toNat * 6, none⟩ = some (.int .i64 ((rd_T72 y180 x3_1).f0)) := hcc9 0 _ rfl
    have hx9_1 : World.cell? _ ⟨go8, (x3_1 : Int).toNat * 6 + 1, none⟩ = some (.int .i64 ((rd_T72 y180 x3_1).f1)) := hcc9 1 _ rfl
    have hx9_2 : World.cell? _ ⟨go8, (x3_1 : Int).toNat * 6 + 2, none⟩ = some (.int .i64 ((rd_T72 y180 x3_1).f2)) := hcc9 2 _ rfl
    have hx9_3 : World.cell? _ ⟨go8, (x3_1 : Int).toNat * 6 + 3, none⟩ = some (.int .i64 ((rd_T72 y180 x3_1).f3.f0)) := hcc9 3 _ rfl
    have hx9_4 : World.cell? _ ⟨go8, (x3_1 : Int).toNat * 6 + 4, none⟩ = some (.int .i64 ((rd_T72 y180 x3_1).f3.f1)) := hcc9 4 _ rfl
    have hx9_5 : World.cell? _ ⟨go8, (x3_1 : Int).toNat * 6 + 5, none⟩ = some (.bool ((rd_T72 y180 x3_1).f4)) := hcc9 5 _ rfl
    have hf9_0 : World.frozen? _ ⟨go8, (x3_1 : Int).toNat * 6, none⟩ = false := hfr9 0
    have hf9_1 : World.frozen? _ ⟨go8, (x3_1 : Int).toNat * 6 + 1, none⟩ = false := hfr9 1
    have hf9_2 : World.frozen? _ ⟨go8, (x3_1 : Int).toNat * 6 + 2, none⟩ = false := hfr9 2
    have hf9_3 : World.frozen? _ ⟨go8, (x3_1 : Int).toNat * 6 + 3, none⟩ = false := hfr9 3
    have hf9_4 : World.frozen? _ ⟨go8, (x3_1 : Int).toNat * 6 + 4, none⟩ = false := hfr9 4
    have hf9_5 : World.frozen? _ ⟨go8, (x3_1 : Int).toNat * 6 + 5, none⟩ = false := hfr9 5
    clear hcl9 hcc9 hfr9 hM9
    replace p9 := eq_true p9
    replace q9 := eq_true q9
    obtain ⟨ce12, hcl12, hM12, hcc12, hfr12⟩ := Kd.R_elem HQ11.out z72 (x3_1 : Int) (of_decide_eq_true zA) (by have h_ : (x3_1 : Int) < ((x0_1.length : Int) : Int) := of_decide_eq_true zA; first | exact h_ | (have e_ := (Kd.R_reads' HO_0.out).1; omega) | simpa using h_)
    obtain rfl := k72_openM hM12
    have HP12 := (Kd.R_seg HQ11.out (x3_1 : Int) (of_decide_eq_true zA) (by have h_ : (x3_1 : Int) < ((x0_1.length : Int) : Int) := of_decide_eq_true zA; first | exact h_ | (have e_ := (Kd.R_reads' HO_0.out).1; omega) | simpa using h_) (seg := [.int .i64 ((rd_T72 x0_1 x2_1).f0), .int .i64 ((rd_T72 x0_1 x2_1).f1), .int .i64 ((rd_T72 x0_1 x2_1).f2), .int .i64 ((rd_T72 x0_1 x2_1).f3.f0), .int .i64 ((rd_T72 x0_1 x2_1).f3.f1), .bool ((rd_T72 x0_1 x2_1).f4)]) (j := 0) hcl12 hcc12 (show 6 ≤ 6 from by decide) (x' := (⟨(rd_T72 x0_1 x2_1).f0, (rd_T72 x0_1 x2_1).f1, (rd_T72 x0_1 x2_1).f2, (⟨(rd_T72 x0_1 x2_1).f3.f0, (rd_T72 x0_1 x2_1).f3.f1⟩ : S57), (rd_T72 x0_1 x2_1).f4⟩ : S72)) (k72_mkM _ _ _ (⟨(rd_T72 x0_1 x2_1).f0, (rd_T72 x0_1 x2_1).f1, (rd_T72 x0_1 x2_1).f2, (⟨(rd_T72 x0_1 x2_1).f3.f0, (rd_T72 x0_1 x2_1).f3.f1⟩ : S57), (rd_T72 x0_1 x2_1).f4⟩ : S72) ) (fun _ hk => hk)).1
    rw [← Ny181.out] at HP12
    have HQ12 := Aside0.mk HP12
    clear hcl12 hcc12 hfr12 hM12 HP12
    refine start_ (n := 16) (S := fun w' => w'.cell? ⟨go8, ((x3_1).toNat * 6), none⟩ = some (.int .i64 ((rd_T72 x0_1 x3_1).f0)) ∧ w'.cell? ⟨go8, ((x3_1).toNat * 6) + 1, none⟩ = some (.int .i64 ((rd_T72 x0_1 x3_1).f1)) ∧ w'.cell? ⟨go8, ((x3_1).toNat * 6) + 2, none⟩ = some (.int .i64 ((rd_T72 x0_1 x3_1).f2)) ∧ w'.cell? ⟨go8, ((x3_1).toNat * 6) + 3, none⟩ = some (.int .i64 ((rd_T72 x0_1 x3_1).f3.f0)) ∧ w'.cell? ⟨go8, ((x3_1).toNat * 6) + 4, none⟩ = some (.int .i64 ((rd_T72 x0_1 x3_1).f3.f1)) ∧ w'.cell? ⟨go8, ((x3_1).toNat * 6) + 5, none⟩ = some (.bool ((rd_T72 x0_1 x3_1).f4)) ∧ w'.cell? ⟨go8, ((x2_1).toNat * 6), none⟩ = some (.int .i64 ((rd_T72 x0_1 x2_1).f0)) ∧ w'.cell? ⟨go8, ((x2_1).toNat * 6) + 1, none⟩ = some (.int .i64 ((rd_T72 x0_1 x2_1).f1)) ∧ w'.cell? ⟨go8, ((x2_1).toNat * 6) + 2, none⟩ = some (.int .i64 ((rd_T72 x0_1 x2_1).f2)) ∧ w'.cell? ⟨go8, ((x2_1).toNat * 6) + 3, none⟩ = some (.int .i64 ((rd_T72 x0_1 x2_1).f3.f0)) ∧ w'.cell? ⟨go8, ((x2_1).toNat * 6) + 4, none⟩ = some (.int .i64 ((rd_T72 x0_1 x2_1).f3.f1)) ∧ w'.cell? ⟨go8, ((x2_1).toNat * 6) + 5, none⟩ = some (.bool ((rd_T72 x0_1 x2_1).f4))) (ds := [13, 15]) #[false, false, false, false, false, false, false, false, false, false, false, false, false, false, false, false] (by kernel_rfl) rfl rfl ⟨hx178_0, hx178_1, hx178_2, hx178_3, hx178_4, hx178_5, hx179_0, hx179_1, hx179_2, hx179_3, hx179_4, hx179_5⟩ (fun hHeld => ?_); refine with_tabW api_Edge_143.tab3 api_Edge_143.bits3 (fun HT_ HW_ => ?_)
    generalize wr.drew = w10 at HO_0 HK HB GG8 HQ11 HQ12 hf8_0 hf8_1 hf8_2 hf8_3 hf8_4 hf8_5 hf9_0 hf9_1 hf9_2 hf9_3 hf9_4 hf9_5 hx178_0 hx178_1 hx178_2 hx178_3 hx178_4 hx178_5 hx179_0 hx179_1 hx179_2 hx179_3 hx179_4 hx179_5 hx8_0 hx8_1 hx8_2 hx8_3 hx8_4 hx8_5 hx9_0 hx9_1 hx9_2 hx9_3 hx9_4 hx9_5 hHeld ⊢
    refine zp 0 (some 14) ?_
    refine zp 1 (some 15) ?_
    refine zp 2 (some 16) ?_
    refine zp 3 (some 17) ?_
    refine zp 4 (some 18) ?_
    refine zp 5 (some 19) ?_
    refine zp 6 (some 20) ?_
    refine zp 8 (some 22) ?_
    refine zp 9 (some 23) ?_
    refine zp 10 (some 24) ?_
    refine zt12 7 (some 21) ?_
    refine zt12 11 (some 25) ?_
    refine zp 12 (some 26) ?_
    refine z9 13 none (fun K hK => ?_)
    refine L.store_edge (w0 := w0) (base := w0.heap.size) (g := go8) (o' := _) x2_1 x0_1 (rd_T72 x0_1 x3_1) (.tmp 26) (.tmp 21) rfl (by rfl) rfl rfl (by first | rfl | simp) rfl HO_0.out (of_eq_true p8) (of_eq_true q8) HB.out ?_
    intro w41 ho41 hg41 hb41
    have HO41 := Aside0.mk (show Kd.R k72 72 w41 w0.heap.size _ _ y180 from by rw [Ny180.out]; exact ho41)
    have HK41 := Aside0.mk (Kept.of_grown hg41 HK.out (fun k_ hk => by cases hk; exact HMgo8.out))
    clear ho41 hg41
    refine hK.out _ _ ?_
    clear hK K
    refine zp 14 (some 27) ?_
    refine z9 15 none (fun K hK => ?_)
    refine L.store_edge (w0 := w0) (base := w0.heap.size) (g := go8) (o' := _) x3_1 y180 (rd_T72 x0_1 x2_1) (.tmp 27) (.tmp 25) rfl (by rfl) rfl rfl (by first | rfl | simp) rfl HO41.out (of_eq_true p9) (of_eq_true q9) hb41 ?_
    intro w42 ho42 hg42 hb42
    have HO42 := Aside0.mk (show Kd.R k72 72 w42 w0.heap.size _ _ y181 from by rw [Ny181.out]; exact ho42)
    have HK42 := Aside0.mk (Kept.of_grown hg42 HK41.out (fun k_ hk => by cases hk; exact HMgo8.out))
    clear ho42 hg42 hb41
    refine hK.out _ _ ?_
    clear hK K
    refine done_ (done_of HT_.out (by kernel_rfl)) ?_
    clear HB HK
    have HB := Aside0.mk hb42
    have HK := HK42
    clear hb42 HK42
    try go_wp2
    (try simp only [← hl0_1])
    go_roundg k1
    case measure => have := HK1.out; omega
    case rel => exact ⟨(y181), (wrap64 (x2_1 + 1)), (wrap64 (x3_1 - 1)), zE, zE, H', ⟨by have := HK1.out; omega⟩, ⟨by (try simp only [hl0_1]); (with_reducible repeat (first | apply Kd.R_alloc | apply Kd.R_drewN | apply Kd.R_drew)); exact HO42.out⟩, ⟨by repeat (first | (with_reducible first | exact HK.out | apply Kept.alloc | apply Kept.drewN | apply Kept.drew | refine Kept.setCell ?_ HMgo8.out _ | refine Kept.setCell ?_ HMgo8.out _ | refine Kept.setCell ?_ HMgo8.out _ | refine Kept.setCell ?_ HMgo8.out _ | refine Kept.setCell ?_ HMgo8.out _ | refine Kept.setCell ?_ HMgo8.out _ | refine Kept.setCell ?_ HMgo8.out _ | refine Kept.setCell ?_ HMgo8.out _ | refine Kept.setCell ?_ HMgo8.out _ | refine Kept.setCell ?_ HMgo8.out _ | refine Kept.setCell ?_ HMgo8.out _ | refine Kept.setCell ?_ HMgo8.out _) | exact HK.out)⟩, ⟨by repeat (first | (with_reducible first | exact HB.out | apply below_alloc | apply pw_below_drewN | apply below_drew1 | refine below_set ?_ GB8.out | refine below_set ?_ GB8.out | refine below_set ?_ GB8.out | refine below_set ?_ GB8.out | refine below_set ?_ GB8.out | refine below_set ?_ GB8.out | refine below_set ?_ GB8.out | refine below_set ?_ GB8.out | refine below_set ?_ GB8.out | refine below_set ?_ GB8.out | refine below_set ?_ GB8.out | refine below_set ?_ GB8.out) | exact HB.out)⟩⟩
   ·rw [if_neg c3] at H
    have c3b0 := decide_eq_false c3
    clear c3
    obtain rfl := Option.some.inj H
    go_wp2
    first | go_end0 | ((try simp only [Exit.inBlock, Exit.then]); refine bodyPost_ret (results_none rfl _ _ _) rfl ?_)
    exact ⟨zV, (by first | exact (zR HO_0.out) | (simp only [hl0_1]; exact (zR HO_0.out))), zB, zH0⟩
mutual
def loop_back.j1 : Nat → Int → List Int → List (S72) → Option ((List (S72)))
 | 0, _, _, _ => none
 | k + 1, x0, x7, x8 => (slices_Index_int_int.f k x7 x0).bind fun t199 => (if 0 ≤ (mx t199 0) then (if (mx t199 0) ≤ (x8.length : Int) then ((api_Edge_142.f (x8.drop ((mx t199 0) : Int).toNat)).bind fun t204 => ((api_Edge_143.f k t204).bind fun t207 => (some t207))) else (none)) else (none))
def loop_back.l0 : Nat → Int → List (List Int) → List (S72) → List Int → List (S72) → Int → Option ((List (S72)))
 | 0, _, _, _, _, _, _ => none
 | k + 1, x0, x1, x2, x7, x8, x9 => if x9 ≥ 0 then ((slices_Contains_int_int.f k x7 x0).bind fun t182 => (if t182 = true then (loop_back.j1 k x0 x7 x8) else (if 0 ≤ x9 then (if x9 < (x1.length : Int) then (if 0 ≤ x0 then (if x0 < ((rd_L9 x1 x9).length : Int) then (if (rd (rd_L9 x1 x9) x0) < 0 then (loop_back.j1 k x0 x7 x8) else ((some (([x0] : List Int) : List Int)).bind fun y185 => (if x7.length + y185.length < 17592186044416 then (if 0 ≤ (rd (rd_L9 x1 x9) x0) then (if (rd (rd_L9 x1 x9) x0) < (x2.length : Int) then ((some (([(⟨(rd_T72 x2 (rd (rd_L9 x1 x9) x0)).f0, (rd_T72 x2 (rd (rd_L9 x1 x9) x0)).f1, (rd_T72 x2 (rd (rd_L9 x1 x9) x0)).f2, (⟨(rd_T72 x2 (rd (rd_L9 x1 x9) x0)).f3.f0, (rd_T72 x2 (rd (rd_L9 x1 x9) x0)).f3.f1⟩ : S57), (rd_T72 x2 (rd (rd_L9 x1 x9) x0)).f4⟩ : S72)] : List (S72)) : List (S72))).bind fun y192 => (if x8.length + y192.length < 2932031007402 then (loop_back.l0 k ((rd_T72 x2 (rd (rd_L9 x1 x9) x0)).f0) x1 x2 (x7 ++ y185) (x8 ++ y192) (wrap64 (x9 - 1))) else (none))) else (none)) else (none)) else (none)))) else (none)) else (none)) else (none)) else (none)))) else (loop_back.j1 k x0 x7 x8)
end
def loop_back.f (k : Nat) (a0 : Int) (l1 : List (List Int)) (l2 : List (S72)) : Option ((List (S72))) := loop_back.l0 k a0 l1 l2 ([] : List Int) ([] : List (S72)) (wrap64 ((l1.length : Int) - 1))
theorem loop_back.mono_l : ∀ k, (∀ y0 y1 y2, LeO (loop_back.j1 k y0 y1 y2) (loop_back.j1 (k + 1) y0 y1 y2)) ∧ (∀ y0 y1 y2 y3 y4 y5, LeO (loop_back.l0 k y0 y1 y2 y3 y4 y5) (loop_back.l0 (k + 1) y0 y1 y2 y3 y4 y5))
 | 0 => ⟨fun _ _ _ r h => by simp [loop_back.j1] at h, fun _ _ _ _ _ _ r h => by simp [loop_back.l0] at h⟩
 | k + 1 => by
  obtain ⟨ih0, ih1⟩ := loop_back.mono_l k
  refine ⟨?_, ?_⟩
  ·intro y0 y1 y2
   unfold loop_back.j1
   have m0 := @api_Edge_143.mono; have m1 := @slices_Contains_int_int.mono; have m2 := @slices_Index_int_int.mono
   exact zM
  ·intro y0 y1 y2 y3 y4 y5
   unfold loop_back.l0
   have m0 := @api_Edge_143.mono; have m1 := @slices_Contains_int_int.mono; have m2 := @slices_Index_int_int.mono
   exact zM
theorem loop_back.mono : ∀ a0 a1 a2 k, LeO (loop_back.f k a0 a1 a2) (loop_back.f (k + 1) a0 a1 a2) := by
 intro a0 a1 a2 k
 obtain ⟨ih0, ih1⟩ := loop_back.mono_l k
 unfold loop_back.f
 have m0 := @api_Edge_143.mono; have m1 := @slices_Contains_int_int.mono; have m2 := @slices_Index_int_int.mono
 exact zM
def loop_back.T9 : Bool × List (List Nat × List Nat) := (true, [([], []), ([], []), ([1], [1]), ([0, 2], [0, 2]), ([], []), ([], []), ([], []), ([5, 6], [5, 6]), ([7], [7]), ([8], [8]), ([4, 9, 3], [4, 9]), ([3, 10, 0, 1, 2, 3], [0, 3]), ([10, 11, 0, 1, 2, 3, 4, 5, 6, 7, 8, 9, 10, 11], [4, 10])])
def loop_back.B9 : List Nat := [0, 0, 2, 7, 0, 0, 0, 96, 224, 480, 1023, 2047, 4095]
theorem loop_back.tab9 : rtab .any (opsOf Tryz.f113 9) = loop_back.T9 := by kernel_rfl
theorem loop_back.bits9 : waitsOk loop_back.T9.2 loop_back.B9 = true := by kernel_rfl
set_option maxHeartbeats 8000000 in
set_option maxRecDepth 100000 in
theorem loop_back.calls (k : Nat) (a0 : Int) (A1 : Option Addr) (c1 : Nat) (l1 : List (List Int)) (A2 : Option Addr) (c2 : Nat) (l2 : List (S72)) (r : List (S72)) (w : World) (hr1 : Kd.C (Kd.slice 3 (Kd.int .i64)) w A1 l1.length l1) (hc1 : l1.length ≤ c1) (hr2 : Kd.C k72 w A2 l2.length l2) (hc2 : l2.length ≤ c2) (h : loop_back.f k a0 l1 l2 = some r) :
  Calls Tryz.prog 113 #[.int .i64 a0, .slice A1 l1.length c1, .slice A2 l2.length c2] w fun e w' => ∃ v0_ : Value, e = .returned (v0_) ∧ Kd.R k72 72 w' w.heap.size (fun _ => True) v0_ r ∧ Below w.heap.size w w' := by
 have hu72 := Tryz.underlying72
 have HR1 := Aside0.mk hr1
 have HC1 := Aside0.mk hc1
 clear hr1 hc1
 have HR2 := Aside0.mk hr2
 have HC2 := Aside0.mk hc2
 clear hr2 hc2
 have HB := Aside0.mk (Below.refl w.heap.size w)
 have H : (loop_back.l0 k a0 l1 l2 ([] : List Int) ([] : List (S72)) (wrap64 ((l1.length : Int) - 1))) = some r := h
 clear h
 have HC4 := Aside0.mk H
 clear H
 go_enter Tryz.func113, Tryz.ntmps113
 go_wp2_with fail
 refine Go.Proofs.YtgknjgionicncaaGreatW.LabG.scope_same ?_
 go_wp2_with fail
 apply wp_label
 go_upto_block 0 with (fail)
 go_cut [0, 7, 8] (fun v0 v7 v8 wc => ∃ (kq : Nat) (x0_3 : Int) (x7_3 : List Int) (x8_3 : List (S72)), v0 = .int .i64 x0_3 ∧ Aside0 (loop_back.j1 kq x0_3 x7_3 x8_3 = some r) ∧ Aside0 (kq ≤ k) ∧ Aside0 (Kd.R (Kd.int .i64) 3 wc w.heap.size (fun _ => True) v7 x7_3) ∧ Aside0 (Kd.R k72 72 wc w.heap.size (fun _ => True) v8 x8_3) ∧ Aside0 (Below w.heap.size w wc))
 case first =>
  have H := HC4.out
  clear HC4
  have H' := Aside0.mk H
  clear H
  go_wp2
  go_loopg [0, 7, 8, 9] k (fun kq v0 v7 v8 v9 w' => ∃ (x0_1 : Int) (x7_1 : List Int) (x8_1 : List (S72)) (x9_1 : Int), v0 = .int .i64 x0_1 ∧ v9 = .int .i64 x9_1 ∧ Aside0 (loop_back.l0 kq x0_1 l1 l2 x7_1 x8_1 x9_1 = some r) ∧ Aside0 (kq ≤ k) ∧ Aside0 (Kd.R (Kd.int .i64) 3 w' w.heap.size (fun _ => True) v7 x7_1) ∧ Aside0 (Kd.R k72 72 w' w.heap.size (fun _ => True) v8 x8_1) ∧ Aside0 (Below w.heap.size w w'))
  case atStart => exact ⟨(a0), (([] : List Int)), (([] : List (S72))), (wrap64 ((l1.length : Int) - 1)), zE, zE, H', ⟨Nat.le_refl _⟩, ⟨zNil⟩, ⟨zNil⟩, ⟨zB⟩⟩
  case round =>
   clear H'
   (try clear c1); (try clear c2); (try clear p2)
   obtain ⟨x0_1, x7_1, x8_1, x9_1, rfl, rfl, HA, HK1, HO_7, HO_8, HB⟩ := hrel
   cases gk with
   | zero => exact absurd HA.out (by simp [loop_back.l0])
   | succ k1 =>
    have H := HA.out
    clear HA
    simp only [loop_back.l0] at H
    by_cases c5 : x9_1 ≥ 0
    ·rw [if_pos c5] at H
     have c5b0 : decide (0 ≤ x9_1) = true := decide_eq_true c5
     clear c5
     (first | rw [c5b0] | (simp only [i64_w, i32_w]; rw [c5b0]) | skip)
     replace H := Option.bind_eq_some_iff.mp H
     obtain ⟨t182, A60, H⟩ := H
     have A6 := Aside0.mk A60
     clear A60
     by_cases c7 : t182 = true
     ·subst c7
      rw [if_pos rfl] at H
      have H' := Aside0.mk H
      clear H
      obtain ⟨Ao8, co8, eo8⟩ := Kd.R_slice HO_7.out
      subst eo8
      go_wp2_with (first | ((with_reducible refine gate_callee (f := 140) rfl ?_); refine goesL_ (some 22) rfl rfl Tryz.func140 (by kernel_rfl) rfl #[.slice Ao8 x7_1.length co8, .int .i64 x0_1] rfl zL ?_; (with_reducible refine (slices_Contains_int_int.calls k1 _ _ x7_1 x0_1 true _ ?side1 ?side2 A6.out).mono ?_); (case side1 => exact zC ((Kd.R_reads' HO_7.out).2.2)); (case side2 => exact (Kd.R_reads' HO_7.out).2.1); rintro e w' ⟨rfl, ⟨nd, rfl⟩⟩; refine ⟨_, rfl, ?_⟩))
      go_meet
      case rel => exact ⟨_, (x0_1), (x7_1), (x8_1), zE, H', ⟨by have := HK1.out; first | omega | exact Nat.le_refl _⟩, ⟨zR HO_7.out⟩, ⟨zR HO_8.out⟩, ⟨zB⟩⟩
     ·replace c7 := Bool.eq_false_iff.mpr c7
      subst c7
      rw [if_neg (show ¬ (false = true) by decide)] at H
      obtain ⟨c9b0, H⟩ := zt H
      obtain ⟨c10b0, H⟩ := zt H
      obtain ⟨c11b0, H⟩ := zt H
      obtain ⟨c12b0, H⟩ := zt H
      by_cases c13 : (rd (rd_L9 l1 x9_1) x0_1) < 0
      ·rw [if_pos c13] at H
       have c13b0 := decide_eq_true c13
       clear c13
       have H' := Aside0.mk H
       clear H
       obtain ⟨Ao14, co14, eo14⟩ := Kd.R_slice HO_7.out
       subst eo14
       go_wp2_with (first | ((with_reducible refine gate_callee (f := 140) rfl ?_); refine goesL_ (some 22) rfl rfl Tryz.func140 (by kernel_rfl) rfl #[.slice Ao14 x7_1.length co14, .int .i64 x0_1] rfl zL ?_; (with_reducible refine (slices_Contains_int_int.calls k1 _ _ x7_1 x0_1 false _ ?side1 ?side2 A6.out).mono ?_); (case side1 => exact zC ((Kd.R_reads' HO_7.out).2.2)); (case side2 => exact (Kd.R_reads' HO_7.out).2.1); rintro e w' ⟨rfl, ⟨nd, rfl⟩⟩; refine ⟨_, rfl, ?_⟩; have p183 : 0 ≤ (x9_1 : Int) := of_decide_eq_true zA; have q183 : x9_1 < (l1.length : Int) := of_decide_eq_true zA; obtain ⟨ad183, A183_0, c183_0, e183, hx183_0, hl183_0, hi183_0⟩ := at_L9 HR1.out x9_1 p183 q183; cases e183; replace hx183_0 := zc HB.out hx183_0; have HR183_0 := Aside0.mk hi183_0; have HC183_0 := Aside0.mk hl183_0; clear hi183_0 hl183_0; replace p183 := eq_true p183; replace q183 := eq_true q183; have p184 : 0 ≤ (x0_1 : Int) := of_decide_eq_true zA; have q184 : x0_1 < ((rd_L9 l1 x9_1).length : Int) := of_decide_eq_true zA; obtain ⟨ad184, e184, hx184_0⟩ := Kd.at_int HR183_0.out x0_1 p184 q184; cases e184; replace hx184_0 := zc HB.out hx184_0; replace p184 := eq_true p184; replace q184 := eq_true q184))
       go_meet
       case rel => exact ⟨_, (x0_1), (x7_1), (x8_1), zE, H', ⟨by have := HK1.out; first | omega | exact Nat.le_refl _⟩, ⟨zR HO_7.out⟩, ⟨zR HO_8.out⟩, ⟨zB⟩⟩
      ·rw [if_neg c13] at H
       have c13b0 := decide_eq_false c13
       clear c13
       obtain ⟨y185, hy185⟩ : ∃ y_ : List Int, y_ = (([x0_1] : List Int)) := ⟨_, rfl⟩
       first | (replace H := zo H hy185) | rw [← hy185] at H
       have Ny185 := Aside0.mk hy185
       clear hy185
       obtain ⟨c15, H⟩ := zj H
       have LMc15 := Aside0.mk c15
       clear c15
       obtain ⟨y188, hy188⟩ : ∃ y_ : List Int, y_ = (x7_1 ++ y185) := ⟨_, rfl⟩
       first | (replace H := zo H hy188) | rw [← hy188] at H
       have Ny188 := Aside0.mk hy188
       clear hy188
       obtain ⟨c16b0, H⟩ := zt H
       obtain ⟨c17b0, H⟩ := zt H
       obtain ⟨y192, hy192⟩ : ∃ y_ : List (S72), y_ = (([(⟨(rd_T72 l2 (rd (rd_L9 l1 x9_1) x0_1)).f0, (rd_T72 l2 (rd (rd_L9 l1 x9_1) x0_1)).f1, (rd_T72 l2 (rd (rd_L9 l1 x9_1) x0_1)).f2, (⟨(rd_T72 l2 (rd (rd_L9 l1 x9_1) x0_1)).f3.f0, (rd_T72 l2 (rd (rd_L9 l1 x9_1) x0_1)).f3.f1⟩ : S57), (rd_T72 l2 (rd (rd_L9 l1 x9_1) x0_1)).f4⟩ : S72)] : List (S72))) := ⟨_, rfl⟩
       first | (replace H := zo H hy192) | rw [← hy192] at H
       have Ny192 := Aside0.mk hy192
       clear hy192
       obtain ⟨c18, H⟩ := zj H
       have LMc18 := Aside0.mk c18
       clear c18
       obtain ⟨y195, hy195⟩ : ∃ y_ : List (S72), y_ = (x8_1 ++ y192) := ⟨_, rfl⟩
       first | (replace H := zo H hy195) | rw [← hy195] at H
       have Ny195 := Aside0.mk hy195
       clear hy195
       have H' := Aside0.mk H
       clear H
       obtain ⟨Ao19, co19, eo19⟩ := Kd.R_slice HO_7.out
       subst eo19
       try go_wp2_with (first | ((with_reducible refine gate_callee (f := 140) rfl ?_); refine goesL_ (some 22) rfl rfl Tryz.func140 (by kernel_rfl) rfl #[.slice Ao19 x7_1.length co19, .int .i64 x0_1] rfl zL ?_; (with_reducible refine (slices_Contains_int_int.calls k1 _ _ x7_1 x0_1 false _ ?side1 ?side2 A6.out).mono ?_); (case side1 => exact zC ((Kd.R_reads' HO_7.out).2.2)); (case side2 => exact (Kd.R_reads' HO_7.out).2.1); rintro e w' ⟨rfl, ⟨nd, rfl⟩⟩; refine ⟨_, rfl, ?_⟩; have p183 : 0 ≤ (x9_1 : Int) := of_decide_eq_true zA; have q183 : x9_1 < (l1.length : Int) := of_decide_eq_true zA; obtain ⟨ad183, A183_0, c183_0, e183, hx183_0, hl183_0, hi183_0⟩ := at_L9 HR1.out x9_1 p183 q183; cases e183; replace hx183_0 := zc HB.out hx183_0; have HR183_0 := Aside0.mk hi183_0; have HC183_0 := Aside0.mk hl183_0; clear hi183_0 hl183_0; replace p183 := eq_true p183; replace q183 := eq_true q183; have p184 : 0 ≤ (x0_1 : Int) := of_decide_eq_true zA; have q184 : x0_1 < ((rd_L9 l1 x9_1).length : Int) := of_decide_eq_true zA; obtain ⟨ad184, e184, hx184_0⟩ := Kd.at_int HR183_0.out x0_1 p184 q184; cases e184; replace hx184_0 := zc HB.out hx184_0; replace p184 := eq_true p184; replace q184 := eq_true q184; obtain ⟨Ao20, co20, eo20⟩ := Kd.R_slice HO_8.out; subst eo20))
       (try (rw [drewN_self wr]; generalize hq_ : World.drewN wr _ = wr; have n0_ : Aside0 (Kd.R (Kd.int .i64) 3 wr w.heap.size (fun _ => True) (.slice Ao19 x7_1.length co19) x7_1) := ⟨by rw [← hq_]; exact (zR HO_7.out)⟩; have n1_ : Aside0 (Kd.R k72 72 wr w.heap.size (fun _ => True) (.slice Ao20 x8_1.length co20) x8_1) := ⟨by rw [← hq_]; exact (zR HO_8.out)⟩; have n2_ : Aside0 (Below w.heap.size w wr) := ⟨by rw [← hq_]; exact zB⟩; clear HO_7 HO_8 HB hq_; have HO_7 := n0_; have HO_8 := n1_; have HB := n2_; clear n0_ n1_ n2_))
       replace HO_7 := Aside0.mk (Kd.R_drew HO_7.out)
       replace HO_8 := Aside0.mk (Kd.R_drew HO_8.out)
       replace HB := Aside0.mk (below_drew1 HB.out)
       have p191 : 0 ≤ ((rd (rd_L9 l1 x9_1) x0_1) : Int) := of_decide_eq_true zA
       have q191 : (rd (rd_L9 l1 x9_1) x0_1) < (l2.length : Int) := of_decide_eq_true zA
       obtain ⟨ad191, e191, hx191_0, hx191_1, hx191_2, hx191_3, hx191_4, hx191_5⟩ := at_T72 HR2.out (rd (rd_L9 l1 x9_1) x0_1) p191 q191
       have hw191_5 := hx191_5
       have hw191_4 := hx191_4
       have hw191_3 := hx191_3
       have hw191_2 := hx191_2
       have hw191_1 := hx191_1
       have hw191_0 := hx191_0
       cases e191
       replace hx191_0 := zc HB.out hx191_0
       replace hx191_1 := zc HB.out hx191_1
       replace hx191_2 := zc HB.out hx191_2
       replace hx191_3 := zc HB.out hx191_3
       replace hx191_4 := zc HB.out hx191_4
       replace hx191_5 := zc HB.out hx191_5
       replace p191 := eq_true p191
       replace q191 := eq_true q191
       refine start_ (n := 13) (S := fun w' => w'.cell? (ad191.add (((rd (rd_L9 l1 x9_1) x0_1)).toNat * 6)) = some (.int .i64 ((rd_T72 l2 (rd (rd_L9 l1 x9_1) x0_1)).f0)) ∧ w'.cell? ⟨(ad191.add (((rd (rd_L9 l1 x9_1) x0_1)).toNat * 6)).block, (ad191.add (((rd (rd_L9 l1 x9_1) x0_1)).toNat * 6)).off + 1, none⟩ = some (.int .i64 ((rd_T72 l2 (rd (rd_L9 l1 x9_1) x0_1)).f1)) ∧ w'.cell? ⟨(ad191.add (((rd (rd_L9 l1 x9_1) x0_1)).toNat * 6)).block, (ad191.add (((rd (rd_L9 l1 x9_1) x0_1)).toNat * 6)).off + 2, none⟩ = some (.int .i64 ((rd_T72 l2 (rd (rd_L9 l1 x9_1) x0_1)).f2)) ∧ w'.cell? ⟨(ad191.add (((rd (rd_L9 l1 x9_1) x0_1)).toNat * 6)).block, (ad191.add (((rd (rd_L9 l1 x9_1) x0_1)).toNat * 6)).off + 3, none⟩ = some (.int .i64 ((rd_T72 l2 (rd (rd_L9 l1 x9_1) x0_1)).f3.f0)) ∧ w'.cell? ⟨(ad191.add (((rd (rd_L9 l1 x9_1) x0_1)).toNat * 6)).block, (ad191.add (((rd (rd_L9 l1 x9_1) x0_1)).toNat * 6)).off + 4, none⟩ = some (.int .i64 ((rd_T72 l2 (rd (rd_L9 l1 x9_1) x0_1)).f3.f1)) ∧ w'.cell? ⟨(ad191.add (((rd (rd_L9 l1 x9_1) x0_1)).toNat * 6)).block, (ad191.add (((rd (rd_L9 l1 x9_1) x0_1)).toNat * 6)).off + 5, none⟩ = some (.bool ((rd_T72 l2 (rd (rd_L9 l1 x9_1) x0_1)).f4))) (ds := []) #[false, false, false, false, false, false, false, false, false, false, false, false, false] (by kernel_rfl) rfl rfl ⟨(zc HB.out hw191_0 :), (zc HB.out hw191_1 :), (zc HB.out hw191_2 :), (zc HB.out hw191_3 :), (zc HB.out hw191_4 :), (zc HB.out hw191_5 :)⟩ (fun hHeld => ?_); refine with_tabW loop_back.tab9 loop_back.bits9 (fun HT_ HW_ => ?_)
       generalize wr.drew = w21 at HO_7 HO_8 HB hx191_0 hx191_1 hx191_2 hx191_3 hx191_4 hx191_5 hHeld ⊢
       refine zp 0 (some 32) ?_
       refine zp 1 (some 33) ?_
       refine zp 4 (some 36) ?_
       refine zp 5 (some 37) ?_
       refine zp 6 (some 38) ?_
       refine zp 7 (some 39) ?_
       refine zt6 8 (some 40) ?_
       refine join_ (σ := Value × Value × Value) 3 #[true, true, true, true, true, true, true, true, true, true, false, false, false] (fun s_ => [(34, s_.1), (35, s_.2.1), (41, s_.2.2)]) (fun s_ w' => (w'.cell? (ad191.add (((rd (rd_L9 l1 x9_1) x0_1)).toNat * 6)) = some (.int .i64 ((rd_T72 l2 (rd (rd_L9 l1 x9_1) x0_1)).f0)) ∧ w'.cell? ⟨(ad191.add (((rd (rd_L9 l1 x9_1) x0_1)).toNat * 6)).block, (ad191.add (((rd (rd_L9 l1 x9_1) x0_1)).toNat * 6)).off + 1, none⟩ = some (.int .i64 ((rd_T72 l2 (rd (rd_L9 l1 x9_1) x0_1)).f1)) ∧ w'.cell? ⟨(ad191.add (((rd (rd_L9 l1 x9_1) x0_1)).toNat * 6)).block, (ad191.add (((rd (rd_L9 l1 x9_1) x0_1)).toNat * 6)).off + 2, none⟩ = some (.int .i64 ((rd_T72 l2 (rd (rd_L9 l1 x9_1) x0_1)).f2)) ∧ w'.cell? ⟨(ad191.add (((rd (rd_L9 l1 x9_1) x0_1)).toNat * 6)).block, (ad191.add (((rd (rd_L9 l1 x9_1) x0_1)).toNat * 6)).off + 3, none⟩ = some (.int .i64 ((rd_T72 l2 (rd (rd_L9 l1 x9_1) x0_1)).f3.f0)) ∧ w'.cell? ⟨(ad191.add (((rd (rd_L9 l1 x9_1) x0_1)).toNat * 6)).block, (ad191.add (((rd (rd_L9 l1 x9_1) x0_1)).toNat * 6)).off + 4, none⟩ = some (.int .i64 ((rd_T72 l2 (rd (rd_L9 l1 x9_1) x0_1)).f3.f1)) ∧ w'.cell? ⟨(ad191.add (((rd (rd_L9 l1 x9_1) x0_1)).toNat * 6)).block, (ad191.add (((rd (rd_L9 l1 x9_1) x0_1)).toNat * 6)).off + 5, none⟩ = some (.bool ((rd_T72 l2 (rd (rd_L9 l1 x9_1) x0_1)).f4))) ∧ (Kd.R (Kd.int .i64) 3 w' w.heap.size (fun k_ => some k_ ≠ (s_.2.1 : Value).ownBlock) s_.1 y185) ∧ (Kd.R (Kd.int .i64) 3 w' w.heap.size (fun k_ => some k_ ≠ (s_.1 : Value).ownBlock) s_.2.1 y188) ∧ (Kd.R k72 72 w' w.heap.size (fun k_ => some k_ ≠ (.slice Ao20 x8_1.length co20 : Value).ownBlock) s_.2.2 y192) ∧ (Kd.R k72 72 w' w.heap.size (fun k_ => some k_ ≠ (s_.2.2 : Value).ownBlock) (.slice Ao20 x8_1.length co20) x8_1) ∧ (Below w.heap.size w w')) ?_ ?_
       rotate_left
       ·intro hCont
        refine two_ (i := 2) (j := 9) (Ni := some 34) (Nj := some 41) #[true, true, true, false, true, true, true, true, true, false, false, false, false] #[true, true, false, false, true, true, true, true, true, true, false, false, false] rfl rfl rfl rfl (two_of HT_.out (by kernel_rfl)) (by decide) (by decide) (fun K hK => ?_) (fun K hK => ?_)
        ·skip
         refine Kd.R_lit_step (Kd.int .i64) _ 3 ?hg (N := 34) ?hd (xs := ([x0_1] : List Int)) (inner := [.int .i64 x0_1]) (ok := fun _ => True) (okp := fun _ => True) ?hr ?hp (fun _ hk => hk) trivial (Below.refl _ _) (Nat.le_refl _) (by simp) ?_; (case hd => rfl); (case hg => rfl); (case hr => first | (go_simp; done) | (go_simp; rfl)); (case hp => exact (Reps.one (show Kd.M (Kd.int .i64) _ _ _ x0_1 [.int .i64 x0_1] from rfl) (Reps.none _ _)))
         intro v186 w22 ho23 hb hg_ hnew_
         clear hg_ hnew_
         (first | rw [← Ny185.out] at ho23 | (simp only [Int.reduceToNat] at ho23; rw [← Ny185.out] at ho23))
         replace HO_8 := Aside0.mk (Kd.R_below (zR HO_8.out) hb)
         have HO187 := Aside0.mk (Kd.R_lower (Kd.R_new' ho23 (Kd.R_lt (zR HO_7.out))) (below_size zB))
         replace HO_7 := Aside0.mk (Kd.R_elder' (zR HO_7.out) (Kd.R_base ho23) hb)
         replace HB := Aside0.mk (below_step zB hb)
         clear hb ho23
         obtain ⟨Ao25, co25, eo25⟩ := Kd.R_slice HO187.out
         (first | subst eo25 | (injection eo25 with f1_ f2_ f3_; have f4_ := f1_.symm; have f5_ := f3_.symm; clear f1_ f2_ f3_; subst f4_; subst f5_))
         refine hK.out _ _ ⟨(zc HB.out hw191_0 :), (zc HB.out hw191_1 :), (zc HB.out hw191_2 :), (zc HB.out hw191_3 :), (zc HB.out hw191_4 :), (zc HB.out hw191_5 :)⟩ (fun hHeld => ?_)
         clear hK K
         refine norm_ (a' := ?_) ?_ ?_
         rotate_left
         ·show Act.put _ (some 34) _ = _
          simp only [Act.put, List.setIfInBounds_toArray, List.set_cons_zero, List.set_cons_succ, i64_w, i32_w]
          rfl
         refine two_ (i := 3) (j := 9) (Ni := some 35) (Nj := some 41) #[true, true, true, true, true, true, true, true, true, false, false, false, false] #[true, true, true, false, true, true, true, true, true, true, false, false, false] rfl rfl rfl rfl (two_of HT_.out (by kernel_rfl)) (by decide) (by decide) (fun K hK => ?_) (fun K hK => ?_)
         ·skip
          refine Kd.R_append_rows_step (Kd.int .i64) (w0 := w) w.heap.size (by rfl) (.tmp 32) (.tmp 34) 43 3 (.int .i64 0) 8 rfl Tryz.underlying43 info3 rfl (by decide) (by omega) (.slice Ao19 x7_1.length co19) x7_1 y185 _ _ _ (fun k_ => some k_ ≠ (.slice Ao25 y185.length co25 : Value).ownBlock) (fun _ => False) rfl rfl ?aO ?aR (fun _ _ h => h) (fun _ h => h.elim) ?aF ?aB ?aS ?aL ?_
          (case aR => exact zC ((Kd.R_reads' HO187.out).2.2))
          (case aB => exact zB)
          (case aF => exact (fun k_ hk => Kd.fresh' (Kd.R_lt (zR HO187.out)) k_ hk))
          (case aO => exact (zRm HO_7.out (fun _ hk => hk.2)))
          (case aS => exact (below_size zB))
          (case aL => have := LMc15.out; omega)
          intro v189 w24 ho hb hg hat
          rw [← Ny188.out] at ho
          replace HO_8 := Aside0.mk (Kd.R_over' (zR HO_8.out) (Kd.R_typed (zR HO_7.out)) (by decide) hg)
          replace HO187 := Aside0.mk (Kd.R_after (ok := (fun _ => True)) (zR HO187.out) hg hat)
          replace HB := Aside0.mk (hb)
          have HO190 := Aside0.mk (ho)
          clear HO_7
          clear ho hb hg hat
          refine hK.out _ _ ⟨(zc HB.out hw191_0 :), (zc HB.out hw191_1 :), (zc HB.out hw191_2 :), (zc HB.out hw191_3 :), (zc HB.out hw191_4 :), (zc HB.out hw191_5 :)⟩ (fun hHeld => ?_)
          clear hK K
          refine norm_ (a' := ?_) ?_ ?_
          rotate_left
          ·show Act.put _ (some 35) _ = _
           simp only [Act.put, List.setIfInBounds_toArray, List.set_cons_zero, List.set_cons_succ, i64_w, i32_w]
           rfl
          refine z1 9 (some 41) (fun K hK => ?_)
          refine Kd.R_lit_step k72 _ 72 ?hg (N := 41) ?hd (xs := ([(⟨(rd_T72 l2 (rd (rd_L9 l1 x9_1) x0_1)).f0, (rd_T72 l2 (rd (rd_L9 l1 x9_1) x0_1)).f1, (rd_T72 l2 (rd (rd_L9 l1 x9_1) x0_1)).f2, (⟨(rd_T72 l2 (rd (rd_L9 l1 x9_1) x0_1)).f3.f0, (rd_T72 l2 (rd (rd_L9 l1 x9_1) x0_1)).f3.f1⟩ : S57), (rd_T72 l2 (rd (rd_L9 l1 x9_1) x0_1)).f4⟩ : S72)] : List (S72))) (inner := [.int .i64 ((rd_T72 l2 (rd (rd_L9 l1 x9_1) x0_1)).f0), .int .i64 ((rd_T72 l2 (rd (rd_L9 l1 x9_1) x0_1)).f1), .int .i64 ((rd_T72 l2 (rd (rd_L9 l1 x9_1) x0_1)).f2), .int .i64 ((rd_T72 l2 (rd (rd_L9 l1 x9_1) x0_1)).f3.f0), .int .i64 ((rd_T72 l2 (rd (rd_L9 l1 x9_1) x0_1)).f3.f1), .bool ((rd_T72 l2 (rd (rd_L9 l1 x9_1) x0_1)).f4)]) (ok := fun _ => True) (okp := fun _ => True) ?hr ?hp (fun _ hk => hk) trivial (Below.refl _ _) (Nat.le_refl _) (by simp) ?_; (case hd => rfl); (case hg => rfl); (case hr => first | (go_simp; done) | (go_simp; rfl)); (case hp => exact (Reps.c6 (show Kd.M k72 _ _ _ (⟨(rd_T72 l2 (rd (rd_L9 l1 x9_1) x0_1)).f0, (rd_T72 l2 (rd (rd_L9 l1 x9_1) x0_1)).f1, (rd_T72 l2 (rd (rd_L9 l1 x9_1) x0_1)).f2, (⟨(rd_T72 l2 (rd (rd_L9 l1 x9_1) x0_1)).f3.f0, (rd_T72 l2 (rd (rd_L9 l1 x9_1) x0_1)).f3.f1⟩ : S57), (rd_T72 l2 (rd (rd_L9 l1 x9_1) x0_1)).f4⟩ : S72) [.int .i64 ((rd_T72 l2 (rd (rd_L9 l1 x9_1) x0_1)).f0), .int .i64 ((rd_T72 l2 (rd (rd_L9 l1 x9_1) x0_1)).f1), .int .i64 ((rd_T72 l2 (rd (rd_L9 l1 x9_1) x0_1)).f2), .int .i64 ((rd_T72 l2 (rd (rd_L9 l1 x9_1) x0_1)).f3.f0), .int .i64 ((rd_T72 l2 (rd (rd_L9 l1 x9_1) x0_1)).f3.f1), .bool ((rd_T72 l2 (rd (rd_L9 l1 x9_1) x0_1)).f4)] from (k72_mkM _ _ _ (⟨(rd_T72 l2 (rd (rd_L9 l1 x9_1) x0_1)).f0, (rd_T72 l2 (rd (rd_L9 l1 x9_1) x0_1)).f1, (rd_T72 l2 (rd (rd_L9 l1 x9_1) x0_1)).f2, (⟨(rd_T72 l2 (rd (rd_L9 l1 x9_1) x0_1)).f3.f0, (rd_T72 l2 (rd (rd_L9 l1 x9_1) x0_1)).f3.f1⟩ : S57), (rd_T72 l2 (rd (rd_L9 l1 x9_1) x0_1)).f4⟩ : S72) )) (Reps.none _ _)))
          intro v193 w26 ho27 hb hg_ hnew_
          clear hg_ hnew_
          (first | rw [← Ny192.out] at ho27 | (simp only [Int.reduceToNat] at ho27; rw [← Ny192.out] at ho27))
          replace HO187 := Aside0.mk (Kd.R_below (zR HO187.out) hb)
          replace HO190 := Aside0.mk (Kd.R_below (zR HO190.out) hb)
          have HO194 := Aside0.mk (Kd.R_lower (Kd.R_new' ho27 (Kd.R_lt (zR HO_8.out))) (below_size zB))
          replace HO_8 := Aside0.mk (Kd.R_elder' (zR HO_8.out) (Kd.R_base ho27) hb)
          replace HB := Aside0.mk (below_step zB hb)
          clear hb ho27
          refine hK.out _ _ ⟨(zc HB.out hw191_0 :), (zc HB.out hw191_1 :), (zc HB.out hw191_2 :), (zc HB.out hw191_3 :), (zc HB.out hw191_4 :), (zc HB.out hw191_5 :)⟩ (fun hHeld => ?_)
          clear hK K
          refine norm_ (a' := ?_) ?_ ?_
          rotate_left
          ·show Act.put _ (some 41) _ = _
           simp only [Act.put, List.setIfInBounds_toArray, List.set_cons_zero, List.set_cons_succ, i64_w, i32_w]
           rfl
          exact norm_ (by simp only [putAll, Act.put, List.setIfInBounds_toArray, List.set_cons_zero, List.set_cons_succ]) (hCont (.slice Ao25 y185.length co25, v189, v193) _ ⟨hHeld, (zRm HO187.out (fun _ hk => hk.2)), (zR HO190.out), (zRm HO194.out (fun _ hk => hk.2)), (zRm HO_8.out (fun _ hk => hk.2)), zB⟩)
         ·skip
          refine Kd.R_lit_step k72 _ 72 ?hg (N := 41) ?hd (xs := ([(⟨(rd_T72 l2 (rd (rd_L9 l1 x9_1) x0_1)).f0, (rd_T72 l2 (rd (rd_L9 l1 x9_1) x0_1)).f1, (rd_T72 l2 (rd (rd_L9 l1 x9_1) x0_1)).f2, (⟨(rd_T72 l2 (rd (rd_L9 l1 x9_1) x0_1)).f3.f0, (rd_T72 l2 (rd (rd_L9 l1 x9_1) x0_1)).f3.f1⟩ : S57), (rd_T72 l2 (rd (rd_L9 l1 x9_1) x0_1)).f4⟩ : S72)] : List (S72))) (inner := [.int .i64 ((rd_T72 l2 (rd (rd_L9 l1 x9_1) x0_1)).f0), .int .i64 ((rd_T72 l2 (rd (rd_L9 l1 x9_1) x0_1)).f1), .int .i64 ((rd_T72 l2 (rd (rd_L9 l1 x9_1) x0_1)).f2), .int .i64 ((rd_T72 l2 (rd (rd_L9 l1 x9_1) x0_1)).f3.f0), .int .i64 ((rd_T72 l2 (rd (rd_L9 l1 x9_1) x0_1)).f3.f1), .bool ((rd_T72 l2 (rd (rd_L9 l1 x9_1) x0_1)).f4)]) (ok := fun _ => True) (okp := fun _ => True) ?hr ?hp (fun _ hk => hk) trivial (Below.refl _ _) (Nat.le_refl _) (by simp) ?_; (case hd => rfl); (case hg => rfl); (case hr => first | (go_simp; done) | (go_simp; rfl)); (case hp => exact (Reps.c6 (show Kd.M k72 _ _ _ (⟨(rd_T72 l2 (rd (rd_L9 l1 x9_1) x0_1)).f0, (rd_T72 l2 (rd (rd_L9 l1 x9_1) x0_1)).f1, (rd_T72 l2 (rd (rd_L9 l1 x9_1) x0_1)).f2, (⟨(rd_T72 l2 (rd (rd_L9 l1 x9_1) x0_1)).f3.f0, (rd_T72 l2 (rd (rd_L9 l1 x9_1) x0_1)).f3.f1⟩ : S57), (rd_T72 l2 (rd (rd_L9 l1 x9_1) x0_1)).f4⟩ : S72) [.int .i64 ((rd_T72 l2 (rd (rd_L9 l1 x9_1) x0_1)).f0), .int .i64 ((rd_T72 l2 (rd (rd_L9 l1 x9_1) x0_1)).f1), .int .i64 ((rd_T72 l2 (rd (rd_L9 l1 x9_1) x0_1)).f2), .int .i64 ((rd_T72 l2 (rd (rd_L9 l1 x9_1) x0_1)).f3.f0), .int .i64 ((rd_T72 l2 (rd (rd_L9 l1 x9_1) x0_1)).f3.f1), .bool ((rd_T72 l2 (rd (rd_L9 l1 x9_1) x0_1)).f4)] from (k72_mkM _ _ _ (⟨(rd_T72 l2 (rd (rd_L9 l1 x9_1) x0_1)).f0, (rd_T72 l2 (rd (rd_L9 l1 x9_1) x0_1)).f1, (rd_T72 l2 (rd (rd_L9 l1 x9_1) x0_1)).f2, (⟨(rd_T72 l2 (rd (rd_L9 l1 x9_1) x0_1)).f3.f0, (rd_T72 l2 (rd (rd_L9 l1 x9_1) x0_1)).f3.f1⟩ : S57), (rd_T72 l2 (rd (rd_L9 l1 x9_1) x0_1)).f4⟩ : S72) )) (Reps.none _ _)))
          intro v193 w24 ho25 hb hg_ hnew_
          clear hg_ hnew_
          (first | rw [← Ny192.out] at ho25 | (simp only [Int.reduceToNat] at ho25; rw [← Ny192.out] at ho25))
          replace HO_7 := Aside0.mk (Kd.R_below (zR HO_7.out) hb)
          replace HO187 := Aside0.mk (Kd.R_below (zR HO187.out) hb)
          have HO194 := Aside0.mk (Kd.R_lower (Kd.R_new' ho25 (Kd.R_lt (zR HO_8.out))) (below_size zB))
          replace HO_8 := Aside0.mk (Kd.R_elder' (zR HO_8.out) (Kd.R_base ho25) hb)
          replace HB := Aside0.mk (below_step zB hb)
          clear hb ho25
          obtain ⟨Ao27, co27, eo27⟩ := Kd.R_slice HO187.out
          (first | subst eo27 | (injection eo27 with f1_ f2_ f3_; have f4_ := f1_.symm; have f5_ := f3_.symm; clear f1_ f2_ f3_; subst f4_; subst f5_))
          refine hK.out _ _ ⟨(zc HB.out hw191_0 :), (zc HB.out hw191_1 :), (zc HB.out hw191_2 :), (zc HB.out hw191_3 :), (zc HB.out hw191_4 :), (zc HB.out hw191_5 :)⟩ (fun hHeld => ?_)
          clear hK K
          refine norm_ (a' := ?_) ?_ ?_
          rotate_left
          ·show Act.put _ (some 41) _ = _
           simp only [Act.put, List.setIfInBounds_toArray, List.set_cons_zero, List.set_cons_succ, i64_w, i32_w]
           rfl
          refine z1 3 (some 35) (fun K hK => ?_)
          refine Kd.R_append_rows_step (Kd.int .i64) (w0 := w) w.heap.size (by rfl) (.tmp 32) (.tmp 34) 43 3 (.int .i64 0) 8 rfl Tryz.underlying43 info3 rfl (by decide) (by omega) (.slice Ao19 x7_1.length co19) x7_1 y185 _ _ _ (fun k_ => some k_ ≠ (.slice Ao27 y185.length co27 : Value).ownBlock) (fun _ => False) rfl rfl ?aO ?aR (fun _ _ h => h) (fun _ h => h.elim) ?aF ?aB ?aS ?aL ?_
          (case aR => exact zC ((Kd.R_reads' HO187.out).2.2))
          (case aB => exact zB)
          (case aF => exact (fun k_ hk => Kd.fresh' (Kd.R_lt (zR HO187.out)) k_ hk))
          (case aO => exact (zRm HO_7.out (fun _ hk => hk.2)))
          (case aS => exact (below_size zB))
          (case aL => have := LMc15.out; omega)
          intro v189 w26 ho hb hg hat
          rw [← Ny188.out] at ho
          replace HO_8 := Aside0.mk (Kd.R_over' (zR HO_8.out) (Kd.R_typed (zR HO_7.out)) (by decide) hg)
          replace HO187 := Aside0.mk (Kd.R_after (ok := (fun _ => True)) (zR HO187.out) hg hat)
          replace HO194 := Aside0.mk (Kd.R_over' (zR HO194.out) (Kd.R_typed (zR HO_7.out)) (by decide) hg)
          replace HB := Aside0.mk (hb)
          have HO190 := Aside0.mk (ho)
          clear HO_7
          clear ho hb hg hat
          refine hK.out _ _ ⟨(zc HB.out hw191_0 :), (zc HB.out hw191_1 :), (zc HB.out hw191_2 :), (zc HB.out hw191_3 :), (zc HB.out hw191_4 :), (zc HB.out hw191_5 :)⟩ (fun hHeld => ?_)
          clear hK K
          refine norm_ (a' := ?_) ?_ ?_
          rotate_left
          ·show Act.put _ (some 35) _ = _
           simp only [Act.put, List.setIfInBounds_toArray, List.set_cons_zero, List.set_cons_succ, i64_w, i32_w]
           rfl
          exact norm_ (by simp only [putAll, Act.put, List.setIfInBounds_toArray, List.set_cons_zero, List.set_cons_succ]) (hCont (.slice Ao27 y185.length co27, v189, v193) _ ⟨hHeld, (zRm HO187.out (fun _ hk => hk.2)), (zR HO190.out), (zRm HO194.out (fun _ hk => hk.2)), (zRm HO_8.out (fun _ hk => hk.2)), zB⟩)
        ·skip
         refine Kd.R_lit_step k72 _ 72 ?hg (N := 41) ?hd (xs := ([(⟨(rd_T72 l2 (rd (rd_L9 l1 x9_1) x0_1)).f0, (rd_T72 l2 (rd (rd_L9 l1 x9_1) x0_1)).f1, (rd_T72 l2 (rd (rd_L9 l1 x9_1) x0_1)).f2, (⟨(rd_T72 l2 (rd (rd_L9 l1 x9_1) x0_1)).f3.f0, (rd_T72 l2 (rd (rd_L9 l1 x9_1) x0_1)).f3.f1⟩ : S57), (rd_T72 l2 (rd (rd_L9 l1 x9_1) x0_1)).f4⟩ : S72)] : List (S72))) (inner := [.int .i64 ((rd_T72 l2 (rd (rd_L9 l1 x9_1) x0_1)).f0), .int .i64 ((rd_T72 l2 (rd (rd_L9 l1 x9_1) x0_1)).f1), .int .i64 ((rd_T72 l2 (rd (rd_L9 l1 x9_1) x0_1)).f2), .int .i64 ((rd_T72 l2 (rd (rd_L9 l1 x9_1) x0_1)).f3.f0), .int .i64 ((rd_T72 l2 (rd (rd_L9 l1 x9_1) x0_1)).f3.f1), .bool ((rd_T72 l2 (rd (rd_L9 l1 x9_1) x0_1)).f4)]) (ok := fun _ => True) (okp := fun _ => True) ?hr ?hp (fun _ hk => hk) trivial (Below.refl _ _) (Nat.le_refl _) (by simp) ?_; (case hd => rfl); (case hg => rfl); (case hr => first | (go_simp; done) | (go_simp; rfl)); (case hp => exact (Reps.c6 (show Kd.M k72 _ _ _ (⟨(rd_T72 l2 (rd (rd_L9 l1 x9_1) x0_1)).f0, (rd_T72 l2 (rd (rd_L9 l1 x9_1) x0_1)).f1, (rd_T72 l2 (rd (rd_L9 l1 x9_1) x0_1)).f2, (⟨(rd_T72 l2 (rd (rd_L9 l1 x9_1) x0_1)).f3.f0, (rd_T72 l2 (rd (rd_L9 l1 x9_1) x0_1)).f3.f1⟩ : S57), (rd_T72 l2 (rd (rd_L9 l1 x9_1) x0_1)).f4⟩ : S72) [.int .i64 ((rd_T72 l2 (rd (rd_L9 l1 x9_1) x0_1)).f0), .int .i64 ((rd_T72 l2 (rd (rd_L9 l1 x9_1) x0_1)).f1), .int .i64 ((rd_T72 l2 (rd (rd_L9 l1 x9_1) x0_1)).f2), .int .i64 ((rd_T72 l2 (rd (rd_L9 l1 x9_1) x0_1)).f3.f0), .int .i64 ((rd_T72 l2 (rd (rd_L9 l1 x9_1) x0_1)).f3.f1), .bool ((rd_T72 l2 (rd (rd_L9 l1 x9_1) x0_1)).f4)] from (k72_mkM _ _ _ (⟨(rd_T72 l2 (rd (rd_L9 l1 x9_1) x0_1)).f0, (rd_T72 l2 (rd (rd_L9 l1 x9_1) x0_1)).f1, (rd_T72 l2 (rd (rd_L9 l1 x9_1) x0_1)).f2, (⟨(rd_T72 l2 (rd (rd_L9 l1 x9_1) x0_1)).f3.f0, (rd_T72 l2 (rd (rd_L9 l1 x9_1) x0_1)).f3.f1⟩ : S57), (rd_T72 l2 (rd (rd_L9 l1 x9_1) x0_1)).f4⟩ : S72) )) (Reps.none _ _)))
         intro v193 w22 ho23 hb hg_ hnew_
         clear hg_ hnew_
         (first | rw [← Ny192.out] at ho23 | (simp only [Int.reduceToNat] at ho23; rw [← Ny192.out] at ho23))
         replace HO_7 := Aside0.mk (Kd.R_below (zR HO_7.out) hb)
         have HO194 := Aside0.mk (Kd.R_lower (Kd.R_new' ho23 (Kd.R_lt (zR HO_8.out))) (below_size zB))
         replace HO_8 := Aside0.mk (Kd.R_elder' (zR HO_8.out) (Kd.R_base ho23) hb)
         replace HB := Aside0.mk (below_step zB hb)
         clear hb ho23
         refine hK.out _ _ ⟨(zc HB.out hw191_0 :), (zc HB.out hw191_1 :), (zc HB.out hw191_2 :), (zc HB.out hw191_3 :), (zc HB.out hw191_4 :), (zc HB.out hw191_5 :)⟩ (fun hHeld => ?_)
         clear hK K
         refine norm_ (a' := ?_) ?_ ?_
         rotate_left
         ·show Act.put _ (some 41) _ = _
          simp only [Act.put, List.setIfInBounds_toArray, List.set_cons_zero, List.set_cons_succ, i64_w, i32_w]
          rfl
         refine z1 2 (some 34) (fun K hK => ?_)
         refine Kd.R_lit_step (Kd.int .i64) _ 3 ?hg (N := 34) ?hd (xs := ([x0_1] : List Int)) (inner := [.int .i64 x0_1]) (ok := fun _ => True) (okp := fun _ => True) ?hr ?hp (fun _ hk => hk) trivial (Below.refl _ _) (Nat.le_refl _) (by simp) ?_; (case hd => rfl); (case hg => rfl); (case hr => first | (go_simp; done) | (go_simp; rfl)); (case hp => exact (Reps.one (show Kd.M (Kd.int .i64) _ _ _ x0_1 [.int .i64 x0_1] from rfl) (Reps.none _ _)))
         intro v186 w24 ho25 hb hg_ hnew_
         clear hg_ hnew_
         (first | rw [← Ny185.out] at ho25 | (simp only [Int.reduceToNat] at ho25; rw [← Ny185.out] at ho25))
         replace HO_8 := Aside0.mk (Kd.R_below (zR HO_8.out) hb)
         replace HO194 := Aside0.mk (Kd.R_below (zR HO194.out) hb)
         have HO187 := Aside0.mk (Kd.R_lower (Kd.R_new' ho25 (Kd.R_lt (zR HO_7.out))) (below_size zB))
         replace HO_7 := Aside0.mk (Kd.R_elder' (zR HO_7.out) (Kd.R_base ho25) hb)
         replace HB := Aside0.mk (below_step zB hb)
         clear hb ho25
         obtain ⟨Ao27, co27, eo27⟩ := Kd.R_slice HO187.out
         (first | subst eo27 | (injection eo27 with f1_ f2_ f3_; have f4_ := f1_.symm; have f5_ := f3_.symm; clear f1_ f2_ f3_; subst f4_; subst f5_))
         refine hK.out _ _ ⟨(zc HB.out hw191_0 :), (zc HB.out hw191_1 :), (zc HB.out hw191_2 :), (zc HB.out hw191_3 :), (zc HB.out hw191_4 :), (zc HB.out hw191_5 :)⟩ (fun hHeld => ?_)
         clear hK K
         refine norm_ (a' := ?_) ?_ ?_
         rotate_left
         ·show Act.put _ (some 34) _ = _
          simp only [Act.put, List.setIfInBounds_toArray, List.set_cons_zero, List.set_cons_succ, i64_w, i32_w]
          rfl
         refine z1 3 (some 35) (fun K hK => ?_)
         refine Kd.R_append_rows_step (Kd.int .i64) (w0 := w) w.heap.size (by rfl) (.tmp 32) (.tmp 34) 43 3 (.int .i64 0) 8 rfl Tryz.underlying43 info3 rfl (by decide) (by omega) (.slice Ao19 x7_1.length co19) x7_1 y185 _ _ _ (fun k_ => some k_ ≠ (.slice Ao27 y185.length co27 : Value).ownBlock) (fun _ => False) rfl rfl ?aO ?aR (fun _ _ h => h) (fun _ h => h.elim) ?aF ?aB ?aS ?aL ?_
         (case aR => exact zC ((Kd.R_reads' HO187.out).2.2))
         (case aB => exact zB)
         (case aF => exact (fun k_ hk => Kd.fresh' (Kd.R_lt (zR HO187.out)) k_ hk))
         (case aO => exact (zRm HO_7.out (fun _ hk => hk.2)))
         (case aS => exact (below_size zB))
         (case aL => have := LMc15.out; omega)
         intro v189 w26 ho hb hg hat
         rw [← Ny188.out] at ho
         replace HO_8 := Aside0.mk (Kd.R_over' (zR HO_8.out) (Kd.R_typed (zR HO_7.out)) (by decide) hg)
         replace HO194 := Aside0.mk (Kd.R_over' (zR HO194.out) (Kd.R_typed (zR HO_7.out)) (by decide) hg)
         replace HO187 := Aside0.mk (Kd.R_after (ok := (fun _ => True)) (zR HO187.out) hg hat)
         replace HB := Aside0.mk (hb)
         have HO190 := Aside0.mk (ho)
         clear HO_7
         clear ho hb hg hat
         refine hK.out _ _ ⟨(zc HB.out hw191_0 :), (zc HB.out hw191_1 :), (zc HB.out hw191_2 :), (zc HB.out hw191_3 :), (zc HB.out hw191_4 :), (zc HB.out hw191_5 :)⟩ (fun hHeld => ?_)
         clear hK K
         refine norm_ (a' := ?_) ?_ ?_
         rotate_left
         ·show Act.put _ (some 35) _ = _
          simp only [Act.put, List.setIfInBounds_toArray, List.set_cons_zero, List.set_cons_succ, i64_w, i32_w]
          rfl
         exact norm_ (by simp only [putAll, Act.put, List.setIfInBounds_toArray, List.set_cons_zero, List.set_cons_succ]) (hCont (.slice Ao27 y185.length co27, v189, v193) _ ⟨hHeld, (zRm HO187.out (fun _ hk => hk.2)), (zR HO190.out), (zRm HO194.out (fun _ hk => hk.2)), (zRm HO_8.out (fun _ hk => hk.2)), zB⟩)
       rintro ⟨v186, v189, v193⟩ w28 ⟨hS_, h0_, h1_, h2_, h3_, h4_⟩
       have n0_ : Aside0 (Kd.R (Kd.int .i64) 3 w28 w.heap.size (fun k_ => some k_ ≠ (v189 : Value).ownBlock) v186 y185) := ⟨h0_⟩
       have n1_ : Aside0 (Kd.R (Kd.int .i64) 3 w28 w.heap.size (fun k_ => some k_ ≠ (v186 : Value).ownBlock) v189 y188) := ⟨h1_⟩
       have n2_ : Aside0 (Kd.R k72 72 w28 w.heap.size (fun k_ => some k_ ≠ (.slice Ao20 x8_1.length co20 : Value).ownBlock) v193 y192) := ⟨h2_⟩
       have n3_ : Aside0 (Kd.R k72 72 w28 w.heap.size (fun k_ => some k_ ≠ (v193 : Value).ownBlock) (.slice Ao20 x8_1.length co20) x8_1) := ⟨h3_⟩
       have n4_ : Aside0 (Below w.heap.size w w28) := ⟨h4_⟩
       clear HO_7
       clear HO_8
       clear HB
       clear h0_ h1_ h2_ h3_ h4_
       have HO187 := n0_
       have HO190 := n1_
       have HO194 := n2_
       have HO_8 := n3_
       have HB := n4_
       clear n0_ n1_ n2_ n3_ n4_
       have hHeld : w28.cell? (ad191.add (((rd (rd_L9 l1 x9_1) x0_1)).toNat * 6)) = some (.int .i64 ((rd_T72 l2 (rd (rd_L9 l1 x9_1) x0_1)).f0)) ∧ w28.cell? ⟨(ad191.add (((rd (rd_L9 l1 x9_1) x0_1)).toNat * 6)).block, (ad191.add (((rd (rd_L9 l1 x9_1) x0_1)).toNat * 6)).off + 1, none⟩ = some (.int .i64 ((rd_T72 l2 (rd (rd_L9 l1 x9_1) x0_1)).f1)) ∧ w28.cell? ⟨(ad191.add (((rd (rd_L9 l1 x9_1) x0_1)).toNat * 6)).block, (ad191.add (((rd (rd_L9 l1 x9_1) x0_1)).toNat * 6)).off + 2, none⟩ = some (.int .i64 ((rd_T72 l2 (rd (rd_L9 l1 x9_1) x0_1)).f2)) ∧ w28.cell? ⟨(ad191.add (((rd (rd_L9 l1 x9_1) x0_1)).toNat * 6)).block, (ad191.add (((rd (rd_L9 l1 x9_1) x0_1)).toNat * 6)).off + 3, none⟩ = some (.int .i64 ((rd_T72 l2 (rd (rd_L9 l1 x9_1) x0_1)).f3.f0)) ∧ w28.cell? ⟨(ad191.add (((rd (rd_L9 l1 x9_1) x0_1)).toNat * 6)).block, (ad191.add (((rd (rd_L9 l1 x9_1) x0_1)).toNat * 6)).off + 4, none⟩ = some (.int .i64 ((rd_T72 l2 (rd (rd_L9 l1 x9_1) x0_1)).f3.f1)) ∧ w28.cell? ⟨(ad191.add (((rd (rd_L9 l1 x9_1) x0_1)).toNat * 6)).block, (ad191.add (((rd (rd_L9 l1 x9_1) x0_1)).toNat * 6)).off + 5, none⟩ = some (.bool ((rd_T72 l2 (rd (rd_L9 l1 x9_1) x0_1)).f4)) := hS_
       obtain ⟨Ao30, co30, eo30⟩ := Kd.R_slice HO194.out
       (first | subst eo30 | (injection eo30 with f1_ f2_ f3_; have f4_ := f1_.symm; have f5_ := f3_.symm; clear f1_ f2_ f3_; subst f4_; subst f5_))
       refine norm_ (a' := ?_) ?_ ?_
       rotate_left
       ·simp only [putAll, Act.put, List.setIfInBounds_toArray, List.set_cons_zero, List.set_cons_succ]
        rfl
       refine z1 10 (some 42) (fun K hK => ?_)
       refine Kd.R_append_rows_step k72 (w0 := w) w.heap.size (by rfl) (.tmp 36) (.tmp 41) 29 72 (.agg #[(.int .i64 0), (.int .i64 0), (.int .i64 0), (.int .i64 0), (.int .i64 0), (.bool false)]) 48 rfl Tryz.underlying29 info72 rfl (by decide) (by omega) (.slice Ao20 x8_1.length co20) x8_1 y192 _ _ _ (fun k_ => some k_ ≠ (.slice Ao30 y192.length co30 : Value).ownBlock) (fun _ => False) rfl rfl ?aO ?aR (fun _ _ h => h) (fun _ h => h.elim) ?aF ?aB ?aS ?aL ?_
       (case aR => exact zC ((Kd.R_reads' HO194.out).2.2))
       (case aB => exact zB)
       (case aF => exact (fun k_ hk => Kd.fresh' (Kd.R_lt (zR HO194.out)) k_ hk))
       (case aO => exact (zR HO_8.out))
       (case aS => exact (below_size zB))
       (case aL => have := LMc18.out; omega)
       intro v196 w29 ho hb hg hat
       rw [← Ny195.out] at ho
       replace HO187 := Aside0.mk (Kd.R_over' (zR HO187.out) (Kd.R_typed (zR HO_8.out)) (by decide) hg)
       replace HO190 := Aside0.mk (Kd.R_over' (zR HO190.out) (Kd.R_typed (zR HO_8.out)) (by decide) hg)
       replace HO194 := Aside0.mk (Kd.R_after (ok := (fun _ => True)) (by (with_reducible repeat (first | apply Kd.R_alloc | apply Kd.R_drewN | apply Kd.R_drew)); exact Kd.R_mono HO194.out (fun _ hk => ⟨trivial, by first | exact hk | exact fun h_ => hk (h_.trans (own_len _ _ _ _ _))⟩)) hg hat)
       replace HB := Aside0.mk (hb)
       have HO197 := Aside0.mk (ho)
       clear HO_8
       clear ho hb hg hat
       refine hK.out _ _ ⟨(zc HB.out hw191_0 :), (zc HB.out hw191_1 :), (zc HB.out hw191_2 :), (zc HB.out hw191_3 :), (zc HB.out hw191_4 :), (zc HB.out hw191_5 :)⟩ (fun hHeld => ?_)
       clear hK K
       refine norm_ (a' := ?_) ?_ ?_
       rotate_left
       ·show Act.put _ (some 42) _ = _
        simp only [Act.put, List.setIfInBounds_toArray, List.set_cons_zero, List.set_cons_succ, i64_w, i32_w]
        rfl
       refine zp 11 (some 7) ?_
       refine zp 12 (some 8) ?_
       refine done_ (done_of HT_.out (by kernel_rfl)) ?_
       have p198 : 0 ≤ ((rd (rd_L9 l1 x9_1) x0_1) : Int) := of_decide_eq_true zA
       have q198 : (rd (rd_L9 l1 x9_1) x0_1) < (l2.length : Int) := of_decide_eq_true zA
       obtain ⟨ad198, e198, hx198_0, hx198_1, hx198_2, hx198_3, hx198_4, hx198_5⟩ := at_T72 HR2.out (rd (rd_L9 l1 x9_1) x0_1) p198 q198
       obtain rfl : ad191 = ad198 := (by injection e198)
       replace hx198_0 := zc HB.out hx198_0
       replace hx198_1 := zc HB.out hx198_1
       replace hx198_2 := zc HB.out hx198_2
       replace hx198_3 := zc HB.out hx198_3
       replace hx198_4 := zc HB.out hx198_4
       replace hx198_5 := zc HB.out hx198_5
       replace p198 := eq_true p198
       replace q198 := eq_true q198
       try go_wp2
       go_roundg k1
       case measure => have := HK1.out; omega
       case rel => exact ⟨((rd_T72 l2 (rd (rd_L9 l1 x9_1) x0_1)).f0), (y188), (y195), (wrap64 (x9_1 - 1)), zE, zE, H', ⟨by have := HK1.out; omega⟩, ⟨zRm HO190.out (fun _ hk => trivial)⟩, ⟨zRm HO197.out (fun _ hk => trivial)⟩, ⟨zB⟩⟩
    ·rw [if_neg c5] at H
     have c5b0 : decide (0 ≤ x9_1) = false := decide_eq_false c5
     clear c5
     (first | rw [c5b0] | (simp only [i64_w, i32_w]; rw [c5b0]) | skip)
     have H' := Aside0.mk H
     clear H
     go_wp2
     go_meet
     case rel => exact ⟨_, (x0_1), (x7_1), (x8_1), zE, H', ⟨by have := HK1.out; first | omega | exact Nat.le_refl _⟩, ⟨zR HO_7.out⟩, ⟨zR HO_8.out⟩, ⟨zB⟩⟩
 case rest =>
  clear HC4
  (try clear c1); (try clear p1); (try clear q1); (try clear hx1); (try clear c2); (try clear p2); (try clear c5); (try clear c5b0); (try clear c6); (try clear p6); (try clear c7); (try clear c9); (try clear c9b0); (try clear c10); (try clear c10b0); (try clear c11); (try clear c11b0); (try clear c12); (try clear c12b0); (try clear c13); (try clear c13b0); (try clear c14); (try clear c15); (try clear c16); (try clear c16b0); (try clear c17); (try clear c17b0); (try clear c18); (try clear p18); (try clear q18); (try clear hx18); (try clear p19); (try clear q19); (try clear hx19); (try clear hx183_0); (try clear hx184_0); (try clear hx191_0); (try clear hx191_1); (try clear hx191_2); (try clear hx191_3); (try clear hx191_4); (try clear hx191_5); (try clear hx198_0); (try clear hx198_1); (try clear hx198_2); (try clear hx198_3); (try clear hx198_4); (try clear hx198_5); (try clear p183); (try clear p184); (try clear p191); (try clear p198); (try clear p2); (try clear q183); (try clear q184); (try clear q191); (try clear q198)
  obtain ⟨kq, x0_3, x7_3, x8_3, rfl, HA, HJ3, HO_7, HO_8, HB⟩ := hcut
  cases kq with
  | zero => exact absurd HA.out (by simp [loop_back.j1])
  | succ kj3 =>
   have H := HA.out
   clear HA
   simp only [loop_back.j1] at H
   replace H := Option.bind_eq_some_iff.mp H
   obtain ⟨t199, A310, H⟩ := H
   have A31 := Aside0.mk A310
   clear A310
   obtain ⟨ji32, hji32⟩ : ∃ j_ : Int, (mx t199 0) = j_ := ⟨_, rfl⟩
   replace H : (if 0 ≤ (ji32) then (if (ji32) ≤ (x8_3.length : Int) then ((api_Edge_142.f (x8_3.drop ((ji32) : Int).toNat)).bind fun t204 => ((api_Edge_143.f kj3 t204).bind fun t207 => (some t207))) else (none)) else (none)) = some r := by first | (rw [hji32] at H; exact H) | (simp only [hji32] at H ⊢; exact H)
   (try rw [hji32] at A31)
   (try (have hji32l : 0 ≤ ji32 := by (rw [← hji32]; unfold mx; (repeat' split) <;> omega)))
   (try (have hji32m : 0 ≤ ji32 := by omega))
   have hji32_ : (if t199 < 0 then 0 else t199) = ji32 := hji32
   obtain ⟨c33, H⟩ := zj H
   have c33b0 := eq_true c33
   have c33b1 : decide (0 ≤ (ji32)) = true := decide_eq_true c33
   clear c33
   obtain ⟨c34, H⟩ := zj H
   have c34b0 := eq_true c34
   have c34b1 : decide ((ji32) ≤ (x8_3.length : Int)) = true := decide_eq_true c34
   clear c34
   obtain ⟨y200, hy200⟩ : ∃ y_ : List (S72), y_ = (x8_3.drop ((ji32) : Int).toNat) := ⟨_, rfl⟩
   first | (replace H := zo H hy200) | rw [← hy200] at H
   have Ny200 := Aside0.mk hy200
   clear hy200
   replace H := Option.bind_eq_some_iff.mp H
   obtain ⟨t204, A350, H⟩ := H
   have A35 := Aside0.mk A350
   clear A350
   replace H := Option.bind_eq_some_iff.mp H
   obtain ⟨t207, A360, H⟩ := H
   have A36 := Aside0.mk A360
   clear A360
   obtain rfl := Option.some.inj H
   obtain ⟨Ao37, co37, eo37⟩ := Kd.R_slice HO_7.out
   subst eo37
   go_wp2_with (first | ((with_reducible refine gate_callee (f := 141) rfl ?_); refine goesL_ (some 50) rfl rfl Tryz.func141 (by kernel_rfl) rfl #[.slice Ao37 x7_3.length co37, .int .i64 x0_3] rfl zL ?_; (with_reducible refine (slices_Index_int_int.calls kj3 _ _ x7_3 x0_3 t199 _ ?side1 ?side2 A31.out).mono ?_); (case side1 => exact zC ((Kd.R_reads' HO_7.out).2.2)); (case side2 => exact (Kd.R_reads' HO_7.out).2.1); rintro e w' ⟨rfl, ⟨nd, rfl⟩⟩; refine ⟨_, rfl, ?_⟩; obtain ⟨Ao39, co39, eo39⟩ := Kd.R_slice HO_8.out; subst eo39; have q38 : ((ji32) : Int) ≤ ((x8_3.length : Int) : Int) := of_decide_eq_true zA; obtain ⟨i038, hi038, _, hsz38, _⟩ := info_parts info72; have hroom38 : x8_3.length ≤ co39 := (Kd.R_reads' HO_8.out).2.1; have hC38 : Kd.C k72 _ Ao39 x8_3.length x8_3 := (Kd.R_reads' HO_8.out).2.2; have q038 : (0 : Int) ≤ ((ji32) : Int) := of_decide_eq_true zA; have hcut38 := cut_from (P := Tryz.prog) 29 72 .i64 Tryz.underlying29 hi038 6 hsz38 Ao39 x8_3.length co39 (ji32) q038 q38; have hr38 := Kd.C_drop (m := ((ji32) : Int).toNat) (c := co39) hC38 (by omega) hroom38; obtain ⟨A38, hA38⟩ : ∃ A1, A1 = (if co39 = ((ji32) : Int).toNat then Ao39 else (Ao39 : Option Addr).map (·.add (((ji32) : Int).toNat * 6))) := ⟨_, rfl⟩; obtain ⟨c38, hc38⟩ : ∃ c1, c1 = co39 - ((ji32) : Int).toNat := ⟨_, rfl⟩; have hy38 : y200.length = x8_3.length - ((ji32) : Int).toNat := (by rw [Ny200.out, List.length_drop] <;> omega); rw [show (x8_3).drop ((ji32) : Int).toNat = y200 from Ny200.out.symm] at hr38; replace hr38 : Kd.C k72 _ A38 y200.length y200 := (by rw [hA38]; exact hr38); rw [← hy38, ← hA38, ← hc38] at hcut38; have HR203 := Aside0.mk hr38; have HC203 := Aside0.mk (show y200.length ≤ c38 from by rw [hy38, hc38]; exact Nat.sub_le_sub_right hroom38 _); clear hr38 hC38 hroom38 hi038 hsz38 hc38; have KY38 := Aside0.mk hy38; have KA38 := Aside0.mk hA38; clear hy38 hA38; have KL38 := Aside0.mk (show ((ji32) : Int).toNat ≤ x8_3.length from by omega); replace q38 := eq_true q38) | ((with_reducible refine gate_callee (f := 142) rfl ?_); refine goesL_ (some 55) rfl rfl Tryz.func142 (by kernel_rfl) rfl #[.slice A38 y200.length c38] rfl zL ?_; (with_reducible refine (api_Edge_142.calls _ _ y200 t204 _ ?side1 ?side2 A35.out).mono ?_); (case side1 => exact zC HR203.out); (case side2 => exact HC203.out); rintro e w40 ⟨v205, rfl, ho0, hb⟩; refine ⟨_, rfl, ?_⟩; replace HO_7 := Aside0.mk (Kd.R_below (zR HO_7.out) hb); have HO206 := Aside0.mk (Kd.R_lower (Kd.R_new' ho0 (Kd.R_lt (zR HO_8.out))) (below_size zB)); replace HO_8 := Aside0.mk (Kd.R_elder' (zR HO_8.out) (Kd.R_base ho0) hb); replace HR203 := Aside0.mk (Kd.C_below (zC HR203.out) hb); replace HB := Aside0.mk (below_step zB hb); (try clear hb); (try clear hb2); (try clear hk); (try clear hi); (try clear ho0); obtain ⟨Ao41, co41, eo41⟩ := Kd.R_slice HO206.out; subst eo41) | ((with_reducible refine gate_callee (f := 143) rfl ?_); refine goesL_ (some 57) rfl rfl Tryz.func143 (by kernel_rfl) rfl #[.slice Ao41 t204.length co41] rfl zL ?_; (with_reducible refine (api_Edge_143.calls kj3 (fun k_ => some k_ = (.slice Ao41 t204.length co41 : Value).ownBlock) (.slice Ao41 t204.length co41) t204 t207 w _ ?side1 ?side2 A36.out).mono ?_); (case side1 => repeat (first | (with_reducible first | exact HB.out | apply below_alloc | apply pw_below_drewN | apply below_drew1) | exact HB.out)); (case side2 => exact Kd.R_tight rfl HO206.out); rintro e w42 ⟨rfl, hy0, hb, hkp⟩; refine ⟨_, rfl, ?_⟩; replace HO_7 := Aside0.mk (Kd.R_mono (ok' := fun k_ => True) (Kd.R_keptB ((Kd.R_apart' HO_7.out (Kd.R_typed HO206.out) (by decide))) hkp (fun k_ hk_ hs_ => (hk_.2) hs_)) (fun k_ hk_ => trivial)); replace HO_8 := Aside0.mk (Kd.R_mono (ok' := fun k_ => some k_ ≠ (.slice Ao41 t204.length co41 : Value).ownBlock) (Kd.R_keptB (HO_8.out) hkp (fun k_ hk_ hs_ => (hk_.2) hs_)) (fun k_ hk_ => hk_.1.2)); replace HO206 := Aside0.mk (Kd.R_reok rfl hy0 (fun k_ e_ => HO206.out.1 k_ e_)); replace HB := Aside0.mk (hb); (try clear hb); (try clear hkp); (try clear hy0)))
   go_ret
   exact ⟨_, by first | rfl | (simp [errW_none, errW_some] <;> rfl) | (simp only [← hji32]; first | rfl | (simp [errW_none, errW_some] <;> rfl)) | (simp [*, errW_none, errW_some] <;> rfl), zRm HO206.out (fun _ hk => trivial), zB⟩
end Go.Proofs.YtgknjgionicncaaGreat.V
namespace Go.Proofs.YtgknjgionicncaaGreat.X
open Go.RowKit Go.Proofs.YtgknjgionicncaaGreat.Q Go.Proofs.YtgknjgionicncaaGreatW.PrintWords Go.Proofs.YtgknjgionicncaaGreatW.PrintLast Go.Proofs.YtgknjgionicncaaGreatW.PrintMore
attribute [local go_sem] max2_int min2_int max_two min_two max_three min_three max_four min_four
set_option linter.unusedVariables false
set_option linter.unusedSimpArgs false
def relax_May.f (a0 : Int) (l1 : List S72) : Option Bool := if l1.length ≤ 1000000000 then some (L.rmayB a0 l1) else none
theorem relax_May.calls (a0 : Int) (A1 : Option Addr) (c1 : Nat) (l1 : List (S72)) (r : Bool) (w : World) (hr1 : Kd.C k72 w A1 l1.length l1) (hc1 : l1.length ≤ c1) (h : relax_May.f a0 l1 = some r) :
  Calls Tryz.prog 47 #[.int .i64 a0, .slice A1 l1.length c1] w fun e w' => e = .returned (.bool r) ∧ Below w.heap.size w w' := by
 unfold relax_May.f at h
 split at h
 ·rename_i hl
  obtain rfl := Option.some.inj h
  exact L.rmayE_calls a0 l1 hl A1 c1 w hr1
 ·cases h
def relax_row_int64.f (a0 : Int) (a1 : Int) : Option (List Int) := if 0 ≤ a0 ∧ a0 ≤ 1000000 then some (List.replicate a0.toNat a1) else none
theorem relax_row_int64.calls (a0 : Int) (a1 : Int) (r : List Int) (w : World) (h : relax_row_int64.f a0 a1 = some r) :
  Calls Tryz.prog 115 #[.int .i64 a0, .int .i64 a1] w fun e w' => ∃ v0_ : Value, e = .returned (v0_) ∧ Kd.R (Kd.int .i64) 2 w' w.heap.size (fun _ => True) v0_ r ∧ Below w.heap.size w w' := by
 unfold relax_row_int64.f at h
 split at h
 ·rename_i hl
  obtain rfl := Option.some.inj h
  exact L.row64_calls a0 a1 hl.1 hl.2 w
 ·cases h
def relax_row_int.f (a0 : Int) (a1 : Int) : Option (List Int) := if 0 ≤ a0 ∧ a0 ≤ 1000000 then some (List.replicate a0.toNat a1) else none
theorem relax_row_int.calls (a0 : Int) (a1 : Int) (r : List Int) (w : World) (h : relax_row_int.f a0 a1 = some r) :
  Calls Tryz.prog 116 #[.int .i64 a0, .int .i64 a1] w fun e w' => ∃ v0_ : Value, e = .returned (v0_) ∧ Kd.R (Kd.int .i64) 3 w' w.heap.size (fun _ => True) v0_ r ∧ Below w.heap.size w w' := by
 unfold relax_row_int.f at h
 split at h
 ·rename_i hl
  obtain rfl := Option.some.inj h
  exact L.rowI_calls a0 a1 hl.1 hl.2 w
 ·cases h
def relax_next.f (l0 : List Int) (l1 : List S72) : Option (List Int × List Int) := if l0.length ≤ 1000000 ∧ l1.length ≤ 1000000000 ∧ L.inE l0.length l1 then some (L.nextL l0 l1 l1.length) else none
theorem relax_next.calls (A0 : Option Addr) (c0 : Nat) (l0 : List Int) (A1 : Option Addr) (c1 : Nat) (l1 : List (S72)) (r1 : List Int) (r2 : List Int) (w : World) (hr0 : Kd.C (Kd.int .i64) w A0 l0.length l0) (hc0 : l0.length ≤ c0) (hr1 : Kd.C k72 w A1 l1.length l1) (hc1 : l1.length ≤ c1) (h : relax_next.f l0 l1 = some (r1, r2)) :
  Calls Tryz.prog 117 #[.slice A0 l0.length c0, .slice A1 l1.length c1] w fun e w' => ∃ v0_ v1_ : Value, e = .returned (.tuple #[v0_, v1_]) ∧ Kd.R (Kd.int .i64) 2 w' w.heap.size (fun _ => True) v0_ r1 ∧ Kd.R (Kd.int .i64) 3 w' w.heap.size (fun _ => True) v1_ r2 ∧ Below w.heap.size w w' := by
 unfold relax_next.f at h
 split at h
 ·rename_i hl
  have e := Option.some.inj h
  refine (L.next_calls l0 l1 hl.1 hl.2.1 hl.2.2 A0 A1 c0 c1 w hr0 hc0 hr1).mono ?_
  rintro e1 w' ⟨v1, v2, he, h1, h2, hb⟩
  rw [e] at h1 h2
  exact ⟨v1, v2, he, Kd.R_mono h1 (fun _ _ => trivial), Kd.R_mono h2 (fun _ _ => trivial), hb⟩
 ·cases h
def relax_Layers.l0 : Nat → List (S72) → List (List Int) → List (List Int) → Int → Int → Option ((List (List Int)) × (List (List Int)))
 | 0, _, _, _, _, _ => none
 | k + 1, x1, x4, x5, x19, x20 => if x20 < x19 then (if 0 ≤ x20 then (if x20 < (x4.length : Int) then ((relax_next.f (rd_L8 x4 x20) x1).bind fun bt115 => (if x4.length < 5864062014805 then (if x5.length < 5864062014805 then (relax_Layers.l0 k x1 (x4 ++ [bt115.1]) (x5 ++ [bt115.2]) x19 (wrap64 (x20 + 1))) else (none)) else (none))) else (none)) else (none)) else (some (x4, x5))
def relax_Layers.f (k : Nat) (a0 : Int) (l1 : List (S72)) : Option ((List (List Int)) × (List (List Int))) := (relax_May.f a0 l1).bind fun t101 => (if t101 = true then ((relax_row_int64.f a0 0).bind fun t102 => ((relax_row_int.f a0 (-1)).bind fun t108 => (relax_Layers.l0 k l1 (([t102] : List (List Int))) (([t108] : List (List Int))) a0 0))) else (some (([] : List (List Int)), ([] : List (List Int)))))
theorem relax_Layers.mono_l : ∀ k, (∀ y0 y1 y2 y3 y4, LeO (relax_Layers.l0 k y0 y1 y2 y3 y4) (relax_Layers.l0 (k + 1) y0 y1 y2 y3 y4))
 | 0 => fun _ _ _ _ _ r h => by simp [relax_Layers.l0] at h
 | k + 1 => by
  have ih0 := relax_Layers.mono_l k
  ·intro y0 y1 y2 y3 y4
   unfold relax_Layers.l0
   exact zM
theorem relax_Layers.mono : ∀ a0 a1 k, LeO (relax_Layers.f k a0 a1) (relax_Layers.f (k + 1) a0 a1) := by
 intro a0 a1 k
 have ih0 := relax_Layers.mono_l k
 unfold relax_Layers.f
 exact zM
set_option maxHeartbeats 8000000 in
set_option maxRecDepth 100000 in
theorem relax_Layers.calls (k : Nat) (a0 : Int) (A1 : Option Addr) (c1 : Nat) (l1 : List (S72)) (r1 : List (List Int)) (r2 : List (List Int)) (w : World) (hr1 : Kd.C k72 w A1 l1.length l1) (hc1 : l1.length ≤ c1) (h : relax_Layers.f k a0 l1 = some (r1, r2)) :
  Calls Tryz.prog 68 #[.int .i64 a0, .slice A1 l1.length c1] w fun e w' => ∃ v0_ v1_ : Value, e = .returned (.tuple #[v0_, v1_]) ∧ Kd.N (Kd.slice 2 (Kd.int .i64)) 27 w' w.heap.size (fun k_ => (w.heap.size ≤ k_) ∧ some k_ ≠ (v1_ : Value).ownBlock) v0_ r1 ∧ Kd.N (Kd.slice 3 (Kd.int .i64)) 43 w' w.heap.size (fun k_ => (w.heap.size ≤ k_) ∧ some k_ ≠ (v0_ : Value).ownBlock) v1_ r2 ∧ Below w.heap.size w w' := by
 have HR1 := Aside0.mk hr1
 have HC1 := Aside0.mk hc1
 clear hr1 hc1
 have HB := Aside0.mk (Below.refl w.heap.size w)
 have H : ((relax_May.f a0 l1).bind fun t101 => (if t101 = true then ((relax_row_int64.f a0 0).bind fun t102 => ((relax_row_int.f a0 (-1)).bind fun t108 => (relax_Layers.l0 k l1 (([t102] : List (List Int))) (([t108] : List (List Int))) a0 0))) else (some (([] : List (List Int)), ([] : List (List Int)))))) = some (r1, r2) := h
 clear h
 replace H := Option.bind_eq_some_iff.mp H
 obtain ⟨t101, A30, H⟩ := H
 have A3 := Aside0.mk A30
 clear A30
 by_cases c4 : t101 = true
 ·subst c4
  rw [if_pos rfl] at H
  replace H := Option.bind_eq_some_iff.mp H
  obtain ⟨t102, A50, H⟩ := H
  have A5 := Aside0.mk A50
  clear A50
  obtain ⟨y105, hy105⟩ : ∃ y_ : List (List Int), y_ = (([t102] : List (List Int))) := ⟨_, rfl⟩
  first | (replace H := zo H hy105) | rw [← hy105] at H
  have Ny105 := Aside0.mk hy105
  clear hy105
  replace H := Option.bind_eq_some_iff.mp H
  obtain ⟨t108, A60, H⟩ := H
  have A6 := Aside0.mk A60
  clear A60
  obtain ⟨y111, hy111⟩ : ∃ y_ : List (List Int), y_ = (([t108] : List (List Int))) := ⟨_, rfl⟩
  first | (replace H := zo H hy111) | rw [← hy111] at H
  have Ny111 := Aside0.mk hy111
  clear hy111
  have H' := Aside0.mk H
  clear H
  go_enter Tryz.func68, Tryz.ntmps68
  go_wp2_with (first | ((with_reducible refine gate_callee (f := 47) rfl ?_); refine goesL_ (some 11) rfl rfl Tryz.func47 (by kernel_rfl) rfl #[.int .i64 a0, .slice A1 l1.length c1] rfl zL ?_; (with_reducible refine (relax_May.calls a0 _ _ l1 true _ ?side1 ?side2 A3.out).mono ?_); (case side1 => exact zC (HR1.out)); (case side2 => exact HC1.out); rintro e w7 ⟨rfl, hb⟩; refine ⟨_, rfl, ?_⟩; replace HB := Aside0.mk (below_step zB hb); (try clear hb); (try clear hb2); (try clear hk); (try clear hi)) | ((with_reducible refine gate_callee (f := 115) rfl ?_); refine goesL_ (some 14) rfl rfl Tryz.func115 (by kernel_rfl) rfl #[.int .i64 a0, .int .i64 0] rfl zL ?_; (with_reducible refine (relax_row_int64.calls a0 0 t102 _ A5.out).mono ?_); rintro e w8 ⟨v103, rfl, ho0, hb⟩; refine ⟨_, rfl, ?_⟩; have HO104 := Aside0.mk (Kd.R_lower (Kd.R_newM (M := fun k_ => (w.heap.size ≤ k_)) ho0 (below_size zB) (fun k_ h_ => h_)) (below_size zB)); replace HB := Aside0.mk (below_step zB hb); (try clear hb); (try clear hb2); (try clear hk); (try clear hi); (try clear ho0); obtain ⟨Ao9, co9, eo9⟩ := Kd.R_slice HO104.out; subst eo9) | ((with_reducible refine gate_dst (N := 15) rfl ?_); refine Kd.N_lit (Kd.slice 2 (Kd.int .i64)) _ 27 ?hg (N' := 15) ?hd (xs := ([t102] : List (List Int))) (inner := [.slice Ao9 t102.length co9]) (ok := (fun k_ => (w.heap.size ≤ k_))) (okp := (fun k_ => (w.heap.size ≤ k_))) ?hr ?hp (fun _ hk => hk) ((show ∀ k_, w8.heap.size ≤ k_ → (fun k_ => (w.heap.size ≤ k_)) k_ from fun k_ hk => (Nat.le_trans (below_size zB) hk)) _ (Nat.le_refl _)) (Below.refl _ _) (Nat.le_refl _) (by simp) ?_; (case hd => rfl); (case hg => rfl); (case hr => first | (go_simp; done) | (go_simp; rfl)); (case hp => exact (Reps.one (show Kd.FK (Kd.slice 2 (Kd.int .i64)) _ _ t102 [.slice Ao9 t102.length co9] from (Kd.FK_slice_mk (Kd.R_reads' (Kd.R_mono (ok' := (fun k_ => (w.heap.size ≤ k_))) (HO104.out) (fun k_ hk => hk.1))).2.1 (Kd.R_F (Kd.R_mono (ok' := (fun k_ => (w.heap.size ≤ k_))) (HO104.out) (fun k_ hk => hk.1))))) (Reps.none _ _))); intro v106 w10 ho11 hb hg_ hnew_; clear hg_ hnew_; (first | rw [← Ny105.out] at ho11 | (simp only [Int.reduceToNat] at ho11; rw [← Ny105.out] at ho11)); have HO107 := Aside0.mk (Kd.N_lower ho11 (below_size zB)); replace HB := Aside0.mk (below_step zB hb); clear HO104; clear hb ho11) | ((with_reducible refine gate_callee (f := 116) rfl ?_); refine goesL_ (some 17) rfl rfl Tryz.func116 (by kernel_rfl) rfl #[.int .i64 a0, .int .i64 (-1)] rfl zL ?_; (with_reducible refine (relax_row_int.calls a0 (-1) t108 _ A6.out).mono ?_); rintro e w12 ⟨v109, rfl, ho0, hb⟩; refine ⟨_, rfl, ?_⟩; replace HO107 := Aside0.mk (Kd.N_elder' (zRN HO107.out) (Kd.R_base ho0) hb); have HO110 := Aside0.mk (Kd.R_lower (Kd.R_newM (M := fun k_ => (w.heap.size ≤ k_)) ho0 (below_size zB) (fun k_ h_ => h_)) (below_size zB)); replace HB := Aside0.mk (below_step zB hb); (try clear hb); (try clear hb2); (try clear hk); (try clear hi); (try clear ho0); obtain ⟨Ao13, co13, eo13⟩ := Kd.R_slice HO110.out; subst eo13) | ((with_reducible refine gate_dst (N := 18) rfl ?_); refine Kd.N_lit (Kd.slice 3 (Kd.int .i64)) _ 43 ?hg (N' := 18) ?hd (xs := ([t108] : List (List Int))) (inner := [.slice Ao13 t108.length co13]) (ok := (fun k_ => (w.heap.size ≤ k_) ∧ some k_ ≠ (v106 : Value).ownBlock)) (okp := (fun k_ => (w.heap.size ≤ k_) ∧ some k_ ≠ (v106 : Value).ownBlock)) ?hr ?hp (fun _ hk => hk) ((show ∀ k_, w12.heap.size ≤ k_ → (fun k_ => (w.heap.size ≤ k_) ∧ some k_ ≠ (v106 : Value).ownBlock) k_ from fun k_ hk => ⟨(Nat.le_trans (below_size zB) hk), Kd.fresh' (Kd.N_lt (zRN HO107.out)) k_ hk⟩) _ (Nat.le_refl _)) (Below.refl _ _) (Nat.le_refl _) (by simp) ?_; (case hd => rfl); (case hg => rfl); (case hr => first | (go_simp; done) | (go_simp; rfl)); (case hp => exact (Reps.one (show Kd.FK (Kd.slice 3 (Kd.int .i64)) _ _ t108 [.slice Ao13 t108.length co13] from (Kd.FK_slice_mk (Kd.R_reads' (Kd.R_mono (ok' := (fun k_ => (w.heap.size ≤ k_) ∧ some k_ ≠ (v106 : Value).ownBlock)) (Kd.R_apart' (HO110.out) (Kd.N_typed HO107.out) (by decide)) (fun k_ hk => ⟨hk.1.1, hk.2⟩))).2.1 (Kd.R_F (Kd.R_mono (ok' := (fun k_ => (w.heap.size ≤ k_) ∧ some k_ ≠ (v106 : Value).ownBlock)) (Kd.R_apart' (HO110.out) (Kd.N_typed HO107.out) (by decide)) (fun k_ hk => ⟨hk.1.1, hk.2⟩))))) (Reps.none _ _))); intro v112 w14 ho15 hb hg_ hnew_; clear hg_ hnew_; (first | rw [← Ny111.out] at ho15 | (simp only [Int.reduceToNat] at ho15; rw [← Ny111.out] at ho15)); replace HO107 := Aside0.mk (Kd.N_elder' (zRN HO107.out) (Kd.N_base ho15) hb); have HO113 := Aside0.mk (Kd.N_lower ho15 (below_size zB)); replace HB := Aside0.mk (below_step zB hb); clear HO110; clear hb ho15))
  go_loopg [4, 5, 20] k (fun kq v4 v5 v20 w' => ∃ (x4_1 : List (List Int)) (x5_1 : List (List Int)) (x20_1 : Int), v20 = .int .i64 x20_1 ∧ Aside0 (relax_Layers.l0 kq l1 x4_1 x5_1 a0 x20_1 = some (r1, r2)) ∧ Aside0 (kq ≤ k) ∧ Aside0 (Kd.N (Kd.slice 2 (Kd.int .i64)) 27 w' w.heap.size (fun k_ => (w.heap.size ≤ k_) ∧ some k_ ≠ (v5 : Value).ownBlock) v4 x4_1) ∧ Aside0 (Kd.N (Kd.slice 3 (Kd.int .i64)) 43 w' w.heap.size (fun k_ => (w.heap.size ≤ k_) ∧ some k_ ≠ (v4 : Value).ownBlock) v5 x5_1) ∧ Aside0 (Below w.heap.size w w'))
  case atStart => exact ⟨(y105), (y111), (0), zE, H', ⟨Nat.le_refl _⟩, ⟨by (with_reducible repeat (first | apply Kd.N_alloc | apply Kd.N_drewN | apply Kd.N_drew)); exact Kd.N_mono HO107.out (fun _ hk => ⟨hk.1.1, hk.2⟩)⟩, ⟨zRN HO113.out⟩, ⟨zB⟩⟩
  case round =>
   clear H'
   (try clear c1); (try clear p2); (try clear c4); (try clear c6); (try clear c11)
   obtain ⟨x4_1, x5_1, x20_1, rfl, HA, HK1, HO_4, HO_5, HB⟩ := hrel
   cases gk with
   | zero => exact absurd HA.out (by simp [relax_Layers.l0])
   | succ k1 =>
    have H := HA.out
    clear HA
    simp only [relax_Layers.l0] at H
    by_cases c16 : x20_1 < a0
    ·rw [if_pos c16] at H
     have c16b0 := decide_eq_true c16
     clear c16
     obtain ⟨c17b0, H⟩ := zt H
     obtain ⟨c18b0, H⟩ := zt H
     replace H := Option.bind_eq_some_iff.mp H
     obtain ⟨⟨t115, t116⟩, A190, H⟩ := H
     dsimp only at H
     have A19 := Aside0.mk A190
     clear A190
     obtain ⟨c20, H⟩ := zj H
     have LMc20 := Aside0.mk c20
     clear c20
     obtain ⟨y121, hy121⟩ : ∃ y_ : List (List Int), y_ = (x4_1 ++ [t115]) := ⟨_, rfl⟩
     first | (replace H := zo H hy121) | rw [← hy121] at H
     have Ny121 := Aside0.mk hy121
     clear hy121
     obtain ⟨c21, H⟩ := zj H
     have LMc21 := Aside0.mk c21
     clear c21
     obtain ⟨y124, hy124⟩ : ∃ y_ : List (List Int), y_ = (x5_1 ++ [t116]) := ⟨_, rfl⟩
     first | (replace H := zo H hy124) | rw [← hy124] at H
     have Ny124 := Aside0.mk hy124
     clear hy124
     have H' := Aside0.mk H
     clear H
     obtain ⟨Ao22, co22, eo22⟩ := Kd.N_slice HO_4.out
     subst eo22
     have p114 : 0 ≤ (x20_1 : Int) := of_decide_eq_true zA
     have q114 : x20_1 < (x4_1.length : Int) := of_decide_eq_true zA
     obtain ⟨ad114, A114_0, c114_0, e114, hx114_0, hl114_0, hi114_0⟩ := at_L8 (Kd.N_reads' HO_4.out).2.2 x20_1 p114 q114
     cases e114
     obtain ⟨ce114, hce114, hMe114, hcc114⟩ := Kd.N_get HO_4.out [] x20_1 p114 (by first | exact q114 | exact of_decide_eq_true zA | (have e_ := (Kd.N_reads' HO_4.out).1; omega))
     obtain ⟨ua114_0, uc114_0, rfl, ul114_0, ge114_0⟩ := Kd.FK_slice_open hMe114
     have hv114_0 := hcc114 0 _ rfl
     rw [Nat.add_zero, show ((Kd.slice 2 (Kd.int .i64))).sz = 1 from rfl, Nat.mul_one] at hv114_0
     replace hv114_0 := Option.some.inj (hv114_0.symm.trans hx114_0)
     injection hv114_0 with hva_ hvn_ hvc_
     rw [hva_] at ge114_0
     rw [hvc_] at ul114_0
     have HL114_0 := Aside0.mk (show Kd.V (Kd.int .i64) 2 _ w.heap.size _ _ (rd_L8 x4_1 x20_1) from Kd.V_mk ul114_0 ge114_0)
     clear hva_ hvn_ hvc_ ge114_0 ul114_0
     clear hcc114 hce114
     have HR114_0 := Aside0.mk hi114_0
     have HC114_0 := Aside0.mk hl114_0
     clear hi114_0 hl114_0
     replace p114 := eq_true p114
     replace q114 := eq_true q114
     go_wp2_with (first | ((with_reducible refine gate_callee (f := 117) rfl ?_); refine goesL_ (some 29) rfl rfl Tryz.func117 (by kernel_rfl) rfl #[.slice A114_0 (rd_L8 x4_1 x20_1).length c114_0, .slice A1 l1.length c1] rfl zL ?_; (with_reducible refine (relax_next.calls _ _ (rd_L8 x4_1 x20_1) _ _ l1 t115 t116 _ ?side1 ?side2 ?side3 ?side4 A19.out).mono ?_); (case side1 => exact zC HR114_0.out); (case side2 => exact HC114_0.out); (case side3 => exact zC ((Kd.C_below HR1.out HB.out))); (case side4 => exact HC1.out); rintro e w23 ⟨v117, v119, rfl, ho0, ho1, hb⟩; refine ⟨_, rfl, ?_⟩; replace HO_4 := Aside0.mk (Kd.N_mono (Kd.N_told (Kd.N_told (Kd.N_old (zRN HO_4.out) hb) (Kd.R_base ho0)) (Kd.R_base ho1)) (fun _ h_ => h_.1)); replace HO_5 := Aside0.mk (Kd.N_mono (Kd.N_told (Kd.N_told (Kd.N_old (zRN HO_5.out) hb) (Kd.R_base ho0)) (Kd.R_base ho1)) (fun _ h_ => h_.1)); replace HL114_0 := Aside0.mk (Kd.V_mono (Kd.V_told (Kd.V_told (Kd.V_old (zRV HL114_0.out) hb) (Kd.R_base ho0)) (Kd.R_base ho1)) (fun _ h_ => h_.1)); have HO118 := Aside0.mk (Kd.R_lower (Kd.R_newM (M := fun k_ => (w.heap.size ≤ k_)) ho0 (below_size zB) (fun k_ h_ => h_)) (below_size zB)); have HO120 := Aside0.mk (Kd.R_lower (Kd.R_newM (M := fun k_ => (w.heap.size ≤ k_)) ho1 (below_size zB) (fun k_ h_ => h_)) (below_size zB)); replace HR114_0 := Aside0.mk (Kd.C_below (zC HR114_0.out) hb); replace HB := Aside0.mk (below_step zB hb); (try clear hb); (try clear hb2); (try clear hk); (try clear hi); (try clear ho0); (try clear ho1); obtain ⟨Ao25, co25, eo25⟩ := Kd.R_slice HO118.out; subst eo25) | ((with_reducible refine gate_builtin (b := .append) (xs := #[.tmp 32, .tmp 34]) rfl ?_); at_builtin; refine Kd.N_append (Kd.slice 2 (Kd.int .i64)) (w0 := w) w.heap.size rfl (.tmp 32) (.tmp 34) 95 27 (.slice none 0 0) 24 rfl Tryz.underlying95 info27 rfl (by decide) (by omega) (.slice (some ad114) x4_1.length co22) x4_1 t115 [.slice Ao25 t115.length co25] (fun k_ => (w.heap.size ≤ k_) ∧ some k_ ≠ (u5 : Value).ownBlock ∧ some k_ ≠ (v119 : Value).ownBlock) (fun k_ => ((fun k_ => (w.heap.size ≤ k_) ∧ some k_ ≠ (u5 : Value).ownBlock ∧ some k_ ≠ (v119 : Value).ownBlock)) k_ ∧ some k_ ≠ (.slice (some ad114) x4_1.length co22 : Value).ownBlock) rfl rfl ?aP (fun _ hk => hk) ?aF ?aO ?aB ?aS ?aL ?_; (case aP => exact (Kd.FK_slice_mk (Kd.R_reads' (Kd.R_mono (ok' := (fun k_ => ((fun k_ => (w.heap.size ≤ k_) ∧ some k_ ≠ (u5 : Value).ownBlock ∧ some k_ ≠ (v119 : Value).ownBlock)) k_ ∧ some k_ ≠ (.slice (some ad114) x4_1.length co22 : Value).ownBlock)) (Kd.R_apart' (Kd.R_apart' (Kd.R_apart' (HO118.out) (Kd.N_typed HO_5.out) (by decide)) (Kd.R_typed HO120.out) (by decide)) (Kd.N_typed HO_4.out) (by decide)) (fun k_ hk => ⟨⟨hk.1.1.1.1, ⟨hk.1.1.2, hk.1.2⟩⟩, hk.2⟩))).2.1 (Kd.R_F (Kd.R_mono (ok' := (fun k_ => ((fun k_ => (w.heap.size ≤ k_) ∧ some k_ ≠ (u5 : Value).ownBlock ∧ some k_ ≠ (v119 : Value).ownBlock)) k_ ∧ some k_ ≠ (.slice (some ad114) x4_1.length co22 : Value).ownBlock)) (Kd.R_apart' (Kd.R_apart' (Kd.R_apart' (HO118.out) (Kd.N_typed HO_5.out) (by decide)) (Kd.R_typed HO120.out) (by decide)) (Kd.N_typed HO_4.out) (by decide)) (fun k_ hk => ⟨⟨hk.1.1.1.1, ⟨hk.1.1.2, hk.1.2⟩⟩, hk.2⟩))))); (case aB => exact zB); (case aF => exact (fun k_ hk => ⟨(Nat.le_trans (below_size zB) hk), Kd.fresh' (Kd.N_lt (zRN HO_5.out)) k_ hk, Kd.fresh' (Kd.R_lt (zR HO120.out)) k_ hk⟩)); (case aO => exact (by (with_reducible repeat (first | apply Kd.N_alloc | apply Kd.N_drewN | apply Kd.N_drew)); exact Kd.N_mono HO_4.out (fun _ hk => ⟨hk.1.1.1, ⟨hk.1.1.2, hk.2⟩⟩))); (case aS => exact (below_size zB)); (case aL => have := LMc20.out; omega); intro v122 w24 ho hb hg hat; rw [← Ny121.out] at ho; replace HO_5 := Aside0.mk (Kd.N_afterv (ok := (fun k_ => (w.heap.size ≤ k_) ∧ some k_ ≠ (.slice Ao25 t115.length co25 : Value).ownBlock ∧ some k_ ≠ (v119 : Value).ownBlock)) (by (with_reducible repeat (first | apply Kd.N_alloc | apply Kd.N_drewN | apply Kd.N_drew)); exact Kd.N_mono HO_5.out (fun _ hk => ⟨⟨hk.1.1.1, ⟨hk.1.2, hk.2⟩⟩, hk.1.1.2⟩)) hg hat); replace HL114_0 := Aside0.mk (Kd.V_afterv (ok := (fun k_ => (w.heap.size ≤ k_) ∧ some k_ ≠ (u5 : Value).ownBlock ∧ some k_ ≠ (.slice Ao25 t115.length co25 : Value).ownBlock ∧ some k_ ≠ (v119 : Value).ownBlock)) (by (with_reducible repeat (first | apply Kd.V_alloc | apply Kd.V_drewN | apply Kd.V_drew)); exact Kd.V_mono HL114_0.out (fun _ hk => ⟨⟨hk.1.1.1.1, ⟨hk.1.1.1.2, ⟨hk.1.2, hk.2⟩⟩⟩, hk.1.1.2⟩)) hg hat); replace HO120 := Aside0.mk (Kd.R_over' (zR HO120.out) (Kd.N_typed (zRN HO_4.out)) (by decide) hg); replace HB := Aside0.mk (hb); have HO123 := Aside0.mk (ho); clear HO_4 HO118; clear ho hb hg hat; obtain ⟨Ao27, co27, eo27⟩ := Kd.R_slice HO120.out; subst eo27) | ((with_reducible refine gate_builtin (b := .append) (xs := #[.tmp 36, .tmp 38]) rfl ?_); at_builtin; refine Kd.N_append (Kd.slice 3 (Kd.int .i64)) (w0 := w) w.heap.size rfl (.tmp 36) (.tmp 38) 96 43 (.slice none 0 0) 24 rfl Tryz.underlying96 info43 rfl (by decide) (by omega) u5 x5_1 t116 [.slice Ao27 t116.length co27] (fun k_ => (w.heap.size ≤ k_) ∧ some k_ ≠ (v122 : Value).ownBlock) (fun k_ => ((fun k_ => (w.heap.size ≤ k_) ∧ some k_ ≠ (v122 : Value).ownBlock)) k_ ∧ some k_ ≠ (u5 : Value).ownBlock) rfl rfl ?aP (fun _ hk => hk) ?aF ?aO ?aB ?aS ?aL ?_; (case aP => exact (Kd.FK_slice_mk (Kd.R_reads' (Kd.R_mono (ok' := (fun k_ => ((fun k_ => (w.heap.size ≤ k_) ∧ some k_ ≠ (v122 : Value).ownBlock)) k_ ∧ some k_ ≠ (u5 : Value).ownBlock)) (Kd.R_apart' (Kd.R_apart' (HO120.out) (Kd.N_typed HO123.out) (by decide)) (Kd.N_typed HO_5.out) (by decide)) (fun k_ hk => ⟨⟨hk.1.1.1, hk.1.2⟩, hk.2⟩))).2.1 (Kd.R_F (Kd.R_mono (ok' := (fun k_ => ((fun k_ => (w.heap.size ≤ k_) ∧ some k_ ≠ (v122 : Value).ownBlock)) k_ ∧ some k_ ≠ (u5 : Value).ownBlock)) (Kd.R_apart' (Kd.R_apart' (HO120.out) (Kd.N_typed HO123.out) (by decide)) (Kd.N_typed HO_5.out) (by decide)) (fun k_ hk => ⟨⟨hk.1.1.1, hk.1.2⟩, hk.2⟩))))); (case aB => exact zB); (case aF => exact (fun k_ hk => ⟨(Nat.le_trans (below_size zB) hk), Kd.fresh' (Kd.N_lt (zRN HO123.out)) k_ hk⟩)); (case aO => exact (by (with_reducible repeat (first | apply Kd.N_alloc | apply Kd.N_drewN | apply Kd.N_drew)); exact Kd.N_mono HO_5.out (fun _ hk => ⟨hk.1.1, hk.2⟩))); (case aS => exact (below_size zB)); (case aL => have := LMc21.out; omega); intro v125 w26 ho hb hg hat; rw [← Ny124.out] at ho; replace HL114_0 := Aside0.mk (Kd.V_afterv (ok := (fun k_ => (w.heap.size ≤ k_) ∧ some k_ ≠ (.slice Ao27 t116.length co27 : Value).ownBlock ∧ some k_ ≠ (v122 : Value).ownBlock)) (by (with_reducible repeat (first | apply Kd.V_alloc | apply Kd.V_drewN | apply Kd.V_drew)); exact Kd.V_mono HL114_0.out (fun _ hk => ⟨⟨hk.1.1, ⟨hk.1.2.2.2, hk.2⟩⟩, hk.1.2.1⟩)) hg hat); replace HO123 := Aside0.mk (Kd.N_afterv (ok := (fun k_ => (w.heap.size ≤ k_) ∧ some k_ ≠ (.slice Ao27 t116.length co27 : Value).ownBlock)) (by (with_reducible repeat (first | apply Kd.N_alloc | apply Kd.N_drewN | apply Kd.N_drew)); exact Kd.N_mono HO123.out (fun _ hk => ⟨⟨hk.1, hk.2.2⟩, hk.2.1⟩)) hg hat); replace HB := Aside0.mk (hb); have HO126 := Aside0.mk (ho); clear HO_5 HO120; clear ho hb hg hat))
     go_roundg k1
     case measure => have := HK1.out; omega
     case rel => exact ⟨(y121), (y124), (wrap64 (x20_1 + 1)), zE, H', ⟨by have := HK1.out; omega⟩, ⟨by (with_reducible repeat (first | apply Kd.N_alloc | apply Kd.N_drewN | apply Kd.N_drew)); exact Kd.N_mono HO123.out (fun _ hk => ⟨hk.1.1, hk.2⟩)⟩, ⟨zRN HO126.out⟩, ⟨zB⟩⟩
    ·rw [if_neg c16] at H
     have c16b0 := decide_eq_false c16
     clear c16
     simp only [Option.some.injEq, Prod.mk.injEq] at H
     obtain ⟨rfl, rfl⟩ := H
     go_wp2
     go_ret2
     exact ⟨_, _, by first | rfl | (simp [errW_none, errW_some] <;> rfl) | (simp [*, errW_none, errW_some] <;> rfl), zRN HO_4.out, zRN HO_5.out, zB⟩
 ·replace c4 := Bool.eq_false_iff.mpr c4
  subst c4
  rw [if_neg (show ¬ (false = true) by decide)] at H
  simp only [Option.some.injEq, Prod.mk.injEq] at H
  obtain ⟨rfl, rfl⟩ := H
  go_enter Tryz.func68, Tryz.ntmps68
  go_wp2_with (first | ((with_reducible refine gate_callee (f := 47) rfl ?_); refine goesL_ (some 11) rfl rfl Tryz.func47 (by kernel_rfl) rfl #[.int .i64 a0, .slice A1 l1.length c1] rfl zL ?_; (with_reducible refine (relax_May.calls a0 _ _ l1 false _ ?side1 ?side2 A3.out).mono ?_); (case side1 => exact zC (HR1.out)); (case side2 => exact HC1.out); rintro e w28 ⟨rfl, hb⟩; refine ⟨_, rfl, ?_⟩; replace HB := Aside0.mk (below_step zB hb); (try clear hb); (try clear hb2); (try clear hk); (try clear hi)))
  go_ret2
  exact ⟨_, _, by first | rfl | (simp [errW_none, errW_some] <;> rfl) | (simp [*, errW_none, errW_some] <;> rfl), by first | exact Kd.S_nil _ _ _ _ _ | exact Kd.N_nil _ _ _ _ _ | exact Kd.V_nil _ _ _ _ _ | exact Kd.Q_nil _ _ _ _ _ | exact Kd.R_nil _ _ _ _ _, by first | exact Kd.S_nil _ _ _ _ _ | exact Kd.N_nil _ _ _ _ _ | exact Kd.V_nil _ _ _ _ _ | exact Kd.Q_nil _ _ _ _ _ | exact Kd.R_nil _ _ _ _ _, zB⟩
def slices_Equal_int64_int64.l0 : Nat → List Int → List Int → Int → Int → Option (Bool)
 | 0, _, _, _, _ => none
 | k + 1, x0, x1, x12, x13 => if x13 < x12 then (if 0 ≤ x13 then (if x13 < (x0.length : Int) then (if x13 < (x1.length : Int) then (if (rd x0 x13) = (rd x1 x13) then (slices_Equal_int64_int64.l0 k x0 x1 x12 (wrap64 (x13 + 1))) else (some false)) else (none)) else (none)) else (none)) else (some true)
def slices_Equal_int64_int64.f (k : Nat) (l0 : List Int) (l1 : List Int) : Option (Bool) := if (l0.length : Int) = (l1.length : Int) then (slices_Equal_int64_int64.l0 k l0 l1 (l0.length : Int) 0) else (some false)
theorem slices_Equal_int64_int64.mono_l : ∀ k, (∀ y0 y1 y2 y3, LeO (slices_Equal_int64_int64.l0 k y0 y1 y2 y3) (slices_Equal_int64_int64.l0 (k + 1) y0 y1 y2 y3))
 | 0 => fun _ _ _ _ r h => by simp [slices_Equal_int64_int64.l0] at h
 | k + 1 => by
  have ih0 := slices_Equal_int64_int64.mono_l k
  ·intro y0 y1 y2 y3
   unfold slices_Equal_int64_int64.l0
   exact zM
theorem slices_Equal_int64_int64.mono : ∀ a0 a1 k, LeO (slices_Equal_int64_int64.f k a0 a1) (slices_Equal_int64_int64.f (k + 1) a0 a1) := by
 intro a0 a1 k
 have ih0 := slices_Equal_int64_int64.mono_l k
 unfold slices_Equal_int64_int64.f
 exact zM
set_option maxHeartbeats 8000000 in
set_option maxRecDepth 100000 in
theorem slices_Equal_int64_int64.calls (k : Nat) (A0 : Option Addr) (c0 : Nat) (l0 : List Int) (A1 : Option Addr) (c1 : Nat) (l1 : List Int) (r : Bool) (w : World) (hr0 : Kd.C (Kd.int .i64) w A0 l0.length l0) (hc0 : l0.length ≤ c0) (hr1 : Kd.C (Kd.int .i64) w A1 l1.length l1) (hc1 : l1.length ≤ c1) (h : slices_Equal_int64_int64.f k l0 l1 = some r) :
  Calls Tryz.prog 69 #[.slice A0 l0.length c0, .slice A1 l1.length c1] w fun e w' => e = .returned (.bool r) ∧ Drawn0 w w' := by
 have HR0 := Aside0.mk hr0
 have HC0 := Aside0.mk hc0
 clear hr0 hc0
 have HR1 := Aside0.mk hr1
 have HC1 := Aside0.mk hc1
 clear hr1 hc1
 have H : (if (l0.length : Int) = (l1.length : Int) then (slices_Equal_int64_int64.l0 k l0 l1 (l0.length : Int) 0) else (some false)) = some r := h
 clear h
 by_cases c3 : (l0.length : Int) = (l1.length : Int)
 ·rw [if_pos c3] at H
  have c3b0 : ((l0.length : Int) == (l1.length : Int)) = true := beq_iff_eq.mpr c3
  have c3b1 : ((l0.length : Int) != (l1.length : Int)) = false := bne_eq_false_iff_eq.mpr c3
  have c3b2 : (l0.length == l1.length) = true := by first | simpa using c3 | (simp at c3 ⊢; omega)
  clear c3
  have H' := Aside0.mk H
  clear H
  go_enter Tryz.func69, Tryz.ntmps69
  go_wp2
  repeat (go_quiet (fail); try go_wp2)
  go_loopg [13] k (fun kq v13 w' => ∃ (x13_1 : Int), v13 = .int .i64 x13_1 ∧ Aside0 (slices_Equal_int64_int64.l0 kq l0 l1 (l0.length : Int) x13_1 = some r) ∧ Aside0 (kq ≤ k) ∧ Drawn0 w w')
  case atStart => exact ⟨(0), zE, H', ⟨Nat.le_refl _⟩, zD0⟩
  case round =>
   clear H'
   (try clear c1); (try clear p2); (try clear c3); (try clear c3b0); (try clear c3b1); (try clear c3b2)
   obtain ⟨x13_1, rfl, HA, HK1, ⟨m1, rfl⟩⟩ := hrel
   cases gk with
   | zero => exact absurd HA.out (by simp [slices_Equal_int64_int64.l0])
   | succ k1 =>
    have H := HA.out
    clear HA
    simp only [slices_Equal_int64_int64.l0] at H
    by_cases c4 : x13_1 < (l0.length : Int)
    ·rw [if_pos c4] at H
     have c4b0 := decide_eq_true c4
     clear c4
     obtain ⟨c5b0, H⟩ := zt H
     obtain ⟨c6b0, H⟩ := zt H
     obtain ⟨c7b0, H⟩ := zt H
     by_cases c8 : (rd l0 x13_1) = (rd l1 x13_1)
     ·rw [if_pos c8] at H
      have c8b0 : ((rd l0 x13_1) == (rd l1 x13_1)) = true := beq_iff_eq.mpr c8
      have c8b1 : ((rd l0 x13_1) != (rd l1 x13_1)) = false := bne_eq_false_iff_eq.mpr c8
      clear c8
      have H' := Aside0.mk H
      clear H
      have p127 : 0 ≤ (x13_1 : Int) := of_decide_eq_true zA
      have q127 : x13_1 < (l0.length : Int) := of_decide_eq_true zA
      obtain ⟨ad127, e127, hx127_0⟩ := Kd.at_int HR0.out x13_1 p127 q127
      cases e127
      replace p127 := eq_true p127
      replace q127 := eq_true q127
      have p128 : 0 ≤ (x13_1 : Int) := of_decide_eq_true zA
      have q128 : x13_1 < (l1.length : Int) := of_decide_eq_true zA
      obtain ⟨ad128, e128, hx128_0⟩ := Kd.at_int HR1.out x13_1 p128 q128
      cases e128
      replace p128 := eq_true p128
      replace q128 := eq_true q128
      go_wp2
      repeat (go_quiet (fail); try go_wp2)
      go_roundg k1
      case measure => have := HK1.out; omega
      case rel => exact ⟨(wrap64 (x13_1 + 1)), zE, H', ⟨by have := HK1.out; omega⟩, zD0⟩
     ·rw [if_neg c8] at H
      have c8b0 : ((rd l0 x13_1) == (rd l1 x13_1)) = false := beq_eq_false_iff_ne.mpr c8
      have c8b1 : ((rd l0 x13_1) != (rd l1 x13_1)) = true := bne_iff_ne.mpr c8
      obtain rfl := Option.some.inj H
      have p127 : 0 ≤ (x13_1 : Int) := of_decide_eq_true zA
      have q127 : x13_1 < (l0.length : Int) := of_decide_eq_true zA
      obtain ⟨ad127, e127, hx127_0⟩ := Kd.at_int HR0.out x13_1 p127 q127
      cases e127
      replace p127 := eq_true p127
      replace q127 := eq_true q127
      have p128 : 0 ≤ (x13_1 : Int) := of_decide_eq_true zA
      have q128 : x13_1 < (l1.length : Int) := of_decide_eq_true zA
      obtain ⟨ad128, e128, hx128_0⟩ := Kd.at_int HR1.out x13_1 p128 q128
      cases e128
      replace p128 := eq_true p128
      replace q128 := eq_true q128
      go_wp2
      repeat (go_quiet (fail); try go_wp2)
      go_ret
      exact ⟨zE, zD0⟩
    ·rw [if_neg c4] at H
     have c4b0 := decide_eq_false c4
     clear c4
     obtain rfl := Option.some.inj H
     go_wp2
     repeat (go_quiet (fail); try go_wp2)
     go_ret
     exact ⟨zE, zD0⟩
 ·rw [if_neg c3] at H
  have c3b0 : ((l0.length : Int) == (l1.length : Int)) = false := beq_eq_false_iff_ne.mpr c3
  have c3b1 : ((l0.length : Int) != (l1.length : Int)) = true := bne_iff_ne.mpr c3
  have c3b2 : (l0.length == l1.length) = false := by first | simpa using c3 | (simp at c3 ⊢; omega)
  obtain rfl := Option.some.inj H
  go_enter Tryz.func69, Tryz.ntmps69
  go_wp2
  repeat (go_quiet (fail); try go_wp2)
  go_ret
  exact ⟨zE, zD0⟩
def relax_Solve.j0 : Nat → Int → List (List Int) → Bool → Option (List Int × Bool)
 | 0, _, _, _ => none
 | k + 1, x0, x6, x33 => if x33 = true then (some (([] : List Int), false)) else (if 0 ≤ x0 then (if x0 < (x6.length : Int) then (some (rd_L8 x6 x0, true)) else (none)) else (none))
def relax_Solve.f (k : Nat) (a0 : Int) (l1 : List (S72)) : Option (List Int × Bool) := (relax_Layers.f k a0 l1).bind fun bt129 => (if (bt129.1.length : Int) = 0 then (relax_Solve.j0 k a0 bt129.1 true) else (if a0 > 0 then (if 0 ≤ a0 then (if a0 < (bt129.1.length : Int) then (if 0 ≤ (wrap64 (a0 - 1)) then (if (wrap64 (a0 - 1)) < (bt129.1.length : Int) then ((slices_Equal_int64_int64.f k (rd_L8 bt129.1 a0) (rd_L8 bt129.1 (wrap64 (a0 - 1)))).bind fun t137 => (relax_Solve.j0 k a0 bt129.1 (!t137))) else (none)) else (none)) else (none)) else (none)) else (relax_Solve.j0 k a0 bt129.1 false)))
theorem relax_Solve.mono_l : ∀ k, (∀ y0 y1 y2, LeO (relax_Solve.j0 k y0 y1 y2) (relax_Solve.j0 (k + 1) y0 y1 y2))
 | 0 => fun _ _ _ r h => by simp [relax_Solve.j0] at h
 | k + 1 => by
  have ih0 := relax_Solve.mono_l k
  ·intro y0 y1 y2
   unfold relax_Solve.j0
   have m0 := @relax_Layers.mono; have m1 := @slices_Equal_int64_int64.mono
   exact zM
theorem relax_Solve.mono : ∀ a0 a1 k, LeO (relax_Solve.f k a0 a1) (relax_Solve.f (k + 1) a0 a1) := by
 intro a0 a1 k
 have ih0 := relax_Solve.mono_l k
 unfold relax_Solve.f
 have m0 := @relax_Layers.mono; have m1 := @slices_Equal_int64_int64.mono
 exact zM
set_option maxHeartbeats 8000000 in
set_option maxRecDepth 100000 in
theorem relax_Solve.calls (k : Nat) (a0 : Int) (A1 : Option Addr) (c1 : Nat) (l1 : List (S72)) (r1 : List Int) (r2 : Bool) (w : World) (hr1 : Kd.C k72 w A1 l1.length l1) (hc1 : l1.length ≤ c1) (h : relax_Solve.f k a0 l1 = some (r1, r2)) :
  Calls Tryz.prog 32 #[.int .i64 a0, .slice A1 l1.length c1] w fun e w' => ∃ v0_ : Value, e = .returned (.tuple #[v0_, .bool r2]) ∧ Kd.V (Kd.int .i64) 2 w' w.heap.size (fun k_ => (w.heap.size ≤ k_)) v0_ r1 ∧ Below w.heap.size w w' := by
 have HR1 := Aside0.mk hr1
 have HC1 := Aside0.mk hc1
 clear hr1 hc1
 have HB := Aside0.mk (Below.refl w.heap.size w)
 have H : ((relax_Layers.f k a0 l1).bind fun bt129 => (if (bt129.1.length : Int) = 0 then (relax_Solve.j0 k a0 bt129.1 true) else (if a0 > 0 then (if 0 ≤ a0 then (if a0 < (bt129.1.length : Int) then (if 0 ≤ (wrap64 (a0 - 1)) then (if (wrap64 (a0 - 1)) < (bt129.1.length : Int) then ((slices_Equal_int64_int64.f k (rd_L8 bt129.1 a0) (rd_L8 bt129.1 (wrap64 (a0 - 1)))).bind fun t137 => (relax_Solve.j0 k a0 bt129.1 (!t137))) else (none)) else (none)) else (none)) else (none)) else (relax_Solve.j0 k a0 bt129.1 false)))) = some (r1, r2) := h
 clear h
 replace H := Option.bind_eq_some_iff.mp H
 obtain ⟨⟨t129, t132⟩, A30, H⟩ := H
 dsimp only at H
 have A3 := Aside0.mk A30
 clear A30
 have HC4 := Aside0.mk H
 clear H
 go_enter Tryz.func32, Tryz.ntmps32
 go_upto_region 2 with (first | (go_at_call 68; (with_reducible refine (relax_Layers.calls k a0 _ _ l1 t129 t132 _ ?side1 ?side2 A3.out).mono ?_); (case side1 => exact zC (HR1.out)); (case side2 => exact HC1.out); rintro e w5 ⟨v130, v133, rfl, ho0, ho1, hb⟩; have HO131 := Aside0.mk (Kd.N_lower (Kd.N_mono (ok' := fun k_ => (w.heap.size ≤ k_) ∧ some k_ ≠ (v133 : Value).ownBlock) ho0 (fun k_ hk_ => ⟨(Nat.le_trans (below_size zB) hk_.1), hk_.2⟩)) (below_size zB)); have HO134 := Aside0.mk (Kd.N_lower (Kd.N_mono (ok' := fun k_ => (w.heap.size ≤ k_) ∧ some k_ ≠ (v130 : Value).ownBlock) ho1 (fun k_ hk_ => ⟨(Nat.le_trans (below_size zB) hk_.1), hk_.2⟩)) (below_size zB)); replace HB := Aside0.mk (below_step zB hb); (try clear hb); (try clear hb2); (try clear hk); (try clear hi); (try clear ho0); (try clear ho1)))
 repeat (go_quiet (first | (go_at_call 68; (with_reducible refine (relax_Layers.calls k a0 _ _ l1 t129 t132 _ ?side1 ?side2 A3.out).mono ?_); (case side1 => exact zC (HR1.out)); (case side2 => exact HC1.out); rintro e w5 ⟨v130, v133, rfl, ho0, ho1, hb⟩; have HO131 := Aside0.mk (Kd.N_lower (Kd.N_mono (ok' := fun k_ => (w.heap.size ≤ k_) ∧ some k_ ≠ (v133 : Value).ownBlock) ho0 (fun k_ hk_ => ⟨(Nat.le_trans (below_size zB) hk_.1), hk_.2⟩)) (below_size zB)); have HO134 := Aside0.mk (Kd.N_lower (Kd.N_mono (ok' := fun k_ => (w.heap.size ≤ k_) ∧ some k_ ≠ (v130 : Value).ownBlock) ho1 (fun k_ hk_ => ⟨(Nat.le_trans (below_size zB) hk_.1), hk_.2⟩)) (below_size zB)); replace HB := Aside0.mk (below_step zB hb); (try clear hb); (try clear hb2); (try clear hk); (try clear hi); (try clear ho0); (try clear ho1))); go_upto_region 2 with (first | (go_at_call 68; (with_reducible refine (relax_Layers.calls k a0 _ _ l1 t129 t132 _ ?side1 ?side2 A3.out).mono ?_); (case side1 => exact zC (HR1.out)); (case side2 => exact HC1.out); rintro e w5 ⟨v130, v133, rfl, ho0, ho1, hb⟩; have HO131 := Aside0.mk (Kd.N_lower (Kd.N_mono (ok' := fun k_ => (w.heap.size ≤ k_) ∧ some k_ ≠ (v133 : Value).ownBlock) ho0 (fun k_ hk_ => ⟨(Nat.le_trans (below_size zB) hk_.1), hk_.2⟩)) (below_size zB)); have HO134 := Aside0.mk (Kd.N_lower (Kd.N_mono (ok' := fun k_ => (w.heap.size ≤ k_) ∧ some k_ ≠ (v130 : Value).ownBlock) ho1 (fun k_ hk_ => ⟨(Nat.le_trans (below_size zB) hk_.1), hk_.2⟩)) (below_size zB)); replace HB := Aside0.mk (below_step zB hb); (try clear hb); (try clear hb2); (try clear hk); (try clear hi); (try clear ho0); (try clear ho1))))
 (try simp only [Act.put, List.setIfInBounds_toArray, List.set_cons_zero, List.set_cons_succ])
 go_cut [33] (fun v33 wc => ∃ (kq : Nat) (x33_3 : Bool), v33 = .bool x33_3 ∧ Aside0 (relax_Solve.j0 kq a0 t129 x33_3 = some (r1, r2)) ∧ Aside0 (kq ≤ k) ∧ Aside0 (Kd.N (Kd.slice 2 (Kd.int .i64)) 27 wc w.heap.size (fun k_ => (w.heap.size ≤ k_)) v130 t129) ∧ Aside0 (Below w.heap.size w wc))
 case first =>
  have H := HC4.out
  clear HC4
  by_cases c6 : (t129.length : Int) = 0
  ·rw [if_pos c6] at H
   have c6b0 : ((t129.length : Int) == 0) = true := beq_iff_eq.mpr c6
   have c6b1 : ((t129.length : Int) != 0) = false := bne_eq_false_iff_eq.mpr c6
   clear c6
   (first | rw [c6b0] | (simp only [i64_w, i32_w]; rw [c6b0]) | skip)
   have H' := Aside0.mk H
   clear H
   obtain ⟨Ao7, co7, eo7⟩ := Kd.N_slice HO131.out
   subst eo7
   go_wp2
   repeat (go_quiet (fail); try go_wp2)
   go_meet
   case rel => exact ⟨_, (true), zE, H', ⟨by first | omega | exact Nat.le_refl _⟩, ⟨by (with_reducible repeat (first | apply Kd.N_alloc | apply Kd.N_drewN | apply Kd.N_drew)); exact Kd.N_mono HO131.out (fun _ hk => hk.1)⟩, ⟨zB⟩⟩
  ·rw [if_neg c6] at H
   have c6b0 : ((t129.length : Int) == 0) = false := beq_eq_false_iff_ne.mpr c6
   have c6b1 : ((t129.length : Int) != 0) = true := bne_iff_ne.mpr c6
   have c6b2 : ¬ (t129 = []) := fun h_ => c6 (by rw [h_]; rfl)
   (first | rw [c6b0] | (simp only [i64_w, i32_w]; rw [c6b0]) | skip)
   by_cases c8 : a0 > 0
   ·rw [if_pos c8] at H
    have c8b0 : decide (0 < a0) = true := decide_eq_true c8
    clear c8
    obtain ⟨c9b0, H⟩ := zt H
    obtain ⟨c10b0, H⟩ := zt H
    obtain ⟨ji11, hji11⟩ : ∃ j_ : Int, (wrap64 (a0 - 1)) = j_ := ⟨_, rfl⟩
    replace H : (if 0 ≤ (ji11) then (if (ji11) < (t129.length : Int) then ((slices_Equal_int64_int64.f k (rd_L8 t129 a0) (rd_L8 t129 (ji11))).bind fun t137 => (relax_Solve.j0 k a0 t129 (!t137))) else (none)) else (none)) = some (r1, r2) := by first | (rw [hji11] at H; exact H) | (simp only [hji11] at H ⊢; exact H)
    have hji11w : (IntKind.i64.wrap (a0 - 1)) = ji11 := (i64_w _).trans hji11
    obtain ⟨c12b0, H⟩ := zt H
    obtain ⟨c13b0, H⟩ := zt H
    replace H := Option.bind_eq_some_iff.mp H
    obtain ⟨t137, A140, H⟩ := H
    have A14 := Aside0.mk A140
    clear A140
    have H' := Aside0.mk H
    clear H
    obtain ⟨Ao15, co15, eo15⟩ := Kd.N_slice HO131.out
    subst eo15
    have p135 : 0 ≤ (a0 : Int) := of_decide_eq_true zA
    have q135 : a0 < (t129.length : Int) := of_decide_eq_true zA
    obtain ⟨ad135, A135_0, c135_0, e135, hx135_0, hl135_0, hi135_0⟩ := at_L8 (Kd.N_reads' HO131.out).2.2 a0 p135 q135
    cases e135
    obtain ⟨ce135, hce135, hMe135, hcc135⟩ := Kd.N_get HO131.out [] a0 p135 (by first | exact q135 | exact of_decide_eq_true zA | (have e_ := (Kd.N_reads' HO131.out).1; omega))
    obtain ⟨ua135_0, uc135_0, rfl, ul135_0, ge135_0⟩ := Kd.FK_slice_open hMe135
    have hv135_0 := hcc135 0 _ rfl
    rw [Nat.add_zero, show ((Kd.slice 2 (Kd.int .i64))).sz = 1 from rfl, Nat.mul_one] at hv135_0
    replace hv135_0 := Option.some.inj (hv135_0.symm.trans hx135_0)
    injection hv135_0 with hva_ hvn_ hvc_
    rw [hva_] at ge135_0
    rw [hvc_] at ul135_0
    have HL135_0 := Aside0.mk (show Kd.V (Kd.int .i64) 2 _ w.heap.size _ _ (rd_L8 t129 a0) from Kd.V_mk ul135_0 ge135_0)
    clear hva_ hvn_ hvc_ ge135_0 ul135_0
    clear hcc135 hce135
    have HR135_0 := Aside0.mk hi135_0
    have HC135_0 := Aside0.mk hl135_0
    clear hi135_0 hl135_0
    replace p135 := eq_true p135
    replace q135 := eq_true q135
    have p136 : 0 ≤ ((ji11) : Int) := of_decide_eq_true zA
    have q136 : (ji11) < (t129.length : Int) := of_decide_eq_true zA
    obtain ⟨ad136, A136_0, c136_0, e136, hx136_0, hl136_0, hi136_0⟩ := at_L8 (Kd.N_reads' HO131.out).2.2 (ji11) p136 q136
    obtain rfl : ad135 = ad136 := (by injection e136)
    obtain ⟨ce136, hce136, hMe136, hcc136⟩ := Kd.N_get HO131.out [] (ji11) p136 (by first | exact q136 | exact of_decide_eq_true zA | (have e_ := (Kd.N_reads' HO131.out).1; omega))
    obtain ⟨ua136_0, uc136_0, rfl, ul136_0, ge136_0⟩ := Kd.FK_slice_open hMe136
    have hv136_0 := hcc136 0 _ rfl
    rw [Nat.add_zero, show ((Kd.slice 2 (Kd.int .i64))).sz = 1 from rfl, Nat.mul_one] at hv136_0
    replace hv136_0 := Option.some.inj (hv136_0.symm.trans hx136_0)
    injection hv136_0 with hva_ hvn_ hvc_
    rw [hva_] at ge136_0
    rw [hvc_] at ul136_0
    have HL136_0 := Aside0.mk (show Kd.V (Kd.int .i64) 2 _ w.heap.size _ _ (rd_L8 t129 (ji11)) from Kd.V_mk ul136_0 ge136_0)
    clear hva_ hvn_ hvc_ ge136_0 ul136_0
    clear hcc136 hce136
    have HR136_0 := Aside0.mk hi136_0
    have HC136_0 := Aside0.mk hl136_0
    clear hi136_0 hl136_0
    replace p136 := eq_true p136
    replace q136 := eq_true q136
    go_wp2_with (first | (go_at_call 69; (with_reducible refine (slices_Equal_int64_int64.calls k _ _ (rd_L8 t129 a0) _ _ (rd_L8 t129 (ji11)) t137 _ ?side1 ?side2 ?side3 ?side4 A14.out).mono ?_); (case side1 => exact zC HR135_0.out); (case side2 => exact HC135_0.out); (case side3 => exact zC HR136_0.out); (case side4 => exact HC136_0.out); rintro e w' ⟨rfl, ⟨nd, rfl⟩⟩; (try first | exact ⟨rfl, _, World.drewN_drewN _ _ _⟩ | exact ⟨rfl, _, Eq.trans (World.drewN_drewN _ _ _) (congrArg (World.drewN _) (Nat.add_assoc _ _ _))⟩)))
    repeat (go_quiet (first | (go_at_call 69; (with_reducible refine (slices_Equal_int64_int64.calls k _ _ (rd_L8 t129 a0) _ _ (rd_L8 t129 (ji11)) t137 _ ?side1 ?side2 ?side3 ?side4 A14.out).mono ?_); (case side1 => exact zC HR135_0.out); (case side2 => exact HC135_0.out); (case side3 => exact zC HR136_0.out); (case side4 => exact HC136_0.out); rintro e w' ⟨rfl, ⟨nd, rfl⟩⟩; (try first | exact ⟨rfl, _, World.drewN_drewN _ _ _⟩ | exact ⟨rfl, _, Eq.trans (World.drewN_drewN _ _ _) (congrArg (World.drewN _) (Nat.add_assoc _ _ _))⟩))); try go_wp2_with (first | (go_at_call 69; (with_reducible refine (slices_Equal_int64_int64.calls k _ _ (rd_L8 t129 a0) _ _ (rd_L8 t129 (ji11)) t137 _ ?side1 ?side2 ?side3 ?side4 A14.out).mono ?_); (case side1 => exact zC HR135_0.out); (case side2 => exact HC135_0.out); (case side3 => exact zC HR136_0.out); (case side4 => exact HC136_0.out); rintro e w' ⟨rfl, ⟨nd, rfl⟩⟩; (try first | exact ⟨rfl, _, World.drewN_drewN _ _ _⟩ | exact ⟨rfl, _, Eq.trans (World.drewN_drewN _ _ _) (congrArg (World.drewN _) (Nat.add_assoc _ _ _))⟩))))
    go_meet
    case rel => exact ⟨_, (!t137), zE, H', ⟨by first | omega | exact Nat.le_refl _⟩, ⟨by (with_reducible repeat (first | apply Kd.N_alloc | apply Kd.N_drewN | apply Kd.N_drew)); exact Kd.N_mono HO131.out (fun _ hk => hk.1)⟩, ⟨zB⟩⟩
   ·rw [if_neg c8] at H
    have c8b0 : decide (0 < a0) = false := decide_eq_false c8
    clear c8
    have H' := Aside0.mk H
    clear H
    obtain ⟨Ao16, co16, eo16⟩ := Kd.N_slice HO131.out
    subst eo16
    go_wp2
    repeat (go_quiet (fail); try go_wp2)
    go_meet
    case rel => exact ⟨_, (false), zE, H', ⟨by first | omega | exact Nat.le_refl _⟩, ⟨by (with_reducible repeat (first | apply Kd.N_alloc | apply Kd.N_drewN | apply Kd.N_drew)); exact Kd.N_mono HO131.out (fun _ hk => hk.1)⟩, ⟨zB⟩⟩
 case rest =>
  clear HC4
  (try clear c1); (try clear p1); (try clear q1); (try clear hx1); (try clear p2); (try clear c3); (try clear c6); (try clear c6b0); (try clear c6b1); (try clear c6b2); (try clear p6); (try clear c8); (try clear c8b0); (try clear c9); (try clear c9b0); (try clear c10); (try clear c10b0); (try clear c12); (try clear c12b0); (try clear c13); (try clear c13b0); (try clear p13); (try clear q13); (try clear hx13); (try clear hx135_0); (try clear hx136_0); (try clear p135); (try clear p136); (try clear q135); (try clear q136)
  obtain ⟨kq, x33_3, rfl, HA, HJ3, HO_6, HB⟩ := hcut
  cases kq with
  | zero => exact absurd HA.out (by simp [relax_Solve.j0])
  | succ kj3 =>
   have H := HA.out
   clear HA
   simp only [relax_Solve.j0] at H
   by_cases c17 : x33_3 = true
   ·subst c17
    rw [if_pos rfl] at H
    simp only [Option.some.injEq, Prod.mk.injEq] at H
    obtain ⟨rfl, rfl⟩ := H
    go_wp2
    repeat (go_quiet (fail); try go_wp2)
    go_ret2
    exact ⟨_, by first | rfl | (simp [errW_none, errW_some] <;> rfl) | (simp [*, errW_none, errW_some] <;> rfl), Kd.R_V (base := 0) zNil, zB⟩
   ·replace c17 := Bool.eq_false_iff.mpr c17
    subst c17
    rw [if_neg (show ¬ (false = true) by decide)] at H
    obtain ⟨c18b0, H⟩ := zt H
    obtain ⟨c19b0, H⟩ := zt H
    simp only [Option.some.injEq, Prod.mk.injEq] at H
    obtain ⟨rfl, rfl⟩ := H
    obtain ⟨Ao20, co20, eo20⟩ := Kd.N_slice HO_6.out
    subst eo20
    have p138 : 0 ≤ (a0 : Int) := of_decide_eq_true zA
    have q138 : a0 < (t129.length : Int) := of_decide_eq_true zA
    obtain ⟨ad138, A138_0, c138_0, e138, hx138_0, hl138_0, hi138_0⟩ := at_L8 (Kd.N_reads' HO_6.out).2.2 a0 p138 q138
    cases e138
    obtain ⟨ce138, hce138, hMe138, hcc138⟩ := Kd.N_get HO_6.out [] a0 p138 (by first | exact q138 | exact of_decide_eq_true zA | (have e_ := (Kd.N_reads' HO_6.out).1; omega))
    obtain ⟨ua138_0, uc138_0, rfl, ul138_0, ge138_0⟩ := Kd.FK_slice_open hMe138
    have hv138_0 := hcc138 0 _ rfl
    rw [Nat.add_zero, show ((Kd.slice 2 (Kd.int .i64))).sz = 1 from rfl, Nat.mul_one] at hv138_0
    replace hv138_0 := Option.some.inj (hv138_0.symm.trans hx138_0)
    injection hv138_0 with hva_ hvn_ hvc_
    rw [hva_] at ge138_0
    rw [hvc_] at ul138_0
    have HL138_0 := Aside0.mk (show Kd.V (Kd.int .i64) 2 _ w.heap.size _ _ (rd_L8 t129 a0) from Kd.V_mk ul138_0 ge138_0)
    clear hva_ hvn_ hvc_ ge138_0 ul138_0
    clear hcc138 hce138
    have HR138_0 := Aside0.mk hi138_0
    have HC138_0 := Aside0.mk hl138_0
    clear hi138_0 hl138_0
    replace p138 := eq_true p138
    replace q138 := eq_true q138
    go_wp2
    repeat (go_quiet (fail); try go_wp2)
    go_ret2
    exact ⟨_, by first | rfl | (simp [errW_none, errW_some] <;> rfl) | (simp [*, errW_none, errW_some] <;> rfl), by (with_reducible repeat (first | apply Kd.V_alloc | apply Kd.V_drewN | apply Kd.V_drew)); exact Kd.V_mono HL138_0.out (fun _ hk => hk.1), zB⟩
end Go.Proofs.YtgknjgionicncaaGreat.X
namespace Go.Proofs.YtgknjgionicncaaGreat.V
open Go.RowKit Go.Proofs.YtgknjgionicncaaGreat.Q Go.Proofs.YtgknjgionicncaaGreat.X Go.Proofs.YtgknjgionicncaaGreatW.PrintWords Go.Proofs.YtgknjgionicncaaGreatW.PrintLast Go.Proofs.YtgknjgionicncaaGreatW.PrintMore
attribute [local go_sem] max2_int min2_int max_two min_two max_three min_three max_four min_four
set_option linter.unusedVariables false
set_option linter.unusedSimpArgs false
def loop_Of.l0 : Nat → Int → List (S72) → List (List Int) → List (List Int) → Int → Int → Option ((List (S72)))
 | 0, _, _, _, _, _, _ => none
 | k + 1, x0, x1, x5, x6, x17, x18 => if x18 < x17 then (if 0 ≤ x0 then (if x0 < (x5.length : Int) then (if 0 ≤ x18 then (if x18 < ((rd_L8 x5 x0).length : Int) then (if 0 ≤ (wrap64 (x0 - 1)) then (if (wrap64 (x0 - 1)) < (x5.length : Int) then (if x18 < ((rd_L8 x5 (wrap64 (x0 - 1))).length : Int) then (if (rd (rd_L8 x5 x0) x18) < (rd (rd_L8 x5 (wrap64 (x0 - 1))) x18) then ((loop_back.f k x18 x6 x1).bind fun t218 => ((loop_turned.f k t218).bind fun t221 => (some t221))) else (loop_Of.l0 k x0 x1 x5 x6 x17 (wrap64 (x18 + 1)))) else (none)) else (none)) else (none)) else (none)) else (none)) else (none)) else (none)) else (some ([] : List (S72)))
def loop_Of.f (k : Nat) (a0 : Int) (l1 : List (S72)) : Option ((List (S72))) := (relax_Layers.f k a0 l1).bind fun bt208 => (if (bt208.1.length : Int) < 2 then (some ([] : List (S72))) else (loop_Of.l0 k a0 l1 bt208.1 bt208.2 a0 0))
theorem loop_Of.mono_l : ∀ k, (∀ y0 y1 y2 y3 y4 y5, LeO (loop_Of.l0 k y0 y1 y2 y3 y4 y5) (loop_Of.l0 (k + 1) y0 y1 y2 y3 y4 y5))
 | 0 => fun _ _ _ _ _ _ r h => by simp [loop_Of.l0] at h
 | k + 1 => by
  have ih0 := loop_Of.mono_l k
  ·intro y0 y1 y2 y3 y4 y5
   unfold loop_Of.l0
   have m0 := @loop_back.mono; have m1 := @loop_turned.mono; have m2 := @relax_Layers.mono
   exact zM
theorem loop_Of.mono : ∀ a0 a1 k, LeO (loop_Of.f k a0 a1) (loop_Of.f (k + 1) a0 a1) := by
 intro a0 a1 k
 have ih0 := loop_Of.mono_l k
 unfold loop_Of.f
 have m0 := @loop_back.mono; have m1 := @loop_turned.mono; have m2 := @relax_Layers.mono
 exact zM
set_option maxHeartbeats 8000000 in
set_option maxRecDepth 100000 in
theorem loop_Of.calls (k : Nat) (a0 : Int) (A1 : Option Addr) (c1 : Nat) (l1 : List (S72)) (r : List (S72)) (w : World) (hr1 : Kd.C k72 w A1 l1.length l1) (hc1 : l1.length ≤ c1) (h : loop_Of.f k a0 l1 = some r) :
  Calls Tryz.prog 64 #[.int .i64 a0, .slice A1 l1.length c1] w fun e w' => ∃ v0_ : Value, e = .returned (v0_) ∧ Kd.R k72 72 w' w.heap.size (fun _ => True) v0_ r ∧ Below w.heap.size w w' := by
 have HR1 := Aside0.mk hr1
 have HC1 := Aside0.mk hc1
 clear hr1 hc1
 have HB := Aside0.mk (Below.refl w.heap.size w)
 have H : ((relax_Layers.f k a0 l1).bind fun bt208 => (if (bt208.1.length : Int) < 2 then (some ([] : List (S72))) else (loop_Of.l0 k a0 l1 bt208.1 bt208.2 a0 0))) = some r := h
 clear h
 replace H := Option.bind_eq_some_iff.mp H
 obtain ⟨⟨t208, t211⟩, A30, H⟩ := H
 dsimp only at H
 have A3 := Aside0.mk A30
 clear A30
 by_cases c4 : (t208.length : Int) < 2
 ·rw [if_pos c4] at H
  have c4b0 := decide_eq_true c4
  have c4b1 : decide (t208.length < 2) = true := decide_eq_true (by omega)
  clear c4
  obtain rfl := Option.some.inj H
  go_enter Tryz.func64, Tryz.ntmps64
  go_wp2_with (first | (go_at_call 68; (with_reducible refine (relax_Layers.calls k a0 _ _ l1 t208 t211 _ ?side1 ?side2 A3.out).mono ?_); (case side1 => exact zC (HR1.out)); (case side2 => exact HC1.out); rintro e w5 ⟨v209, v212, rfl, ho0, ho1, hb⟩; have HO210 := Aside0.mk (Kd.N_lower (Kd.N_mono (ok' := fun k_ => some k_ ≠ (v212 : Value).ownBlock) ho0 (fun k_ hk_ => hk_.2)) (below_size zB)); have HO213 := Aside0.mk (Kd.N_lower (Kd.N_mono (ok' := fun k_ => some k_ ≠ (v209 : Value).ownBlock) ho1 (fun k_ hk_ => hk_.2)) (below_size zB)); replace HB := Aside0.mk (below_step zB hb); (try clear hb); (try clear hb2); (try clear hk); (try clear hi); (try clear ho0); (try clear ho1); obtain ⟨Ao6, co6, eo6⟩ := Kd.N_slice HO210.out; subst eo6))
  repeat (go_quiet (first | (go_at_call 68; (with_reducible refine (relax_Layers.calls k a0 _ _ l1 t208 t211 _ ?side1 ?side2 A3.out).mono ?_); (case side1 => exact zC (HR1.out)); (case side2 => exact HC1.out); rintro e w5 ⟨v209, v212, rfl, ho0, ho1, hb⟩; have HO210 := Aside0.mk (Kd.N_lower (Kd.N_mono (ok' := fun k_ => some k_ ≠ (v212 : Value).ownBlock) ho0 (fun k_ hk_ => hk_.2)) (below_size zB)); have HO213 := Aside0.mk (Kd.N_lower (Kd.N_mono (ok' := fun k_ => some k_ ≠ (v209 : Value).ownBlock) ho1 (fun k_ hk_ => hk_.2)) (below_size zB)); replace HB := Aside0.mk (below_step zB hb); (try clear hb); (try clear hb2); (try clear hk); (try clear hi); (try clear ho0); (try clear ho1); obtain ⟨Ao6, co6, eo6⟩ := Kd.N_slice HO210.out; subst eo6)); try go_wp2_with (first | (go_at_call 68; (with_reducible refine (relax_Layers.calls k a0 _ _ l1 t208 t211 _ ?side1 ?side2 A3.out).mono ?_); (case side1 => exact zC (HR1.out)); (case side2 => exact HC1.out); rintro e w5 ⟨v209, v212, rfl, ho0, ho1, hb⟩; have HO210 := Aside0.mk (Kd.N_lower (Kd.N_mono (ok' := fun k_ => some k_ ≠ (v212 : Value).ownBlock) ho0 (fun k_ hk_ => hk_.2)) (below_size zB)); have HO213 := Aside0.mk (Kd.N_lower (Kd.N_mono (ok' := fun k_ => some k_ ≠ (v209 : Value).ownBlock) ho1 (fun k_ hk_ => hk_.2)) (below_size zB)); replace HB := Aside0.mk (below_step zB hb); (try clear hb); (try clear hb2); (try clear hk); (try clear hi); (try clear ho0); (try clear ho1); obtain ⟨Ao6, co6, eo6⟩ := Kd.N_slice HO210.out; subst eo6)))
  go_ret
  exact ⟨_, by first | rfl | (simp [errW_none, errW_some] <;> rfl) | (simp [*, errW_none, errW_some] <;> rfl), zNil, zB⟩
 ·rw [if_neg c4] at H
  have c4b0 := decide_eq_false c4
  have c4b1 : decide (t208.length < 2) = false := decide_eq_false (by omega)
  clear c4
  have H' := Aside0.mk H
  clear H
  go_enter Tryz.func64, Tryz.ntmps64
  go_wp2_with (first | (go_at_call 68; (with_reducible refine (relax_Layers.calls k a0 _ _ l1 t208 t211 _ ?side1 ?side2 A3.out).mono ?_); (case side1 => exact zC (HR1.out)); (case side2 => exact HC1.out); rintro e w7 ⟨v209, v212, rfl, ho0, ho1, hb⟩; have HO210 := Aside0.mk (Kd.N_lower (Kd.N_mono (ok' := fun k_ => some k_ ≠ (v212 : Value).ownBlock) ho0 (fun k_ hk_ => hk_.2)) (below_size zB)); have HO213 := Aside0.mk (Kd.N_lower (Kd.N_mono (ok' := fun k_ => some k_ ≠ (v209 : Value).ownBlock) ho1 (fun k_ hk_ => hk_.2)) (below_size zB)); replace HB := Aside0.mk (below_step zB hb); (try clear hb); (try clear hb2); (try clear hk); (try clear hi); (try clear ho0); (try clear ho1); obtain ⟨Ao8, co8, eo8⟩ := Kd.N_slice HO210.out; subst eo8))
  repeat (go_quiet (first | (go_at_call 68; (with_reducible refine (relax_Layers.calls k a0 _ _ l1 t208 t211 _ ?side1 ?side2 A3.out).mono ?_); (case side1 => exact zC (HR1.out)); (case side2 => exact HC1.out); rintro e w7 ⟨v209, v212, rfl, ho0, ho1, hb⟩; have HO210 := Aside0.mk (Kd.N_lower (Kd.N_mono (ok' := fun k_ => some k_ ≠ (v212 : Value).ownBlock) ho0 (fun k_ hk_ => hk_.2)) (below_size zB)); have HO213 := Aside0.mk (Kd.N_lower (Kd.N_mono (ok' := fun k_ => some k_ ≠ (v209 : Value).ownBlock) ho1 (fun k_ hk_ => hk_.2)) (below_size zB)); replace HB := Aside0.mk (below_step zB hb); (try clear hb); (try clear hb2); (try clear hk); (try clear hi); (try clear ho0); (try clear ho1); obtain ⟨Ao8, co8, eo8⟩ := Kd.N_slice HO210.out; subst eo8)); try go_wp2_with (first | (go_at_call 68; (with_reducible refine (relax_Layers.calls k a0 _ _ l1 t208 t211 _ ?side1 ?side2 A3.out).mono ?_); (case side1 => exact zC (HR1.out)); (case side2 => exact HC1.out); rintro e w7 ⟨v209, v212, rfl, ho0, ho1, hb⟩; have HO210 := Aside0.mk (Kd.N_lower (Kd.N_mono (ok' := fun k_ => some k_ ≠ (v212 : Value).ownBlock) ho0 (fun k_ hk_ => hk_.2)) (below_size zB)); have HO213 := Aside0.mk (Kd.N_lower (Kd.N_mono (ok' := fun k_ => some k_ ≠ (v209 : Value).ownBlock) ho1 (fun k_ hk_ => hk_.2)) (below_size zB)); replace HB := Aside0.mk (below_step zB hb); (try clear hb); (try clear hb2); (try clear hk); (try clear hi); (try clear ho0); (try clear ho1); obtain ⟨Ao8, co8, eo8⟩ := Kd.N_slice HO210.out; subst eo8)))
  go_loopg [18] k (fun kq v18 w' => ∃ (x18_1 : Int), v18 = .int .i64 x18_1 ∧ Aside0 (loop_Of.l0 kq a0 l1 t208 t211 a0 x18_1 = some r) ∧ Aside0 (kq ≤ k) ∧ Aside0 (Kd.N (Kd.slice 2 (Kd.int .i64)) 27 w' w.heap.size (fun k_ => some k_ ≠ (v212 : Value).ownBlock) (.slice Ao8 t208.length co8) t208) ∧ Aside0 (Kd.N (Kd.slice 3 (Kd.int .i64)) 43 w' w.heap.size (fun k_ => some k_ ≠ ((.slice Ao8 t208.length co8) : Value).ownBlock) v212 t211) ∧ Aside0 (Below w.heap.size w w'))
  case atStart => exact ⟨(0), zE, H', ⟨Nat.le_refl _⟩, ⟨zRN HO210.out⟩, ⟨zRN HO213.out⟩, ⟨zB⟩⟩
  case round =>
   clear H'
   (try clear c1); (try clear p2); (try clear c4); (try clear c4b0); (try clear c4b1); (try clear c6)
   obtain ⟨x18_1, rfl, HA, HK1, HO_5, HO_6, HB⟩ := hrel
   cases gk with
   | zero => exact absurd HA.out (by simp [loop_Of.l0])
   | succ k1 =>
    have H := HA.out
    clear HA
    simp only [loop_Of.l0] at H
    by_cases c9 : x18_1 < a0
    ·rw [if_pos c9] at H
     have c9b0 := decide_eq_true c9
     clear c9
     obtain ⟨c10b0, H⟩ := zt H
     obtain ⟨c11b0, H⟩ := zt H
     obtain ⟨c12b0, H⟩ := zt H
     obtain ⟨c13b0, H⟩ := zt H
     obtain ⟨ji14, hji14⟩ : ∃ j_ : Int, (wrap64 (a0 - 1)) = j_ := ⟨_, rfl⟩
     replace H : (if 0 ≤ (ji14) then (if (ji14) < (t208.length : Int) then (if x18_1 < ((rd_L8 t208 (ji14)).length : Int) then (if (rd (rd_L8 t208 a0) x18_1) < (rd (rd_L8 t208 (ji14)) x18_1) then ((loop_back.f k1 x18_1 t211 l1).bind fun t218 => ((loop_turned.f k1 t218).bind fun t221 => (some t221))) else (loop_Of.l0 k1 a0 l1 t208 t211 a0 (wrap64 (x18_1 + 1)))) else (none)) else (none)) else (none)) = some r := by first | (rw [hji14] at H; exact H) | (simp only [hji14] at H ⊢; exact H)
     have hji14w : (IntKind.i64.wrap (a0 - 1)) = ji14 := (i64_w _).trans hji14
     obtain ⟨c15b0, H⟩ := zt H
     obtain ⟨c16b0, H⟩ := zt H
     obtain ⟨c17b0, H⟩ := zt H
     by_cases c18 : (rd (rd_L8 t208 a0) x18_1) < (rd (rd_L8 t208 (ji14)) x18_1)
     ·rw [if_pos c18] at H
      have c18b0 := decide_eq_true c18
      clear c18
      replace H := Option.bind_eq_some_iff.mp H
      obtain ⟨t218, A190, H⟩ := H
      have A19 := Aside0.mk A190
      clear A190
      replace H := Option.bind_eq_some_iff.mp H
      obtain ⟨t221, A200, H⟩ := H
      have A20 := Aside0.mk A200
      clear A200
      obtain rfl := Option.some.inj H
      have p214 : 0 ≤ (a0 : Int) := of_decide_eq_true zA
      have q214 : a0 < (t208.length : Int) := of_decide_eq_true zA
      obtain ⟨ad214, A214_0, c214_0, e214, hx214_0, hl214_0, hi214_0⟩ := at_L8 (Kd.N_reads' HO_5.out).2.2 a0 p214 q214
      cases e214
      obtain ⟨ce214, hce214, hMe214, hcc214⟩ := Kd.N_get HO_5.out [] a0 p214 (by first | exact q214 | exact of_decide_eq_true zA | (have e_ := (Kd.N_reads' HO_5.out).1; omega))
      obtain ⟨ua214_0, uc214_0, rfl, ul214_0, ge214_0⟩ := Kd.FK_slice_open hMe214
      have hv214_0 := hcc214 0 _ rfl
      rw [Nat.add_zero, show ((Kd.slice 2 (Kd.int .i64))).sz = 1 from rfl, Nat.mul_one] at hv214_0
      replace hv214_0 := Option.some.inj (hv214_0.symm.trans hx214_0)
      injection hv214_0 with hva_ hvn_ hvc_
      rw [hva_] at ge214_0
      rw [hvc_] at ul214_0
      have HL214_0 := Aside0.mk (show Kd.V (Kd.int .i64) 2 _ w.heap.size _ _ (rd_L8 t208 a0) from Kd.V_mk ul214_0 ge214_0)
      clear hva_ hvn_ hvc_ ge214_0 ul214_0
      clear hcc214 hce214
      have HR214_0 := Aside0.mk hi214_0
      have HC214_0 := Aside0.mk hl214_0
      clear hi214_0 hl214_0
      replace p214 := eq_true p214
      replace q214 := eq_true q214
      have p215 : 0 ≤ (x18_1 : Int) := of_decide_eq_true zA
      have q215 : x18_1 < ((rd_L8 t208 a0).length : Int) := of_decide_eq_true zA
      obtain ⟨ad215, e215, hx215_0⟩ := Kd.at_int (zC HR214_0.out) x18_1 p215 q215
      cases e215
      replace p215 := eq_true p215
      replace q215 := eq_true q215
      have p216 : 0 ≤ ((ji14) : Int) := of_decide_eq_true zA
      have q216 : (ji14) < (t208.length : Int) := of_decide_eq_true zA
      obtain ⟨ad216, A216_0, c216_0, e216, hx216_0, hl216_0, hi216_0⟩ := at_L8 (Kd.N_reads' HO_5.out).2.2 (ji14) p216 q216
      obtain rfl : ad214 = ad216 := (by injection e216)
      obtain ⟨ce216, hce216, hMe216, hcc216⟩ := Kd.N_get HO_5.out [] (ji14) p216 (by first | exact q216 | exact of_decide_eq_true zA | (have e_ := (Kd.N_reads' HO_5.out).1; omega))
      obtain ⟨ua216_0, uc216_0, rfl, ul216_0, ge216_0⟩ := Kd.FK_slice_open hMe216
      have hv216_0 := hcc216 0 _ rfl
      rw [Nat.add_zero, show ((Kd.slice 2 (Kd.int .i64))).sz = 1 from rfl, Nat.mul_one] at hv216_0
      replace hv216_0 := Option.some.inj (hv216_0.symm.trans hx216_0)
      injection hv216_0 with hva_ hvn_ hvc_
      rw [hva_] at ge216_0
      rw [hvc_] at ul216_0
      have HL216_0 := Aside0.mk (show Kd.V (Kd.int .i64) 2 _ w.heap.size _ _ (rd_L8 t208 (ji14)) from Kd.V_mk ul216_0 ge216_0)
      clear hva_ hvn_ hvc_ ge216_0 ul216_0
      clear hcc216 hce216
      have HR216_0 := Aside0.mk hi216_0
      have HC216_0 := Aside0.mk hl216_0
      clear hi216_0 hl216_0
      replace p216 := eq_true p216
      replace q216 := eq_true q216
      have p217 : 0 ≤ (x18_1 : Int) := of_decide_eq_true zA
      have q217 : x18_1 < ((rd_L8 t208 (ji14)).length : Int) := of_decide_eq_true zA
      obtain ⟨ad217, e217, hx217_0⟩ := Kd.at_int (zC HR216_0.out) x18_1 p217 q217
      cases e217
      replace p217 := eq_true p217
      replace q217 := eq_true q217
      obtain ⟨Ao21, co21, eo21⟩ := Kd.N_slice HO_6.out
      subst eo21
      go_wp2_with (first | (go_at_call 113; (with_reducible refine (loop_back.calls k1 x18_1 _ _ t211 _ _ l1 t218 _ ?side1 ?side2 ?side3 ?side4 A19.out).mono ?_); (case side1 => exact zC ((Kd.N_reads' HO_6.out).2.2)); (case side2 => exact (Kd.N_reads' HO_6.out).2.1); (case side3 => exact zC ((Kd.C_below HR1.out HB.out))); (case side4 => exact HC1.out); rintro e w22 ⟨v219, rfl, ho0, hb⟩; replace HO_5 := Aside0.mk (Kd.N_elder' (zRN HO_5.out) (Kd.R_base ho0) hb); replace HO_6 := Aside0.mk (Kd.N_elder' (zRN HO_6.out) (Kd.R_base ho0) hb); replace HL214_0 := Aside0.mk (Kd.V_elder' (zRV HL214_0.out) (Kd.R_base ho0) hb); replace HL216_0 := Aside0.mk (Kd.V_elder' (zRV HL216_0.out) (Kd.R_base ho0) hb); have HO220 := Aside0.mk (Kd.R_lower ho0 (below_size zB)); replace HR214_0 := Aside0.mk (Kd.C_below (zC HR214_0.out) hb); replace HR216_0 := Aside0.mk (Kd.C_below (zC HR216_0.out) hb); replace HB := Aside0.mk (below_step zB hb); (try clear hb); (try clear hb2); (try clear hk); (try clear hi); (try clear ho0); obtain ⟨Ao23, co23, eo23⟩ := Kd.R_slice HO220.out; subst eo23) | (go_at_call 112; (with_reducible refine (loop_turned.calls k1 (fun k_ => some k_ = (.slice Ao23 t218.length co23 : Value).ownBlock) _ _ t218 t221 _ ?side1 A20.out).mono ?_); (case side1 => exact Kd.R_V (Kd.R_tight rfl (Kd.R_apart' (Kd.R_apart' (HO220.out) (Kd.N_typed HO_5.out) (by decide)) (Kd.N_typed HO_6.out) (by decide)))); rintro e w24 ⟨v222, rfl, ho0, hb⟩; replace HO_5 := Aside0.mk (Kd.N_elder' (zRN HO_5.out) (Kd.R_base ho0) hb); replace HO_6 := Aside0.mk (Kd.N_elder' (zRN HO_6.out) (Kd.R_base ho0) hb); replace HL214_0 := Aside0.mk (Kd.V_elder' (zRV HL214_0.out) (Kd.R_base ho0) hb); replace HL216_0 := Aside0.mk (Kd.V_elder' (zRV HL216_0.out) (Kd.R_base ho0) hb); have HO223 := Aside0.mk (Kd.R_lower (Kd.R_new' (Kd.R_mono (ok' := fun k_ => True) ho0 (fun _ hk_ => trivial)) (Kd.R_lt (zR HO220.out))) (below_size zB)); replace HO220 := Aside0.mk (Kd.R_elder' (zR HO220.out) (Kd.R_base ho0) hb); replace HR214_0 := Aside0.mk (Kd.C_below (zC HR214_0.out) hb); replace HR216_0 := Aside0.mk (Kd.C_below (zC HR216_0.out) hb); replace HB := Aside0.mk (below_step zB hb); (try clear hb); (try clear hb2); (try clear hk); (try clear hi); (try clear ho0)))
      repeat (go_quiet (first | (go_at_call 113; (with_reducible refine (loop_back.calls k1 x18_1 _ _ t211 _ _ l1 t218 _ ?side1 ?side2 ?side3 ?side4 A19.out).mono ?_); (case side1 => exact zC ((Kd.N_reads' HO_6.out).2.2)); (case side2 => exact (Kd.N_reads' HO_6.out).2.1); (case side3 => exact zC ((Kd.C_below HR1.out HB.out))); (case side4 => exact HC1.out); rintro e w22 ⟨v219, rfl, ho0, hb⟩; replace HO_5 := Aside0.mk (Kd.N_elder' (zRN HO_5.out) (Kd.R_base ho0) hb); replace HO_6 := Aside0.mk (Kd.N_elder' (zRN HO_6.out) (Kd.R_base ho0) hb); replace HL214_0 := Aside0.mk (Kd.V_elder' (zRV HL214_0.out) (Kd.R_base ho0) hb); replace HL216_0 := Aside0.mk (Kd.V_elder' (zRV HL216_0.out) (Kd.R_base ho0) hb); have HO220 := Aside0.mk (Kd.R_lower ho0 (below_size zB)); replace HR214_0 := Aside0.mk (Kd.C_below (zC HR214_0.out) hb); replace HR216_0 := Aside0.mk (Kd.C_below (zC HR216_0.out) hb); replace HB := Aside0.mk (below_step zB hb); (try clear hb); (try clear hb2); (try clear hk); (try clear hi); (try clear ho0); obtain ⟨Ao23, co23, eo23⟩ := Kd.R_slice HO220.out; subst eo23) | (go_at_call 112; (with_reducible refine (loop_turned.calls k1 (fun k_ => some k_ = (.slice Ao23 t218.length co23 : Value).ownBlock) _ _ t218 t221 _ ?side1 A20.out).mono ?_); (case side1 => exact Kd.R_V (Kd.R_tight rfl (Kd.R_apart' (Kd.R_apart' (HO220.out) (Kd.N_typed HO_5.out) (by decide)) (Kd.N_typed HO_6.out) (by decide)))); rintro e w24 ⟨v222, rfl, ho0, hb⟩; replace HO_5 := Aside0.mk (Kd.N_elder' (zRN HO_5.out) (Kd.R_base ho0) hb); replace HO_6 := Aside0.mk (Kd.N_elder' (zRN HO_6.out) (Kd.R_base ho0) hb); replace HL214_0 := Aside0.mk (Kd.V_elder' (zRV HL214_0.out) (Kd.R_base ho0) hb); replace HL216_0 := Aside0.mk (Kd.V_elder' (zRV HL216_0.out) (Kd.R_base ho0) hb); have HO223 := Aside0.mk (Kd.R_lower (Kd.R_new' (Kd.R_mono (ok' := fun k_ => True) ho0 (fun _ hk_ => trivial)) (Kd.R_lt (zR HO220.out))) (below_size zB)); replace HO220 := Aside0.mk (Kd.R_elder' (zR HO220.out) (Kd.R_base ho0) hb); replace HR214_0 := Aside0.mk (Kd.C_below (zC HR214_0.out) hb); replace HR216_0 := Aside0.mk (Kd.C_below (zC HR216_0.out) hb); replace HB := Aside0.mk (below_step zB hb); (try clear hb); (try clear hb2); (try clear hk); (try clear hi); (try clear ho0))); try go_wp2_with (first | (go_at_call 113; (with_reducible refine (loop_back.calls k1 x18_1 _ _ t211 _ _ l1 t218 _ ?side1 ?side2 ?side3 ?side4 A19.out).mono ?_); (case side1 => exact zC ((Kd.N_reads' HO_6.out).2.2)); (case side2 => exact (Kd.N_reads' HO_6.out).2.1); (case side3 => exact zC ((Kd.C_below HR1.out HB.out))); (case side4 => exact HC1.out); rintro e w22 ⟨v219, rfl, ho0, hb⟩; replace HO_5 := Aside0.mk (Kd.N_elder' (zRN HO_5.out) (Kd.R_base ho0) hb); replace HO_6 := Aside0.mk (Kd.N_elder' (zRN HO_6.out) (Kd.R_base ho0) hb); replace HL214_0 := Aside0.mk (Kd.V_elder' (zRV HL214_0.out) (Kd.R_base ho0) hb); replace HL216_0 := Aside0.mk (Kd.V_elder' (zRV HL216_0.out) (Kd.R_base ho0) hb); have HO220 := Aside0.mk (Kd.R_lower ho0 (below_size zB)); replace HR214_0 := Aside0.mk (Kd.C_below (zC HR214_0.out) hb); replace HR216_0 := Aside0.mk (Kd.C_below (zC HR216_0.out) hb); replace HB := Aside0.mk (below_step zB hb); (try clear hb); (try clear hb2); (try clear hk); (try clear hi); (try clear ho0); obtain ⟨Ao23, co23, eo23⟩ := Kd.R_slice HO220.out; subst eo23) | (go_at_call 112; (with_reducible refine (loop_turned.calls k1 (fun k_ => some k_ = (.slice Ao23 t218.length co23 : Value).ownBlock) _ _ t218 t221 _ ?side1 A20.out).mono ?_); (case side1 => exact Kd.R_V (Kd.R_tight rfl (Kd.R_apart' (Kd.R_apart' (HO220.out) (Kd.N_typed HO_5.out) (by decide)) (Kd.N_typed HO_6.out) (by decide)))); rintro e w24 ⟨v222, rfl, ho0, hb⟩; replace HO_5 := Aside0.mk (Kd.N_elder' (zRN HO_5.out) (Kd.R_base ho0) hb); replace HO_6 := Aside0.mk (Kd.N_elder' (zRN HO_6.out) (Kd.R_base ho0) hb); replace HL214_0 := Aside0.mk (Kd.V_elder' (zRV HL214_0.out) (Kd.R_base ho0) hb); replace HL216_0 := Aside0.mk (Kd.V_elder' (zRV HL216_0.out) (Kd.R_base ho0) hb); have HO223 := Aside0.mk (Kd.R_lower (Kd.R_new' (Kd.R_mono (ok' := fun k_ => True) ho0 (fun _ hk_ => trivial)) (Kd.R_lt (zR HO220.out))) (below_size zB)); replace HO220 := Aside0.mk (Kd.R_elder' (zR HO220.out) (Kd.R_base ho0) hb); replace HR214_0 := Aside0.mk (Kd.C_below (zC HR214_0.out) hb); replace HR216_0 := Aside0.mk (Kd.C_below (zC HR216_0.out) hb); replace HB := Aside0.mk (below_step zB hb); (try clear hb); (try clear hb2); (try clear hk); (try clear hi); (try clear ho0))))
      go_ret
      exact ⟨_, by first | rfl | (simp [errW_none, errW_some] <;> rfl) | (simp only [← hji14]; first | rfl | (simp [errW_none, errW_some] <;> rfl)) | (simp [*, errW_none, errW_some] <;> rfl), zRm HO223.out (fun _ hk => trivial), zB⟩
     ·rw [if_neg c18] at H
      have c18b0 := decide_eq_false c18
      clear c18
      have H' := Aside0.mk H
      clear H
      have p214 : 0 ≤ (a0 : Int) := of_decide_eq_true zA
      have q214 : a0 < (t208.length : Int) := of_decide_eq_true zA
      obtain ⟨ad214, A214_0, c214_0, e214, hx214_0, hl214_0, hi214_0⟩ := at_L8 (Kd.N_reads' HO_5.out).2.2 a0 p214 q214
      cases e214
      obtain ⟨ce214, hce214, hMe214, hcc214⟩ := Kd.N_get HO_5.out [] a0 p214 (by first | exact q214 | exact of_decide_eq_true zA | (have e_ := (Kd.N_reads' HO_5.out).1; omega))
      obtain ⟨ua214_0, uc214_0, rfl, ul214_0, ge214_0⟩ := Kd.FK_slice_open hMe214
      have hv214_0 := hcc214 0 _ rfl
      rw [Nat.add_zero, show ((Kd.slice 2 (Kd.int .i64))).sz = 1 from rfl, Nat.mul_one] at hv214_0
      replace hv214_0 := Option.some.inj (hv214_0.symm.trans hx214_0)
      injection hv214_0 with hva_ hvn_ hvc_
      rw [hva_] at ge214_0
      rw [hvc_] at ul214_0
      have HL214_0 := Aside0.mk (show Kd.V (Kd.int .i64) 2 _ w.heap.size _ _ (rd_L8 t208 a0) from Kd.V_mk ul214_0 ge214_0)
      clear hva_ hvn_ hvc_ ge214_0 ul214_0
      clear hcc214 hce214
      have HR214_0 := Aside0.mk hi214_0
      have HC214_0 := Aside0.mk hl214_0
      clear hi214_0 hl214_0
      replace p214 := eq_true p214
      replace q214 := eq_true q214
      have p215 : 0 ≤ (x18_1 : Int) := of_decide_eq_true zA
      have q215 : x18_1 < ((rd_L8 t208 a0).length : Int) := of_decide_eq_true zA
      obtain ⟨ad215, e215, hx215_0⟩ := Kd.at_int (zC HR214_0.out) x18_1 p215 q215
      cases e215
      replace p215 := eq_true p215
      replace q215 := eq_true q215
      have p216 : 0 ≤ ((ji14) : Int) := of_decide_eq_true zA
      have q216 : (ji14) < (t208.length : Int) := of_decide_eq_true zA
      obtain ⟨ad216, A216_0, c216_0, e216, hx216_0, hl216_0, hi216_0⟩ := at_L8 (Kd.N_reads' HO_5.out).2.2 (ji14) p216 q216
      obtain rfl : ad214 = ad216 := (by injection e216)
      obtain ⟨ce216, hce216, hMe216, hcc216⟩ := Kd.N_get HO_5.out [] (ji14) p216 (by first | exact q216 | exact of_decide_eq_true zA | (have e_ := (Kd.N_reads' HO_5.out).1; omega))
      obtain ⟨ua216_0, uc216_0, rfl, ul216_0, ge216_0⟩ := Kd.FK_slice_open hMe216
      have hv216_0 := hcc216 0 _ rfl
      rw [Nat.add_zero, show ((Kd.slice 2 (Kd.int .i64))).sz = 1 from rfl, Nat.mul_one] at hv216_0
      replace hv216_0 := Option.some.inj (hv216_0.symm.trans hx216_0)
      injection hv216_0 with hva_ hvn_ hvc_
      rw [hva_] at ge216_0
      rw [hvc_] at ul216_0
      have HL216_0 := Aside0.mk (show Kd.V (Kd.int .i64) 2 _ w.heap.size _ _ (rd_L8 t208 (ji14)) from Kd.V_mk ul216_0 ge216_0)
      clear hva_ hvn_ hvc_ ge216_0 ul216_0
      clear hcc216 hce216
      have HR216_0 := Aside0.mk hi216_0
      have HC216_0 := Aside0.mk hl216_0
      clear hi216_0 hl216_0
      replace p216 := eq_true p216
      replace q216 := eq_true q216
      have p217 : 0 ≤ (x18_1 : Int) := of_decide_eq_true zA
      have q217 : x18_1 < ((rd_L8 t208 (ji14)).length : Int) := of_decide_eq_true zA
      obtain ⟨ad217, e217, hx217_0⟩ := Kd.at_int (zC HR216_0.out) x18_1 p217 q217
      cases e217
      replace p217 := eq_true p217
      replace q217 := eq_true q217
      go_wp2
      repeat (go_quiet (fail); try go_wp2)
      go_roundg k1
      case measure => have := HK1.out; omega
      case rel => exact ⟨(wrap64 (x18_1 + 1)), zE, H', ⟨by have := HK1.out; omega⟩, ⟨zRN HO_5.out⟩, ⟨zRN HO_6.out⟩, ⟨zB⟩⟩
    ·rw [if_neg c9] at H
     have c9b0 := decide_eq_false c9
     clear c9
     obtain rfl := Option.some.inj H
     go_wp2
     repeat (go_quiet (fail); try go_wp2)
     go_ret
     exact ⟨_, by first | rfl | (simp [errW_none, errW_some] <;> rfl) | (simp [*, errW_none, errW_some] <;> rfl), zNil, zB⟩
def verdict_rowed_int64.l0 : Nat → List Int → List Int → List (S75) → Int → Int → Option (List Int)
 | 0, _, _, _, _, _ => none
 | k + 1, x1, x5, x9, x10, x11 => if x11 < x10 then (if 0 ≤ x11 then (if x11 < (x9.length : Int) then (if 0 ≤ ((rd_T75 x9 x11).f0) then (if ((rd_T75 x9 x11).f0) < (x1.length : Int) then (if x5.length < 17592186044416 then (verdict_rowed_int64.l0 k x1 (x5 ++ [rd x1 ((rd_T75 x9 x11).f0)]) x9 x10 (wrap64 (x11 + 1))) else (none)) else (none)) else (none)) else (none)) else (none)) else (some x5)
def verdict_rowed_int64.f (k : Nat) (l0_0 : List (S36)) (l0_1 : List ByteArray) (l0_2 : List Int) (l0_3 : List (S75)) (l0_4 : List (S72)) (l1 : List Int) : Option (List Int) := verdict_rowed_int64.l0 k l1 ([] : List Int) l0_3 (l0_3.length : Int) 0
theorem verdict_rowed_int64.mono_l : ∀ k, (∀ y0 y1 y2 y3 y4, LeO (verdict_rowed_int64.l0 k y0 y1 y2 y3 y4) (verdict_rowed_int64.l0 (k + 1) y0 y1 y2 y3 y4))
 | 0 => fun _ _ _ _ _ r h => by simp [verdict_rowed_int64.l0] at h
 | k + 1 => by
  have ih0 := verdict_rowed_int64.mono_l k
  ·intro y0 y1 y2 y3 y4
   unfold verdict_rowed_int64.l0
   exact zM
theorem verdict_rowed_int64.mono : ∀ a0 a1 a2 a3 a4 a5 k, LeO (verdict_rowed_int64.f k a0 a1 a2 a3 a4 a5) (verdict_rowed_int64.f (k + 1) a0 a1 a2 a3 a4 a5) := by
 intro a0 a1 a2 a3 a4 a5 k
 have ih0 := verdict_rowed_int64.mono_l k
 unfold verdict_rowed_int64.f
 exact zM
set_option maxHeartbeats 8000000 in
set_option maxRecDepth 100000 in
theorem verdict_rowed_int64.calls (k : Nat) (A0_0 : Option Addr) (c0_0 : Nat) (l0_0 : List (S36)) (A0_1 : Option Addr) (c0_1 : Nat) (l0_1 : List ByteArray) (A0_2 : Option Addr) (c0_2 : Nat) (l0_2 : List Int) (A0_3 : Option Addr) (c0_3 : Nat) (l0_3 : List (S75)) (A0_4 : Option Addr) (c0_4 : Nat) (l0_4 : List (S72)) (A1 : Option Addr) (c1 : Nat) (l1 : List Int) (r : List Int) (w : World) (hr0_0 : Kd.C k36 w A0_0 l0_0.length l0_0) (hc0_0 : l0_0.length ≤ c0_0) (hr0_1 : Kd.C Kd.string w A0_1 l0_1.length l0_1) (hc0_1 : l0_1.length ≤ c0_1) (hr0_2 : Kd.C (Kd.int .i64) w A0_2 l0_2.length l0_2) (hc0_2 : l0_2.length ≤ c0_2) (hr0_3 : Kd.C k75 w A0_3 l0_3.length l0_3) (hc0_3 : l0_3.length ≤ c0_3) (hr0_4 : Kd.C k72 w A0_4 l0_4.length l0_4) (hc0_4 : l0_4.length ≤ c0_4) (hr1 : Kd.C (Kd.int .i64) w A1 l1.length l1) (hc1 : l1.length ≤ c1) (h : verdict_rowed_int64.f k l0_0 l0_1 l0_2 l0_3 l0_4 l1 = some r) :
  Calls Tryz.prog 67 #[.agg #[.slice A0_0 l0_0.length c0_0, .slice A0_1 l0_1.length c0_1, .slice A0_2 l0_2.length c0_2, .slice A0_3 l0_3.length c0_3, .slice A0_4 l0_4.length c0_4], .slice A1 l1.length c1] w fun e w' => ∃ v0_ : Value, e = .returned (v0_) ∧ Kd.R (Kd.int .i64) 2 w' w.heap.size (fun _ => True) v0_ r ∧ Below w.heap.size w w' := by
 have hu62 := Tryz.underlying62
 have hu75 := Tryz.underlying75
 have HR0_0 := Aside0.mk hr0_0
 have HC0_0 := Aside0.mk hc0_0
 clear hr0_0 hc0_0
 have HR0_1 := Aside0.mk hr0_1
 have HC0_1 := Aside0.mk hc0_1
 clear hr0_1 hc0_1
 have HR0_2 := Aside0.mk hr0_2
 have HC0_2 := Aside0.mk hc0_2
 clear hr0_2 hc0_2
 have HR0_3 := Aside0.mk hr0_3
 have HC0_3 := Aside0.mk hc0_3
 clear hr0_3 hc0_3
 have HR0_4 := Aside0.mk hr0_4
 have HC0_4 := Aside0.mk hc0_4
 clear hr0_4 hc0_4
 have HR1 := Aside0.mk hr1
 have HC1 := Aside0.mk hc1
 clear hr1 hc1
 have HB := Aside0.mk (Below.refl w.heap.size w)
 have H : (verdict_rowed_int64.l0 k l1 ([] : List Int) l0_3 (l0_3.length : Int) 0) = some r := h
 clear h
 have H' := Aside0.mk H
 clear H
 go_enter Tryz.func67, Tryz.ntmps67
 go_wp2_with (first | ((with_reducible refine gate_dst (N := 2) rfl ?_); refine zbox (N := 2) (cs := #[.slice A0_0 l0_0.length c0_0, .slice A0_1 l0_1.length c0_1, .slice A0_2 l0_2.length c0_2, .slice A0_3 l0_3.length c0_3, .slice A0_4 l0_4.length c0_4]) (t := 62) ?_; intro gb224 hg w3 hbox hb; have BK224 := Aside0.mk (hbox); have GW224 := Aside0.mk ((by rw [hg]; exact (below_size zB) : w.heap.size ≤ gb224)); have GE224 := Aside0.mk ((by rw [hg]; exact (below_size zB) : w.heap.size ≤ gb224)); replace HB := Aside0.mk (below_step zB hb); clear hb hbox hg; obtain ⟨hcz4_0, hcz4_1, hcz4_2, hcz4_3, hcz4_4, hfz4_0, hfz4_1, hfz4_2, hfz4_3, hfz4_4⟩ := zb5 BK224.out))
 go_loopg [5, 11] k (fun kq v5 v11 w' => ∃ (x5_1 : List Int) (x11_1 : Int), v11 = .int .i64 x11_1 ∧ Aside0 (verdict_rowed_int64.l0 kq l1 x5_1 l0_3 (l0_3.length : Int) x11_1 = some r) ∧ Aside0 (kq ≤ k) ∧ Aside0 (Kd.R (Kd.int .i64) 2 w' w.heap.size (fun _ => True) v5 x5_1) ∧ Aside0 (w'.heap[gb224]? = some (.cells #[(.slice A0_0 l0_0.length c0_0), (.slice A0_1 l0_1.length c0_1), (.slice A0_2 l0_2.length c0_2), (.slice A0_3 l0_3.length c0_3), (.slice A0_4 l0_4.length c0_4)] 62 (0, 0))) ∧ Aside0 (Below w.heap.size w w'))
 case atStart => exact ⟨(([] : List Int)), (0), zE, H', ⟨Nat.le_refl _⟩, ⟨zNil⟩, ⟨zK BK224.out⟩, ⟨zG GE224.out⟩⟩
 case round =>
  clear H'
  (try clear c1); (try clear p2); (try clear hcz4_0 hcz4_1 hcz4_2 hcz4_3 hcz4_4); (try clear hfz4_0 hfz4_1 hfz4_2 hfz4_3 hfz4_4)
  obtain ⟨x5_1, x11_1, rfl, HA, HK1, HO_5, BK224, HB⟩ := hrel
  cases gk with
  | zero => exact absurd HA.out (by simp [verdict_rowed_int64.l0])
  | succ k1 =>
   have H := HA.out
   clear HA
   simp only [verdict_rowed_int64.l0] at H
   by_cases c5 : x11_1 < (l0_3.length : Int)
   ·rw [if_pos c5] at H
    have c5b0 := decide_eq_true c5
    clear c5
    obtain ⟨c6b0, H⟩ := zt H
    obtain ⟨c7b0, H⟩ := zt H
    obtain ⟨c8b0, H⟩ := zt H
    obtain ⟨c9b0, H⟩ := zt H
    obtain ⟨c10, H⟩ := zj H
    have LMc10 := Aside0.mk c10
    clear c10
    obtain ⟨y228, hy228⟩ : ∃ y_ : List Int, y_ = (x5_1 ++ [rd l1 ((rd_T75 l0_3 x11_1).f0)]) := ⟨_, rfl⟩
    first | (replace H := zo H hy228) | rw [← hy228] at H
    have Ny228 := Aside0.mk hy228
    clear hy228
    have H' := Aside0.mk H
    clear H
    have p225 : 0 ≤ (x11_1 : Int) := of_decide_eq_true zA
    have q225 : x11_1 < (l0_3.length : Int) := of_decide_eq_true zA
    obtain ⟨ad225, e225, hx225⟩ := at_T75 HR0_3.out x11_1 p225 q225
    cases e225
    obtain ⟨hx225_0, hx225_1, hx225_2⟩ := zc3 HB.out hx225
    replace p225 := eq_true p225
    replace q225 := eq_true q225
    go_wp2_with (first | ((with_reducible refine gate_dst (N := 7) rfl ?_); refine zbox (N := 7) (cs := #[.int .i64 0, .int .i64 0, .int .i64 0]) (t := 75) ?_; intro gb226 hg w11 hbox hb; replace HO_5 := Aside0.mk (Kd.R_below (zR HO_5.out) hb); have BK226 := Aside0.mk (hbox); have GW226 := Aside0.mk ((by rw [hg]; exact (below_size (zG GE224.out)) : w.heap.size ≤ gb226)); have GE226 := Aside0.mk ((by rw [hg]; exact (below_size (zG GE224.out)) : w.heap.size ≤ gb226)); replace HB := Aside0.mk (below_step (zG GE224.out) hb); have NB224_226 := Aside0.mk ((by rw [hg]; exact Nat.ne_of_lt (zKl BK224.out) : gb224 ≠ gb226)); have NB226_224 := Aside0.mk ((by rw [hg]; exact Nat.ne_of_gt (zKl BK224.out) : gb226 ≠ gb224)); replace BK224 := Aside0.mk (zKb BK224.out hb); clear hb hbox hg; have hnb12 := NB226_224.out; have hnc12 := NB224_226.out; obtain ⟨hcz13_0, hcz13_1, hcz13_2, hfz13_0, hfz13_1, hfz13_2⟩ := zb3 BK226.out; have p227 : 0 ≤ (((rd_T75 l0_3 x11_1).f0) : Int) := of_decide_eq_true zA; have q227 : ((rd_T75 l0_3 x11_1).f0) < (l1.length : Int) := of_decide_eq_true zA; obtain ⟨ad227, e227, hx227_0⟩ := Kd.at_int HR1.out ((rd_T75 l0_3 x11_1).f0) p227 q227; cases e227; have hn227_0 : ad227.block ≠ gb226 := Nat.ne_of_lt (Nat.lt_of_lt_of_le (by have := World.block_lt_of_cell? _ _ hx227_0; first | rwa [add_block] at this | exact this) GW226.out); have hn227_1 : ad227.block ≠ gb226 := Nat.ne_of_lt (Nat.lt_of_lt_of_le (by have := World.block_lt_of_cell? _ _ hx227_0; first | rwa [add_block] at this | exact this) GW226.out); have hn227_2 : ad227.block ≠ gb226 := Nat.ne_of_lt (Nat.lt_of_lt_of_le (by have := World.block_lt_of_cell? _ _ hx227_0; first | rwa [add_block] at this | exact this) GW226.out); replace hx227_0 := zc HB.out hx227_0; replace hx227_0 := (cell_far (p := ⟨gb226, 0, none⟩) (zN hn227_0) (.int .i64 ((rd_T75 l0_3 x11_1).f0))).trans hx227_0; replace hx227_0 := (cell_far (p := ⟨gb226, 1, none⟩) (zN hn227_1) (.int .i64 ((rd_T75 l0_3 x11_1).f1))).trans hx227_0; replace hx227_0 := (cell_far (p := ⟨gb226, 2, none⟩) (zN hn227_2) (.int .i64 ((rd_T75 l0_3 x11_1).f2))).trans hx227_0; clear hn227_0; clear hn227_1; clear hn227_2; replace p227 := eq_true p227; replace q227 := eq_true q227) | ((with_reducible refine gate_builtin (b := .append) (xs := #[.tmp 15, .tmp 21]) rfl ?_); at_builtin; refine Kd.R_append (Kd.int .i64) (w0 := w) w.heap.size rfl (.tmp 15) (.tmp 21) 27 2 (.int .i64 0) 8 rfl Tryz.underlying27 info2 rfl (by decide) (by omega) u5 x5_1 (rd l1 ((rd_T75 l0_3 x11_1).f0)) [.int .i64 (rd l1 ((rd_T75 l0_3 x11_1).f0))] (fun _ => True) (fun _ => False) rfl (by first | (go_simp; done) | (go_simp; rfl)) ?aP (fun _ hk => hk.elim) ?aF ?aO ?aB ?aS ?aL ?_; (case aP => exact rfl); (case aB => exact (zG2 GE224.out GE226.out)); (case aF => exact (fun _ _ => trivial)); (case aO => exact (Kd.R_mono (zW HO_5.out BK226.out) (fun _ hk => trivial))); (case aS => exact (below_size (zG2 GE224.out GE226.out))); (case aL => have := LMc10.out; omega); intro v229 w14 ho hb hg hat; rw [← Ny228.out] at ho; replace BK224 := Aside0.mk (blk_grown (g := gb224) (o := .cells #[.slice A0_0 l0_0.length c0_0, .slice A0_1 l0_1.length c0_1, .slice A0_2 l0_2.length c0_2, .slice (some ad225) l0_3.length c0_3, .slice A0_4 l0_4.length c0_4] 62 (0, 0)) (zF NB224_226.out BK224.out) hg (Kd.R_ne HO_5.out BK224.out (by decide))); replace BK226 := Aside0.mk (blk_grown (g := gb226) (o := .cells #[.int .i64 ((rd_T75 l0_3 x11_1).f0), .int .i64 ((rd_T75 l0_3 x11_1).f1), .int .i64 ((rd_T75 l0_3 x11_1).f2)] 75 (0, 0)) (zP BK226.out) hg (Kd.R_ne HO_5.out BK226.out (by decide))); replace HB := Aside0.mk (hb); have HO230 := Aside0.mk (ho); clear HO_5; clear ho hb hg hat))
    go_roundg k1
    case measure => have := HK1.out; omega
    case rel => exact ⟨(y228), (wrap64 (x11_1 + 1)), zE, H', ⟨by have := HK1.out; omega⟩, ⟨zR HO230.out⟩, ⟨zK BK224.out⟩, ⟨zG2 GE224.out GE226.out⟩⟩
   ·rw [if_neg c5] at H
    have c5b0 := decide_eq_false c5
    clear c5
    obtain rfl := Option.some.inj H
    go_wp2
    go_ret
    exact ⟨_, by first | rfl | (simp [errW_none, errW_some] <;> rfl) | (simp [*, errW_none, errW_some] <;> rfl), zR HO_5.out, zG GE224.out⟩
def api_Span_66.l0 : Nat → List (S36) → List (S36) → List (S75) → Int → Int → Option ((List (S36)))
 | 0, _, _, _, _, _ => none
 | k + 1, x1, x5, x9, x10, x11 => if x11 < x10 then (if 0 ≤ x11 then (if x11 < (x9.length : Int) then (if 0 ≤ ((rd_T75 x9 x11).f0) then (if ((rd_T75 x9 x11).f0) < (x1.length : Int) then (if x5.length < 1759218604441 then (api_Span_66.l0 k x1 (x5 ++ [(⟨(rd_T36 x1 ((rd_T75 x9 x11).f0)).f0, (rd_T36 x1 ((rd_T75 x9 x11).f0)).f1, (rd_T36 x1 ((rd_T75 x9 x11).f0)).f2, (rd_T36 x1 ((rd_T75 x9 x11).f0)).f3, (rd_T36 x1 ((rd_T75 x9 x11).f0)).f4, (rd_T36 x1 ((rd_T75 x9 x11).f0)).f5, (rd_T36 x1 ((rd_T75 x9 x11).f0)).f6, (rd_T36 x1 ((rd_T75 x9 x11).f0)).f7⟩ : S36)]) x9 x10 (wrap64 (x11 + 1))) else (none)) else (none)) else (none)) else (none)) else (none)) else (some x5)
def api_Span_66.f (k : Nat) (l0_0 : List (S36)) (l0_1 : List ByteArray) (l0_2 : List Int) (l0_3 : List (S75)) (l0_4 : List (S72)) (l1 : List (S36)) : Option ((List (S36))) := api_Span_66.l0 k l1 ([] : List (S36)) l0_3 (l0_3.length : Int) 0
theorem api_Span_66.mono_l : ∀ k, (∀ y0 y1 y2 y3 y4, LeO (api_Span_66.l0 k y0 y1 y2 y3 y4) (api_Span_66.l0 (k + 1) y0 y1 y2 y3 y4))
 | 0 => fun _ _ _ _ _ r h => by simp [api_Span_66.l0] at h
 | k + 1 => by
  have ih0 := api_Span_66.mono_l k
  ·intro y0 y1 y2 y3 y4
   unfold api_Span_66.l0
   exact zM
theorem api_Span_66.mono : ∀ a0 a1 a2 a3 a4 a5 k, LeO (api_Span_66.f k a0 a1 a2 a3 a4 a5) (api_Span_66.f (k + 1) a0 a1 a2 a3 a4 a5) := by
 intro a0 a1 a2 a3 a4 a5 k
 have ih0 := api_Span_66.mono_l k
 unfold api_Span_66.f
 exact zM
set_option maxHeartbeats 8000000 in
set_option maxRecDepth 100000 in
theorem api_Span_66.calls (k : Nat) (A0_0 : Option Addr) (c0_0 : Nat) (l0_0 : List (S36)) (A0_1 : Option Addr) (c0_1 : Nat) (l0_1 : List ByteArray) (A0_2 : Option Addr) (c0_2 : Nat) (l0_2 : List Int) (A0_3 : Option Addr) (c0_3 : Nat) (l0_3 : List (S75)) (A0_4 : Option Addr) (c0_4 : Nat) (l0_4 : List (S72)) (A1 : Option Addr) (c1 : Nat) (l1 : List (S36)) (r : List (S36)) (w : World) (hr0_0 : Kd.C k36 w A0_0 l0_0.length l0_0) (hc0_0 : l0_0.length ≤ c0_0) (hr0_1 : Kd.C Kd.string w A0_1 l0_1.length l0_1) (hc0_1 : l0_1.length ≤ c0_1) (hr0_2 : Kd.C (Kd.int .i64) w A0_2 l0_2.length l0_2) (hc0_2 : l0_2.length ≤ c0_2) (hr0_3 : Kd.C k75 w A0_3 l0_3.length l0_3) (hc0_3 : l0_3.length ≤ c0_3) (hr0_4 : Kd.C k72 w A0_4 l0_4.length l0_4) (hc0_4 : l0_4.length ≤ c0_4) (hr1 : Kd.C k36 w A1 l1.length l1) (hc1 : l1.length ≤ c1) (h : api_Span_66.f k l0_0 l0_1 l0_2 l0_3 l0_4 l1 = some r) :
  Calls Tryz.prog 66 #[.agg #[.slice A0_0 l0_0.length c0_0, .slice A0_1 l0_1.length c0_1, .slice A0_2 l0_2.length c0_2, .slice A0_3 l0_3.length c0_3, .slice A0_4 l0_4.length c0_4], .slice A1 l1.length c1] w fun e w' => ∃ v0_ : Value, e = .returned (v0_) ∧ Kd.R k36 36 w' w.heap.size (fun _ => True) v0_ r ∧ Below w.heap.size w w' := by
 have hu62 := Tryz.underlying62
 have hu75 := Tryz.underlying75
 have hu36 := Tryz.underlying36
 have HR0_0 := Aside0.mk hr0_0
 have HC0_0 := Aside0.mk hc0_0
 clear hr0_0 hc0_0
 have HR0_1 := Aside0.mk hr0_1
 have HC0_1 := Aside0.mk hc0_1
 clear hr0_1 hc0_1
 have HR0_2 := Aside0.mk hr0_2
 have HC0_2 := Aside0.mk hc0_2
 clear hr0_2 hc0_2
 have HR0_3 := Aside0.mk hr0_3
 have HC0_3 := Aside0.mk hc0_3
 clear hr0_3 hc0_3
 have HR0_4 := Aside0.mk hr0_4
 have HC0_4 := Aside0.mk hc0_4
 clear hr0_4 hc0_4
 have HR1 := Aside0.mk hr1
 have HC1 := Aside0.mk hc1
 clear hr1 hc1
 have HB := Aside0.mk (Below.refl w.heap.size w)
 have H : (api_Span_66.l0 k l1 ([] : List (S36)) l0_3 (l0_3.length : Int) 0) = some r := h
 clear h
 have H' := Aside0.mk H
 clear H
 go_enter Tryz.func66, Tryz.ntmps66
 go_wp2_with (first | ((with_reducible refine gate_dst (N := 2) rfl ?_); refine zbox (N := 2) (cs := #[.slice A0_0 l0_0.length c0_0, .slice A0_1 l0_1.length c0_1, .slice A0_2 l0_2.length c0_2, .slice A0_3 l0_3.length c0_3, .slice A0_4 l0_4.length c0_4]) (t := 62) ?_; intro gb231 hg w3 hbox hb; have BK231 := Aside0.mk (hbox); have GW231 := Aside0.mk ((by rw [hg]; exact (below_size zB) : w.heap.size ≤ gb231)); have GE231 := Aside0.mk ((by rw [hg]; exact (below_size zB) : w.heap.size ≤ gb231)); replace HB := Aside0.mk (below_step zB hb); clear hb hbox hg; obtain ⟨hcz4_0, hcz4_1, hcz4_2, hcz4_3, hcz4_4, hfz4_0, hfz4_1, hfz4_2, hfz4_3, hfz4_4⟩ := zb5 BK231.out))
 go_loopg [5, 11] k (fun kq v5 v11 w' => ∃ (x5_1 : List (S36)) (x11_1 : Int), v11 = .int .i64 x11_1 ∧ Aside0 (api_Span_66.l0 kq l1 x5_1 l0_3 (l0_3.length : Int) x11_1 = some r) ∧ Aside0 (kq ≤ k) ∧ Aside0 (Kd.R k36 36 w' w.heap.size (fun _ => True) v5 x5_1) ∧ Aside0 (w'.heap[gb231]? = some (.cells #[(.slice A0_0 l0_0.length c0_0), (.slice A0_1 l0_1.length c0_1), (.slice A0_2 l0_2.length c0_2), (.slice A0_3 l0_3.length c0_3), (.slice A0_4 l0_4.length c0_4)] 62 (0, 0))) ∧ Aside0 (Below w.heap.size w w'))
 case atStart => exact ⟨(([] : List (S36))), (0), zE, H', ⟨Nat.le_refl _⟩, ⟨zNil⟩, ⟨zK BK231.out⟩, ⟨zG GE231.out⟩⟩
 case round =>
  clear H'
  (try clear c1); (try clear p2); (try clear hcz4_0 hcz4_1 hcz4_2 hcz4_3 hcz4_4); (try clear hfz4_0 hfz4_1 hfz4_2 hfz4_3 hfz4_4)
  obtain ⟨x5_1, x11_1, rfl, HA, HK1, HO_5, BK231, HB⟩ := hrel
  cases gk with
  | zero => exact absurd HA.out (by simp [api_Span_66.l0])
  | succ k1 =>
   have H := HA.out
   clear HA
   simp only [api_Span_66.l0] at H
   by_cases c5 : x11_1 < (l0_3.length : Int)
   ·rw [if_pos c5] at H
    have c5b0 := decide_eq_true c5
    clear c5
    obtain ⟨c6b0, H⟩ := zt H
    obtain ⟨c7b0, H⟩ := zt H
    obtain ⟨c8b0, H⟩ := zt H
    obtain ⟨c9b0, H⟩ := zt H
    obtain ⟨c10, H⟩ := zj H
    have LMc10 := Aside0.mk c10
    clear c10
    obtain ⟨y235, hy235⟩ : ∃ y_ : List (S36), y_ = (x5_1 ++ [(⟨(rd_T36 l1 ((rd_T75 l0_3 x11_1).f0)).f0, (rd_T36 l1 ((rd_T75 l0_3 x11_1).f0)).f1, (rd_T36 l1 ((rd_T75 l0_3 x11_1).f0)).f2, (rd_T36 l1 ((rd_T75 l0_3 x11_1).f0)).f3, (rd_T36 l1 ((rd_T75 l0_3 x11_1).f0)).f4, (rd_T36 l1 ((rd_T75 l0_3 x11_1).f0)).f5, (rd_T36 l1 ((rd_T75 l0_3 x11_1).f0)).f6, (rd_T36 l1 ((rd_T75 l0_3 x11_1).f0)).f7⟩ : S36)]) := ⟨_, rfl⟩
    first | (replace H := zo H hy235) | rw [← hy235] at H
    have Ny235 := Aside0.mk hy235
    clear hy235
    have H' := Aside0.mk H
    clear H
    have p232 : 0 ≤ (x11_1 : Int) := of_decide_eq_true zA
    have q232 : x11_1 < (l0_3.length : Int) := of_decide_eq_true zA
    obtain ⟨ad232, e232, hx232⟩ := at_T75 HR0_3.out x11_1 p232 q232
    cases e232
    obtain ⟨hx232_0, hx232_1, hx232_2⟩ := zc3 HB.out hx232
    replace p232 := eq_true p232
    replace q232 := eq_true q232
    go_wp2_with (first | ((with_reducible refine gate_dst (N := 7) rfl ?_); refine zbox (N := 7) (cs := #[.int .i64 0, .int .i64 0, .int .i64 0]) (t := 75) ?_; intro gb233 hg w11 hbox hb; replace HO_5 := Aside0.mk (Kd.R_below (zR HO_5.out) hb); have BK233 := Aside0.mk (hbox); have GW233 := Aside0.mk ((by rw [hg]; exact (below_size (zG GE231.out)) : w.heap.size ≤ gb233)); have GE233 := Aside0.mk ((by rw [hg]; exact (below_size (zG GE231.out)) : w.heap.size ≤ gb233)); replace HB := Aside0.mk (below_step (zG GE231.out) hb); have NB231_233 := Aside0.mk ((by rw [hg]; exact Nat.ne_of_lt (zKl BK231.out) : gb231 ≠ gb233)); have NB233_231 := Aside0.mk ((by rw [hg]; exact Nat.ne_of_gt (zKl BK231.out) : gb233 ≠ gb231)); replace BK231 := Aside0.mk (zKb BK231.out hb); clear hb hbox hg; have hnb12 := NB233_231.out; have hnc12 := NB231_233.out; obtain ⟨hcz13_0, hcz13_1, hcz13_2, hfz13_0, hfz13_1, hfz13_2⟩ := zb3 BK233.out; have p234 : 0 ≤ (((rd_T75 l0_3 x11_1).f0) : Int) := of_decide_eq_true zA; have q234 : ((rd_T75 l0_3 x11_1).f0) < (l1.length : Int) := of_decide_eq_true zA; obtain ⟨ad234, e234, hx234_0, hx234_1, hx234_2, hx234_3, hx234_4, hx234_5, hx234_6, hx234_7⟩ := at_T36 HR1.out ((rd_T75 l0_3 x11_1).f0) p234 q234; cases e234; have hn234_0 : ad234.block ≠ gb233 := Nat.ne_of_lt (Nat.lt_of_lt_of_le (by have := World.block_lt_of_cell? _ _ hx234_0; first | rwa [add_block] at this | exact this) GW233.out); have hn234_1 : ad234.block ≠ gb233 := Nat.ne_of_lt (Nat.lt_of_lt_of_le (by have := World.block_lt_of_cell? _ _ hx234_0; first | rwa [add_block] at this | exact this) GW233.out); have hn234_2 : ad234.block ≠ gb233 := Nat.ne_of_lt (Nat.lt_of_lt_of_le (by have := World.block_lt_of_cell? _ _ hx234_0; first | rwa [add_block] at this | exact this) GW233.out); replace hx234_0 := zc HB.out hx234_0; replace hx234_1 := zc HB.out hx234_1; replace hx234_2 := zc HB.out hx234_2; replace hx234_3 := zc HB.out hx234_3; replace hx234_4 := zc HB.out hx234_4; replace hx234_5 := zc HB.out hx234_5; replace hx234_6 := zc HB.out hx234_6; replace hx234_7 := zc HB.out hx234_7; replace hx234_0 := (cell_far (p := ⟨gb233, 0, none⟩) (zN hn234_0) (.int .i64 ((rd_T75 l0_3 x11_1).f0))).trans hx234_0; replace hx234_1 := (cell_far (p := ⟨gb233, 0, none⟩) (zN hn234_0) (.int .i64 ((rd_T75 l0_3 x11_1).f0))).trans hx234_1; replace hx234_2 := (cell_far (p := ⟨gb233, 0, none⟩) (zN hn234_0) (.int .i64 ((rd_T75 l0_3 x11_1).f0))).trans hx234_2; replace hx234_3 := (cell_far (p := ⟨gb233, 0, none⟩) (zN hn234_0) (.int .i64 ((rd_T75 l0_3 x11_1).f0))).trans hx234_3; replace hx234_4 := (cell_far (p := ⟨gb233, 0, none⟩) (zN hn234_0) (.int .i64 ((rd_T75 l0_3 x11_1).f0))).trans hx234_4; replace hx234_5 := (cell_far (p := ⟨gb233, 0, none⟩) (zN hn234_0) (.int .i64 ((rd_T75 l0_3 x11_1).f0))).trans hx234_5; replace hx234_6 := (cell_far (p := ⟨gb233, 0, none⟩) (zN hn234_0) (.int .i64 ((rd_T75 l0_3 x11_1).f0))).trans hx234_6; replace hx234_7 := (cell_far (p := ⟨gb233, 0, none⟩) (zN hn234_0) (.int .i64 ((rd_T75 l0_3 x11_1).f0))).trans hx234_7; replace hx234_0 := (cell_far (p := ⟨gb233, 1, none⟩) (zN hn234_1) (.int .i64 ((rd_T75 l0_3 x11_1).f1))).trans hx234_0; replace hx234_1 := (cell_far (p := ⟨gb233, 1, none⟩) (zN hn234_1) (.int .i64 ((rd_T75 l0_3 x11_1).f1))).trans hx234_1; replace hx234_2 := (cell_far (p := ⟨gb233, 1, none⟩) (zN hn234_1) (.int .i64 ((rd_T75 l0_3 x11_1).f1))).trans hx234_2; replace hx234_3 := (cell_far (p := ⟨gb233, 1, none⟩) (zN hn234_1) (.int .i64 ((rd_T75 l0_3 x11_1).f1))).trans hx234_3; replace hx234_4 := (cell_far (p := ⟨gb233, 1, none⟩) (zN hn234_1) (.int .i64 ((rd_T75 l0_3 x11_1).f1))).trans hx234_4; replace hx234_5 := (cell_far (p := ⟨gb233, 1, none⟩) (zN hn234_1) (.int .i64 ((rd_T75 l0_3 x11_1).f1))).trans hx234_5; replace hx234_6 := (cell_far (p := ⟨gb233, 1, none⟩) (zN hn234_1) (.int .i64 ((rd_T75 l0_3 x11_1).f1))).trans hx234_6; replace hx234_7 := (cell_far (p := ⟨gb233, 1, none⟩) (zN hn234_1) (.int .i64 ((rd_T75 l0_3 x11_1).f1))).trans hx234_7; replace hx234_0 := (cell_far (p := ⟨gb233, 2, none⟩) (zN hn234_2) (.int .i64 ((rd_T75 l0_3 x11_1).f2))).trans hx234_0; replace hx234_1 := (cell_far (p := ⟨gb233, 2, none⟩) (zN hn234_2) (.int .i64 ((rd_T75 l0_3 x11_1).f2))).trans hx234_1; replace hx234_2 := (cell_far (p := ⟨gb233, 2, none⟩) (zN hn234_2) (.int .i64 ((rd_T75 l0_3 x11_1).f2))).trans hx234_2; replace hx234_3 := (cell_far (p := ⟨gb233, 2, none⟩) (zN hn234_2) (.int .i64 ((rd_T75 l0_3 x11_1).f2))).trans hx234_3; replace hx234_4 := (cell_far (p := ⟨gb233, 2, none⟩) (zN hn234_2) (.int .i64 ((rd_T75 l0_3 x11_1).f2))).trans hx234_4; replace hx234_5 := (cell_far (p := ⟨gb233, 2, none⟩) (zN hn234_2) (.int .i64 ((rd_T75 l0_3 x11_1).f2))).trans hx234_5; replace hx234_6 := (cell_far (p := ⟨gb233, 2, none⟩) (zN hn234_2) (.int .i64 ((rd_T75 l0_3 x11_1).f2))).trans hx234_6; replace hx234_7 := (cell_far (p := ⟨gb233, 2, none⟩) (zN hn234_2) (.int .i64 ((rd_T75 l0_3 x11_1).f2))).trans hx234_7; clear hn234_0; clear hn234_1; clear hn234_2; replace p234 := eq_true p234; replace q234 := eq_true q234) | ((with_reducible refine gate_builtin (b := .append) (xs := #[.tmp 15, .tmp 21]) rfl ?_); at_builtin; refine Kd.R_append k36 (w0 := w) w.heap.size rfl (.tmp 15) (.tmp 21) 22 36 (.agg #[(.int .u64 0), (.int .u64 0), (.int .u64 0), (.int .u8 0), (.string ⟨#[]⟩), (.string ⟨#[]⟩), (.int .i64 0), (.int .i64 0)]) 80 rfl Tryz.underlying22 info36 rfl (by decide) (by omega) u5 x5_1 (⟨(rd_T36 l1 ((rd_T75 l0_3 x11_1).f0)).f0, (rd_T36 l1 ((rd_T75 l0_3 x11_1).f0)).f1, (rd_T36 l1 ((rd_T75 l0_3 x11_1).f0)).f2, (rd_T36 l1 ((rd_T75 l0_3 x11_1).f0)).f3, (rd_T36 l1 ((rd_T75 l0_3 x11_1).f0)).f4, (rd_T36 l1 ((rd_T75 l0_3 x11_1).f0)).f5, (rd_T36 l1 ((rd_T75 l0_3 x11_1).f0)).f6, (rd_T36 l1 ((rd_T75 l0_3 x11_1).f0)).f7⟩ : S36) [.int .u64 ((rd_T36 l1 ((rd_T75 l0_3 x11_1).f0)).f0), .int .u64 ((rd_T36 l1 ((rd_T75 l0_3 x11_1).f0)).f1), .int .u64 ((rd_T36 l1 ((rd_T75 l0_3 x11_1).f0)).f2), .int .u8 ((rd_T36 l1 ((rd_T75 l0_3 x11_1).f0)).f3), .string ((rd_T36 l1 ((rd_T75 l0_3 x11_1).f0)).f4), .string ((rd_T36 l1 ((rd_T75 l0_3 x11_1).f0)).f5), .int .i64 ((rd_T36 l1 ((rd_T75 l0_3 x11_1).f0)).f6), .int .i64 ((rd_T36 l1 ((rd_T75 l0_3 x11_1).f0)).f7)] (fun _ => True) (fun _ => False) rfl (by first | (go_simp; done) | (go_simp; rfl)) ?aP (fun _ hk => hk.elim) ?aF ?aO ?aB ?aS ?aL ?_; (case aP => exact k36_mkM _ _ _ (⟨(rd_T36 l1 ((rd_T75 l0_3 x11_1).f0)).f0, (rd_T36 l1 ((rd_T75 l0_3 x11_1).f0)).f1, (rd_T36 l1 ((rd_T75 l0_3 x11_1).f0)).f2, (rd_T36 l1 ((rd_T75 l0_3 x11_1).f0)).f3, (rd_T36 l1 ((rd_T75 l0_3 x11_1).f0)).f4, (rd_T36 l1 ((rd_T75 l0_3 x11_1).f0)).f5, (rd_T36 l1 ((rd_T75 l0_3 x11_1).f0)).f6, (rd_T36 l1 ((rd_T75 l0_3 x11_1).f0)).f7⟩ : S36)); (case aB => exact (zG2 GE231.out GE233.out)); (case aF => exact (fun _ _ => trivial)); (case aO => exact (Kd.R_mono (zW HO_5.out BK233.out) (fun _ hk => trivial))); (case aS => exact (below_size (zG2 GE231.out GE233.out))); (case aL => have := LMc10.out; omega); intro v236 w14 ho hb hg hat; rw [← Ny235.out] at ho; replace BK231 := Aside0.mk (blk_grown (g := gb231) (o := .cells #[.slice A0_0 l0_0.length c0_0, .slice A0_1 l0_1.length c0_1, .slice A0_2 l0_2.length c0_2, .slice (some ad232) l0_3.length c0_3, .slice A0_4 l0_4.length c0_4] 62 (0, 0)) (zF NB231_233.out BK231.out) hg (Kd.R_ne HO_5.out BK231.out (by decide))); replace BK233 := Aside0.mk (blk_grown (g := gb233) (o := .cells #[.int .i64 ((rd_T75 l0_3 x11_1).f0), .int .i64 ((rd_T75 l0_3 x11_1).f1), .int .i64 ((rd_T75 l0_3 x11_1).f2)] 75 (0, 0)) (zP BK233.out) hg (Kd.R_ne HO_5.out BK233.out (by decide))); replace HB := Aside0.mk (hb); have HO237 := Aside0.mk (ho); clear HO_5; clear ho hb hg hat))
    go_roundg k1
    case measure => have := HK1.out; omega
    case rel => exact ⟨(y235), (wrap64 (x11_1 + 1)), zE, H', ⟨by have := HK1.out; omega⟩, ⟨zR HO237.out⟩, ⟨zK BK231.out⟩, ⟨zG2 GE231.out GE233.out⟩⟩
   ·rw [if_neg c5] at H
    have c5b0 := decide_eq_false c5
    clear c5
    obtain rfl := Option.some.inj H
    go_wp2
    go_ret
    exact ⟨_, by first | rfl | (simp [errW_none, errW_some] <;> rfl) | (simp [*, errW_none, errW_some] <;> rfl), zR HO_5.out, zG GE231.out⟩
def dedupe_Hosts.f (l0 : List S36) : Option (List ByteArray) := if l0.length ≤ 1759218604441 then some (L.hostsB l0) else none
theorem dedupe_Hosts.calls (A0 : Option Addr) (c0 : Nat) (l0 : List (S36)) (r : List ByteArray) (w : World) (hr0 : Kd.C k36 w A0 l0.length l0) (hc0 : l0.length ≤ c0) (h : dedupe_Hosts.f l0 = some r) :
  Calls Tryz.prog 59 #[.slice A0 l0.length c0] w fun e w' => ∃ v0_ : Value, e = .returned (v0_) ∧ Kd.R Kd.string 9 w' w.heap.size (fun _ => True) v0_ r ∧ Below w.heap.size w w' := by
 unfold dedupe_Hosts.f at h
 split at h
 ·rename_i hl
  obtain rfl := Option.some.inj h
  exact L.hosts_calls l0 hl A0 c0 w hr0 hc0
 ·exact absurd h (by simp)
def parent_Of.f (l0 : List S36) : Option (List Int) := if l0.length ≤ 1000000 ∧ (∀ x ∈ l0, L.fitP x) then some (L.parL l0) else none
theorem parent_Of.calls (A0 : Option Addr) (c0 : Nat) (l0 : List (S36)) (r : List Int) (w : World) (hr0 : Kd.C k36 w A0 l0.length l0) (hc0 : l0.length ≤ c0) (h : parent_Of.f l0 = some r) :
  Calls Tryz.prog 60 #[.slice A0 l0.length c0] w fun e w' => ∃ v0_ : Value, e = .returned (v0_) ∧ Kd.R (Kd.int .i64) 3 w' w.heap.size (fun _ => True) v0_ r ∧ Below w.heap.size w w' := by
 unfold parent_Of.f at h
 split at h
 ·rename_i hl
  obtain rfl := Option.some.inj h
  exact L.parents_calls l0 hl.1 hl.2 A0 c0 w hr0
 ·exact absurd h (by simp)
def bound_Of.f (l0 : List S36) (l1 : List S57) : Option (List S72) := if l0.length ≤ 1759218604441 ∧ (∀ x ∈ l0, L.fitS x) ∧ l1.length ≤ 100000000 then some (L.edgesB L.mayS l0 (L.numsL l0) l1) else none
theorem bound_Of.calls (A0 : Option Addr) (c0 : Nat) (l0 : List (S36)) (A1 : Option Addr) (c1 : Nat) (l1 : List (S57)) (r : List (S72)) (w : World) (hr0 : Kd.C k36 w A0 l0.length l0) (hc0 : l0.length ≤ c0) (hr1 : Kd.C k57 w A1 l1.length l1) (hc1 : l1.length ≤ c1) (h : bound_Of.f l0 l1 = some r) :
  Calls Tryz.prog 62 #[.slice A0 l0.length c0, .slice A1 l1.length c1] w fun e w' => ∃ v0_ : Value, e = .returned (v0_) ∧ Kd.R k72 72 w' w.heap.size (fun _ => True) v0_ r ∧ Below w.heap.size w w' := by
 unfold bound_Of.f at h
 split at h
 ·rename_i hl
  obtain rfl := Option.some.inj h
  exact L.edges_calls L.mayS l0 (L.mayS_ev l0 hl.2.1) hl.1 hl.2.1 l1 hl.2.2 A0 A1 c0 c1 w hr0 hc0 hr1
 ·cases h
def rpc_Of.f (l0 : List S36) (l1 : List Int) : Option (List S57) := if l0.length ≤ 1000000 ∧ (∀ x ∈ l0, L.fitS x) ∧ l1.length ≤ 1000000 then some (L.pairsB l0 l1) else none
theorem rpc_Of.calls (A0 : Option Addr) (c0 : Nat) (l0 : List (S36)) (A1 : Option Addr) (c1 : Nat) (l1 : List Int) (r : List (S57)) (w : World) (hr0 : Kd.C k36 w A0 l0.length l0) (hc0 : l0.length ≤ c0) (hr1 : Kd.C (Kd.int .i64) w A1 l1.length l1) (hc1 : l1.length ≤ c1) (h : rpc_Of.f l0 l1 = some r) :
  Calls Tryz.prog 63 #[.slice A0 l0.length c0, .slice A1 l1.length c1] w fun e w' => ∃ v0_ : Value, e = .returned (v0_) ∧ Kd.R k57 57 w' w.heap.size (fun _ => True) v0_ r ∧ Below w.heap.size w w' := by
 unfold rpc_Of.f at h
 split at h
 ·rename_i hl
  obtain rfl := Option.some.inj h
  exact L.rpc_calls l0 hl.1 hl.2.1 l1 hl.2.2 A0 A1 c0 c1 w hr0 hr1
 ·cases h
def verdict_know.f (l0 : List (S36)) : Option ((List (S36)) × List ByteArray × List Int × (List (S75)) × (List (S72))) := (dedupe_Hosts.f l0).bind fun t239 => ((parent_Of.f l0).bind fun t242 => ((forest_Row.f t242).bind fun t246 => ((rpc_Of.f l0 t242).bind fun t249 => ((bound_Of.f l0 t249).bind fun t252 => (some (l0, t239, t242, t246, t252))))))
set_option maxHeartbeats 8000000 in
set_option maxRecDepth 100000 in
theorem verdict_know.calls (P0_ : Nat → Prop) (u9000_ : Value) (l0 : List (S36)) (r1 : List (S36)) (r2 : List ByteArray) (r3 : List Int) (r4 : List (S75)) (r5 : List (S72)) (w0 w : World) (hB : Below w0.heap.size w0 w) (ho0 : Kd.R k36 36 w w0.heap.size P0_ u9000_ l0) (h : verdict_know.f l0 = some (r1, r2, r3, r4, r5)) :
  Calls Tryz.prog 30 #[u9000_] w fun e w' => ∃ v0_ v1_ v2_ v3_ v4_ : Value, e = .returned (.agg #[v0_, v1_, v2_, v3_, v4_]) ∧ Kd.R k36 36 w' w0.heap.size (fun k_ => (P0_ k_ ∨ w.heap.size ≤ k_)) v0_ r1 ∧ Kd.R Kd.string 9 w' w0.heap.size (fun k_ => (P0_ k_ ∨ w.heap.size ≤ k_)) v1_ r2 ∧ Kd.R (Kd.int .i64) 3 w' w0.heap.size (fun k_ => (P0_ k_ ∨ w.heap.size ≤ k_)) v2_ r3 ∧ Kd.R k75 75 w' w0.heap.size (fun k_ => (P0_ k_ ∨ w.heap.size ≤ k_)) v3_ r4 ∧ Kd.R k72 72 w' w0.heap.size (fun k_ => (P0_ k_ ∨ w.heap.size ≤ k_)) v4_ r5 ∧ Below w0.heap.size w0 w' ∧ Kept w w' (fun k_ => P0_ k_) := by
 have hu62 := Tryz.underlying62
 have HO0 := Aside0.mk (show Kd.R k36 36 w w0.heap.size (fun k_ => (P0_ k_ ∨ w.heap.size ≤ k_)) u9000_ l0 from Kd.R_mono ho0 (fun k_ hk => (.inl hk)))
 have HK := Aside0.mk (Kept.refl w (fun k_ => P0_ k_))
 have HW0 := Aside0.mk hB.size
 have HB := Aside0.mk hB
 clear hB
 have H : ((dedupe_Hosts.f l0).bind fun t239 => ((parent_Of.f l0).bind fun t242 => ((forest_Row.f t242).bind fun t246 => ((rpc_Of.f l0 t242).bind fun t249 => ((bound_Of.f l0 t249).bind fun t252 => (some (l0, t239, t242, t246, t252))))))) = some (r1, r2, r3, r4, r5) := h
 clear h
 replace H := Option.bind_eq_some_iff.mp H
 obtain ⟨t239, A20, H⟩ := H
 have A2 := Aside0.mk A20
 clear A20
 replace H := Option.bind_eq_some_iff.mp H
 obtain ⟨t242, A30, H⟩ := H
 have A3 := Aside0.mk A30
 clear A30
 replace H := Option.bind_eq_some_iff.mp H
 obtain ⟨t246, A40, H⟩ := H
 have A4 := Aside0.mk A40
 clear A40
 replace H := Option.bind_eq_some_iff.mp H
 obtain ⟨t249, A50, H⟩ := H
 have A5 := Aside0.mk A50
 clear A50
 replace H := Option.bind_eq_some_iff.mp H
 obtain ⟨t252, A60, H⟩ := H
 have A6 := Aside0.mk A60
 clear A60
 simp only [Option.some.injEq, Prod.mk.injEq] at H
 obtain ⟨rfl, rfl, rfl, rfl, rfl⟩ := H
 go_enter Tryz.func30, Tryz.ntmps30
 go_wp2_with (first | ((with_reducible refine gate_dst (N := 2) rfl ?_); refine zbox (N := 2) (cs := #[.slice none 0 0, .slice none 0 0, .slice none 0 0, .slice none 0 0, .slice none 0 0]) (t := 62) ?_; intro gb238 hg w7 hbox hb; replace HO0 := Aside0.mk (Kd.R_below (zR HO0.out) hb); have BK238 := Aside0.mk (hbox); have GW238 := Aside0.mk ((by rw [hg]; exact (by first | exact HK.out.1 | exact (show Kept w _ (fun k_ => P0_ k_) from zH0).1) : w.heap.size ≤ gb238)); replace HK := Aside0.mk (Kept.below (S := (fun k_ => P0_ k_)) zH0 hb); have GE238 := Aside0.mk ((by rw [hg]; exact (below_size zB) : w0.heap.size ≤ gb238)); replace HB := Aside0.mk (below_step zB hb); clear hb hbox hg; obtain ⟨Ao8, co8, eo8⟩ := Kd.R_slice HO0.out; subst eo8) | ((with_reducible refine gate_callee (f := 59) rfl ?_); refine goesL_ (some 6) rfl rfl Tryz.func59 (by kernel_rfl) rfl #[.slice Ao8 l0.length co8] rfl zL ?_; (with_reducible refine (dedupe_Hosts.calls _ _ l0 t239 _ ?side1 ?side2 A2.out).mono ?_); (case side1 => exact zC ((Kd.R_reads' HO0.out).2.2)); (case side2 => exact (Kd.R_reads' HO0.out).2.1); rintro e w9 ⟨v240, rfl, ho0, hb⟩; refine ⟨_, rfl, ?_⟩; replace HO0 := Aside0.mk (Kd.R_below (zR HO0.out) hb); have HO241 := Aside0.mk (Kd.R_lower (Kd.R_newM (M := fun k_ => (P0_ k_ ∨ w.heap.size ≤ k_)) ho0 (by first | exact HK.out.1 | exact (show Kept w _ (fun k_ => P0_ k_) from zH1 GW238.out).1) (fun k_ h_ => .inr h_)) (below_size (zG GE238.out))); replace BK238 := Aside0.mk (zKb BK238.out hb); replace HK := Aside0.mk (Kept.below (S := (fun k_ => P0_ k_)) (zH1 GW238.out) hb); replace HB := Aside0.mk (below_step (zG GE238.out) hb); (try clear hb); (try clear hb2); (try clear hk); (try clear hi); (try clear ho0)) | ((with_reducible refine gate_callee (f := 60) rfl ?_); refine goesL_ (some 8) rfl rfl Tryz.func60 (by kernel_rfl) rfl #[.slice Ao8 l0.length co8] rfl zL ?_; (with_reducible refine (parent_Of.calls _ _ l0 t242 _ ?side1 ?side2 A3.out).mono ?_); (case side1 => exact zC ((Kd.R_reads' HO0.out).2.2)); (case side2 => exact (Kd.R_reads' HO0.out).2.1); rintro e w10 ⟨v243, rfl, ho0, hb⟩; refine ⟨_, rfl, ?_⟩; replace HO0 := Aside0.mk (Kd.R_below (zR HO0.out) hb); replace HO241 := Aside0.mk (Kd.R_below (zR HO241.out) hb); have HO244 := Aside0.mk (Kd.R_lower (Kd.R_newM (M := fun k_ => (P0_ k_ ∨ w.heap.size ≤ k_)) ho0 (by first | exact HK.out.1 | exact (show Kept w _ (fun k_ => P0_ k_) from zH1 GW238.out).1) (fun k_ h_ => .inr h_)) (below_size (zG GE238.out))); replace BK238 := Aside0.mk (zKb BK238.out hb); replace HK := Aside0.mk (Kept.below (S := (fun k_ => P0_ k_)) (zH1 GW238.out) hb); replace HB := Aside0.mk (below_step (zG GE238.out) hb); (try clear hb); (try clear hb2); (try clear hk); (try clear hi); (try clear ho0); obtain ⟨Ao11, co11, eo11⟩ := Kd.R_slice HO244.out; subst eo11; obtain ⟨Ao12, co12, eo12⟩ := Kd.R_slice HO241.out; subst eo12) | ((with_reducible refine gate_dst (N := 3) rfl ?_); refine zbox (N := 3) (cs := #[.slice none 0 0, .slice none 0 0, .slice none 0 0, .slice none 0 0, .slice none 0 0]) (t := 62) ?_; intro gb245 hg w13 hbox hb; replace HO0 := Aside0.mk (Kd.R_below (zR HO0.out) hb); replace HO241 := Aside0.mk (Kd.R_below (zR HO241.out) hb); replace HO244 := Aside0.mk (Kd.R_below (zR HO244.out) hb); have BK245 := Aside0.mk (hbox); have GW245 := Aside0.mk ((by rw [hg]; exact (by first | exact HK.out.1 | exact (show Kept w _ (fun k_ => P0_ k_) from zH1 GW238.out).1) : w.heap.size ≤ gb245)); replace HK := Aside0.mk (Kept.below (S := (fun k_ => P0_ k_)) (zH1 GW238.out) hb); have GE245 := Aside0.mk ((by rw [hg]; exact (below_size (zG GE238.out)) : w0.heap.size ≤ gb245)); replace HB := Aside0.mk (below_step (zG GE238.out) hb); have NB238_245 := Aside0.mk ((by rw [hg]; exact Nat.ne_of_lt (zKl BK238.out) : gb238 ≠ gb245)); have NB245_238 := Aside0.mk ((by rw [hg]; exact Nat.ne_of_gt (zKl BK238.out) : gb245 ≠ gb238)); replace BK238 := Aside0.mk (zKb BK238.out hb); clear hb hbox hg; have hnb14 := NB245_238.out; have hnc14 := NB238_245.out; obtain ⟨hcz15_0, hcz15_1, hcz15_2, hcz15_3, hcz15_4, hfz15_0, hfz15_1, hfz15_2, hfz15_3, hfz15_4⟩ := zb5 BK245.out) | ((with_reducible refine gate_callee (f := 61) rfl ?_); refine goesL_ (some 12) rfl rfl Tryz.func61 (by kernel_rfl) rfl #[.slice Ao11 t242.length co11] rfl zL ?_; (with_reducible refine (forest_Row.calls _ _ t242 t246 _ ?side1 ?side2 A4.out).mono ?_); (case side1 => refine (Kd.R_reads' (e := 3) (base := w0.heap.size) (ok := fun k_ => ((P0_ k_ ∨ w.heap.size ≤ k_) ∧ True)) (n := t242.length) (c := co11) ?_).2.2; exact (zW HO244.out BK245.out)); (case side2 => exact (Kd.R_reads' HO244.out).2.1); rintro e w16 ⟨v247, rfl, ho0, hb⟩; refine ⟨_, rfl, ?_⟩; replace HO0 := Aside0.mk (Kd.R_below (zW HO0.out BK245.out) hb); replace HO241 := Aside0.mk (Kd.R_below (zW HO241.out BK245.out) hb); replace HO244 := Aside0.mk (Kd.R_below (zW HO244.out BK245.out) hb); have HO248 := Aside0.mk (Kd.R_lower (Kd.R_newM (M := fun k_ => (P0_ k_ ∨ w.heap.size ≤ k_)) ho0 (show Kept w _ (fun k_ => P0_ k_) from zH2 GW238.out GW245.out).1 (fun k_ h_ => .inr h_)) (below_size (zG2 GE238.out GE245.out))); replace BK238 := Aside0.mk (blk_below (g := gb238) (o := .cells #[.slice none 0 0, .slice none 0 0, .slice none 0 0, .slice none 0 0, .slice none 0 0] 62 (0, 0)) (zF NB238_245.out BK238.out) hb); replace BK245 := Aside0.mk (blk_below (g := gb245) (o := .cells #[.slice Ao8 l0.length co8, .slice Ao12 t239.length co12, .slice Ao11 t242.length co11, .slice none 0 0, .slice none 0 0] 62 (0, 0)) (zP BK245.out) hb); replace HK := Aside0.mk (Kept.below (S := (fun k_ => P0_ k_)) (zH2 GW238.out GW245.out) hb); replace HB := Aside0.mk (below_step (zG2 GE238.out GE245.out) hb); (try clear hb); (try clear hb2); (try clear hk); (try clear hi); (try clear ho0); obtain ⟨Ao17, co17, eo17⟩ := Kd.R_slice HO248.out; subst eo17; obtain ⟨hcz18_0, hcz18_1, hcz18_2, hcz18_3, hcz18_4, hfz18_0, hfz18_1, hfz18_2, hfz18_3, hfz18_4⟩ := zb5 BK245.out) | ((with_reducible refine gate_callee (f := 63) rfl ?_); refine goesL_ (some 18) rfl rfl Tryz.func63 (by kernel_rfl) rfl #[.slice Ao8 l0.length co8, .slice Ao11 t242.length co11] rfl zL ?_; (with_reducible refine (rpc_Of.calls _ _ l0 _ _ t242 t249 _ ?side1 ?side2 ?side3 ?side4 A5.out).mono ?_); (case side1 => refine (Kd.R_reads' (e := 36) (base := w0.heap.size) (ok := fun k_ => (P0_ k_ ∨ w.heap.size ≤ k_)) (n := l0.length) (c := co8) ?_).2.2; exact (zW HO0.out BK245.out)); (case side2 => exact (Kd.R_reads' HO0.out).2.1); (case side3 => refine (Kd.R_reads' (e := 3) (base := w0.heap.size) (ok := fun k_ => ((P0_ k_ ∨ w.heap.size ≤ k_) ∧ True)) (n := t242.length) (c := co11) ?_).2.2; exact (zW HO244.out BK245.out)); (case side4 => exact (Kd.R_reads' HO244.out).2.1); rintro e w19 ⟨v250, rfl, ho0, hb⟩; refine ⟨_, rfl, ?_⟩; replace HO0 := Aside0.mk (Kd.R_below (zW HO0.out BK245.out) hb); replace HO241 := Aside0.mk (Kd.R_below (zW HO241.out BK245.out) hb); replace HO244 := Aside0.mk (Kd.R_below (zW HO244.out BK245.out) hb); replace HO248 := Aside0.mk (Kd.R_below (zW HO248.out BK245.out) hb); have HO251 := Aside0.mk (Kd.R_lower (Kd.R_newM (M := fun k_ => (P0_ k_ ∨ w.heap.size ≤ k_)) ho0 (show Kept w _ (fun k_ => P0_ k_) from zH2 GW238.out GW245.out).1 (fun k_ h_ => .inr h_)) (below_size (zG2 GE238.out GE245.out))); replace BK238 := Aside0.mk (blk_below (g := gb238) (o := .cells #[.slice none 0 0, .slice none 0 0, .slice none 0 0, .slice none 0 0, .slice none 0 0] 62 (0, 0)) (zF NB238_245.out BK238.out) hb); replace BK245 := Aside0.mk (blk_below (g := gb245) (o := .cells #[.slice Ao8 l0.length co8, .slice Ao12 t239.length co12, .slice Ao11 t242.length co11, .slice Ao17 t246.length co17, .slice none 0 0] 62 (0, 0)) (zP BK245.out) hb); replace HK := Aside0.mk (Kept.below (S := (fun k_ => P0_ k_)) (zH2 GW238.out GW245.out) hb); replace HB := Aside0.mk (below_step (zG2 GE238.out GE245.out) hb); (try clear hb); (try clear hb2); (try clear hk); (try clear hi); (try clear ho0); obtain ⟨Ao20, co20, eo20⟩ := Kd.R_slice HO251.out; subst eo20) | ((with_reducible refine gate_callee (f := 62) rfl ?_); refine goesL_ (some 19) rfl rfl Tryz.func62 (by kernel_rfl) rfl #[.slice Ao8 l0.length co8, .slice Ao20 t249.length co20] rfl zL ?_; (with_reducible refine (bound_Of.calls _ _ l0 _ _ t249 t252 _ ?side1 ?side2 ?side3 ?side4 A6.out).mono ?_); (case side1 => exact zC ((Kd.R_reads' HO0.out).2.2)); (case side2 => exact (Kd.R_reads' HO0.out).2.1); (case side3 => exact zC ((Kd.R_reads' HO251.out).2.2)); (case side4 => exact (Kd.R_reads' HO251.out).2.1); rintro e w21 ⟨v253, rfl, ho0, hb⟩; refine ⟨_, rfl, ?_⟩; replace HO0 := Aside0.mk (Kd.R_below (zR HO0.out) hb); replace HO241 := Aside0.mk (Kd.R_below (zR HO241.out) hb); replace HO244 := Aside0.mk (Kd.R_below (zR HO244.out) hb); replace HO248 := Aside0.mk (Kd.R_below (zR HO248.out) hb); replace HO251 := Aside0.mk (Kd.R_below (zR HO251.out) hb); have HO254 := Aside0.mk (Kd.R_lower (Kd.R_newM (M := fun k_ => (P0_ k_ ∨ w.heap.size ≤ k_)) ho0 (by first | exact HK.out.1 | exact (show Kept w _ (fun k_ => P0_ k_) from zH2 GW238.out GW245.out).1) (fun k_ h_ => .inr h_)) (below_size (zG2 GE238.out GE245.out))); replace BK238 := Aside0.mk (zKb BK238.out hb); replace BK245 := Aside0.mk (zKb BK245.out hb); replace HK := Aside0.mk (Kept.below (S := (fun k_ => P0_ k_)) (zH2 GW238.out GW245.out) hb); replace HB := Aside0.mk (below_step (zG2 GE238.out GE245.out) hb); (try clear hb); (try clear hb2); (try clear hk); (try clear hi); (try clear ho0); obtain ⟨Ao22, co22, eo22⟩ := Kd.R_slice HO254.out; subst eo22; obtain ⟨hcz23_0, hcz23_1, hcz23_2, hcz23_3, hcz23_4, hfz23_0, hfz23_1, hfz23_2, hfz23_3, hfz23_4⟩ := zb5 BK245.out; obtain ⟨hcz24_0, hcz24_1, hcz24_2, hcz24_3, hcz24_4, hfz24_0, hfz24_1, hfz24_2, hfz24_3, hfz24_4⟩ := zb5 BK238.out))
 refine bodyPost_ret (results_cell_row rfl _ _ gb238 62 #[.slice Ao8 l0.length co8, .slice Ao12 t239.length co12, .slice Ao11 t242.length co11, .slice Ao17 t246.length co17, .slice Ao22 t252.length co22] (0, 0) _ rfl (by (with_reducible repeat (first | refine blk_drewN ?_ _ | refine blk_drew ?_ | refine blk_alloc ?_ _)); refine blk_put (cs := #[.slice Ao8 l0.length co8, .slice Ao12 t239.length co12, .slice Ao11 t242.length co11, .slice Ao17 t246.length co17, .slice none 0 0]) ?_ 4 _ rfl; (with_reducible repeat (first | refine blk_drewN ?_ _ | refine blk_drew ?_ | refine blk_alloc ?_ _)); refine blk_put (cs := #[.slice Ao8 l0.length co8, .slice Ao12 t239.length co12, .slice Ao11 t242.length co11, .slice none 0 0, .slice none 0 0]) ?_ 3 _ rfl; (with_reducible repeat (first | refine blk_drewN ?_ _ | refine blk_drew ?_ | refine blk_alloc ?_ _)); refine blk_put (cs := #[.slice Ao8 l0.length co8, .slice Ao12 t239.length co12, .slice none 0 0, .slice none 0 0, .slice none 0 0]) ?_ 2 _ rfl; (with_reducible repeat (first | refine blk_drewN ?_ _ | refine blk_drew ?_ | refine blk_alloc ?_ _)); refine blk_put (cs := #[.slice Ao8 l0.length co8, .slice none 0 0, .slice none 0 0, .slice none 0 0, .slice none 0 0]) ?_ 1 _ rfl; (with_reducible repeat (first | refine blk_drewN ?_ _ | refine blk_drew ?_ | refine blk_alloc ?_ _)); refine blk_put (cs := #[.slice none 0 0, .slice none 0 0, .slice none 0 0, .slice none 0 0, .slice none 0 0]) ?_ 0 _ rfl; (with_reducible repeat (first | refine blk_drewN ?_ _ | refine blk_drew ?_ | refine blk_alloc ?_ _)); refine blk_far ?_ NB238_245.out _; (with_reducible repeat (first | refine blk_drewN ?_ _ | refine blk_drew ?_ | refine blk_alloc ?_ _)); exact BK238.out) Tryz.underlying62 rfl (by kernel_rfl)) rfl ?_
 exact ⟨_, _, _, _, _, by first | rfl | (simp [errW_none, errW_some] <;> rfl) | (simp [*, errW_none, errW_some] <;> rfl), zW2 HO0.out BK245.out BK238.out, by (with_reducible repeat (first | apply Kd.R_alloc | apply Kd.R_drewN | apply Kd.R_drew)); exact Kd.R_mono (Kd.R_far (p := ⟨gb238, 4, none⟩) (Kd.R_far (p := ⟨gb238, 3, none⟩) (Kd.R_far (p := ⟨gb238, 2, none⟩) (Kd.R_far (p := ⟨gb238, 1, none⟩) (Kd.R_far (p := ⟨gb238, 0, none⟩) (Kd.R_far (p := ⟨gb245, 4, none⟩) (Kd.R_types (Kd.R_types HO241.out BK245.out (by decide)) BK238.out (by decide)) (fun _ hk => hk.1.2) (.slice Ao22 t252.length co22)) (fun _ hk => hk.2) (.slice Ao8 l0.length co8)) (fun _ hk => hk.2) (.slice Ao12 t239.length co12)) (fun _ hk => hk.2) (.slice Ao11 t242.length co11)) (fun _ hk => hk.2) (.slice Ao17 t246.length co17)) (fun _ hk => hk.2) (.slice Ao22 t252.length co22)) (fun _ hk => hk.1.1.1), by (with_reducible repeat (first | apply Kd.R_alloc | apply Kd.R_drewN | apply Kd.R_drew)); exact Kd.R_mono (Kd.R_far (p := ⟨gb238, 4, none⟩) (Kd.R_far (p := ⟨gb238, 3, none⟩) (Kd.R_far (p := ⟨gb238, 2, none⟩) (Kd.R_far (p := ⟨gb238, 1, none⟩) (Kd.R_far (p := ⟨gb238, 0, none⟩) (Kd.R_far (p := ⟨gb245, 4, none⟩) (Kd.R_types (Kd.R_types HO244.out BK245.out (by decide)) BK238.out (by decide)) (fun _ hk => hk.1.2) (.slice Ao22 t252.length co22)) (fun _ hk => hk.2) (.slice Ao8 l0.length co8)) (fun _ hk => hk.2) (.slice Ao12 t239.length co12)) (fun _ hk => hk.2) (.slice Ao11 t242.length co11)) (fun _ hk => hk.2) (.slice Ao17 t246.length co17)) (fun _ hk => hk.2) (.slice Ao22 t252.length co22)) (fun _ hk => hk.1.1.1), by (with_reducible repeat (first | apply Kd.R_alloc | apply Kd.R_drewN | apply Kd.R_drew)); exact Kd.R_mono (Kd.R_far (p := ⟨gb238, 4, none⟩) (Kd.R_far (p := ⟨gb238, 3, none⟩) (Kd.R_far (p := ⟨gb238, 2, none⟩) (Kd.R_far (p := ⟨gb238, 1, none⟩) (Kd.R_far (p := ⟨gb238, 0, none⟩) (Kd.R_far (p := ⟨gb245, 4, none⟩) (Kd.R_types (Kd.R_types HO248.out BK245.out (by decide)) BK238.out (by decide)) (fun _ hk => hk.1.2) (.slice Ao22 t252.length co22)) (fun _ hk => hk.2) (.slice Ao8 l0.length co8)) (fun _ hk => hk.2) (.slice Ao12 t239.length co12)) (fun _ hk => hk.2) (.slice Ao11 t242.length co11)) (fun _ hk => hk.2) (.slice Ao17 t246.length co17)) (fun _ hk => hk.2) (.slice Ao22 t252.length co22)) (fun _ hk => hk.1.1.1), by (with_reducible repeat (first | apply Kd.R_alloc | apply Kd.R_drewN | apply Kd.R_drew)); exact Kd.R_mono (Kd.R_far (p := ⟨gb238, 4, none⟩) (Kd.R_far (p := ⟨gb238, 3, none⟩) (Kd.R_far (p := ⟨gb238, 2, none⟩) (Kd.R_far (p := ⟨gb238, 1, none⟩) (Kd.R_far (p := ⟨gb238, 0, none⟩) (Kd.R_far (p := ⟨gb245, 4, none⟩) (Kd.R_types (Kd.R_types HO254.out BK245.out (by decide)) BK238.out (by decide)) (fun _ hk => hk.1.2) (.slice Ao22 t252.length co22)) (fun _ hk => hk.2) (.slice Ao8 l0.length co8)) (fun _ hk => hk.2) (.slice Ao12 t239.length co12)) (fun _ hk => hk.2) (.slice Ao11 t242.length co11)) (fun _ hk => hk.2) (.slice Ao17 t246.length co17)) (fun _ hk => hk.2) (.slice Ao22 t252.length co22)) (fun _ hk => hk.1.1.1), zG2 GE238.out GE245.out, zH2 GW238.out GW245.out⟩
def shift_Starts.f (l0 : List S36) (l1 : List Int) : Option (List Int × Bool) := if (∀ s ∈ l0, L.fitS s) ∧ l0.length ≤ 1000000000 ∧ l1.length ≤ 1000000000 then some (L.startsB l0 l1) else none
theorem shift_Starts.calls (A0 : Option Addr) (c0 : Nat) (l0 : List (S36)) (A1 : Option Addr) (c1 : Nat) (l1 : List Int) (r1 : List Int) (r2 : Bool) (w : World) (hr0 : Kd.C k36 w A0 l0.length l0) (hc0 : l0.length ≤ c0) (hr1 : Kd.C (Kd.int .i64) w A1 l1.length l1) (hc1 : l1.length ≤ c1) (h : shift_Starts.f l0 l1 = some (r1, r2)) :
  Calls Tryz.prog 70 #[.slice A0 l0.length c0, .slice A1 l1.length c1] w fun e w' => ∃ v0_ : Value, e = .returned (.tuple #[v0_, .bool r2]) ∧ Kd.R (Kd.int .i64) 2 w' w.heap.size (fun _ => True) v0_ r1 ∧ Below w.heap.size w w' := by
 unfold shift_Starts.f at h
 split at h
 ·rename_i hl
  have e := Option.some.inj h
  have c := L.starts_calls l0 l1 hl.1 hl.2.1 hl.2.2 A0 A1 c0 c1 w hr0 hc0 hr1
  rw [e] at c
  exact c
 ·cases h
end Go.Proofs.YtgknjgionicncaaGreat.V
