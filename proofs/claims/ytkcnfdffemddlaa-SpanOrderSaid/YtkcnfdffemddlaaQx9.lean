-- Written by wip/tools/gp.py, a program of this session round the kit's printer. Lean checks it.
import Derived.Test.YtkcnfdffemddlaaQx0
import Derived.Test.YtkcnfdffemddlaaQx1
import Derived.Test.YtkcnfdffemddlaaQx3
import Derived.Test.YtkcnfdffemddlaaQx4
import Derived.Test.YtkcnfdffemddlaaQx8
namespace Go.Proofs.Ytkcnfdffemddlaa.Q
open Go.RowKit Go.Proofs.YtkcnfdffemddlaaW.PrintWords Go.Proofs.YtkcnfdffemddlaaW.PrintLast Go.Proofs.YtkcnfdffemddlaaW.PrintMore
attribute [local go_sem] max2_int min2_int max_two min_two max_three min_three max_four min_four   -- for this text's walks alone
set_option linter.unusedVariables false
set_option linter.unusedSimpArgs false

attribute [local go_sem high] eqA39
/-! ### merkhetlaw01_SpanOrder: function 5 -/
mutual
def merkhetlaw01_SpanOrder.j0 : Nat → Bool → Int → Int → Int → Int → ByteArray → ByteArray → Int → Int → Int → Int → Int → Int → ByteArray → ByteArray → Int → Int → Int → Int → Int → Int → ByteArray → ByteArray → Int → Int → Option (Bool)
  | 0, _, _, _, _, _, _, _, _, _, _, _, _, _, _, _, _, _, _, _, _, _, _, _, _, _ => none
  | k + 1, x20, x165000, x165001, x165002, x165003, x165004, x165005, x165006, x165007, x166000, x166001, x166002, x166003, x166004, x166005, x166006, x166007, x167000, x167001, x167002, x167003, x167004, x167005, x167006, x167007 => if x20 = true then ((merkhetlaw01_fixed.f k).bind fun t170 => (some t170)) else ((span_Cmp.f k x165000 x165001 x165002 x165003 x165004 x165005 x165006 x165007 x166000 x166001 x166002 x166003 x166004 x166005 x166006 x166007).bind fun t171 => ((span_Cmp.f k x166000 x166001 x166002 x166003 x166004 x166005 x166006 x166007 x167000 x167001 x167002 x167003 x167004 x167005 x167006 x167007).bind fun t172 => ((span_Cmp.f k x165000 x165001 x165002 x165003 x165004 x165005 x165006 x165007 x167000 x167001 x167002 x167003 x167004 x167005 x167006 x167007).bind fun t173 => (if t171 > 0 then (if t171 < 0 then (merkhetlaw01_SpanOrder.j1 k t171 true x165000 x165001 x165002 x165003 x165004 x165005 x165006 x165007 x166000 x166001 x166002 x166003 x166004 x166005 x166006 x166007) else (if t172 < 0 then (merkhetlaw01_SpanOrder.j1 k t171 true x165000 x165001 x165002 x165003 x165004 x165005 x165006 x165007 x166000 x166001 x166002 x166003 x166004 x166005 x166006 x166007) else (merkhetlaw01_SpanOrder.j1 k t171 (decide (t173 ≥ 0)) x165000 x165001 x165002 x165003 x165004 x165005 x165006 x165007 x166000 x166001 x166002 x166003 x166004 x166005 x166006 x166007))) else (if t172 > 0 then (if t171 < 0 then (merkhetlaw01_SpanOrder.j1 k t171 true x165000 x165001 x165002 x165003 x165004 x165005 x165006 x165007 x166000 x166001 x166002 x166003 x166004 x166005 x166006 x166007) else (if t172 < 0 then (merkhetlaw01_SpanOrder.j1 k t171 true x165000 x165001 x165002 x165003 x165004 x165005 x165006 x165007 x166000 x166001 x166002 x166003 x166004 x166005 x166006 x166007) else (merkhetlaw01_SpanOrder.j1 k t171 (decide (t173 ≥ 0)) x165000 x165001 x165002 x165003 x165004 x165005 x165006 x165007 x166000 x166001 x166002 x166003 x166004 x166005 x166006 x166007))) else (if t173 ≤ 0 then (if t171 < 0 then (merkhetlaw01_SpanOrder.j1 k t171 true x165000 x165001 x165002 x165003 x165004 x165005 x165006 x165007 x166000 x166001 x166002 x166003 x166004 x166005 x166006 x166007) else (if t172 < 0 then (merkhetlaw01_SpanOrder.j1 k t171 true x165000 x165001 x165002 x165003 x165004 x165005 x165006 x165007 x166000 x166001 x166002 x166003 x166004 x166005 x166006 x166007) else (merkhetlaw01_SpanOrder.j1 k t171 (decide (t173 ≥ 0)) x165000 x165001 x165002 x165003 x165004 x165005 x165006 x165007 x166000 x166001 x166002 x166003 x166004 x166005 x166006 x166007))) else (merkhetlaw01_SpanOrder.j1 k t171 false x165000 x165001 x165002 x165003 x165004 x165005 x165006 x165007 x166000 x166001 x166002 x166003 x166004 x166005 x166006 x166007)))))))
def merkhetlaw01_SpanOrder.j1 : Nat → Int → Bool → Int → Int → Int → Int → ByteArray → ByteArray → Int → Int → Int → Int → Int → Int → ByteArray → ByteArray → Int → Int → Option (Bool)
  | 0, _, _, _, _, _, _, _, _, _, _, _, _, _, _, _, _, _, _ => none
  | k + 1, x7, x10, x165000, x165001, x165002, x165003, x165004, x165005, x165006, x165007, x166000, x166001, x166002, x166003, x166004, x166005, x166006, x166007 => (merkhetlaw01_fixed.f k).bind fun t174 => (if t174 = true then ((merkhetref01_Cmp.f k x165000 x165001 x165002 x165003 x165004 x165005 x165006 x165007 x166000 x166001 x166002 x166003 x166004 x166005 x166006 x166007).bind fun t175 => (if x7 = t175 then ((span_Cmp.f k x166000 x166001 x166002 x166003 x166004 x166005 x166006 x166007 x165000 x165001 x165002 x165003 x165004 x165005 x165006 x165007).bind fun t176 => (if t176 = (wrap64 (-x7)) then (if x10 = true then (some ((x7 == 0) == (x165000 == x166000 && (x165001 == x166001 && (x165002 == x166002 && (x165003 == x166003 && (x165004.toList == x166004.toList && (x165005.toList == x166005.toList && (x165006 == x166006 && (x165007 == x166007)))))))))) else (some false)) else (some false))) else (some false))) else (some false))
end
def merkhetlaw01_SpanOrder.f (k : Nat) (a0_0 : Int) (a0_1 : Int) (a0_2 : Int) (a0_3 : Int) (a0_4 : ByteArray) (a0_5 : ByteArray) (a0_6 : Int) (a0_7 : Int) (a1_0 : Int) (a1_1 : Int) (a1_2 : Int) (a1_3 : Int) (a1_4 : ByteArray) (a1_5 : ByteArray) (a1_6 : Int) (a1_7 : Int) (a2_0 : Int) (a2_1 : Int) (a2_2 : Int) (a2_3 : Int) (a2_4 : ByteArray) (a2_5 : ByteArray) (a2_6 : Int) (a2_7 : Int) : Option (Bool) := (merkhetlaw01_long.f a0_0 a0_1 a0_2 a0_3 a0_4 a0_5 a0_6 a0_7).bind fun t167 => (if t167 = true then (merkhetlaw01_SpanOrder.j0 k true a0_0 a0_1 a0_2 a0_3 a0_4 a0_5 a0_6 a0_7 a1_0 a1_1 a1_2 a1_3 a1_4 a1_5 a1_6 a1_7 a2_0 a2_1 a2_2 a2_3 a2_4 a2_5 a2_6 a2_7) else ((merkhetlaw01_long.f a1_0 a1_1 a1_2 a1_3 a1_4 a1_5 a1_6 a1_7).bind fun t168 => (if t168 = true then (merkhetlaw01_SpanOrder.j0 k true a0_0 a0_1 a0_2 a0_3 a0_4 a0_5 a0_6 a0_7 a1_0 a1_1 a1_2 a1_3 a1_4 a1_5 a1_6 a1_7 a2_0 a2_1 a2_2 a2_3 a2_4 a2_5 a2_6 a2_7) else ((merkhetlaw01_long.f a2_0 a2_1 a2_2 a2_3 a2_4 a2_5 a2_6 a2_7).bind fun t169 => (merkhetlaw01_SpanOrder.j0 k t169 a0_0 a0_1 a0_2 a0_3 a0_4 a0_5 a0_6 a0_7 a1_0 a1_1 a1_2 a1_3 a1_4 a1_5 a1_6 a1_7 a2_0 a2_1 a2_2 a2_3 a2_4 a2_5 a2_6 a2_7)))))
theorem merkhetlaw01_SpanOrder.mono_l : ∀ k, (∀ y0 y1 y2 y3 y4 y5 y6 y7 y8 y9 y10 y11 y12 y13 y14 y15 y16 y17 y18 y19 y20 y21 y22 y23 y24, LeO (merkhetlaw01_SpanOrder.j0 k y0 y1 y2 y3 y4 y5 y6 y7 y8 y9 y10 y11 y12 y13 y14 y15 y16 y17 y18 y19 y20 y21 y22 y23 y24) (merkhetlaw01_SpanOrder.j0 (k + 1) y0 y1 y2 y3 y4 y5 y6 y7 y8 y9 y10 y11 y12 y13 y14 y15 y16 y17 y18 y19 y20 y21 y22 y23 y24)) ∧ (∀ y0 y1 y2 y3 y4 y5 y6 y7 y8 y9 y10 y11 y12 y13 y14 y15 y16 y17, LeO (merkhetlaw01_SpanOrder.j1 k y0 y1 y2 y3 y4 y5 y6 y7 y8 y9 y10 y11 y12 y13 y14 y15 y16 y17) (merkhetlaw01_SpanOrder.j1 (k + 1) y0 y1 y2 y3 y4 y5 y6 y7 y8 y9 y10 y11 y12 y13 y14 y15 y16 y17))
  | 0 => ⟨fun _ _ _ _ _ _ _ _ _ _ _ _ _ _ _ _ _ _ _ _ _ _ _ _ _ r h => by simp [merkhetlaw01_SpanOrder.j0] at h, fun _ _ _ _ _ _ _ _ _ _ _ _ _ _ _ _ _ _ r h => by simp [merkhetlaw01_SpanOrder.j1] at h⟩
  | k + 1 => by
    obtain ⟨ih0, ih1⟩ := merkhetlaw01_SpanOrder.mono_l k
    refine ⟨?_, ?_⟩
    · intro y0 y1 y2 y3 y4 y5 y6 y7 y8 y9 y10 y11 y12 y13 y14 y15 y16 y17 y18 y19 y20 y21 y22 y23 y24
      unfold merkhetlaw01_SpanOrder.j0
      repeat' first
      | (with_reducible exact ih0 _ _ _ _ _ _ _ _ _ _ _ _ _ _ _ _ _ _ _ _ _ _ _ _ _)
      | (with_reducible exact ih1 _ _ _ _ _ _ _ _ _ _ _ _ _ _ _ _ _ _)
      | (with_reducible exact merkhetlaw01_fixed.mono _)
      | (with_reducible exact merkhetref01_Cmp.mono _ _ _ _ _ _ _ _ _ _ _ _ _ _ _ _ _)
      | (with_reducible exact span_Cmp.mono _ _ _ _ _ _ _ _ _ _ _ _ _ _ _ _ _)
      | (with_reducible exact LeO.refl _)
      | (with_reducible exact LeO.none _)
      | (with_reducible refine LeO.ite ?_ ?_)
      | (with_reducible refine LeO.bind ?_ (fun _ => ?_))
      | exact ih0 _ _ _ _ _ _ _ _ _ _ _ _ _ _ _ _ _ _ _ _ _ _ _ _ _
      | exact ih1 _ _ _ _ _ _ _ _ _ _ _ _ _ _ _ _ _ _
      | exact merkhetlaw01_fixed.mono _
      | exact merkhetref01_Cmp.mono _ _ _ _ _ _ _ _ _ _ _ _ _ _ _ _ _
      | exact span_Cmp.mono _ _ _ _ _ _ _ _ _ _ _ _ _ _ _ _ _
      | exact LeO.none _
      | refine LeO.ite ?_ ?_
      | refine LeO.bind ?_ (fun _ => ?_)
    · intro y0 y1 y2 y3 y4 y5 y6 y7 y8 y9 y10 y11 y12 y13 y14 y15 y16 y17
      unfold merkhetlaw01_SpanOrder.j1
      repeat' first
      | (with_reducible exact ih0 _ _ _ _ _ _ _ _ _ _ _ _ _ _ _ _ _ _ _ _ _ _ _ _ _)
      | (with_reducible exact ih1 _ _ _ _ _ _ _ _ _ _ _ _ _ _ _ _ _ _)
      | (with_reducible exact merkhetlaw01_fixed.mono _)
      | (with_reducible exact merkhetref01_Cmp.mono _ _ _ _ _ _ _ _ _ _ _ _ _ _ _ _ _)
      | (with_reducible exact span_Cmp.mono _ _ _ _ _ _ _ _ _ _ _ _ _ _ _ _ _)
      | (with_reducible exact LeO.refl _)
      | (with_reducible exact LeO.none _)
      | (with_reducible refine LeO.ite ?_ ?_)
      | (with_reducible refine LeO.bind ?_ (fun _ => ?_))
      | exact ih0 _ _ _ _ _ _ _ _ _ _ _ _ _ _ _ _ _ _ _ _ _ _ _ _ _
      | exact ih1 _ _ _ _ _ _ _ _ _ _ _ _ _ _ _ _ _ _
      | exact merkhetlaw01_fixed.mono _
      | exact merkhetref01_Cmp.mono _ _ _ _ _ _ _ _ _ _ _ _ _ _ _ _ _
      | exact span_Cmp.mono _ _ _ _ _ _ _ _ _ _ _ _ _ _ _ _ _
      | exact LeO.none _
      | refine LeO.ite ?_ ?_
      | refine LeO.bind ?_ (fun _ => ?_)
theorem merkhetlaw01_SpanOrder.mono : ∀ a0 a1 a2 a3 a4 a5 a6 a7 a8 a9 a10 a11 a12 a13 a14 a15 a16 a17 a18 a19 a20 a21 a22 a23 k, LeO (merkhetlaw01_SpanOrder.f k a0 a1 a2 a3 a4 a5 a6 a7 a8 a9 a10 a11 a12 a13 a14 a15 a16 a17 a18 a19 a20 a21 a22 a23) (merkhetlaw01_SpanOrder.f (k + 1) a0 a1 a2 a3 a4 a5 a6 a7 a8 a9 a10 a11 a12 a13 a14 a15 a16 a17 a18 a19 a20 a21 a22 a23) := by
  intro a0 a1 a2 a3 a4 a5 a6 a7 a8 a9 a10 a11 a12 a13 a14 a15 a16 a17 a18 a19 a20 a21 a22 a23 k
  obtain ⟨ih0, ih1⟩ := merkhetlaw01_SpanOrder.mono_l k
  unfold merkhetlaw01_SpanOrder.f
  repeat' first
      | (with_reducible exact ih0 _ _ _ _ _ _ _ _ _ _ _ _ _ _ _ _ _ _ _ _ _ _ _ _ _)
      | (with_reducible exact ih1 _ _ _ _ _ _ _ _ _ _ _ _ _ _ _ _ _ _)
      | (with_reducible exact merkhetlaw01_fixed.mono _)
      | (with_reducible exact merkhetref01_Cmp.mono _ _ _ _ _ _ _ _ _ _ _ _ _ _ _ _ _)
      | (with_reducible exact span_Cmp.mono _ _ _ _ _ _ _ _ _ _ _ _ _ _ _ _ _)
      | (with_reducible exact LeO.refl _)
      | (with_reducible exact LeO.none _)
      | (with_reducible refine LeO.ite ?_ ?_)
      | (with_reducible refine LeO.bind ?_ (fun _ => ?_))
      | exact ih0 _ _ _ _ _ _ _ _ _ _ _ _ _ _ _ _ _ _ _ _ _ _ _ _ _
      | exact ih1 _ _ _ _ _ _ _ _ _ _ _ _ _ _ _ _ _ _
      | exact merkhetlaw01_fixed.mono _
      | exact merkhetref01_Cmp.mono _ _ _ _ _ _ _ _ _ _ _ _ _ _ _ _ _
      | exact span_Cmp.mono _ _ _ _ _ _ _ _ _ _ _ _ _ _ _ _ _
      | exact LeO.none _
      | refine LeO.ite ?_ ?_
      | refine LeO.bind ?_ (fun _ => ?_)
def merkhetlaw01_SpanOrder.T3 : Bool × List (List Nat × List Nat) := (true, [([], []), ([], []), ([0, 1], [0, 1]), ([], []), ([], []), ([3, 4, 2], [3, 4]), ([], []), ([], []), ([6, 7, 5], [6, 7]), ([2, 8, 0, 1, 2], [2]), ([5, 9, 0, 1, 2, 3, 4, 5, 9], [5]), ([8, 10, 0, 1, 2, 3, 4, 5, 6, 7, 8, 9, 10], [8])])
def merkhetlaw01_SpanOrder.B3 : List Nat := [0, 0, 3, 0, 0, 31, 0, 0, 255, 511, 1023, 2047]
theorem merkhetlaw01_SpanOrder.tab3 : rtab .any (opsOf Try.f5 3) = merkhetlaw01_SpanOrder.T3 := by kernel_rfl
theorem merkhetlaw01_SpanOrder.bits3 : waitsOk merkhetlaw01_SpanOrder.T3.2 merkhetlaw01_SpanOrder.B3 = true := by kernel_rfl
set_option maxHeartbeats 8000000 in
set_option maxRecDepth 100000 in
theorem merkhetlaw01_SpanOrder.calls (k : Nat) (a0_0 : Int) (a0_1 : Int) (a0_2 : Int) (a0_3 : Int) (a0_4 : ByteArray) (a0_5 : ByteArray) (a0_6 : Int) (a0_7 : Int) (a1_0 : Int) (a1_1 : Int) (a1_2 : Int) (a1_3 : Int) (a1_4 : ByteArray) (a1_5 : ByteArray) (a1_6 : Int) (a1_7 : Int) (a2_0 : Int) (a2_1 : Int) (a2_2 : Int) (a2_3 : Int) (a2_4 : ByteArray) (a2_5 : ByteArray) (a2_6 : Int) (a2_7 : Int) (r : Bool) (w : World) (h : merkhetlaw01_SpanOrder.f k a0_0 a0_1 a0_2 a0_3 a0_4 a0_5 a0_6 a0_7 a1_0 a1_1 a1_2 a1_3 a1_4 a1_5 a1_6 a1_7 a2_0 a2_1 a2_2 a2_3 a2_4 a2_5 a2_6 a2_7 = some r) :
    Calls Try.prog 5 #[.agg #[.int .u64 a0_0, .int .u64 a0_1, .int .u64 a0_2, .int .u8 a0_3, .string a0_4, .string a0_5, .int .i64 a0_6, .int .i64 a0_7], .agg #[.int .u64 a1_0, .int .u64 a1_1, .int .u64 a1_2, .int .u8 a1_3, .string a1_4, .string a1_5, .int .i64 a1_6, .int .i64 a1_7], .agg #[.int .u64 a2_0, .int .u64 a2_1, .int .u64 a2_2, .int .u8 a2_3, .string a2_4, .string a2_5, .int .i64 a2_6, .int .i64 a2_7]] w fun e w' => e = .returned (.bool r) ∧ Below w.heap.size w w' := by
  have hu39 := Try.underlying39
  have HB := Aside0.mk (Below.refl w.heap.size w)
  have H : ((merkhetlaw01_long.f a0_0 a0_1 a0_2 a0_3 a0_4 a0_5 a0_6 a0_7).bind fun t167 => (if t167 = true then (merkhetlaw01_SpanOrder.j0 k true a0_0 a0_1 a0_2 a0_3 a0_4 a0_5 a0_6 a0_7 a1_0 a1_1 a1_2 a1_3 a1_4 a1_5 a1_6 a1_7 a2_0 a2_1 a2_2 a2_3 a2_4 a2_5 a2_6 a2_7) else ((merkhetlaw01_long.f a1_0 a1_1 a1_2 a1_3 a1_4 a1_5 a1_6 a1_7).bind fun t168 => (if t168 = true then (merkhetlaw01_SpanOrder.j0 k true a0_0 a0_1 a0_2 a0_3 a0_4 a0_5 a0_6 a0_7 a1_0 a1_1 a1_2 a1_3 a1_4 a1_5 a1_6 a1_7 a2_0 a2_1 a2_2 a2_3 a2_4 a2_5 a2_6 a2_7) else ((merkhetlaw01_long.f a2_0 a2_1 a2_2 a2_3 a2_4 a2_5 a2_6 a2_7).bind fun t169 => (merkhetlaw01_SpanOrder.j0 k t169 a0_0 a0_1 a0_2 a0_3 a0_4 a0_5 a0_6 a0_7 a1_0 a1_1 a1_2 a1_3 a1_4 a1_5 a1_6 a1_7 a2_0 a2_1 a2_2 a2_3 a2_4 a2_5 a2_6 a2_7)))))) = some r := h
  clear h
  have HC4 := Aside0.mk H
  clear H
  go_enter Try.func5, Try.ntmps5
  go_upto_region 1 with (first | ((with_reducible refine gate_dst (N := 3) rfl ?_); refine box_event ?hg (N := 3) ?hd (cs := #[.int .u64 a0_0, .int .u64 a0_1, .int .u64 a0_2, .int .u8 a0_3, .string a0_4, .string a0_5, .int .i64 a0_6, .int .i64 a0_7]) (t := 39) ?hr ?_; (case hd => rfl); (case hg => rfl); (case hr => first | (go_simp; done) | (go_simp; rfl)); intro gb164 hg w5 hbox hb; have n0_ := Aside0.mk (below_step (by repeat (first | (with_reducible first | exact HB.out | apply below_alloc | apply pw_below_drewN | apply below_drew1) | exact HB.out)) hb); have n1_ := Aside0.mk (hbox); have n2_ := Aside0.mk ((by rw [hg]; exact (below_size (by repeat (first | (with_reducible first | exact HB.out | apply below_alloc | apply pw_below_drewN | apply below_drew1) | exact HB.out))) : w.heap.size ≤ gb164)); have n3_ := Aside0.mk ((by rw [hg]; exact (below_size (by repeat (first | (with_reducible first | exact HB.out | apply below_alloc | apply pw_below_drewN | apply below_drew1) | exact HB.out))) : w.heap.size ≤ gb164)); clear HB; have HB := n0_; have BK164 := n1_; have GW164 := n2_; have GE164 := n3_; clear n0_ n1_ n2_ n3_; clear hb hbox hg) | ((with_reducible refine gate_dst (N := 4) rfl ?_); refine box_event ?hg (N := 4) ?hd (cs := #[.int .u64 a1_0, .int .u64 a1_1, .int .u64 a1_2, .int .u8 a1_3, .string a1_4, .string a1_5, .int .i64 a1_6, .int .i64 a1_7]) (t := 39) ?hr ?_; (case hd => rfl); (case hg => rfl); (case hr => first | (go_simp; done) | (go_simp; rfl)); intro gb165 hg w6 hbox hb; have n0_ := Aside0.mk (blk_below (g := gb164) (o := .cells #[.int .u64 a0_0, .int .u64 a0_1, .int .u64 a0_2, .int .u8 a0_3, .string a0_4, .string a0_5, .int .i64 a0_6, .int .i64 a0_7] 39 (0, 0)) (by (with_reducible repeat (first | refine blk_drewN ?_ _ | refine blk_drew ?_ | refine blk_alloc ?_ _)); exact BK164.out) hb); have n1_ := Aside0.mk (below_step (by repeat (first | (with_reducible first | exact HB.out | apply below_alloc | apply pw_below_drewN | apply below_drew1 | refine below_set ?_ GE164.out) | exact HB.out)) hb); have n2_ := Aside0.mk (hbox); have n3_ := Aside0.mk ((by rw [hg]; exact (below_size (by repeat (first | (with_reducible first | exact HB.out | apply below_alloc | apply pw_below_drewN | apply below_drew1 | refine below_set ?_ GE164.out) | exact HB.out))) : w.heap.size ≤ gb165)); have n4_ := Aside0.mk ((by rw [hg]; exact (below_size (by repeat (first | (with_reducible first | exact HB.out | apply below_alloc | apply pw_below_drewN | apply below_drew1 | refine below_set ?_ GE164.out) | exact HB.out))) : w.heap.size ≤ gb165)); have n5_ := Aside0.mk ((by rw [hg]; exact Nat.ne_of_lt (blk_lt (g := gb164) (o := .cells #[.int .u64 a0_0, .int .u64 a0_1, .int .u64 a0_2, .int .u8 a0_3, .string a0_4, .string a0_5, .int .i64 a0_6, .int .i64 a0_7] 39 (0, 0)) (by (with_reducible repeat (first | refine blk_drewN ?_ _ | refine blk_drew ?_ | refine blk_alloc ?_ _)); exact BK164.out)) : gb164 ≠ gb165)); have n6_ := Aside0.mk ((by rw [hg]; exact Nat.ne_of_gt (blk_lt (g := gb164) (o := .cells #[.int .u64 a0_0, .int .u64 a0_1, .int .u64 a0_2, .int .u8 a0_3, .string a0_4, .string a0_5, .int .i64 a0_6, .int .i64 a0_7] 39 (0, 0)) (by (with_reducible repeat (first | refine blk_drewN ?_ _ | refine blk_drew ?_ | refine blk_alloc ?_ _)); exact BK164.out)) : gb165 ≠ gb164)); clear BK164; clear HB; have BK164 := n0_; have HB := n1_; have BK165 := n2_; have GW165 := n3_; have GE165 := n4_; have NB164_165 := n5_; have NB165_164 := n6_; clear n0_ n1_ n2_ n3_ n4_ n5_ n6_; clear hb hbox hg) | ((with_reducible refine gate_dst (N := 5) rfl ?_); refine box_event ?hg (N := 5) ?hd (cs := #[.int .u64 a2_0, .int .u64 a2_1, .int .u64 a2_2, .int .u8 a2_3, .string a2_4, .string a2_5, .int .i64 a2_6, .int .i64 a2_7]) (t := 39) ?hr ?_; (case hd => rfl); (case hg => rfl); (case hr => first | (go_simp; done) | (go_simp; rfl)); intro gb166 hg w7 hbox hb; have n0_ := Aside0.mk (blk_below (g := gb164) (o := .cells #[.int .u64 a0_0, .int .u64 a0_1, .int .u64 a0_2, .int .u8 a0_3, .string a0_4, .string a0_5, .int .i64 a0_6, .int .i64 a0_7] 39 (0, 0)) (by (with_reducible repeat (first | refine blk_drewN ?_ _ | refine blk_drew ?_ | refine blk_alloc ?_ _)); exact BK164.out) hb); have n1_ := Aside0.mk (blk_below (g := gb165) (o := .cells #[.int .u64 a1_0, .int .u64 a1_1, .int .u64 a1_2, .int .u8 a1_3, .string a1_4, .string a1_5, .int .i64 a1_6, .int .i64 a1_7] 39 (0, 0)) (by (with_reducible repeat (first | refine blk_drewN ?_ _ | refine blk_drew ?_ | refine blk_alloc ?_ _)); exact BK165.out) hb); have n2_ := Aside0.mk (below_step (by repeat (first | (with_reducible first | exact HB.out | apply below_alloc | apply pw_below_drewN | apply below_drew1 | refine below_set ?_ GE164.out | refine below_set ?_ GE165.out) | exact HB.out)) hb); have n3_ := Aside0.mk (hbox); have n4_ := Aside0.mk ((by rw [hg]; exact (below_size (by repeat (first | (with_reducible first | exact HB.out | apply below_alloc | apply pw_below_drewN | apply below_drew1 | refine below_set ?_ GE164.out | refine below_set ?_ GE165.out) | exact HB.out))) : w.heap.size ≤ gb166)); have n5_ := Aside0.mk ((by rw [hg]; exact (below_size (by repeat (first | (with_reducible first | exact HB.out | apply below_alloc | apply pw_below_drewN | apply below_drew1 | refine below_set ?_ GE164.out | refine below_set ?_ GE165.out) | exact HB.out))) : w.heap.size ≤ gb166)); have n6_ := Aside0.mk ((by rw [hg]; exact Nat.ne_of_lt (blk_lt (g := gb164) (o := .cells #[.int .u64 a0_0, .int .u64 a0_1, .int .u64 a0_2, .int .u8 a0_3, .string a0_4, .string a0_5, .int .i64 a0_6, .int .i64 a0_7] 39 (0, 0)) (by (with_reducible repeat (first | refine blk_drewN ?_ _ | refine blk_drew ?_ | refine blk_alloc ?_ _)); exact BK164.out)) : gb164 ≠ gb166)); have n7_ := Aside0.mk ((by rw [hg]; exact Nat.ne_of_gt (blk_lt (g := gb164) (o := .cells #[.int .u64 a0_0, .int .u64 a0_1, .int .u64 a0_2, .int .u8 a0_3, .string a0_4, .string a0_5, .int .i64 a0_6, .int .i64 a0_7] 39 (0, 0)) (by (with_reducible repeat (first | refine blk_drewN ?_ _ | refine blk_drew ?_ | refine blk_alloc ?_ _)); exact BK164.out)) : gb166 ≠ gb164)); have n8_ := Aside0.mk ((by rw [hg]; exact Nat.ne_of_lt (blk_lt (g := gb165) (o := .cells #[.int .u64 a1_0, .int .u64 a1_1, .int .u64 a1_2, .int .u8 a1_3, .string a1_4, .string a1_5, .int .i64 a1_6, .int .i64 a1_7] 39 (0, 0)) (by (with_reducible repeat (first | refine blk_drewN ?_ _ | refine blk_drew ?_ | refine blk_alloc ?_ _)); exact BK165.out)) : gb165 ≠ gb166)); have n9_ := Aside0.mk ((by rw [hg]; exact Nat.ne_of_gt (blk_lt (g := gb165) (o := .cells #[.int .u64 a1_0, .int .u64 a1_1, .int .u64 a1_2, .int .u8 a1_3, .string a1_4, .string a1_5, .int .i64 a1_6, .int .i64 a1_7] 39 (0, 0)) (by (with_reducible repeat (first | refine blk_drewN ?_ _ | refine blk_drew ?_ | refine blk_alloc ?_ _)); exact BK165.out)) : gb166 ≠ gb165)); clear BK164; clear BK165; clear HB; have BK164 := n0_; have BK165 := n1_; have HB := n2_; have BK166 := n3_; have GW166 := n4_; have GE166 := n5_; have NB164_166 := n6_; have NB166_164 := n7_; have NB165_166 := n8_; have NB166_165 := n9_; clear n0_ n1_ n2_ n3_ n4_ n5_ n6_ n7_ n8_ n9_; clear hb hbox hg))
  (try simp only [Act.put, List.setIfInBounds_toArray, List.set_cons_zero, List.set_cons_succ])
  go_cut [20] (fun v20 wc => ∃ (kq : Nat) (x20_3 : Bool), v20 = .bool x20_3 ∧ Aside0 (merkhetlaw01_SpanOrder.j0 kq x20_3 a0_0 a0_1 a0_2 a0_3 a0_4 a0_5 a0_6 a0_7 a1_0 a1_1 a1_2 a1_3 a1_4 a1_5 a1_6 a1_7 a2_0 a2_1 a2_2 a2_3 a2_4 a2_5 a2_6 a2_7 = some r) ∧ Aside0 (kq ≤ k) ∧ Aside0 (wc.heap[gb164]? = some (.cells #[.int .u64 a0_0, .int .u64 a0_1, .int .u64 a0_2, .int .u8 a0_3, .string a0_4, .string a0_5, .int .i64 a0_6, .int .i64 a0_7] 39 (0, 0))) ∧ Aside0 (wc.heap[gb165]? = some (.cells #[.int .u64 a1_0, .int .u64 a1_1, .int .u64 a1_2, .int .u8 a1_3, .string a1_4, .string a1_5, .int .i64 a1_6, .int .i64 a1_7] 39 (0, 0))) ∧ Aside0 (wc.heap[gb166]? = some (.cells #[.int .u64 a2_0, .int .u64 a2_1, .int .u64 a2_2, .int .u8 a2_3, .string a2_4, .string a2_5, .int .i64 a2_6, .int .i64 a2_7] 39 (0, 0))) ∧ Aside0 (Below w.heap.size w wc))
  case first =>
    have H := HC4.out
    clear HC4
    replace H := Option.bind_eq_some_iff.mp H
    obtain ⟨t167, A80, H⟩ := H
    replace H : (if t167 = true then (merkhetlaw01_SpanOrder.j0 k true a0_0 a0_1 a0_2 a0_3 a0_4 a0_5 a0_6 a0_7 a1_0 a1_1 a1_2 a1_3 a1_4 a1_5 a1_6 a1_7 a2_0 a2_1 a2_2 a2_3 a2_4 a2_5 a2_6 a2_7) else ((merkhetlaw01_long.f a1_0 a1_1 a1_2 a1_3 a1_4 a1_5 a1_6 a1_7).bind fun t168 => (if t168 = true then (merkhetlaw01_SpanOrder.j0 k true a0_0 a0_1 a0_2 a0_3 a0_4 a0_5 a0_6 a0_7 a1_0 a1_1 a1_2 a1_3 a1_4 a1_5 a1_6 a1_7 a2_0 a2_1 a2_2 a2_3 a2_4 a2_5 a2_6 a2_7) else ((merkhetlaw01_long.f a2_0 a2_1 a2_2 a2_3 a2_4 a2_5 a2_6 a2_7).bind fun t169 => (merkhetlaw01_SpanOrder.j0 k t169 a0_0 a0_1 a0_2 a0_3 a0_4 a0_5 a0_6 a0_7 a1_0 a1_1 a1_2 a1_3 a1_4 a1_5 a1_6 a1_7 a2_0 a2_1 a2_2 a2_3 a2_4 a2_5 a2_6 a2_7))))) = some r := H
    have A8 := Aside0.mk A80
    clear A80
    by_cases c9 : t167 = true
    · subst c9
      have H1 : (merkhetlaw01_SpanOrder.j0 k true a0_0 a0_1 a0_2 a0_3 a0_4 a0_5 a0_6 a0_7 a1_0 a1_1 a1_2 a1_3 a1_4 a1_5 a1_6 a1_7 a2_0 a2_1 a2_2 a2_3 a2_4 a2_5 a2_6 a2_7) = some r := by rw [if_pos rfl] at H; exact H
      clear H
      have H := H1
      clear H1
      have H' := Aside0.mk H
      clear H
      have hnb10 := NB164_165.out
      have hnc10 := NB165_164.out
      have hnb11 := NB164_166.out
      have hnc11 := NB166_164.out
      have hcz12_0 : w7.cell? ⟨gb164, 0, none⟩ = some (.int .u64 a0_0) := (blk_cell BK164.out 0).trans rfl
      have hcz12_1 : w7.cell? ⟨gb164, 1, none⟩ = some (.int .u64 a0_1) := (blk_cell BK164.out 1).trans rfl
      have hcz12_2 : w7.cell? ⟨gb164, 2, none⟩ = some (.int .u64 a0_2) := (blk_cell BK164.out 2).trans rfl
      have hcz12_3 : w7.cell? ⟨gb164, 3, none⟩ = some (.int .u8 a0_3) := (blk_cell BK164.out 3).trans rfl
      have hcz12_4 : w7.cell? ⟨gb164, 4, none⟩ = some (.string a0_4) := (blk_cell BK164.out 4).trans rfl
      have hcz12_5 : w7.cell? ⟨gb164, 5, none⟩ = some (.string a0_5) := (blk_cell BK164.out 5).trans rfl
      have hcz12_6 : w7.cell? ⟨gb164, 6, none⟩ = some (.int .i64 a0_6) := (blk_cell BK164.out 6).trans rfl
      have hcz12_7 : w7.cell? ⟨gb164, 7, none⟩ = some (.int .i64 a0_7) := (blk_cell BK164.out 7).trans rfl
      have hfz12_0 := blk_frozen BK164.out 0
      have hfz12_1 := blk_frozen BK164.out 1
      have hfz12_2 := blk_frozen BK164.out 2
      have hfz12_3 := blk_frozen BK164.out 3
      have hfz12_4 := blk_frozen BK164.out 4
      have hfz12_5 := blk_frozen BK164.out 5
      have hfz12_6 := blk_frozen BK164.out 6
      have hfz12_7 := blk_frozen BK164.out 7
      go_wp2_with (first | ((with_reducible refine gate_callee (f := 21) rfl ?_); refine goesL_ (some 12) rfl rfl Try.func21 (by kernel_rfl) rfl #[.agg #[.int .u64 a0_0, .int .u64 a0_1, .int .u64 a0_2, .int .u8 a0_3, .string a0_4, .string a0_5, .int .i64 a0_6, .int .i64 a0_7]] rfl (by (try simp only [List.map_toArray, List.map_cons, List.map_nil]); first | done | rfl | (simp only [List.length_drop, List.length_take]; rfl)) ?_; (with_reducible refine (merkhetlaw01_long.calls a0_0 a0_1 a0_2 a0_3 a0_4 a0_5 a0_6 a0_7 true _ A8.out).mono ?_); rintro e w13 ⟨rfl, hb⟩; refine ⟨_, rfl, ?_⟩; have n0_ := Aside0.mk (blk_below (g := gb164) (o := .cells #[.int .u64 a0_0, .int .u64 a0_1, .int .u64 a0_2, .int .u8 a0_3, .string a0_4, .string a0_5, .int .i64 a0_6, .int .i64 a0_7] 39 (0, 0)) (by (with_reducible repeat (first | refine blk_drewN ?_ _ | refine blk_drew ?_ | refine blk_alloc ?_ _)); exact BK164.out) hb); have n1_ := Aside0.mk (blk_below (g := gb165) (o := .cells #[.int .u64 a1_0, .int .u64 a1_1, .int .u64 a1_2, .int .u8 a1_3, .string a1_4, .string a1_5, .int .i64 a1_6, .int .i64 a1_7] 39 (0, 0)) (by (with_reducible repeat (first | refine blk_drewN ?_ _ | refine blk_drew ?_ | refine blk_alloc ?_ _)); exact BK165.out) hb); have n2_ := Aside0.mk (blk_below (g := gb166) (o := .cells #[.int .u64 a2_0, .int .u64 a2_1, .int .u64 a2_2, .int .u8 a2_3, .string a2_4, .string a2_5, .int .i64 a2_6, .int .i64 a2_7] 39 (0, 0)) (by (with_reducible repeat (first | refine blk_drewN ?_ _ | refine blk_drew ?_ | refine blk_alloc ?_ _)); exact BK166.out) hb); have n3_ := Aside0.mk (below_step (by repeat (first | (with_reducible first | exact HB.out | apply below_alloc | apply pw_below_drewN | apply below_drew1 | refine below_set ?_ GE164.out | refine below_set ?_ GE165.out | refine below_set ?_ GE166.out) | exact HB.out)) hb); clear BK164; clear BK165; clear BK166; clear HB; have BK164 := n0_; have BK165 := n1_; have BK166 := n2_; have HB := n3_; clear n0_ n1_ n2_ n3_; (try clear hb); (try clear hb2); (try clear hk); (try clear hi)))
      go_meet
      case rel => exact ⟨_, (true), (by first | rfl | (simp; done) | (simp [*]; done)), H', ⟨by first | omega | exact Nat.le_refl _⟩, ⟨by (with_reducible repeat (first | refine blk_drewN ?_ _ | refine blk_drew ?_ | refine blk_alloc ?_ _)); exact BK164.out⟩, ⟨by (with_reducible repeat (first | refine blk_drewN ?_ _ | refine blk_drew ?_ | refine blk_alloc ?_ _)); exact BK165.out⟩, ⟨by (with_reducible repeat (first | refine blk_drewN ?_ _ | refine blk_drew ?_ | refine blk_alloc ?_ _)); exact BK166.out⟩, ⟨by repeat (first | (with_reducible first | exact HB.out | apply below_alloc | apply pw_below_drewN | apply below_drew1 | refine below_set ?_ GE164.out | refine below_set ?_ GE165.out | refine below_set ?_ GE166.out) | exact HB.out)⟩⟩
    · replace c9 := Bool.eq_false_iff.mpr c9
      subst c9
      have H1 : ((merkhetlaw01_long.f a1_0 a1_1 a1_2 a1_3 a1_4 a1_5 a1_6 a1_7).bind fun t168 => (if t168 = true then (merkhetlaw01_SpanOrder.j0 k true a0_0 a0_1 a0_2 a0_3 a0_4 a0_5 a0_6 a0_7 a1_0 a1_1 a1_2 a1_3 a1_4 a1_5 a1_6 a1_7 a2_0 a2_1 a2_2 a2_3 a2_4 a2_5 a2_6 a2_7) else ((merkhetlaw01_long.f a2_0 a2_1 a2_2 a2_3 a2_4 a2_5 a2_6 a2_7).bind fun t169 => (merkhetlaw01_SpanOrder.j0 k t169 a0_0 a0_1 a0_2 a0_3 a0_4 a0_5 a0_6 a0_7 a1_0 a1_1 a1_2 a1_3 a1_4 a1_5 a1_6 a1_7 a2_0 a2_1 a2_2 a2_3 a2_4 a2_5 a2_6 a2_7)))) = some r := by rw [if_neg (show ¬ (false = true) by decide)] at H; exact H
      clear H
      have H := H1
      clear H1
      replace H := Option.bind_eq_some_iff.mp H
      obtain ⟨t168, A140, H⟩ := H
      replace H : (if t168 = true then (merkhetlaw01_SpanOrder.j0 k true a0_0 a0_1 a0_2 a0_3 a0_4 a0_5 a0_6 a0_7 a1_0 a1_1 a1_2 a1_3 a1_4 a1_5 a1_6 a1_7 a2_0 a2_1 a2_2 a2_3 a2_4 a2_5 a2_6 a2_7) else ((merkhetlaw01_long.f a2_0 a2_1 a2_2 a2_3 a2_4 a2_5 a2_6 a2_7).bind fun t169 => (merkhetlaw01_SpanOrder.j0 k t169 a0_0 a0_1 a0_2 a0_3 a0_4 a0_5 a0_6 a0_7 a1_0 a1_1 a1_2 a1_3 a1_4 a1_5 a1_6 a1_7 a2_0 a2_1 a2_2 a2_3 a2_4 a2_5 a2_6 a2_7))) = some r := H
      have A14 := Aside0.mk A140
      clear A140
      by_cases c15 : t168 = true
      · subst c15
        have H1 : (merkhetlaw01_SpanOrder.j0 k true a0_0 a0_1 a0_2 a0_3 a0_4 a0_5 a0_6 a0_7 a1_0 a1_1 a1_2 a1_3 a1_4 a1_5 a1_6 a1_7 a2_0 a2_1 a2_2 a2_3 a2_4 a2_5 a2_6 a2_7) = some r := by rw [if_pos rfl] at H; exact H
        clear H
        have H := H1
        clear H1
        have H' := Aside0.mk H
        clear H
        have hnb16 := NB164_165.out
        have hnc16 := NB165_164.out
        have hnb17 := NB164_166.out
        have hnc17 := NB166_164.out
        have hcz18_0 : w7.cell? ⟨gb164, 0, none⟩ = some (.int .u64 a0_0) := (blk_cell BK164.out 0).trans rfl
        have hcz18_1 : w7.cell? ⟨gb164, 1, none⟩ = some (.int .u64 a0_1) := (blk_cell BK164.out 1).trans rfl
        have hcz18_2 : w7.cell? ⟨gb164, 2, none⟩ = some (.int .u64 a0_2) := (blk_cell BK164.out 2).trans rfl
        have hcz18_3 : w7.cell? ⟨gb164, 3, none⟩ = some (.int .u8 a0_3) := (blk_cell BK164.out 3).trans rfl
        have hcz18_4 : w7.cell? ⟨gb164, 4, none⟩ = some (.string a0_4) := (blk_cell BK164.out 4).trans rfl
        have hcz18_5 : w7.cell? ⟨gb164, 5, none⟩ = some (.string a0_5) := (blk_cell BK164.out 5).trans rfl
        have hcz18_6 : w7.cell? ⟨gb164, 6, none⟩ = some (.int .i64 a0_6) := (blk_cell BK164.out 6).trans rfl
        have hcz18_7 : w7.cell? ⟨gb164, 7, none⟩ = some (.int .i64 a0_7) := (blk_cell BK164.out 7).trans rfl
        have hfz18_0 := blk_frozen BK164.out 0
        have hfz18_1 := blk_frozen BK164.out 1
        have hfz18_2 := blk_frozen BK164.out 2
        have hfz18_3 := blk_frozen BK164.out 3
        have hfz18_4 := blk_frozen BK164.out 4
        have hfz18_5 := blk_frozen BK164.out 5
        have hfz18_6 := blk_frozen BK164.out 6
        have hfz18_7 := blk_frozen BK164.out 7
        go_wp2_with (first | ((with_reducible refine gate_callee (f := 21) rfl ?_); refine goesL_ (some 12) rfl rfl Try.func21 (by kernel_rfl) rfl #[.agg #[.int .u64 a0_0, .int .u64 a0_1, .int .u64 a0_2, .int .u8 a0_3, .string a0_4, .string a0_5, .int .i64 a0_6, .int .i64 a0_7]] rfl (by (try simp only [List.map_toArray, List.map_cons, List.map_nil]); first | done | rfl | (simp only [List.length_drop, List.length_take]; rfl)) ?_; (with_reducible refine (merkhetlaw01_long.calls a0_0 a0_1 a0_2 a0_3 a0_4 a0_5 a0_6 a0_7 false _ A8.out).mono ?_); rintro e w19 ⟨rfl, hb⟩; refine ⟨_, rfl, ?_⟩; have n0_ := Aside0.mk (blk_below (g := gb164) (o := .cells #[.int .u64 a0_0, .int .u64 a0_1, .int .u64 a0_2, .int .u8 a0_3, .string a0_4, .string a0_5, .int .i64 a0_6, .int .i64 a0_7] 39 (0, 0)) (by (with_reducible repeat (first | refine blk_drewN ?_ _ | refine blk_drew ?_ | refine blk_alloc ?_ _)); exact BK164.out) hb); have n1_ := Aside0.mk (blk_below (g := gb165) (o := .cells #[.int .u64 a1_0, .int .u64 a1_1, .int .u64 a1_2, .int .u8 a1_3, .string a1_4, .string a1_5, .int .i64 a1_6, .int .i64 a1_7] 39 (0, 0)) (by (with_reducible repeat (first | refine blk_drewN ?_ _ | refine blk_drew ?_ | refine blk_alloc ?_ _)); exact BK165.out) hb); have n2_ := Aside0.mk (blk_below (g := gb166) (o := .cells #[.int .u64 a2_0, .int .u64 a2_1, .int .u64 a2_2, .int .u8 a2_3, .string a2_4, .string a2_5, .int .i64 a2_6, .int .i64 a2_7] 39 (0, 0)) (by (with_reducible repeat (first | refine blk_drewN ?_ _ | refine blk_drew ?_ | refine blk_alloc ?_ _)); exact BK166.out) hb); have n3_ := Aside0.mk (below_step (by repeat (first | (with_reducible first | exact HB.out | apply below_alloc | apply pw_below_drewN | apply below_drew1 | refine below_set ?_ GE164.out | refine below_set ?_ GE165.out | refine below_set ?_ GE166.out) | exact HB.out)) hb); clear BK164; clear BK165; clear BK166; clear HB; have BK164 := n0_; have BK165 := n1_; have BK166 := n2_; have HB := n3_; clear n0_ n1_ n2_ n3_; (try clear hb); (try clear hb2); (try clear hk); (try clear hi); have hnb20 := NB165_166.out; have hnc20 := NB166_165.out; have hcz21_0 : w19.cell? ⟨gb165, 0, none⟩ = some (.int .u64 a1_0) := (blk_cell BK165.out 0).trans rfl; have hcz21_1 : w19.cell? ⟨gb165, 1, none⟩ = some (.int .u64 a1_1) := (blk_cell BK165.out 1).trans rfl; have hcz21_2 : w19.cell? ⟨gb165, 2, none⟩ = some (.int .u64 a1_2) := (blk_cell BK165.out 2).trans rfl; have hcz21_3 : w19.cell? ⟨gb165, 3, none⟩ = some (.int .u8 a1_3) := (blk_cell BK165.out 3).trans rfl; have hcz21_4 : w19.cell? ⟨gb165, 4, none⟩ = some (.string a1_4) := (blk_cell BK165.out 4).trans rfl; have hcz21_5 : w19.cell? ⟨gb165, 5, none⟩ = some (.string a1_5) := (blk_cell BK165.out 5).trans rfl; have hcz21_6 : w19.cell? ⟨gb165, 6, none⟩ = some (.int .i64 a1_6) := (blk_cell BK165.out 6).trans rfl; have hcz21_7 : w19.cell? ⟨gb165, 7, none⟩ = some (.int .i64 a1_7) := (blk_cell BK165.out 7).trans rfl; have hfz21_0 := blk_frozen BK165.out 0; have hfz21_1 := blk_frozen BK165.out 1; have hfz21_2 := blk_frozen BK165.out 2; have hfz21_3 := blk_frozen BK165.out 3; have hfz21_4 := blk_frozen BK165.out 4; have hfz21_5 := blk_frozen BK165.out 5; have hfz21_6 := blk_frozen BK165.out 6; have hfz21_7 := blk_frozen BK165.out 7) | (go_at_call 21; (with_reducible refine (merkhetlaw01_long.calls a1_0 a1_1 a1_2 a1_3 a1_4 a1_5 a1_6 a1_7 true _ A14.out).mono ?_); rintro e w22 ⟨rfl, hb⟩; have n0_ := Aside0.mk (blk_below (g := gb164) (o := .cells #[.int .u64 a0_0, .int .u64 a0_1, .int .u64 a0_2, .int .u8 a0_3, .string a0_4, .string a0_5, .int .i64 a0_6, .int .i64 a0_7] 39 (0, 0)) (by (with_reducible repeat (first | refine blk_drewN ?_ _ | refine blk_drew ?_ | refine blk_alloc ?_ _)); exact BK164.out) hb); have n1_ := Aside0.mk (blk_below (g := gb165) (o := .cells #[.int .u64 a1_0, .int .u64 a1_1, .int .u64 a1_2, .int .u8 a1_3, .string a1_4, .string a1_5, .int .i64 a1_6, .int .i64 a1_7] 39 (0, 0)) (by (with_reducible repeat (first | refine blk_drewN ?_ _ | refine blk_drew ?_ | refine blk_alloc ?_ _)); exact BK165.out) hb); have n2_ := Aside0.mk (blk_below (g := gb166) (o := .cells #[.int .u64 a2_0, .int .u64 a2_1, .int .u64 a2_2, .int .u8 a2_3, .string a2_4, .string a2_5, .int .i64 a2_6, .int .i64 a2_7] 39 (0, 0)) (by (with_reducible repeat (first | refine blk_drewN ?_ _ | refine blk_drew ?_ | refine blk_alloc ?_ _)); exact BK166.out) hb); have n3_ := Aside0.mk (below_step (by repeat (first | (with_reducible first | exact HB.out | apply below_alloc | apply pw_below_drewN | apply below_drew1 | refine below_set ?_ GE164.out | refine below_set ?_ GE165.out | refine below_set ?_ GE166.out) | exact HB.out)) hb); clear BK164; clear BK165; clear BK166; clear HB; have BK164 := n0_; have BK165 := n1_; have BK166 := n2_; have HB := n3_; clear n0_ n1_ n2_ n3_; (try clear hb); (try clear hb2); (try clear hk); (try clear hi)))
        go_meet
        case rel => exact ⟨_, (true), (by first | rfl | (simp; done) | (simp [*]; done)), H', ⟨by first | omega | exact Nat.le_refl _⟩, ⟨by (with_reducible repeat (first | refine blk_drewN ?_ _ | refine blk_drew ?_ | refine blk_alloc ?_ _)); exact BK164.out⟩, ⟨by (with_reducible repeat (first | refine blk_drewN ?_ _ | refine blk_drew ?_ | refine blk_alloc ?_ _)); exact BK165.out⟩, ⟨by (with_reducible repeat (first | refine blk_drewN ?_ _ | refine blk_drew ?_ | refine blk_alloc ?_ _)); exact BK166.out⟩, ⟨by repeat (first | (with_reducible first | exact HB.out | apply below_alloc | apply pw_below_drewN | apply below_drew1 | refine below_set ?_ GE164.out | refine below_set ?_ GE165.out | refine below_set ?_ GE166.out) | exact HB.out)⟩⟩
      · replace c15 := Bool.eq_false_iff.mpr c15
        subst c15
        have H1 : ((merkhetlaw01_long.f a2_0 a2_1 a2_2 a2_3 a2_4 a2_5 a2_6 a2_7).bind fun t169 => (merkhetlaw01_SpanOrder.j0 k t169 a0_0 a0_1 a0_2 a0_3 a0_4 a0_5 a0_6 a0_7 a1_0 a1_1 a1_2 a1_3 a1_4 a1_5 a1_6 a1_7 a2_0 a2_1 a2_2 a2_3 a2_4 a2_5 a2_6 a2_7)) = some r := by rw [if_neg (show ¬ (false = true) by decide)] at H; exact H
        clear H
        have H := H1
        clear H1
        replace H := Option.bind_eq_some_iff.mp H
        obtain ⟨t169, A230, H⟩ := H
        replace H : (merkhetlaw01_SpanOrder.j0 k t169 a0_0 a0_1 a0_2 a0_3 a0_4 a0_5 a0_6 a0_7 a1_0 a1_1 a1_2 a1_3 a1_4 a1_5 a1_6 a1_7 a2_0 a2_1 a2_2 a2_3 a2_4 a2_5 a2_6 a2_7) = some r := H
        have A23 := Aside0.mk A230
        clear A230
        have H' := Aside0.mk H
        clear H
        have hnb24 := NB164_165.out
        have hnc24 := NB165_164.out
        have hnb25 := NB164_166.out
        have hnc25 := NB166_164.out
        have hcz26_0 : w7.cell? ⟨gb164, 0, none⟩ = some (.int .u64 a0_0) := (blk_cell BK164.out 0).trans rfl
        have hcz26_1 : w7.cell? ⟨gb164, 1, none⟩ = some (.int .u64 a0_1) := (blk_cell BK164.out 1).trans rfl
        have hcz26_2 : w7.cell? ⟨gb164, 2, none⟩ = some (.int .u64 a0_2) := (blk_cell BK164.out 2).trans rfl
        have hcz26_3 : w7.cell? ⟨gb164, 3, none⟩ = some (.int .u8 a0_3) := (blk_cell BK164.out 3).trans rfl
        have hcz26_4 : w7.cell? ⟨gb164, 4, none⟩ = some (.string a0_4) := (blk_cell BK164.out 4).trans rfl
        have hcz26_5 : w7.cell? ⟨gb164, 5, none⟩ = some (.string a0_5) := (blk_cell BK164.out 5).trans rfl
        have hcz26_6 : w7.cell? ⟨gb164, 6, none⟩ = some (.int .i64 a0_6) := (blk_cell BK164.out 6).trans rfl
        have hcz26_7 : w7.cell? ⟨gb164, 7, none⟩ = some (.int .i64 a0_7) := (blk_cell BK164.out 7).trans rfl
        have hfz26_0 := blk_frozen BK164.out 0
        have hfz26_1 := blk_frozen BK164.out 1
        have hfz26_2 := blk_frozen BK164.out 2
        have hfz26_3 := blk_frozen BK164.out 3
        have hfz26_4 := blk_frozen BK164.out 4
        have hfz26_5 := blk_frozen BK164.out 5
        have hfz26_6 := blk_frozen BK164.out 6
        have hfz26_7 := blk_frozen BK164.out 7
        go_wp2_with (first | ((with_reducible refine gate_callee (f := 21) rfl ?_); refine goesL_ (some 12) rfl rfl Try.func21 (by kernel_rfl) rfl #[.agg #[.int .u64 a0_0, .int .u64 a0_1, .int .u64 a0_2, .int .u8 a0_3, .string a0_4, .string a0_5, .int .i64 a0_6, .int .i64 a0_7]] rfl (by (try simp only [List.map_toArray, List.map_cons, List.map_nil]); first | done | rfl | (simp only [List.length_drop, List.length_take]; rfl)) ?_; (with_reducible refine (merkhetlaw01_long.calls a0_0 a0_1 a0_2 a0_3 a0_4 a0_5 a0_6 a0_7 false _ A8.out).mono ?_); rintro e w27 ⟨rfl, hb⟩; refine ⟨_, rfl, ?_⟩; have n0_ := Aside0.mk (blk_below (g := gb164) (o := .cells #[.int .u64 a0_0, .int .u64 a0_1, .int .u64 a0_2, .int .u8 a0_3, .string a0_4, .string a0_5, .int .i64 a0_6, .int .i64 a0_7] 39 (0, 0)) (by (with_reducible repeat (first | refine blk_drewN ?_ _ | refine blk_drew ?_ | refine blk_alloc ?_ _)); exact BK164.out) hb); have n1_ := Aside0.mk (blk_below (g := gb165) (o := .cells #[.int .u64 a1_0, .int .u64 a1_1, .int .u64 a1_2, .int .u8 a1_3, .string a1_4, .string a1_5, .int .i64 a1_6, .int .i64 a1_7] 39 (0, 0)) (by (with_reducible repeat (first | refine blk_drewN ?_ _ | refine blk_drew ?_ | refine blk_alloc ?_ _)); exact BK165.out) hb); have n2_ := Aside0.mk (blk_below (g := gb166) (o := .cells #[.int .u64 a2_0, .int .u64 a2_1, .int .u64 a2_2, .int .u8 a2_3, .string a2_4, .string a2_5, .int .i64 a2_6, .int .i64 a2_7] 39 (0, 0)) (by (with_reducible repeat (first | refine blk_drewN ?_ _ | refine blk_drew ?_ | refine blk_alloc ?_ _)); exact BK166.out) hb); have n3_ := Aside0.mk (below_step (by repeat (first | (with_reducible first | exact HB.out | apply below_alloc | apply pw_below_drewN | apply below_drew1 | refine below_set ?_ GE164.out | refine below_set ?_ GE165.out | refine below_set ?_ GE166.out) | exact HB.out)) hb); clear BK164; clear BK165; clear BK166; clear HB; have BK164 := n0_; have BK165 := n1_; have BK166 := n2_; have HB := n3_; clear n0_ n1_ n2_ n3_; (try clear hb); (try clear hb2); (try clear hk); (try clear hi); have hnb28 := NB165_166.out; have hnc28 := NB166_165.out; have hcz29_0 : w27.cell? ⟨gb165, 0, none⟩ = some (.int .u64 a1_0) := (blk_cell BK165.out 0).trans rfl; have hcz29_1 : w27.cell? ⟨gb165, 1, none⟩ = some (.int .u64 a1_1) := (blk_cell BK165.out 1).trans rfl; have hcz29_2 : w27.cell? ⟨gb165, 2, none⟩ = some (.int .u64 a1_2) := (blk_cell BK165.out 2).trans rfl; have hcz29_3 : w27.cell? ⟨gb165, 3, none⟩ = some (.int .u8 a1_3) := (blk_cell BK165.out 3).trans rfl; have hcz29_4 : w27.cell? ⟨gb165, 4, none⟩ = some (.string a1_4) := (blk_cell BK165.out 4).trans rfl; have hcz29_5 : w27.cell? ⟨gb165, 5, none⟩ = some (.string a1_5) := (blk_cell BK165.out 5).trans rfl; have hcz29_6 : w27.cell? ⟨gb165, 6, none⟩ = some (.int .i64 a1_6) := (blk_cell BK165.out 6).trans rfl; have hcz29_7 : w27.cell? ⟨gb165, 7, none⟩ = some (.int .i64 a1_7) := (blk_cell BK165.out 7).trans rfl; have hfz29_0 := blk_frozen BK165.out 0; have hfz29_1 := blk_frozen BK165.out 1; have hfz29_2 := blk_frozen BK165.out 2; have hfz29_3 := blk_frozen BK165.out 3; have hfz29_4 := blk_frozen BK165.out 4; have hfz29_5 := blk_frozen BK165.out 5; have hfz29_6 := blk_frozen BK165.out 6; have hfz29_7 := blk_frozen BK165.out 7) | (go_at_call 21; (with_reducible refine (merkhetlaw01_long.calls a1_0 a1_1 a1_2 a1_3 a1_4 a1_5 a1_6 a1_7 false _ A14.out).mono ?_); rintro e w30 ⟨rfl, hb⟩; have n0_ := Aside0.mk (blk_below (g := gb164) (o := .cells #[.int .u64 a0_0, .int .u64 a0_1, .int .u64 a0_2, .int .u8 a0_3, .string a0_4, .string a0_5, .int .i64 a0_6, .int .i64 a0_7] 39 (0, 0)) (by (with_reducible repeat (first | refine blk_drewN ?_ _ | refine blk_drew ?_ | refine blk_alloc ?_ _)); exact BK164.out) hb); have n1_ := Aside0.mk (blk_below (g := gb165) (o := .cells #[.int .u64 a1_0, .int .u64 a1_1, .int .u64 a1_2, .int .u8 a1_3, .string a1_4, .string a1_5, .int .i64 a1_6, .int .i64 a1_7] 39 (0, 0)) (by (with_reducible repeat (first | refine blk_drewN ?_ _ | refine blk_drew ?_ | refine blk_alloc ?_ _)); exact BK165.out) hb); have n2_ := Aside0.mk (blk_below (g := gb166) (o := .cells #[.int .u64 a2_0, .int .u64 a2_1, .int .u64 a2_2, .int .u8 a2_3, .string a2_4, .string a2_5, .int .i64 a2_6, .int .i64 a2_7] 39 (0, 0)) (by (with_reducible repeat (first | refine blk_drewN ?_ _ | refine blk_drew ?_ | refine blk_alloc ?_ _)); exact BK166.out) hb); have n3_ := Aside0.mk (below_step (by repeat (first | (with_reducible first | exact HB.out | apply below_alloc | apply pw_below_drewN | apply below_drew1 | refine below_set ?_ GE164.out | refine below_set ?_ GE165.out | refine below_set ?_ GE166.out) | exact HB.out)) hb); clear BK164; clear BK165; clear BK166; clear HB; have BK164 := n0_; have BK165 := n1_; have BK166 := n2_; have HB := n3_; clear n0_ n1_ n2_ n3_; (try clear hb); (try clear hb2); (try clear hk); (try clear hi); have hcz31_0 : w30.cell? ⟨gb166, 0, none⟩ = some (.int .u64 a2_0) := (blk_cell BK166.out 0).trans rfl; have hcz31_1 : w30.cell? ⟨gb166, 1, none⟩ = some (.int .u64 a2_1) := (blk_cell BK166.out 1).trans rfl; have hcz31_2 : w30.cell? ⟨gb166, 2, none⟩ = some (.int .u64 a2_2) := (blk_cell BK166.out 2).trans rfl; have hcz31_3 : w30.cell? ⟨gb166, 3, none⟩ = some (.int .u8 a2_3) := (blk_cell BK166.out 3).trans rfl; have hcz31_4 : w30.cell? ⟨gb166, 4, none⟩ = some (.string a2_4) := (blk_cell BK166.out 4).trans rfl; have hcz31_5 : w30.cell? ⟨gb166, 5, none⟩ = some (.string a2_5) := (blk_cell BK166.out 5).trans rfl; have hcz31_6 : w30.cell? ⟨gb166, 6, none⟩ = some (.int .i64 a2_6) := (blk_cell BK166.out 6).trans rfl; have hcz31_7 : w30.cell? ⟨gb166, 7, none⟩ = some (.int .i64 a2_7) := (blk_cell BK166.out 7).trans rfl; have hfz31_0 := blk_frozen BK166.out 0; have hfz31_1 := blk_frozen BK166.out 1; have hfz31_2 := blk_frozen BK166.out 2; have hfz31_3 := blk_frozen BK166.out 3; have hfz31_4 := blk_frozen BK166.out 4; have hfz31_5 := blk_frozen BK166.out 5; have hfz31_6 := blk_frozen BK166.out 6; have hfz31_7 := blk_frozen BK166.out 7) | (go_at_call 21; (with_reducible refine (merkhetlaw01_long.calls a2_0 a2_1 a2_2 a2_3 a2_4 a2_5 a2_6 a2_7 t169 _ A23.out).mono ?_); rintro e w32 ⟨rfl, hb⟩; have n0_ := Aside0.mk (blk_below (g := gb164) (o := .cells #[.int .u64 a0_0, .int .u64 a0_1, .int .u64 a0_2, .int .u8 a0_3, .string a0_4, .string a0_5, .int .i64 a0_6, .int .i64 a0_7] 39 (0, 0)) (by (with_reducible repeat (first | refine blk_drewN ?_ _ | refine blk_drew ?_ | refine blk_alloc ?_ _)); exact BK164.out) hb); have n1_ := Aside0.mk (blk_below (g := gb165) (o := .cells #[.int .u64 a1_0, .int .u64 a1_1, .int .u64 a1_2, .int .u8 a1_3, .string a1_4, .string a1_5, .int .i64 a1_6, .int .i64 a1_7] 39 (0, 0)) (by (with_reducible repeat (first | refine blk_drewN ?_ _ | refine blk_drew ?_ | refine blk_alloc ?_ _)); exact BK165.out) hb); have n2_ := Aside0.mk (blk_below (g := gb166) (o := .cells #[.int .u64 a2_0, .int .u64 a2_1, .int .u64 a2_2, .int .u8 a2_3, .string a2_4, .string a2_5, .int .i64 a2_6, .int .i64 a2_7] 39 (0, 0)) (by (with_reducible repeat (first | refine blk_drewN ?_ _ | refine blk_drew ?_ | refine blk_alloc ?_ _)); exact BK166.out) hb); have n3_ := Aside0.mk (below_step (by repeat (first | (with_reducible first | exact HB.out | apply below_alloc | apply pw_below_drewN | apply below_drew1 | refine below_set ?_ GE164.out | refine below_set ?_ GE165.out | refine below_set ?_ GE166.out) | exact HB.out)) hb); clear BK164; clear BK165; clear BK166; clear HB; have BK164 := n0_; have BK165 := n1_; have BK166 := n2_; have HB := n3_; clear n0_ n1_ n2_ n3_; (try clear hb); (try clear hb2); (try clear hk); (try clear hi)))
        go_meet
        case rel => exact ⟨_, (t169), (by first | rfl | (simp; done) | (simp [*]; done)), H', ⟨by first | omega | exact Nat.le_refl _⟩, ⟨by (with_reducible repeat (first | refine blk_drewN ?_ _ | refine blk_drew ?_ | refine blk_alloc ?_ _)); exact BK164.out⟩, ⟨by (with_reducible repeat (first | refine blk_drewN ?_ _ | refine blk_drew ?_ | refine blk_alloc ?_ _)); exact BK165.out⟩, ⟨by (with_reducible repeat (first | refine blk_drewN ?_ _ | refine blk_drew ?_ | refine blk_alloc ?_ _)); exact BK166.out⟩, ⟨by repeat (first | (with_reducible first | exact HB.out | apply below_alloc | apply pw_below_drewN | apply below_drew1 | refine below_set ?_ GE164.out | refine below_set ?_ GE165.out | refine below_set ?_ GE166.out) | exact HB.out)⟩⟩
  case rest =>
    clear HC4
    try clear c1
    try clear c2
    try clear p2
    try clear c5
    try clear c9
    try clear c10
    try clear c11
    try clear c15
    try clear c16
    try clear c17
    try clear c20
    try clear c21
    try clear c24
    try clear c25
    try clear c28
    try clear hcz12_0
    try clear hcz12_1
    try clear hcz12_2
    try clear hcz12_3
    try clear hcz12_4
    try clear hcz12_5
    try clear hcz12_6
    try clear hcz12_7
    try clear hcz18_0
    try clear hcz18_1
    try clear hcz18_2
    try clear hcz18_3
    try clear hcz18_4
    try clear hcz18_5
    try clear hcz18_6
    try clear hcz18_7
    try clear hcz21_0
    try clear hcz21_1
    try clear hcz21_2
    try clear hcz21_3
    try clear hcz21_4
    try clear hcz21_5
    try clear hcz21_6
    try clear hcz21_7
    try clear hcz26_0
    try clear hcz26_1
    try clear hcz26_2
    try clear hcz26_3
    try clear hcz26_4
    try clear hcz26_5
    try clear hcz26_6
    try clear hcz26_7
    try clear hcz29_0
    try clear hcz29_1
    try clear hcz29_2
    try clear hcz29_3
    try clear hcz29_4
    try clear hcz29_5
    try clear hcz29_6
    try clear hcz29_7
    try clear hcz31_0
    try clear hcz31_1
    try clear hcz31_2
    try clear hcz31_3
    try clear hcz31_4
    try clear hcz31_5
    try clear hcz31_6
    try clear hcz31_7
    try clear hfz12_0
    try clear hfz12_1
    try clear hfz12_2
    try clear hfz12_3
    try clear hfz12_4
    try clear hfz12_5
    try clear hfz12_6
    try clear hfz12_7
    try clear hfz18_0
    try clear hfz18_1
    try clear hfz18_2
    try clear hfz18_3
    try clear hfz18_4
    try clear hfz18_5
    try clear hfz18_6
    try clear hfz18_7
    try clear hfz21_0
    try clear hfz21_1
    try clear hfz21_2
    try clear hfz21_3
    try clear hfz21_4
    try clear hfz21_5
    try clear hfz21_6
    try clear hfz21_7
    try clear hfz26_0
    try clear hfz26_1
    try clear hfz26_2
    try clear hfz26_3
    try clear hfz26_4
    try clear hfz26_5
    try clear hfz26_6
    try clear hfz26_7
    try clear hfz29_0
    try clear hfz29_1
    try clear hfz29_2
    try clear hfz29_3
    try clear hfz29_4
    try clear hfz29_5
    try clear hfz29_6
    try clear hfz29_7
    try clear hfz31_0
    try clear hfz31_1
    try clear hfz31_2
    try clear hfz31_3
    try clear hfz31_4
    try clear hfz31_5
    try clear hfz31_6
    try clear hfz31_7
    obtain ⟨kq, x20_3, rfl, HA, HJ3, BK164, BK165, BK166, HB⟩ := hcut
    cases kq with
    | zero => exact absurd HA.out (by simp [merkhetlaw01_SpanOrder.j0])
    | succ kj3 =>
      have H := HA.out
      clear HA
      simp only [merkhetlaw01_SpanOrder.j0] at H
      by_cases c33 : x20_3 = true
      · subst c33
        have H1 : ((merkhetlaw01_fixed.f kj3).bind fun t170 => (some t170)) = some r := by rw [if_pos rfl] at H; exact H
        clear H
        have H := H1
        clear H1
        replace H := Option.bind_eq_some_iff.mp H
        obtain ⟨t170, A340, H⟩ := H
        replace H : (some t170) = some r := H
        have A34 := Aside0.mk A340
        clear A340
        obtain rfl := Option.some.inj H
        go_wp2_with (first | ((with_reducible refine gate_callee (f := 18) rfl ?_); refine goesL_ (some 21) rfl rfl Try.func18 (by kernel_rfl) rfl #[] rfl (by (try simp only [List.map_toArray, List.map_cons, List.map_nil]); first | done | rfl | (simp only [List.length_drop, List.length_take]; rfl)) ?_; (with_reducible refine (merkhetlaw01_fixed.calls kj3  t170 _ A34.out).mono ?_); rintro e w35 ⟨rfl, hb⟩; refine ⟨_, rfl, ?_⟩; have n0_ := Aside0.mk (blk_below (g := gb164) (o := .cells #[.int .u64 a0_0, .int .u64 a0_1, .int .u64 a0_2, .int .u8 a0_3, .string a0_4, .string a0_5, .int .i64 a0_6, .int .i64 a0_7] 39 (0, 0)) (by (with_reducible repeat (first | refine blk_drewN ?_ _ | refine blk_drew ?_ | refine blk_alloc ?_ _)); exact BK164.out) hb); have n1_ := Aside0.mk (blk_below (g := gb165) (o := .cells #[.int .u64 a1_0, .int .u64 a1_1, .int .u64 a1_2, .int .u8 a1_3, .string a1_4, .string a1_5, .int .i64 a1_6, .int .i64 a1_7] 39 (0, 0)) (by (with_reducible repeat (first | refine blk_drewN ?_ _ | refine blk_drew ?_ | refine blk_alloc ?_ _)); exact BK165.out) hb); have n2_ := Aside0.mk (blk_below (g := gb166) (o := .cells #[.int .u64 a2_0, .int .u64 a2_1, .int .u64 a2_2, .int .u8 a2_3, .string a2_4, .string a2_5, .int .i64 a2_6, .int .i64 a2_7] 39 (0, 0)) (by (with_reducible repeat (first | refine blk_drewN ?_ _ | refine blk_drew ?_ | refine blk_alloc ?_ _)); exact BK166.out) hb); have n3_ := Aside0.mk (below_step (by repeat (first | (with_reducible first | exact HB.out | apply below_alloc | apply pw_below_drewN | apply below_drew1 | refine below_set ?_ GE164.out | refine below_set ?_ GE165.out | refine below_set ?_ GE166.out) | exact HB.out)) hb); clear BK164; clear BK165; clear BK166; clear HB; have BK164 := n0_; have BK165 := n1_; have BK166 := n2_; have HB := n3_; clear n0_ n1_ n2_ n3_; (try clear hb); (try clear hb2); (try clear hk); (try clear hi)))
        go_ret
        exact ⟨by first | rfl | (simp [errW_none, errW_some] <;> rfl) | (simp [*, errW_none, errW_some] <;> rfl), by repeat (first | (with_reducible first | exact HB.out | apply below_alloc | apply pw_below_drewN | apply below_drew1 | refine below_set ?_ GE164.out | refine below_set ?_ GE165.out | refine below_set ?_ GE166.out) | exact HB.out)⟩
      · replace c33 := Bool.eq_false_iff.mpr c33
        subst c33
        have H1 : ((span_Cmp.f kj3 a0_0 a0_1 a0_2 a0_3 a0_4 a0_5 a0_6 a0_7 a1_0 a1_1 a1_2 a1_3 a1_4 a1_5 a1_6 a1_7).bind fun t171 => ((span_Cmp.f kj3 a1_0 a1_1 a1_2 a1_3 a1_4 a1_5 a1_6 a1_7 a2_0 a2_1 a2_2 a2_3 a2_4 a2_5 a2_6 a2_7).bind fun t172 => ((span_Cmp.f kj3 a0_0 a0_1 a0_2 a0_3 a0_4 a0_5 a0_6 a0_7 a2_0 a2_1 a2_2 a2_3 a2_4 a2_5 a2_6 a2_7).bind fun t173 => (if t171 > 0 then (if t171 < 0 then (merkhetlaw01_SpanOrder.j1 kj3 t171 true a0_0 a0_1 a0_2 a0_3 a0_4 a0_5 a0_6 a0_7 a1_0 a1_1 a1_2 a1_3 a1_4 a1_5 a1_6 a1_7) else (if t172 < 0 then (merkhetlaw01_SpanOrder.j1 kj3 t171 true a0_0 a0_1 a0_2 a0_3 a0_4 a0_5 a0_6 a0_7 a1_0 a1_1 a1_2 a1_3 a1_4 a1_5 a1_6 a1_7) else (merkhetlaw01_SpanOrder.j1 kj3 t171 (decide (t173 ≥ 0)) a0_0 a0_1 a0_2 a0_3 a0_4 a0_5 a0_6 a0_7 a1_0 a1_1 a1_2 a1_3 a1_4 a1_5 a1_6 a1_7))) else (if t172 > 0 then (if t171 < 0 then (merkhetlaw01_SpanOrder.j1 kj3 t171 true a0_0 a0_1 a0_2 a0_3 a0_4 a0_5 a0_6 a0_7 a1_0 a1_1 a1_2 a1_3 a1_4 a1_5 a1_6 a1_7) else (if t172 < 0 then (merkhetlaw01_SpanOrder.j1 kj3 t171 true a0_0 a0_1 a0_2 a0_3 a0_4 a0_5 a0_6 a0_7 a1_0 a1_1 a1_2 a1_3 a1_4 a1_5 a1_6 a1_7) else (merkhetlaw01_SpanOrder.j1 kj3 t171 (decide (t173 ≥ 0)) a0_0 a0_1 a0_2 a0_3 a0_4 a0_5 a0_6 a0_7 a1_0 a1_1 a1_2 a1_3 a1_4 a1_5 a1_6 a1_7))) else (if t173 ≤ 0 then (if t171 < 0 then (merkhetlaw01_SpanOrder.j1 kj3 t171 true a0_0 a0_1 a0_2 a0_3 a0_4 a0_5 a0_6 a0_7 a1_0 a1_1 a1_2 a1_3 a1_4 a1_5 a1_6 a1_7) else (if t172 < 0 then (merkhetlaw01_SpanOrder.j1 kj3 t171 true a0_0 a0_1 a0_2 a0_3 a0_4 a0_5 a0_6 a0_7 a1_0 a1_1 a1_2 a1_3 a1_4 a1_5 a1_6 a1_7) else (merkhetlaw01_SpanOrder.j1 kj3 t171 (decide (t173 ≥ 0)) a0_0 a0_1 a0_2 a0_3 a0_4 a0_5 a0_6 a0_7 a1_0 a1_1 a1_2 a1_3 a1_4 a1_5 a1_6 a1_7))) else (merkhetlaw01_SpanOrder.j1 kj3 t171 false a0_0 a0_1 a0_2 a0_3 a0_4 a0_5 a0_6 a0_7 a1_0 a1_1 a1_2 a1_3 a1_4 a1_5 a1_6 a1_7))))))) = some r := by rw [if_neg (show ¬ (false = true) by decide)] at H; exact H
        clear H
        have H := H1
        clear H1
        replace H := Option.bind_eq_some_iff.mp H
        obtain ⟨t171, A360, H⟩ := H
        replace H : ((span_Cmp.f kj3 a1_0 a1_1 a1_2 a1_3 a1_4 a1_5 a1_6 a1_7 a2_0 a2_1 a2_2 a2_3 a2_4 a2_5 a2_6 a2_7).bind fun t172 => ((span_Cmp.f kj3 a0_0 a0_1 a0_2 a0_3 a0_4 a0_5 a0_6 a0_7 a2_0 a2_1 a2_2 a2_3 a2_4 a2_5 a2_6 a2_7).bind fun t173 => (if t171 > 0 then (if t171 < 0 then (merkhetlaw01_SpanOrder.j1 kj3 t171 true a0_0 a0_1 a0_2 a0_3 a0_4 a0_5 a0_6 a0_7 a1_0 a1_1 a1_2 a1_3 a1_4 a1_5 a1_6 a1_7) else (if t172 < 0 then (merkhetlaw01_SpanOrder.j1 kj3 t171 true a0_0 a0_1 a0_2 a0_3 a0_4 a0_5 a0_6 a0_7 a1_0 a1_1 a1_2 a1_3 a1_4 a1_5 a1_6 a1_7) else (merkhetlaw01_SpanOrder.j1 kj3 t171 (decide (t173 ≥ 0)) a0_0 a0_1 a0_2 a0_3 a0_4 a0_5 a0_6 a0_7 a1_0 a1_1 a1_2 a1_3 a1_4 a1_5 a1_6 a1_7))) else (if t172 > 0 then (if t171 < 0 then (merkhetlaw01_SpanOrder.j1 kj3 t171 true a0_0 a0_1 a0_2 a0_3 a0_4 a0_5 a0_6 a0_7 a1_0 a1_1 a1_2 a1_3 a1_4 a1_5 a1_6 a1_7) else (if t172 < 0 then (merkhetlaw01_SpanOrder.j1 kj3 t171 true a0_0 a0_1 a0_2 a0_3 a0_4 a0_5 a0_6 a0_7 a1_0 a1_1 a1_2 a1_3 a1_4 a1_5 a1_6 a1_7) else (merkhetlaw01_SpanOrder.j1 kj3 t171 (decide (t173 ≥ 0)) a0_0 a0_1 a0_2 a0_3 a0_4 a0_5 a0_6 a0_7 a1_0 a1_1 a1_2 a1_3 a1_4 a1_5 a1_6 a1_7))) else (if t173 ≤ 0 then (if t171 < 0 then (merkhetlaw01_SpanOrder.j1 kj3 t171 true a0_0 a0_1 a0_2 a0_3 a0_4 a0_5 a0_6 a0_7 a1_0 a1_1 a1_2 a1_3 a1_4 a1_5 a1_6 a1_7) else (if t172 < 0 then (merkhetlaw01_SpanOrder.j1 kj3 t171 true a0_0 a0_1 a0_2 a0_3 a0_4 a0_5 a0_6 a0_7 a1_0 a1_1 a1_2 a1_3 a1_4 a1_5 a1_6 a1_7) else (merkhetlaw01_SpanOrder.j1 kj3 t171 (decide (t173 ≥ 0)) a0_0 a0_1 a0_2 a0_3 a0_4 a0_5 a0_6 a0_7 a1_0 a1_1 a1_2 a1_3 a1_4 a1_5 a1_6 a1_7))) else (merkhetlaw01_SpanOrder.j1 kj3 t171 false a0_0 a0_1 a0_2 a0_3 a0_4 a0_5 a0_6 a0_7 a1_0 a1_1 a1_2 a1_3 a1_4 a1_5 a1_6 a1_7)))))) = some r := H
        have A36 := Aside0.mk A360
        clear A360
        replace H := Option.bind_eq_some_iff.mp H
        obtain ⟨t172, A370, H⟩ := H
        replace H : ((span_Cmp.f kj3 a0_0 a0_1 a0_2 a0_3 a0_4 a0_5 a0_6 a0_7 a2_0 a2_1 a2_2 a2_3 a2_4 a2_5 a2_6 a2_7).bind fun t173 => (if t171 > 0 then (if t171 < 0 then (merkhetlaw01_SpanOrder.j1 kj3 t171 true a0_0 a0_1 a0_2 a0_3 a0_4 a0_5 a0_6 a0_7 a1_0 a1_1 a1_2 a1_3 a1_4 a1_5 a1_6 a1_7) else (if t172 < 0 then (merkhetlaw01_SpanOrder.j1 kj3 t171 true a0_0 a0_1 a0_2 a0_3 a0_4 a0_5 a0_6 a0_7 a1_0 a1_1 a1_2 a1_3 a1_4 a1_5 a1_6 a1_7) else (merkhetlaw01_SpanOrder.j1 kj3 t171 (decide (t173 ≥ 0)) a0_0 a0_1 a0_2 a0_3 a0_4 a0_5 a0_6 a0_7 a1_0 a1_1 a1_2 a1_3 a1_4 a1_5 a1_6 a1_7))) else (if t172 > 0 then (if t171 < 0 then (merkhetlaw01_SpanOrder.j1 kj3 t171 true a0_0 a0_1 a0_2 a0_3 a0_4 a0_5 a0_6 a0_7 a1_0 a1_1 a1_2 a1_3 a1_4 a1_5 a1_6 a1_7) else (if t172 < 0 then (merkhetlaw01_SpanOrder.j1 kj3 t171 true a0_0 a0_1 a0_2 a0_3 a0_4 a0_5 a0_6 a0_7 a1_0 a1_1 a1_2 a1_3 a1_4 a1_5 a1_6 a1_7) else (merkhetlaw01_SpanOrder.j1 kj3 t171 (decide (t173 ≥ 0)) a0_0 a0_1 a0_2 a0_3 a0_4 a0_5 a0_6 a0_7 a1_0 a1_1 a1_2 a1_3 a1_4 a1_5 a1_6 a1_7))) else (if t173 ≤ 0 then (if t171 < 0 then (merkhetlaw01_SpanOrder.j1 kj3 t171 true a0_0 a0_1 a0_2 a0_3 a0_4 a0_5 a0_6 a0_7 a1_0 a1_1 a1_2 a1_3 a1_4 a1_5 a1_6 a1_7) else (if t172 < 0 then (merkhetlaw01_SpanOrder.j1 kj3 t171 true a0_0 a0_1 a0_2 a0_3 a0_4 a0_5 a0_6 a0_7 a1_0 a1_1 a1_2 a1_3 a1_4 a1_5 a1_6 a1_7) else (merkhetlaw01_SpanOrder.j1 kj3 t171 (decide (t173 ≥ 0)) a0_0 a0_1 a0_2 a0_3 a0_4 a0_5 a0_6 a0_7 a1_0 a1_1 a1_2 a1_3 a1_4 a1_5 a1_6 a1_7))) else (merkhetlaw01_SpanOrder.j1 kj3 t171 false a0_0 a0_1 a0_2 a0_3 a0_4 a0_5 a0_6 a0_7 a1_0 a1_1 a1_2 a1_3 a1_4 a1_5 a1_6 a1_7))))) = some r := H
        have A37 := Aside0.mk A370
        clear A370
        replace H := Option.bind_eq_some_iff.mp H
        obtain ⟨t173, A380, H⟩ := H
        replace H : (if t171 > 0 then (if t171 < 0 then (merkhetlaw01_SpanOrder.j1 kj3 t171 true a0_0 a0_1 a0_2 a0_3 a0_4 a0_5 a0_6 a0_7 a1_0 a1_1 a1_2 a1_3 a1_4 a1_5 a1_6 a1_7) else (if t172 < 0 then (merkhetlaw01_SpanOrder.j1 kj3 t171 true a0_0 a0_1 a0_2 a0_3 a0_4 a0_5 a0_6 a0_7 a1_0 a1_1 a1_2 a1_3 a1_4 a1_5 a1_6 a1_7) else (merkhetlaw01_SpanOrder.j1 kj3 t171 (decide (t173 ≥ 0)) a0_0 a0_1 a0_2 a0_3 a0_4 a0_5 a0_6 a0_7 a1_0 a1_1 a1_2 a1_3 a1_4 a1_5 a1_6 a1_7))) else (if t172 > 0 then (if t171 < 0 then (merkhetlaw01_SpanOrder.j1 kj3 t171 true a0_0 a0_1 a0_2 a0_3 a0_4 a0_5 a0_6 a0_7 a1_0 a1_1 a1_2 a1_3 a1_4 a1_5 a1_6 a1_7) else (if t172 < 0 then (merkhetlaw01_SpanOrder.j1 kj3 t171 true a0_0 a0_1 a0_2 a0_3 a0_4 a0_5 a0_6 a0_7 a1_0 a1_1 a1_2 a1_3 a1_4 a1_5 a1_6 a1_7) else (merkhetlaw01_SpanOrder.j1 kj3 t171 (decide (t173 ≥ 0)) a0_0 a0_1 a0_2 a0_3 a0_4 a0_5 a0_6 a0_7 a1_0 a1_1 a1_2 a1_3 a1_4 a1_5 a1_6 a1_7))) else (if t173 ≤ 0 then (if t171 < 0 then (merkhetlaw01_SpanOrder.j1 kj3 t171 true a0_0 a0_1 a0_2 a0_3 a0_4 a0_5 a0_6 a0_7 a1_0 a1_1 a1_2 a1_3 a1_4 a1_5 a1_6 a1_7) else (if t172 < 0 then (merkhetlaw01_SpanOrder.j1 kj3 t171 true a0_0 a0_1 a0_2 a0_3 a0_4 a0_5 a0_6 a0_7 a1_0 a1_1 a1_2 a1_3 a1_4 a1_5 a1_6 a1_7) else (merkhetlaw01_SpanOrder.j1 kj3 t171 (decide (t173 ≥ 0)) a0_0 a0_1 a0_2 a0_3 a0_4 a0_5 a0_6 a0_7 a1_0 a1_1 a1_2 a1_3 a1_4 a1_5 a1_6 a1_7))) else (merkhetlaw01_SpanOrder.j1 kj3 t171 false a0_0 a0_1 a0_2 a0_3 a0_4 a0_5 a0_6 a0_7 a1_0 a1_1 a1_2 a1_3 a1_4 a1_5 a1_6 a1_7)))) = some r := H
        have A38 := Aside0.mk A380
        clear A380
        have HC39 := Aside0.mk H
        clear H
        try go_wp2
        have n0_ := Aside0.mk (blk_drew BK164.out)
        have n1_ := Aside0.mk (blk_drew BK165.out)
        have n2_ := Aside0.mk (blk_drew BK166.out)
        have n3_ := Aside0.mk (below_drew1 HB.out)
        clear BK164
        clear BK165
        clear BK166
        clear HB
        have BK164 := n0_
        have BK165 := n1_
        have BK166 := n2_
        have HB := n3_
        clear n0_ n1_ n2_ n3_
        refine start_ (n := 12) (S := fun w' => w'.cell? ⟨gb164, 0, none⟩ = some (.int .u64 a0_0) ∧ w'.cell? ⟨gb164, 1, none⟩ = some (.int .u64 a0_1) ∧ w'.cell? ⟨gb164, 2, none⟩ = some (.int .u64 a0_2) ∧ w'.cell? ⟨gb164, 3, none⟩ = some (.int .u8 a0_3) ∧ w'.cell? ⟨gb164, 4, none⟩ = some (.string a0_4) ∧ w'.cell? ⟨gb164, 5, none⟩ = some (.string a0_5) ∧ w'.cell? ⟨gb164, 6, none⟩ = some (.int .i64 a0_6) ∧ w'.cell? ⟨gb164, 7, none⟩ = some (.int .i64 a0_7) ∧ w'.cell? ⟨gb165, 0, none⟩ = some (.int .u64 a1_0) ∧ w'.cell? ⟨gb165, 1, none⟩ = some (.int .u64 a1_1) ∧ w'.cell? ⟨gb165, 2, none⟩ = some (.int .u64 a1_2) ∧ w'.cell? ⟨gb165, 3, none⟩ = some (.int .u8 a1_3) ∧ w'.cell? ⟨gb165, 4, none⟩ = some (.string a1_4) ∧ w'.cell? ⟨gb165, 5, none⟩ = some (.string a1_5) ∧ w'.cell? ⟨gb165, 6, none⟩ = some (.int .i64 a1_6) ∧ w'.cell? ⟨gb165, 7, none⟩ = some (.int .i64 a1_7) ∧ w'.cell? ⟨gb166, 0, none⟩ = some (.int .u64 a2_0) ∧ w'.cell? ⟨gb166, 1, none⟩ = some (.int .u64 a2_1) ∧ w'.cell? ⟨gb166, 2, none⟩ = some (.int .u64 a2_2) ∧ w'.cell? ⟨gb166, 3, none⟩ = some (.int .u8 a2_3) ∧ w'.cell? ⟨gb166, 4, none⟩ = some (.string a2_4) ∧ w'.cell? ⟨gb166, 5, none⟩ = some (.string a2_5) ∧ w'.cell? ⟨gb166, 6, none⟩ = some (.int .i64 a2_6) ∧ w'.cell? ⟨gb166, 7, none⟩ = some (.int .i64 a2_7)) (ds := []) #[false, false, false, false, false, false, false, false, false, false, false, false] (by kernel_rfl) rfl rfl ⟨(blk_cell BK164.out 0).trans rfl, (blk_cell BK164.out 1).trans rfl, (blk_cell BK164.out 2).trans rfl, (blk_cell BK164.out 3).trans rfl, (blk_cell BK164.out 4).trans rfl, (blk_cell BK164.out 5).trans rfl, (blk_cell BK164.out 6).trans rfl, (blk_cell BK164.out 7).trans rfl, (blk_cell BK165.out 0).trans rfl, (blk_cell BK165.out 1).trans rfl, (blk_cell BK165.out 2).trans rfl, (blk_cell BK165.out 3).trans rfl, (blk_cell BK165.out 4).trans rfl, (blk_cell BK165.out 5).trans rfl, (blk_cell BK165.out 6).trans rfl, (blk_cell BK165.out 7).trans rfl, (blk_cell BK166.out 0).trans rfl, (blk_cell BK166.out 1).trans rfl, (blk_cell BK166.out 2).trans rfl, (blk_cell BK166.out 3).trans rfl, (blk_cell BK166.out 4).trans rfl, (blk_cell BK166.out 5).trans rfl, (blk_cell BK166.out 6).trans rfl, (blk_cell BK166.out 7).trans rfl⟩ (fun hHeld => ?_); refine with_tabW merkhetlaw01_SpanOrder.tab3 merkhetlaw01_SpanOrder.bits3 (fun HT_ HW_ => ?_)
        generalize wc.drew = w40 at BK164 BK165 BK166 HB hHeld ⊢
        refine take_ (i := 0) (N := some 22) (v := ?_) (a' := ?_) #[true, false, false, false, false, false, false, false, false, false, false, false] rfl rfl (take_ofW HT_.out HW_.out (by kernel_rfl)) (fun _ _ _ h => h) (Or.inl ⟨by rfl, ?_⟩) hHeld ?_ ?_
        rotate_left
        · rintro w' ⟨s0, s1, s2, s3, s4, s5, s6, s7, s8, s9, s10, s11, s12, s13, s14, s15, s16, s17, s18, s19, s20, s21, s22, s23⟩
          go_simp
          with_reducible rfl
        rotate_left
        · simp only [Act.put, List.setIfInBounds_toArray, List.set_cons_zero, List.set_cons_succ, i64_w, i32_w]
          rfl
        refine take_ (i := 1) (N := some 23) (v := ?_) (a' := ?_) #[true, true, false, false, false, false, false, false, false, false, false, false] rfl rfl (take_ofW HT_.out HW_.out (by kernel_rfl)) (fun _ _ _ h => h) (Or.inl ⟨by rfl, ?_⟩) hHeld ?_ ?_
        rotate_left
        · rintro w' ⟨s0, s1, s2, s3, s4, s5, s6, s7, s8, s9, s10, s11, s12, s13, s14, s15, s16, s17, s18, s19, s20, s21, s22, s23⟩
          go_simp
          with_reducible rfl
        rotate_left
        · simp only [Act.put, List.setIfInBounds_toArray, List.set_cons_zero, List.set_cons_succ, i64_w, i32_w]
          rfl
        refine take_ (i := 3) (N := some 25) (v := ?_) (a' := ?_) #[true, true, false, true, false, false, false, false, false, false, false, false] rfl rfl (take_ofW HT_.out HW_.out (by kernel_rfl)) (fun _ _ _ h => h) (Or.inl ⟨by rfl, ?_⟩) hHeld ?_ ?_
        rotate_left
        · rintro w' ⟨s0, s1, s2, s3, s4, s5, s6, s7, s8, s9, s10, s11, s12, s13, s14, s15, s16, s17, s18, s19, s20, s21, s22, s23⟩
          go_simp
          with_reducible rfl
        rotate_left
        · simp only [Act.put, List.setIfInBounds_toArray, List.set_cons_zero, List.set_cons_succ, i64_w, i32_w]
          rfl
        refine take_ (i := 4) (N := some 26) (v := ?_) (a' := ?_) #[true, true, false, true, true, false, false, false, false, false, false, false] rfl rfl (take_ofW HT_.out HW_.out (by kernel_rfl)) (fun _ _ _ h => h) (Or.inl ⟨by rfl, ?_⟩) hHeld ?_ ?_
        rotate_left
        · rintro w' ⟨s0, s1, s2, s3, s4, s5, s6, s7, s8, s9, s10, s11, s12, s13, s14, s15, s16, s17, s18, s19, s20, s21, s22, s23⟩
          go_simp
          with_reducible rfl
        rotate_left
        · simp only [Act.put, List.setIfInBounds_toArray, List.set_cons_zero, List.set_cons_succ, i64_w, i32_w]
          rfl
        refine take_ (i := 6) (N := some 28) (v := ?_) (a' := ?_) #[true, true, false, true, true, false, true, false, false, false, false, false] rfl rfl (take_ofW HT_.out HW_.out (by kernel_rfl)) (fun _ _ _ h => h) (Or.inl ⟨by rfl, ?_⟩) hHeld ?_ ?_
        rotate_left
        · rintro w' ⟨s0, s1, s2, s3, s4, s5, s6, s7, s8, s9, s10, s11, s12, s13, s14, s15, s16, s17, s18, s19, s20, s21, s22, s23⟩
          go_simp
          with_reducible rfl
        rotate_left
        · simp only [Act.put, List.setIfInBounds_toArray, List.set_cons_zero, List.set_cons_succ, i64_w, i32_w]
          rfl
        refine take_ (i := 7) (N := some 29) (v := ?_) (a' := ?_) #[true, true, false, true, true, false, true, true, false, false, false, false] rfl rfl (take_ofW HT_.out HW_.out (by kernel_rfl)) (fun _ _ _ h => h) (Or.inl ⟨by rfl, ?_⟩) hHeld ?_ ?_
        rotate_left
        · rintro w' ⟨s0, s1, s2, s3, s4, s5, s6, s7, s8, s9, s10, s11, s12, s13, s14, s15, s16, s17, s18, s19, s20, s21, s22, s23⟩
          go_simp
          with_reducible rfl
        rotate_left
        · simp only [Act.put, List.setIfInBounds_toArray, List.set_cons_zero, List.set_cons_succ, i64_w, i32_w]
          rfl
        refine one_ (i := 2) (N := some 24) #[true, true, true, true, true, false, true, true, false, false, false, false] rfl rfl (one_of HT_.out (by kernel_rfl)) (by decide) (fun K hK => ?_)
        refine goes_ Try.func22 (by kernel_rfl) rfl #[.agg #[.int .u64 a0_0, .int .u64 a0_1, .int .u64 a0_2, .int .u8 a0_3, .string a0_4, .string a0_5, .int .i64 a0_6, .int .i64 a0_7], .agg #[.int .u64 a1_0, .int .u64 a1_1, .int .u64 a1_2, .int .u8 a1_3, .string a1_4, .string a1_5, .int .i64 a1_6, .int .i64 a1_7]] (by rfl) rfl rfl (by (try simp only [List.map_toArray, List.map_cons, List.map_nil]); first | done | rfl | (simp only [List.length_drop, List.length_take]; rfl)) ?_
        with_reducible refine (span_Cmp.calls kj3 a0_0 a0_1 a0_2 a0_3 a0_4 a0_5 a0_6 a0_7 a1_0 a1_1 a1_2 a1_3 a1_4 a1_5 a1_6 a1_7 t171 _ A36.out).mono ?_
        rintro e w41 ⟨rfl, hb⟩
        refine ⟨_, rfl, ?_⟩
        have n0_ := Aside0.mk (blk_below (g := gb164) (o := .cells #[.int .u64 a0_0, .int .u64 a0_1, .int .u64 a0_2, .int .u8 a0_3, .string a0_4, .string a0_5, .int .i64 a0_6, .int .i64 a0_7] 39 (0, 0)) (by (with_reducible repeat (first | refine blk_drewN ?_ _ | refine blk_drew ?_ | refine blk_alloc ?_ _)); exact BK164.out) hb)
        have n1_ := Aside0.mk (blk_below (g := gb165) (o := .cells #[.int .u64 a1_0, .int .u64 a1_1, .int .u64 a1_2, .int .u8 a1_3, .string a1_4, .string a1_5, .int .i64 a1_6, .int .i64 a1_7] 39 (0, 0)) (by (with_reducible repeat (first | refine blk_drewN ?_ _ | refine blk_drew ?_ | refine blk_alloc ?_ _)); exact BK165.out) hb)
        have n2_ := Aside0.mk (blk_below (g := gb166) (o := .cells #[.int .u64 a2_0, .int .u64 a2_1, .int .u64 a2_2, .int .u8 a2_3, .string a2_4, .string a2_5, .int .i64 a2_6, .int .i64 a2_7] 39 (0, 0)) (by (with_reducible repeat (first | refine blk_drewN ?_ _ | refine blk_drew ?_ | refine blk_alloc ?_ _)); exact BK166.out) hb)
        have n3_ := Aside0.mk (below_step (by repeat (first | (with_reducible first | exact HB.out | apply below_alloc | apply pw_below_drewN | apply below_drew1 | refine below_set ?_ GE164.out | refine below_set ?_ GE165.out | refine below_set ?_ GE166.out) | exact HB.out)) hb)
        clear BK164
        clear BK165
        clear BK166
        clear HB
        have BK164 := n0_
        have BK165 := n1_
        have BK166 := n2_
        have HB := n3_
        clear n0_ n1_ n2_ n3_
        (try clear hb)
        (try clear hb2)
        (try clear hk)
        (try clear hi)
        refine hK.out _ _ ⟨(blk_cell BK164.out 0).trans rfl, (blk_cell BK164.out 1).trans rfl, (blk_cell BK164.out 2).trans rfl, (blk_cell BK164.out 3).trans rfl, (blk_cell BK164.out 4).trans rfl, (blk_cell BK164.out 5).trans rfl, (blk_cell BK164.out 6).trans rfl, (blk_cell BK164.out 7).trans rfl, (blk_cell BK165.out 0).trans rfl, (blk_cell BK165.out 1).trans rfl, (blk_cell BK165.out 2).trans rfl, (blk_cell BK165.out 3).trans rfl, (blk_cell BK165.out 4).trans rfl, (blk_cell BK165.out 5).trans rfl, (blk_cell BK165.out 6).trans rfl, (blk_cell BK165.out 7).trans rfl, (blk_cell BK166.out 0).trans rfl, (blk_cell BK166.out 1).trans rfl, (blk_cell BK166.out 2).trans rfl, (blk_cell BK166.out 3).trans rfl, (blk_cell BK166.out 4).trans rfl, (blk_cell BK166.out 5).trans rfl, (blk_cell BK166.out 6).trans rfl, (blk_cell BK166.out 7).trans rfl⟩ (fun hHeld => ?_)
        clear hK K
        refine norm_ (a' := ?_) ?_ ?_
        rotate_left
        · show Act.put _ (some 24) _ = _
          simp only [Act.put, List.setIfInBounds_toArray, List.set_cons_zero, List.set_cons_succ, i64_w, i32_w]
          rfl
        refine one_ (i := 5) (N := some 27) #[true, true, true, true, true, true, true, true, false, false, false, false] rfl rfl (one_of HT_.out (by kernel_rfl)) (by decide) (fun K hK => ?_)
        refine goes_ Try.func22 (by kernel_rfl) rfl #[.agg #[.int .u64 a1_0, .int .u64 a1_1, .int .u64 a1_2, .int .u8 a1_3, .string a1_4, .string a1_5, .int .i64 a1_6, .int .i64 a1_7], .agg #[.int .u64 a2_0, .int .u64 a2_1, .int .u64 a2_2, .int .u8 a2_3, .string a2_4, .string a2_5, .int .i64 a2_6, .int .i64 a2_7]] (by rfl) rfl rfl (by (try simp only [List.map_toArray, List.map_cons, List.map_nil]); first | done | rfl | (simp only [List.length_drop, List.length_take]; rfl)) ?_
        with_reducible refine (span_Cmp.calls kj3 a1_0 a1_1 a1_2 a1_3 a1_4 a1_5 a1_6 a1_7 a2_0 a2_1 a2_2 a2_3 a2_4 a2_5 a2_6 a2_7 t172 _ A37.out).mono ?_
        rintro e w42 ⟨rfl, hb⟩
        refine ⟨_, rfl, ?_⟩
        have n0_ := Aside0.mk (blk_below (g := gb164) (o := .cells #[.int .u64 a0_0, .int .u64 a0_1, .int .u64 a0_2, .int .u8 a0_3, .string a0_4, .string a0_5, .int .i64 a0_6, .int .i64 a0_7] 39 (0, 0)) (by (with_reducible repeat (first | refine blk_drewN ?_ _ | refine blk_drew ?_ | refine blk_alloc ?_ _)); exact BK164.out) hb)
        have n1_ := Aside0.mk (blk_below (g := gb165) (o := .cells #[.int .u64 a1_0, .int .u64 a1_1, .int .u64 a1_2, .int .u8 a1_3, .string a1_4, .string a1_5, .int .i64 a1_6, .int .i64 a1_7] 39 (0, 0)) (by (with_reducible repeat (first | refine blk_drewN ?_ _ | refine blk_drew ?_ | refine blk_alloc ?_ _)); exact BK165.out) hb)
        have n2_ := Aside0.mk (blk_below (g := gb166) (o := .cells #[.int .u64 a2_0, .int .u64 a2_1, .int .u64 a2_2, .int .u8 a2_3, .string a2_4, .string a2_5, .int .i64 a2_6, .int .i64 a2_7] 39 (0, 0)) (by (with_reducible repeat (first | refine blk_drewN ?_ _ | refine blk_drew ?_ | refine blk_alloc ?_ _)); exact BK166.out) hb)
        have n3_ := Aside0.mk (below_step (by repeat (first | (with_reducible first | exact HB.out | apply below_alloc | apply pw_below_drewN | apply below_drew1 | refine below_set ?_ GE164.out | refine below_set ?_ GE165.out | refine below_set ?_ GE166.out) | exact HB.out)) hb)
        clear BK164
        clear BK165
        clear BK166
        clear HB
        have BK164 := n0_
        have BK165 := n1_
        have BK166 := n2_
        have HB := n3_
        clear n0_ n1_ n2_ n3_
        (try clear hb)
        (try clear hb2)
        (try clear hk)
        (try clear hi)
        refine hK.out _ _ ⟨(blk_cell BK164.out 0).trans rfl, (blk_cell BK164.out 1).trans rfl, (blk_cell BK164.out 2).trans rfl, (blk_cell BK164.out 3).trans rfl, (blk_cell BK164.out 4).trans rfl, (blk_cell BK164.out 5).trans rfl, (blk_cell BK164.out 6).trans rfl, (blk_cell BK164.out 7).trans rfl, (blk_cell BK165.out 0).trans rfl, (blk_cell BK165.out 1).trans rfl, (blk_cell BK165.out 2).trans rfl, (blk_cell BK165.out 3).trans rfl, (blk_cell BK165.out 4).trans rfl, (blk_cell BK165.out 5).trans rfl, (blk_cell BK165.out 6).trans rfl, (blk_cell BK165.out 7).trans rfl, (blk_cell BK166.out 0).trans rfl, (blk_cell BK166.out 1).trans rfl, (blk_cell BK166.out 2).trans rfl, (blk_cell BK166.out 3).trans rfl, (blk_cell BK166.out 4).trans rfl, (blk_cell BK166.out 5).trans rfl, (blk_cell BK166.out 6).trans rfl, (blk_cell BK166.out 7).trans rfl⟩ (fun hHeld => ?_)
        clear hK K
        refine norm_ (a' := ?_) ?_ ?_
        rotate_left
        · show Act.put _ (some 27) _ = _
          simp only [Act.put, List.setIfInBounds_toArray, List.set_cons_zero, List.set_cons_succ, i64_w, i32_w]
          rfl
        refine one_ (i := 8) (N := some 30) #[true, true, true, true, true, true, true, true, true, false, false, false] rfl rfl (one_of HT_.out (by kernel_rfl)) (by decide) (fun K hK => ?_)
        refine goes_ Try.func22 (by kernel_rfl) rfl #[.agg #[.int .u64 a0_0, .int .u64 a0_1, .int .u64 a0_2, .int .u8 a0_3, .string a0_4, .string a0_5, .int .i64 a0_6, .int .i64 a0_7], .agg #[.int .u64 a2_0, .int .u64 a2_1, .int .u64 a2_2, .int .u8 a2_3, .string a2_4, .string a2_5, .int .i64 a2_6, .int .i64 a2_7]] (by rfl) rfl rfl (by (try simp only [List.map_toArray, List.map_cons, List.map_nil]); first | done | rfl | (simp only [List.length_drop, List.length_take]; rfl)) ?_
        with_reducible refine (span_Cmp.calls kj3 a0_0 a0_1 a0_2 a0_3 a0_4 a0_5 a0_6 a0_7 a2_0 a2_1 a2_2 a2_3 a2_4 a2_5 a2_6 a2_7 t173 _ A38.out).mono ?_
        rintro e w43 ⟨rfl, hb⟩
        refine ⟨_, rfl, ?_⟩
        have n0_ := Aside0.mk (blk_below (g := gb164) (o := .cells #[.int .u64 a0_0, .int .u64 a0_1, .int .u64 a0_2, .int .u8 a0_3, .string a0_4, .string a0_5, .int .i64 a0_6, .int .i64 a0_7] 39 (0, 0)) (by (with_reducible repeat (first | refine blk_drewN ?_ _ | refine blk_drew ?_ | refine blk_alloc ?_ _)); exact BK164.out) hb)
        have n1_ := Aside0.mk (blk_below (g := gb165) (o := .cells #[.int .u64 a1_0, .int .u64 a1_1, .int .u64 a1_2, .int .u8 a1_3, .string a1_4, .string a1_5, .int .i64 a1_6, .int .i64 a1_7] 39 (0, 0)) (by (with_reducible repeat (first | refine blk_drewN ?_ _ | refine blk_drew ?_ | refine blk_alloc ?_ _)); exact BK165.out) hb)
        have n2_ := Aside0.mk (blk_below (g := gb166) (o := .cells #[.int .u64 a2_0, .int .u64 a2_1, .int .u64 a2_2, .int .u8 a2_3, .string a2_4, .string a2_5, .int .i64 a2_6, .int .i64 a2_7] 39 (0, 0)) (by (with_reducible repeat (first | refine blk_drewN ?_ _ | refine blk_drew ?_ | refine blk_alloc ?_ _)); exact BK166.out) hb)
        have n3_ := Aside0.mk (below_step (by repeat (first | (with_reducible first | exact HB.out | apply below_alloc | apply pw_below_drewN | apply below_drew1 | refine below_set ?_ GE164.out | refine below_set ?_ GE165.out | refine below_set ?_ GE166.out) | exact HB.out)) hb)
        clear BK164
        clear BK165
        clear BK166
        clear HB
        have BK164 := n0_
        have BK165 := n1_
        have BK166 := n2_
        have HB := n3_
        clear n0_ n1_ n2_ n3_
        (try clear hb)
        (try clear hb2)
        (try clear hk)
        (try clear hi)
        refine hK.out _ _ ⟨(blk_cell BK164.out 0).trans rfl, (blk_cell BK164.out 1).trans rfl, (blk_cell BK164.out 2).trans rfl, (blk_cell BK164.out 3).trans rfl, (blk_cell BK164.out 4).trans rfl, (blk_cell BK164.out 5).trans rfl, (blk_cell BK164.out 6).trans rfl, (blk_cell BK164.out 7).trans rfl, (blk_cell BK165.out 0).trans rfl, (blk_cell BK165.out 1).trans rfl, (blk_cell BK165.out 2).trans rfl, (blk_cell BK165.out 3).trans rfl, (blk_cell BK165.out 4).trans rfl, (blk_cell BK165.out 5).trans rfl, (blk_cell BK165.out 6).trans rfl, (blk_cell BK165.out 7).trans rfl, (blk_cell BK166.out 0).trans rfl, (blk_cell BK166.out 1).trans rfl, (blk_cell BK166.out 2).trans rfl, (blk_cell BK166.out 3).trans rfl, (blk_cell BK166.out 4).trans rfl, (blk_cell BK166.out 5).trans rfl, (blk_cell BK166.out 6).trans rfl, (blk_cell BK166.out 7).trans rfl⟩ (fun hHeld => ?_)
        clear hK K
        refine norm_ (a' := ?_) ?_ ?_
        rotate_left
        · show Act.put _ (some 30) _ = _
          simp only [Act.put, List.setIfInBounds_toArray, List.set_cons_zero, List.set_cons_succ, i64_w, i32_w]
          rfl
        refine pure_ (i := 9) (N := some 7) (v := ?_) (a' := ?_) #[true, true, true, true, true, true, true, true, true, true, false, false] rfl rfl (any_of HT_.out (by kernel_rfl)) (fun _ _ _ h => h) (Or.inl ⟨by rfl, ?_⟩) ?_ ?_
        rotate_left
        · intro w'
          go_simp
          with_reducible rfl
        rotate_left
        · simp only [Act.put, List.setIfInBounds_toArray, List.set_cons_zero, List.set_cons_succ, i64_w, i32_w]
          rfl
        refine pure_ (i := 10) (N := some 8) (v := ?_) (a' := ?_) #[true, true, true, true, true, true, true, true, true, true, true, false] rfl rfl (any_of HT_.out (by kernel_rfl)) (fun _ _ _ h => h) (Or.inl ⟨by rfl, ?_⟩) ?_ ?_
        rotate_left
        · intro w'
          go_simp
          with_reducible rfl
        rotate_left
        · simp only [Act.put, List.setIfInBounds_toArray, List.set_cons_zero, List.set_cons_succ, i64_w, i32_w]
          rfl
        refine pure_ (i := 11) (N := some 9) (v := ?_) (a' := ?_) #[true, true, true, true, true, true, true, true, true, true, true, true] rfl rfl (any_of HT_.out (by kernel_rfl)) (fun _ _ _ h => h) (Or.inl ⟨by rfl, ?_⟩) ?_ ?_
        rotate_left
        · intro w'
          go_simp
          with_reducible rfl
        rotate_left
        · simp only [Act.put, List.setIfInBounds_toArray, List.set_cons_zero, List.set_cons_succ, i64_w, i32_w]
          rfl
        refine done_ (done_of HT_.out (by kernel_rfl)) ?_
        go_upto_region 4 with (fail)
        go_cut [10] (fun v10 wc => ∃ (kq : Nat) (x10_38 : Bool), v10 = .bool x10_38 ∧ Aside0 (merkhetlaw01_SpanOrder.j1 kq t171 x10_38 a0_0 a0_1 a0_2 a0_3 a0_4 a0_5 a0_6 a0_7 a1_0 a1_1 a1_2 a1_3 a1_4 a1_5 a1_6 a1_7 = some r) ∧ Aside0 (kq ≤ kj3) ∧ Aside0 (wc.heap[gb164]? = some (.cells #[.int .u64 a0_0, .int .u64 a0_1, .int .u64 a0_2, .int .u8 a0_3, .string a0_4, .string a0_5, .int .i64 a0_6, .int .i64 a0_7] 39 (0, 0))) ∧ Aside0 (wc.heap[gb165]? = some (.cells #[.int .u64 a1_0, .int .u64 a1_1, .int .u64 a1_2, .int .u8 a1_3, .string a1_4, .string a1_5, .int .i64 a1_6, .int .i64 a1_7] 39 (0, 0))) ∧ Aside0 (wc.heap[gb166]? = some (.cells #[.int .u64 a2_0, .int .u64 a2_1, .int .u64 a2_2, .int .u8 a2_3, .string a2_4, .string a2_5, .int .i64 a2_6, .int .i64 a2_7] 39 (0, 0))) ∧ Aside0 (Below w.heap.size w wc))
        case first =>
          have H := HC39.out
          clear HC39
          by_cases c44 : t171 > 0
          · rw [if_pos c44] at H
            have c44b0 : decide (0 < t171) = true := decide_eq_true c44
            clear c44
            (first | rw [c44b0] | (simp only [i64_w, i32_w]; rw [c44b0]) | skip)
            by_cases c45 : t171 < 0
            · rw [if_pos c45] at H
              have c45b0 : decide (t171 < 0) = true := decide_eq_true c45
              clear c45
              have H' := Aside0.mk H
              clear H
              go_wp2
              go_meet
              case rel => exact ⟨_, (true), (by first | rfl | (simp; done) | (simp [*]; done)), H', ⟨by have := HJ3.out; first | omega | exact Nat.le_refl _⟩, ⟨by (with_reducible repeat (first | refine blk_drewN ?_ _ | refine blk_drew ?_ | refine blk_alloc ?_ _)); exact BK164.out⟩, ⟨by (with_reducible repeat (first | refine blk_drewN ?_ _ | refine blk_drew ?_ | refine blk_alloc ?_ _)); exact BK165.out⟩, ⟨by (with_reducible repeat (first | refine blk_drewN ?_ _ | refine blk_drew ?_ | refine blk_alloc ?_ _)); exact BK166.out⟩, ⟨by repeat (first | (with_reducible first | exact HB.out | apply below_alloc | apply pw_below_drewN | apply below_drew1 | refine below_set ?_ GE164.out | refine below_set ?_ GE165.out | refine below_set ?_ GE166.out) | exact HB.out)⟩⟩
            · rw [if_neg c45] at H
              have c45b0 : decide (t171 < 0) = false := decide_eq_false c45
              clear c45
              by_cases c46 : t172 < 0
              · rw [if_pos c46] at H
                have c46b0 : decide (t172 < 0) = true := decide_eq_true c46
                clear c46
                have H' := Aside0.mk H
                clear H
                go_wp2
                go_meet
                case rel => exact ⟨_, (true), (by first | rfl | (simp; done) | (simp [*]; done)), H', ⟨by have := HJ3.out; first | omega | exact Nat.le_refl _⟩, ⟨by (with_reducible repeat (first | refine blk_drewN ?_ _ | refine blk_drew ?_ | refine blk_alloc ?_ _)); exact BK164.out⟩, ⟨by (with_reducible repeat (first | refine blk_drewN ?_ _ | refine blk_drew ?_ | refine blk_alloc ?_ _)); exact BK165.out⟩, ⟨by (with_reducible repeat (first | refine blk_drewN ?_ _ | refine blk_drew ?_ | refine blk_alloc ?_ _)); exact BK166.out⟩, ⟨by repeat (first | (with_reducible first | exact HB.out | apply below_alloc | apply pw_below_drewN | apply below_drew1 | refine below_set ?_ GE164.out | refine below_set ?_ GE165.out | refine below_set ?_ GE166.out) | exact HB.out)⟩⟩
              · rw [if_neg c46] at H
                have c46b0 : decide (t172 < 0) = false := decide_eq_false c46
                clear c46
                have H' := Aside0.mk H
                clear H
                go_wp2
                go_meet
                case rel => exact ⟨_, (decide (t173 ≥ 0)), (by first | rfl | (simp; done) | (simp [*]; done)), H', ⟨by have := HJ3.out; first | omega | exact Nat.le_refl _⟩, ⟨by (with_reducible repeat (first | refine blk_drewN ?_ _ | refine blk_drew ?_ | refine blk_alloc ?_ _)); exact BK164.out⟩, ⟨by (with_reducible repeat (first | refine blk_drewN ?_ _ | refine blk_drew ?_ | refine blk_alloc ?_ _)); exact BK165.out⟩, ⟨by (with_reducible repeat (first | refine blk_drewN ?_ _ | refine blk_drew ?_ | refine blk_alloc ?_ _)); exact BK166.out⟩, ⟨by repeat (first | (with_reducible first | exact HB.out | apply below_alloc | apply pw_below_drewN | apply below_drew1 | refine below_set ?_ GE164.out | refine below_set ?_ GE165.out | refine below_set ?_ GE166.out) | exact HB.out)⟩⟩
          · rw [if_neg c44] at H
            have c44b0 : decide (0 < t171) = false := decide_eq_false c44
            clear c44
            (first | rw [c44b0] | (simp only [i64_w, i32_w]; rw [c44b0]) | skip)
            by_cases c47 : t172 > 0
            · rw [if_pos c47] at H
              have c47b0 : decide (0 < t172) = true := decide_eq_true c47
              clear c47
              by_cases c48 : t171 < 0
              · rw [if_pos c48] at H
                have c48b0 : decide (t171 < 0) = true := decide_eq_true c48
                clear c48
                have H' := Aside0.mk H
                clear H
                go_wp2
                go_meet
                case rel => exact ⟨_, (true), (by first | rfl | (simp; done) | (simp [*]; done)), H', ⟨by have := HJ3.out; first | omega | exact Nat.le_refl _⟩, ⟨by (with_reducible repeat (first | refine blk_drewN ?_ _ | refine blk_drew ?_ | refine blk_alloc ?_ _)); exact BK164.out⟩, ⟨by (with_reducible repeat (first | refine blk_drewN ?_ _ | refine blk_drew ?_ | refine blk_alloc ?_ _)); exact BK165.out⟩, ⟨by (with_reducible repeat (first | refine blk_drewN ?_ _ | refine blk_drew ?_ | refine blk_alloc ?_ _)); exact BK166.out⟩, ⟨by repeat (first | (with_reducible first | exact HB.out | apply below_alloc | apply pw_below_drewN | apply below_drew1 | refine below_set ?_ GE164.out | refine below_set ?_ GE165.out | refine below_set ?_ GE166.out) | exact HB.out)⟩⟩
              · rw [if_neg c48] at H
                have c48b0 : decide (t171 < 0) = false := decide_eq_false c48
                clear c48
                by_cases c49 : t172 < 0
                · rw [if_pos c49] at H
                  have c49b0 : decide (t172 < 0) = true := decide_eq_true c49
                  clear c49
                  have H' := Aside0.mk H
                  clear H
                  go_wp2
                  go_meet
                  case rel => exact ⟨_, (true), (by first | rfl | (simp; done) | (simp [*]; done)), H', ⟨by have := HJ3.out; first | omega | exact Nat.le_refl _⟩, ⟨by (with_reducible repeat (first | refine blk_drewN ?_ _ | refine blk_drew ?_ | refine blk_alloc ?_ _)); exact BK164.out⟩, ⟨by (with_reducible repeat (first | refine blk_drewN ?_ _ | refine blk_drew ?_ | refine blk_alloc ?_ _)); exact BK165.out⟩, ⟨by (with_reducible repeat (first | refine blk_drewN ?_ _ | refine blk_drew ?_ | refine blk_alloc ?_ _)); exact BK166.out⟩, ⟨by repeat (first | (with_reducible first | exact HB.out | apply below_alloc | apply pw_below_drewN | apply below_drew1 | refine below_set ?_ GE164.out | refine below_set ?_ GE165.out | refine below_set ?_ GE166.out) | exact HB.out)⟩⟩
                · rw [if_neg c49] at H
                  have c49b0 : decide (t172 < 0) = false := decide_eq_false c49
                  clear c49
                  have H' := Aside0.mk H
                  clear H
                  go_wp2
                  go_meet
                  case rel => exact ⟨_, (decide (t173 ≥ 0)), (by first | rfl | (simp; done) | (simp [*]; done)), H', ⟨by have := HJ3.out; first | omega | exact Nat.le_refl _⟩, ⟨by (with_reducible repeat (first | refine blk_drewN ?_ _ | refine blk_drew ?_ | refine blk_alloc ?_ _)); exact BK164.out⟩, ⟨by (with_reducible repeat (first | refine blk_drewN ?_ _ | refine blk_drew ?_ | refine blk_alloc ?_ _)); exact BK165.out⟩, ⟨by (with_reducible repeat (first | refine blk_drewN ?_ _ | refine blk_drew ?_ | refine blk_alloc ?_ _)); exact BK166.out⟩, ⟨by repeat (first | (with_reducible first | exact HB.out | apply below_alloc | apply pw_below_drewN | apply below_drew1 | refine below_set ?_ GE164.out | refine below_set ?_ GE165.out | refine below_set ?_ GE166.out) | exact HB.out)⟩⟩
            · rw [if_neg c47] at H
              have c47b0 : decide (0 < t172) = false := decide_eq_false c47
              clear c47
              by_cases c50 : t173 ≤ 0
              · rw [if_pos c50] at H
                have c50b0 : decide (t173 ≤ 0) = true := decide_eq_true c50
                clear c50
                by_cases c51 : t171 < 0
                · rw [if_pos c51] at H
                  have c51b0 : decide (t171 < 0) = true := decide_eq_true c51
                  clear c51
                  have H' := Aside0.mk H
                  clear H
                  go_wp2
                  go_meet
                  case rel => exact ⟨_, (true), (by first | rfl | (simp; done) | (simp [*]; done)), H', ⟨by have := HJ3.out; first | omega | exact Nat.le_refl _⟩, ⟨by (with_reducible repeat (first | refine blk_drewN ?_ _ | refine blk_drew ?_ | refine blk_alloc ?_ _)); exact BK164.out⟩, ⟨by (with_reducible repeat (first | refine blk_drewN ?_ _ | refine blk_drew ?_ | refine blk_alloc ?_ _)); exact BK165.out⟩, ⟨by (with_reducible repeat (first | refine blk_drewN ?_ _ | refine blk_drew ?_ | refine blk_alloc ?_ _)); exact BK166.out⟩, ⟨by repeat (first | (with_reducible first | exact HB.out | apply below_alloc | apply pw_below_drewN | apply below_drew1 | refine below_set ?_ GE164.out | refine below_set ?_ GE165.out | refine below_set ?_ GE166.out) | exact HB.out)⟩⟩
                · rw [if_neg c51] at H
                  have c51b0 : decide (t171 < 0) = false := decide_eq_false c51
                  clear c51
                  by_cases c52 : t172 < 0
                  · rw [if_pos c52] at H
                    have c52b0 : decide (t172 < 0) = true := decide_eq_true c52
                    clear c52
                    have H' := Aside0.mk H
                    clear H
                    go_wp2
                    go_meet
                    case rel => exact ⟨_, (true), (by first | rfl | (simp; done) | (simp [*]; done)), H', ⟨by have := HJ3.out; first | omega | exact Nat.le_refl _⟩, ⟨by (with_reducible repeat (first | refine blk_drewN ?_ _ | refine blk_drew ?_ | refine blk_alloc ?_ _)); exact BK164.out⟩, ⟨by (with_reducible repeat (first | refine blk_drewN ?_ _ | refine blk_drew ?_ | refine blk_alloc ?_ _)); exact BK165.out⟩, ⟨by (with_reducible repeat (first | refine blk_drewN ?_ _ | refine blk_drew ?_ | refine blk_alloc ?_ _)); exact BK166.out⟩, ⟨by repeat (first | (with_reducible first | exact HB.out | apply below_alloc | apply pw_below_drewN | apply below_drew1 | refine below_set ?_ GE164.out | refine below_set ?_ GE165.out | refine below_set ?_ GE166.out) | exact HB.out)⟩⟩
                  · rw [if_neg c52] at H
                    have c52b0 : decide (t172 < 0) = false := decide_eq_false c52
                    clear c52
                    have H' := Aside0.mk H
                    clear H
                    go_wp2
                    go_meet
                    case rel => exact ⟨_, (decide (t173 ≥ 0)), (by first | rfl | (simp; done) | (simp [*]; done)), H', ⟨by have := HJ3.out; first | omega | exact Nat.le_refl _⟩, ⟨by (with_reducible repeat (first | refine blk_drewN ?_ _ | refine blk_drew ?_ | refine blk_alloc ?_ _)); exact BK164.out⟩, ⟨by (with_reducible repeat (first | refine blk_drewN ?_ _ | refine blk_drew ?_ | refine blk_alloc ?_ _)); exact BK165.out⟩, ⟨by (with_reducible repeat (first | refine blk_drewN ?_ _ | refine blk_drew ?_ | refine blk_alloc ?_ _)); exact BK166.out⟩, ⟨by repeat (first | (with_reducible first | exact HB.out | apply below_alloc | apply pw_below_drewN | apply below_drew1 | refine below_set ?_ GE164.out | refine below_set ?_ GE165.out | refine below_set ?_ GE166.out) | exact HB.out)⟩⟩
              · rw [if_neg c50] at H
                have c50b0 : decide (t173 ≤ 0) = false := decide_eq_false c50
                clear c50
                have H' := Aside0.mk H
                clear H
                go_wp2
                go_meet
                case rel => exact ⟨_, (false), (by first | rfl | (simp; done) | (simp [*]; done)), H', ⟨by have := HJ3.out; first | omega | exact Nat.le_refl _⟩, ⟨by (with_reducible repeat (first | refine blk_drewN ?_ _ | refine blk_drew ?_ | refine blk_alloc ?_ _)); exact BK164.out⟩, ⟨by (with_reducible repeat (first | refine blk_drewN ?_ _ | refine blk_drew ?_ | refine blk_alloc ?_ _)); exact BK165.out⟩, ⟨by (with_reducible repeat (first | refine blk_drewN ?_ _ | refine blk_drew ?_ | refine blk_alloc ?_ _)); exact BK166.out⟩, ⟨by repeat (first | (with_reducible first | exact HB.out | apply below_alloc | apply pw_below_drewN | apply below_drew1 | refine below_set ?_ GE164.out | refine below_set ?_ GE165.out | refine below_set ?_ GE166.out) | exact HB.out)⟩⟩
        case rest =>
          clear HC39
          try clear c1
          try clear c2
          try clear p2
          try clear c3
          try clear c4
          try clear c5
          try clear c9
          try clear c10
          try clear c11
          try clear c15
          try clear c16
          try clear c17
          try clear c18
          try clear c20
          try clear c21
          try clear c22
          try clear c24
          try clear c25
          try clear c28
          try clear c33
          try clear c44
          try clear c44b0
          try clear c45
          try clear c45b0
          try clear c46
          try clear c46b0
          try clear c47
          try clear c47b0
          try clear c48
          try clear c48b0
          try clear c49
          try clear c49b0
          try clear c50
          try clear c50b0
          try clear c51
          try clear c51b0
          try clear c52
          try clear c52b0
          try clear hcz12_0
          try clear hcz12_1
          try clear hcz12_2
          try clear hcz12_3
          try clear hcz12_4
          try clear hcz12_5
          try clear hcz12_6
          try clear hcz12_7
          try clear hcz18_0
          try clear hcz18_1
          try clear hcz18_2
          try clear hcz18_3
          try clear hcz18_4
          try clear hcz18_5
          try clear hcz18_6
          try clear hcz18_7
          try clear hcz21_0
          try clear hcz21_1
          try clear hcz21_2
          try clear hcz21_3
          try clear hcz21_4
          try clear hcz21_5
          try clear hcz21_6
          try clear hcz21_7
          try clear hcz26_0
          try clear hcz26_1
          try clear hcz26_2
          try clear hcz26_3
          try clear hcz26_4
          try clear hcz26_5
          try clear hcz26_6
          try clear hcz26_7
          try clear hcz29_0
          try clear hcz29_1
          try clear hcz29_2
          try clear hcz29_3
          try clear hcz29_4
          try clear hcz29_5
          try clear hcz29_6
          try clear hcz29_7
          try clear hcz31_0
          try clear hcz31_1
          try clear hcz31_2
          try clear hcz31_3
          try clear hcz31_4
          try clear hcz31_5
          try clear hcz31_6
          try clear hcz31_7
          try clear hfz12_0
          try clear hfz12_1
          try clear hfz12_2
          try clear hfz12_3
          try clear hfz12_4
          try clear hfz12_5
          try clear hfz12_6
          try clear hfz12_7
          try clear hfz18_0
          try clear hfz18_1
          try clear hfz18_2
          try clear hfz18_3
          try clear hfz18_4
          try clear hfz18_5
          try clear hfz18_6
          try clear hfz18_7
          try clear hfz21_0
          try clear hfz21_1
          try clear hfz21_2
          try clear hfz21_3
          try clear hfz21_4
          try clear hfz21_5
          try clear hfz21_6
          try clear hfz21_7
          try clear hfz26_0
          try clear hfz26_1
          try clear hfz26_2
          try clear hfz26_3
          try clear hfz26_4
          try clear hfz26_5
          try clear hfz26_6
          try clear hfz26_7
          try clear hfz29_0
          try clear hfz29_1
          try clear hfz29_2
          try clear hfz29_3
          try clear hfz29_4
          try clear hfz29_5
          try clear hfz29_6
          try clear hfz29_7
          try clear hfz31_0
          try clear hfz31_1
          try clear hfz31_2
          try clear hfz31_3
          try clear hfz31_4
          try clear hfz31_5
          try clear hfz31_6
          try clear hfz31_7
          try clear p2
          obtain ⟨kq, x10_38, rfl, HA, HJ38, BK164, BK165, BK166, HB⟩ := hcut
          cases kq with
          | zero => exact absurd HA.out (by simp [merkhetlaw01_SpanOrder.j1])
          | succ kj38 =>
            have H := HA.out
            clear HA
            simp only [merkhetlaw01_SpanOrder.j1] at H
            replace H := Option.bind_eq_some_iff.mp H
            obtain ⟨t174, A530, H⟩ := H
            replace H : (if t174 = true then ((merkhetref01_Cmp.f kj38 a0_0 a0_1 a0_2 a0_3 a0_4 a0_5 a0_6 a0_7 a1_0 a1_1 a1_2 a1_3 a1_4 a1_5 a1_6 a1_7).bind fun t175 => (if t171 = t175 then ((span_Cmp.f kj38 a1_0 a1_1 a1_2 a1_3 a1_4 a1_5 a1_6 a1_7 a0_0 a0_1 a0_2 a0_3 a0_4 a0_5 a0_6 a0_7).bind fun t176 => (if t176 = (wrap64 (-t171)) then (if x10_38 = true then (some ((t171 == 0) == (a0_0 == a1_0 && (a0_1 == a1_1 && (a0_2 == a1_2 && (a0_3 == a1_3 && (a0_4.toList == a1_4.toList && (a0_5.toList == a1_5.toList && (a0_6 == a1_6 && (a0_7 == a1_7)))))))))) else (some false)) else (some false))) else (some false))) else (some false)) = some r := H
            have A53 := Aside0.mk A530
            clear A530
            by_cases c54 : t174 = true
            · subst c54
              have H1 : ((merkhetref01_Cmp.f kj38 a0_0 a0_1 a0_2 a0_3 a0_4 a0_5 a0_6 a0_7 a1_0 a1_1 a1_2 a1_3 a1_4 a1_5 a1_6 a1_7).bind fun t175 => (if t171 = t175 then ((span_Cmp.f kj38 a1_0 a1_1 a1_2 a1_3 a1_4 a1_5 a1_6 a1_7 a0_0 a0_1 a0_2 a0_3 a0_4 a0_5 a0_6 a0_7).bind fun t176 => (if t176 = (wrap64 (-t171)) then (if x10_38 = true then (some ((t171 == 0) == (a0_0 == a1_0 && (a0_1 == a1_1 && (a0_2 == a1_2 && (a0_3 == a1_3 && (a0_4.toList == a1_4.toList && (a0_5.toList == a1_5.toList && (a0_6 == a1_6 && (a0_7 == a1_7)))))))))) else (some false)) else (some false))) else (some false))) = some r := by rw [if_pos rfl] at H; exact H
              clear H
              have H := H1
              clear H1
              replace H := Option.bind_eq_some_iff.mp H
              obtain ⟨t175, A550, H⟩ := H
              replace H : (if t171 = t175 then ((span_Cmp.f kj38 a1_0 a1_1 a1_2 a1_3 a1_4 a1_5 a1_6 a1_7 a0_0 a0_1 a0_2 a0_3 a0_4 a0_5 a0_6 a0_7).bind fun t176 => (if t176 = (wrap64 (-t171)) then (if x10_38 = true then (some ((t171 == 0) == (a0_0 == a1_0 && (a0_1 == a1_1 && (a0_2 == a1_2 && (a0_3 == a1_3 && (a0_4.toList == a1_4.toList && (a0_5.toList == a1_5.toList && (a0_6 == a1_6 && (a0_7 == a1_7)))))))))) else (some false)) else (some false))) else (some false)) = some r := H
              have A55 := Aside0.mk A550
              clear A550
              by_cases c56 : t171 = t175
              · rw [if_pos c56] at H
                have c56b0 : (t171 == t175) = true := beq_iff_eq.mpr c56
                have c56b1 : (t171 != t175) = false := bne_eq_false_iff_eq.mpr c56
                clear c56
                replace H := Option.bind_eq_some_iff.mp H
                obtain ⟨t176, A570, H⟩ := H
                replace H : (if t176 = (wrap64 (-t171)) then (if x10_38 = true then (some ((t171 == 0) == (a0_0 == a1_0 && (a0_1 == a1_1 && (a0_2 == a1_2 && (a0_3 == a1_3 && (a0_4.toList == a1_4.toList && (a0_5.toList == a1_5.toList && (a0_6 == a1_6 && (a0_7 == a1_7)))))))))) else (some false)) else (some false)) = some r := H
                have A57 := Aside0.mk A570
                clear A570
                by_cases c58 : t176 = (wrap64 (-t171))
                · rw [if_pos c58] at H
                  have c58b0 : (t176 == (wrap64 (-t171))) = true := beq_iff_eq.mpr c58
                  have c58b1 : (t176 != (wrap64 (-t171))) = false := bne_eq_false_iff_eq.mpr c58
                  clear c58
                  by_cases c59 : x10_38 = true
                  · subst c59
                    have H1 : (some ((t171 == 0) == (a0_0 == a1_0 && (a0_1 == a1_1 && (a0_2 == a1_2 && (a0_3 == a1_3 && (a0_4.toList == a1_4.toList && (a0_5.toList == a1_5.toList && (a0_6 == a1_6 && (a0_7 == a1_7)))))))))) = some r := by rw [if_pos rfl] at H; exact H
                    clear H
                    have H := H1
                    clear H1
                    obtain rfl := Option.some.inj H
                    go_wp2_with (first | ((with_reducible refine gate_callee (f := 18) rfl ?_); refine goesL_ (some 53) rfl rfl Try.func18 (by kernel_rfl) rfl #[] rfl (by (try simp only [List.map_toArray, List.map_cons, List.map_nil]); first | done | rfl | (simp only [List.length_drop, List.length_take]; rfl)) ?_; (with_reducible refine (merkhetlaw01_fixed.calls kj38  true _ A53.out).mono ?_); rintro e w60 ⟨rfl, hb⟩; refine ⟨_, rfl, ?_⟩; have n0_ := Aside0.mk (blk_below (g := gb164) (o := .cells #[.int .u64 a0_0, .int .u64 a0_1, .int .u64 a0_2, .int .u8 a0_3, .string a0_4, .string a0_5, .int .i64 a0_6, .int .i64 a0_7] 39 (0, 0)) (by (with_reducible repeat (first | refine blk_drewN ?_ _ | refine blk_drew ?_ | refine blk_alloc ?_ _)); exact BK164.out) hb); have n1_ := Aside0.mk (blk_below (g := gb165) (o := .cells #[.int .u64 a1_0, .int .u64 a1_1, .int .u64 a1_2, .int .u8 a1_3, .string a1_4, .string a1_5, .int .i64 a1_6, .int .i64 a1_7] 39 (0, 0)) (by (with_reducible repeat (first | refine blk_drewN ?_ _ | refine blk_drew ?_ | refine blk_alloc ?_ _)); exact BK165.out) hb); have n2_ := Aside0.mk (blk_below (g := gb166) (o := .cells #[.int .u64 a2_0, .int .u64 a2_1, .int .u64 a2_2, .int .u8 a2_3, .string a2_4, .string a2_5, .int .i64 a2_6, .int .i64 a2_7] 39 (0, 0)) (by (with_reducible repeat (first | refine blk_drewN ?_ _ | refine blk_drew ?_ | refine blk_alloc ?_ _)); exact BK166.out) hb); have n3_ := Aside0.mk (below_step (by repeat (first | (with_reducible first | exact HB.out | apply below_alloc | apply pw_below_drewN | apply below_drew1 | refine below_set ?_ GE164.out | refine below_set ?_ GE165.out | refine below_set ?_ GE166.out) | exact HB.out)) hb); clear BK164; clear BK165; clear BK166; clear HB; have BK164 := n0_; have BK165 := n1_; have BK166 := n2_; have HB := n3_; clear n0_ n1_ n2_ n3_; (try clear hb); (try clear hb2); (try clear hk); (try clear hi); have hnb61 := NB164_165.out; have hnc61 := NB165_164.out; have hnb62 := NB164_166.out; have hnc62 := NB166_164.out; have hcz63_0 : w60.cell? ⟨gb164, 0, none⟩ = some (.int .u64 a0_0) := (blk_cell BK164.out 0).trans rfl; have hcz63_1 : w60.cell? ⟨gb164, 1, none⟩ = some (.int .u64 a0_1) := (blk_cell BK164.out 1).trans rfl; have hcz63_2 : w60.cell? ⟨gb164, 2, none⟩ = some (.int .u64 a0_2) := (blk_cell BK164.out 2).trans rfl; have hcz63_3 : w60.cell? ⟨gb164, 3, none⟩ = some (.int .u8 a0_3) := (blk_cell BK164.out 3).trans rfl; have hcz63_4 : w60.cell? ⟨gb164, 4, none⟩ = some (.string a0_4) := (blk_cell BK164.out 4).trans rfl; have hcz63_5 : w60.cell? ⟨gb164, 5, none⟩ = some (.string a0_5) := (blk_cell BK164.out 5).trans rfl; have hcz63_6 : w60.cell? ⟨gb164, 6, none⟩ = some (.int .i64 a0_6) := (blk_cell BK164.out 6).trans rfl; have hcz63_7 : w60.cell? ⟨gb164, 7, none⟩ = some (.int .i64 a0_7) := (blk_cell BK164.out 7).trans rfl; have hfz63_0 := blk_frozen BK164.out 0; have hfz63_1 := blk_frozen BK164.out 1; have hfz63_2 := blk_frozen BK164.out 2; have hfz63_3 := blk_frozen BK164.out 3; have hfz63_4 := blk_frozen BK164.out 4; have hfz63_5 := blk_frozen BK164.out 5; have hfz63_6 := blk_frozen BK164.out 6; have hfz63_7 := blk_frozen BK164.out 7; have hnb64 := NB165_166.out; have hnc64 := NB166_165.out; have hcz65_0 : w60.cell? ⟨gb165, 0, none⟩ = some (.int .u64 a1_0) := (blk_cell BK165.out 0).trans rfl; have hcz65_1 : w60.cell? ⟨gb165, 1, none⟩ = some (.int .u64 a1_1) := (blk_cell BK165.out 1).trans rfl; have hcz65_2 : w60.cell? ⟨gb165, 2, none⟩ = some (.int .u64 a1_2) := (blk_cell BK165.out 2).trans rfl; have hcz65_3 : w60.cell? ⟨gb165, 3, none⟩ = some (.int .u8 a1_3) := (blk_cell BK165.out 3).trans rfl; have hcz65_4 : w60.cell? ⟨gb165, 4, none⟩ = some (.string a1_4) := (blk_cell BK165.out 4).trans rfl; have hcz65_5 : w60.cell? ⟨gb165, 5, none⟩ = some (.string a1_5) := (blk_cell BK165.out 5).trans rfl; have hcz65_6 : w60.cell? ⟨gb165, 6, none⟩ = some (.int .i64 a1_6) := (blk_cell BK165.out 6).trans rfl; have hcz65_7 : w60.cell? ⟨gb165, 7, none⟩ = some (.int .i64 a1_7) := (blk_cell BK165.out 7).trans rfl; have hfz65_0 := blk_frozen BK165.out 0; have hfz65_1 := blk_frozen BK165.out 1; have hfz65_2 := blk_frozen BK165.out 2; have hfz65_3 := blk_frozen BK165.out 3; have hfz65_4 := blk_frozen BK165.out 4; have hfz65_5 := blk_frozen BK165.out 5; have hfz65_6 := blk_frozen BK165.out 6; have hfz65_7 := blk_frozen BK165.out 7) | (go_at_call 23; (with_reducible refine (merkhetref01_Cmp.calls kj38 a0_0 a0_1 a0_2 a0_3 a0_4 a0_5 a0_6 a0_7 a1_0 a1_1 a1_2 a1_3 a1_4 a1_5 a1_6 a1_7 t175 _ A55.out).mono ?_); rintro e w66 ⟨rfl, hb⟩; have n0_ := Aside0.mk (blk_below (g := gb164) (o := .cells #[.int .u64 a0_0, .int .u64 a0_1, .int .u64 a0_2, .int .u8 a0_3, .string a0_4, .string a0_5, .int .i64 a0_6, .int .i64 a0_7] 39 (0, 0)) (by (with_reducible repeat (first | refine blk_drewN ?_ _ | refine blk_drew ?_ | refine blk_alloc ?_ _)); exact BK164.out) hb); have n1_ := Aside0.mk (blk_below (g := gb165) (o := .cells #[.int .u64 a1_0, .int .u64 a1_1, .int .u64 a1_2, .int .u8 a1_3, .string a1_4, .string a1_5, .int .i64 a1_6, .int .i64 a1_7] 39 (0, 0)) (by (with_reducible repeat (first | refine blk_drewN ?_ _ | refine blk_drew ?_ | refine blk_alloc ?_ _)); exact BK165.out) hb); have n2_ := Aside0.mk (blk_below (g := gb166) (o := .cells #[.int .u64 a2_0, .int .u64 a2_1, .int .u64 a2_2, .int .u8 a2_3, .string a2_4, .string a2_5, .int .i64 a2_6, .int .i64 a2_7] 39 (0, 0)) (by (with_reducible repeat (first | refine blk_drewN ?_ _ | refine blk_drew ?_ | refine blk_alloc ?_ _)); exact BK166.out) hb); have n3_ := Aside0.mk (below_step (by repeat (first | (with_reducible first | exact HB.out | apply below_alloc | apply pw_below_drewN | apply below_drew1 | refine below_set ?_ GE164.out | refine below_set ?_ GE165.out | refine below_set ?_ GE166.out) | exact HB.out)) hb); clear BK164; clear BK165; clear BK166; clear HB; have BK164 := n0_; have BK165 := n1_; have BK166 := n2_; have HB := n3_; clear n0_ n1_ n2_ n3_; (try clear hb); (try clear hb2); (try clear hk); (try clear hi); have hcz67_0 : w66.cell? ⟨gb165, 0, none⟩ = some (.int .u64 a1_0) := (blk_cell BK165.out 0).trans rfl; have hcz67_1 : w66.cell? ⟨gb165, 1, none⟩ = some (.int .u64 a1_1) := (blk_cell BK165.out 1).trans rfl; have hcz67_2 : w66.cell? ⟨gb165, 2, none⟩ = some (.int .u64 a1_2) := (blk_cell BK165.out 2).trans rfl; have hcz67_3 : w66.cell? ⟨gb165, 3, none⟩ = some (.int .u8 a1_3) := (blk_cell BK165.out 3).trans rfl; have hcz67_4 : w66.cell? ⟨gb165, 4, none⟩ = some (.string a1_4) := (blk_cell BK165.out 4).trans rfl; have hcz67_5 : w66.cell? ⟨gb165, 5, none⟩ = some (.string a1_5) := (blk_cell BK165.out 5).trans rfl; have hcz67_6 : w66.cell? ⟨gb165, 6, none⟩ = some (.int .i64 a1_6) := (blk_cell BK165.out 6).trans rfl; have hcz67_7 : w66.cell? ⟨gb165, 7, none⟩ = some (.int .i64 a1_7) := (blk_cell BK165.out 7).trans rfl; have hfz67_0 := blk_frozen BK165.out 0; have hfz67_1 := blk_frozen BK165.out 1; have hfz67_2 := blk_frozen BK165.out 2; have hfz67_3 := blk_frozen BK165.out 3; have hfz67_4 := blk_frozen BK165.out 4; have hfz67_5 := blk_frozen BK165.out 5; have hfz67_6 := blk_frozen BK165.out 6; have hfz67_7 := blk_frozen BK165.out 7; have hcz68_0 : w66.cell? ⟨gb164, 0, none⟩ = some (.int .u64 a0_0) := (blk_cell BK164.out 0).trans rfl; have hcz68_1 : w66.cell? ⟨gb164, 1, none⟩ = some (.int .u64 a0_1) := (blk_cell BK164.out 1).trans rfl; have hcz68_2 : w66.cell? ⟨gb164, 2, none⟩ = some (.int .u64 a0_2) := (blk_cell BK164.out 2).trans rfl; have hcz68_3 : w66.cell? ⟨gb164, 3, none⟩ = some (.int .u8 a0_3) := (blk_cell BK164.out 3).trans rfl; have hcz68_4 : w66.cell? ⟨gb164, 4, none⟩ = some (.string a0_4) := (blk_cell BK164.out 4).trans rfl; have hcz68_5 : w66.cell? ⟨gb164, 5, none⟩ = some (.string a0_5) := (blk_cell BK164.out 5).trans rfl; have hcz68_6 : w66.cell? ⟨gb164, 6, none⟩ = some (.int .i64 a0_6) := (blk_cell BK164.out 6).trans rfl; have hcz68_7 : w66.cell? ⟨gb164, 7, none⟩ = some (.int .i64 a0_7) := (blk_cell BK164.out 7).trans rfl; have hfz68_0 := blk_frozen BK164.out 0; have hfz68_1 := blk_frozen BK164.out 1; have hfz68_2 := blk_frozen BK164.out 2; have hfz68_3 := blk_frozen BK164.out 3; have hfz68_4 := blk_frozen BK164.out 4; have hfz68_5 := blk_frozen BK164.out 5; have hfz68_6 := blk_frozen BK164.out 6; have hfz68_7 := blk_frozen BK164.out 7) | (go_at_call 22; (with_reducible refine (span_Cmp.calls kj38 a1_0 a1_1 a1_2 a1_3 a1_4 a1_5 a1_6 a1_7 a0_0 a0_1 a0_2 a0_3 a0_4 a0_5 a0_6 a0_7 t176 _ A57.out).mono ?_); rintro e w69 ⟨rfl, hb⟩; have n0_ := Aside0.mk (blk_below (g := gb164) (o := .cells #[.int .u64 a0_0, .int .u64 a0_1, .int .u64 a0_2, .int .u8 a0_3, .string a0_4, .string a0_5, .int .i64 a0_6, .int .i64 a0_7] 39 (0, 0)) (by (with_reducible repeat (first | refine blk_drewN ?_ _ | refine blk_drew ?_ | refine blk_alloc ?_ _)); exact BK164.out) hb); have n1_ := Aside0.mk (blk_below (g := gb165) (o := .cells #[.int .u64 a1_0, .int .u64 a1_1, .int .u64 a1_2, .int .u8 a1_3, .string a1_4, .string a1_5, .int .i64 a1_6, .int .i64 a1_7] 39 (0, 0)) (by (with_reducible repeat (first | refine blk_drewN ?_ _ | refine blk_drew ?_ | refine blk_alloc ?_ _)); exact BK165.out) hb); have n2_ := Aside0.mk (blk_below (g := gb166) (o := .cells #[.int .u64 a2_0, .int .u64 a2_1, .int .u64 a2_2, .int .u8 a2_3, .string a2_4, .string a2_5, .int .i64 a2_6, .int .i64 a2_7] 39 (0, 0)) (by (with_reducible repeat (first | refine blk_drewN ?_ _ | refine blk_drew ?_ | refine blk_alloc ?_ _)); exact BK166.out) hb); have n3_ := Aside0.mk (below_step (by repeat (first | (with_reducible first | exact HB.out | apply below_alloc | apply pw_below_drewN | apply below_drew1 | refine below_set ?_ GE164.out | refine below_set ?_ GE165.out | refine below_set ?_ GE166.out) | exact HB.out)) hb); clear BK164; clear BK165; clear BK166; clear HB; have BK164 := n0_; have BK165 := n1_; have BK166 := n2_; have HB := n3_; clear n0_ n1_ n2_ n3_; (try clear hb); (try clear hb2); (try clear hk); (try clear hi); have hcz70_0 : w69.cell? ⟨gb164, 0, none⟩ = some (.int .u64 a0_0) := (blk_cell BK164.out 0).trans rfl; have hcz70_1 : w69.cell? ⟨gb164, 1, none⟩ = some (.int .u64 a0_1) := (blk_cell BK164.out 1).trans rfl; have hcz70_2 : w69.cell? ⟨gb164, 2, none⟩ = some (.int .u64 a0_2) := (blk_cell BK164.out 2).trans rfl; have hcz70_3 : w69.cell? ⟨gb164, 3, none⟩ = some (.int .u8 a0_3) := (blk_cell BK164.out 3).trans rfl; have hcz70_4 : w69.cell? ⟨gb164, 4, none⟩ = some (.string a0_4) := (blk_cell BK164.out 4).trans rfl; have hcz70_5 : w69.cell? ⟨gb164, 5, none⟩ = some (.string a0_5) := (blk_cell BK164.out 5).trans rfl; have hcz70_6 : w69.cell? ⟨gb164, 6, none⟩ = some (.int .i64 a0_6) := (blk_cell BK164.out 6).trans rfl; have hcz70_7 : w69.cell? ⟨gb164, 7, none⟩ = some (.int .i64 a0_7) := (blk_cell BK164.out 7).trans rfl; have hfz70_0 := blk_frozen BK164.out 0; have hfz70_1 := blk_frozen BK164.out 1; have hfz70_2 := blk_frozen BK164.out 2; have hfz70_3 := blk_frozen BK164.out 3; have hfz70_4 := blk_frozen BK164.out 4; have hfz70_5 := blk_frozen BK164.out 5; have hfz70_6 := blk_frozen BK164.out 6; have hfz70_7 := blk_frozen BK164.out 7; have hcz71_0 : w69.cell? ⟨gb165, 0, none⟩ = some (.int .u64 a1_0) := (blk_cell BK165.out 0).trans rfl; have hcz71_1 : w69.cell? ⟨gb165, 1, none⟩ = some (.int .u64 a1_1) := (blk_cell BK165.out 1).trans rfl; have hcz71_2 : w69.cell? ⟨gb165, 2, none⟩ = some (.int .u64 a1_2) := (blk_cell BK165.out 2).trans rfl; have hcz71_3 : w69.cell? ⟨gb165, 3, none⟩ = some (.int .u8 a1_3) := (blk_cell BK165.out 3).trans rfl; have hcz71_4 : w69.cell? ⟨gb165, 4, none⟩ = some (.string a1_4) := (blk_cell BK165.out 4).trans rfl; have hcz71_5 : w69.cell? ⟨gb165, 5, none⟩ = some (.string a1_5) := (blk_cell BK165.out 5).trans rfl; have hcz71_6 : w69.cell? ⟨gb165, 6, none⟩ = some (.int .i64 a1_6) := (blk_cell BK165.out 6).trans rfl; have hcz71_7 : w69.cell? ⟨gb165, 7, none⟩ = some (.int .i64 a1_7) := (blk_cell BK165.out 7).trans rfl; have hfz71_0 := blk_frozen BK165.out 0; have hfz71_1 := blk_frozen BK165.out 1; have hfz71_2 := blk_frozen BK165.out 2; have hfz71_3 := blk_frozen BK165.out 3; have hfz71_4 := blk_frozen BK165.out 4; have hfz71_5 := blk_frozen BK165.out 5; have hfz71_6 := blk_frozen BK165.out 6; have hfz71_7 := blk_frozen BK165.out 7))
                    go_ret
                    exact ⟨by first | rfl | (simp [errW_none, errW_some] <;> rfl) | (simp [*, errW_none, errW_some] <;> rfl), by repeat (first | (with_reducible first | exact HB.out | apply below_alloc | apply pw_below_drewN | apply below_drew1 | refine below_set ?_ GE164.out | refine below_set ?_ GE165.out | refine below_set ?_ GE166.out) | exact HB.out)⟩
                  · replace c59 := Bool.eq_false_iff.mpr c59
                    subst c59
                    have H1 : (some false) = some r := by rw [if_neg (show ¬ (false = true) by decide)] at H; exact H
                    clear H
                    have H := H1
                    clear H1
                    obtain rfl := Option.some.inj H
                    go_wp2_with (first | ((with_reducible refine gate_callee (f := 18) rfl ?_); refine goesL_ (some 53) rfl rfl Try.func18 (by kernel_rfl) rfl #[] rfl (by (try simp only [List.map_toArray, List.map_cons, List.map_nil]); first | done | rfl | (simp only [List.length_drop, List.length_take]; rfl)) ?_; (with_reducible refine (merkhetlaw01_fixed.calls kj38  true _ A53.out).mono ?_); rintro e w72 ⟨rfl, hb⟩; refine ⟨_, rfl, ?_⟩; have n0_ := Aside0.mk (blk_below (g := gb164) (o := .cells #[.int .u64 a0_0, .int .u64 a0_1, .int .u64 a0_2, .int .u8 a0_3, .string a0_4, .string a0_5, .int .i64 a0_6, .int .i64 a0_7] 39 (0, 0)) (by (with_reducible repeat (first | refine blk_drewN ?_ _ | refine blk_drew ?_ | refine blk_alloc ?_ _)); exact BK164.out) hb); have n1_ := Aside0.mk (blk_below (g := gb165) (o := .cells #[.int .u64 a1_0, .int .u64 a1_1, .int .u64 a1_2, .int .u8 a1_3, .string a1_4, .string a1_5, .int .i64 a1_6, .int .i64 a1_7] 39 (0, 0)) (by (with_reducible repeat (first | refine blk_drewN ?_ _ | refine blk_drew ?_ | refine blk_alloc ?_ _)); exact BK165.out) hb); have n2_ := Aside0.mk (blk_below (g := gb166) (o := .cells #[.int .u64 a2_0, .int .u64 a2_1, .int .u64 a2_2, .int .u8 a2_3, .string a2_4, .string a2_5, .int .i64 a2_6, .int .i64 a2_7] 39 (0, 0)) (by (with_reducible repeat (first | refine blk_drewN ?_ _ | refine blk_drew ?_ | refine blk_alloc ?_ _)); exact BK166.out) hb); have n3_ := Aside0.mk (below_step (by repeat (first | (with_reducible first | exact HB.out | apply below_alloc | apply pw_below_drewN | apply below_drew1 | refine below_set ?_ GE164.out | refine below_set ?_ GE165.out | refine below_set ?_ GE166.out) | exact HB.out)) hb); clear BK164; clear BK165; clear BK166; clear HB; have BK164 := n0_; have BK165 := n1_; have BK166 := n2_; have HB := n3_; clear n0_ n1_ n2_ n3_; (try clear hb); (try clear hb2); (try clear hk); (try clear hi); have hnb73 := NB164_165.out; have hnc73 := NB165_164.out; have hnb74 := NB164_166.out; have hnc74 := NB166_164.out; have hcz75_0 : w72.cell? ⟨gb164, 0, none⟩ = some (.int .u64 a0_0) := (blk_cell BK164.out 0).trans rfl; have hcz75_1 : w72.cell? ⟨gb164, 1, none⟩ = some (.int .u64 a0_1) := (blk_cell BK164.out 1).trans rfl; have hcz75_2 : w72.cell? ⟨gb164, 2, none⟩ = some (.int .u64 a0_2) := (blk_cell BK164.out 2).trans rfl; have hcz75_3 : w72.cell? ⟨gb164, 3, none⟩ = some (.int .u8 a0_3) := (blk_cell BK164.out 3).trans rfl; have hcz75_4 : w72.cell? ⟨gb164, 4, none⟩ = some (.string a0_4) := (blk_cell BK164.out 4).trans rfl; have hcz75_5 : w72.cell? ⟨gb164, 5, none⟩ = some (.string a0_5) := (blk_cell BK164.out 5).trans rfl; have hcz75_6 : w72.cell? ⟨gb164, 6, none⟩ = some (.int .i64 a0_6) := (blk_cell BK164.out 6).trans rfl; have hcz75_7 : w72.cell? ⟨gb164, 7, none⟩ = some (.int .i64 a0_7) := (blk_cell BK164.out 7).trans rfl; have hfz75_0 := blk_frozen BK164.out 0; have hfz75_1 := blk_frozen BK164.out 1; have hfz75_2 := blk_frozen BK164.out 2; have hfz75_3 := blk_frozen BK164.out 3; have hfz75_4 := blk_frozen BK164.out 4; have hfz75_5 := blk_frozen BK164.out 5; have hfz75_6 := blk_frozen BK164.out 6; have hfz75_7 := blk_frozen BK164.out 7; have hnb76 := NB165_166.out; have hnc76 := NB166_165.out; have hcz77_0 : w72.cell? ⟨gb165, 0, none⟩ = some (.int .u64 a1_0) := (blk_cell BK165.out 0).trans rfl; have hcz77_1 : w72.cell? ⟨gb165, 1, none⟩ = some (.int .u64 a1_1) := (blk_cell BK165.out 1).trans rfl; have hcz77_2 : w72.cell? ⟨gb165, 2, none⟩ = some (.int .u64 a1_2) := (blk_cell BK165.out 2).trans rfl; have hcz77_3 : w72.cell? ⟨gb165, 3, none⟩ = some (.int .u8 a1_3) := (blk_cell BK165.out 3).trans rfl; have hcz77_4 : w72.cell? ⟨gb165, 4, none⟩ = some (.string a1_4) := (blk_cell BK165.out 4).trans rfl; have hcz77_5 : w72.cell? ⟨gb165, 5, none⟩ = some (.string a1_5) := (blk_cell BK165.out 5).trans rfl; have hcz77_6 : w72.cell? ⟨gb165, 6, none⟩ = some (.int .i64 a1_6) := (blk_cell BK165.out 6).trans rfl; have hcz77_7 : w72.cell? ⟨gb165, 7, none⟩ = some (.int .i64 a1_7) := (blk_cell BK165.out 7).trans rfl; have hfz77_0 := blk_frozen BK165.out 0; have hfz77_1 := blk_frozen BK165.out 1; have hfz77_2 := blk_frozen BK165.out 2; have hfz77_3 := blk_frozen BK165.out 3; have hfz77_4 := blk_frozen BK165.out 4; have hfz77_5 := blk_frozen BK165.out 5; have hfz77_6 := blk_frozen BK165.out 6; have hfz77_7 := blk_frozen BK165.out 7) | (go_at_call 23; (with_reducible refine (merkhetref01_Cmp.calls kj38 a0_0 a0_1 a0_2 a0_3 a0_4 a0_5 a0_6 a0_7 a1_0 a1_1 a1_2 a1_3 a1_4 a1_5 a1_6 a1_7 t175 _ A55.out).mono ?_); rintro e w78 ⟨rfl, hb⟩; have n0_ := Aside0.mk (blk_below (g := gb164) (o := .cells #[.int .u64 a0_0, .int .u64 a0_1, .int .u64 a0_2, .int .u8 a0_3, .string a0_4, .string a0_5, .int .i64 a0_6, .int .i64 a0_7] 39 (0, 0)) (by (with_reducible repeat (first | refine blk_drewN ?_ _ | refine blk_drew ?_ | refine blk_alloc ?_ _)); exact BK164.out) hb); have n1_ := Aside0.mk (blk_below (g := gb165) (o := .cells #[.int .u64 a1_0, .int .u64 a1_1, .int .u64 a1_2, .int .u8 a1_3, .string a1_4, .string a1_5, .int .i64 a1_6, .int .i64 a1_7] 39 (0, 0)) (by (with_reducible repeat (first | refine blk_drewN ?_ _ | refine blk_drew ?_ | refine blk_alloc ?_ _)); exact BK165.out) hb); have n2_ := Aside0.mk (blk_below (g := gb166) (o := .cells #[.int .u64 a2_0, .int .u64 a2_1, .int .u64 a2_2, .int .u8 a2_3, .string a2_4, .string a2_5, .int .i64 a2_6, .int .i64 a2_7] 39 (0, 0)) (by (with_reducible repeat (first | refine blk_drewN ?_ _ | refine blk_drew ?_ | refine blk_alloc ?_ _)); exact BK166.out) hb); have n3_ := Aside0.mk (below_step (by repeat (first | (with_reducible first | exact HB.out | apply below_alloc | apply pw_below_drewN | apply below_drew1 | refine below_set ?_ GE164.out | refine below_set ?_ GE165.out | refine below_set ?_ GE166.out) | exact HB.out)) hb); clear BK164; clear BK165; clear BK166; clear HB; have BK164 := n0_; have BK165 := n1_; have BK166 := n2_; have HB := n3_; clear n0_ n1_ n2_ n3_; (try clear hb); (try clear hb2); (try clear hk); (try clear hi); have hcz79_0 : w78.cell? ⟨gb165, 0, none⟩ = some (.int .u64 a1_0) := (blk_cell BK165.out 0).trans rfl; have hcz79_1 : w78.cell? ⟨gb165, 1, none⟩ = some (.int .u64 a1_1) := (blk_cell BK165.out 1).trans rfl; have hcz79_2 : w78.cell? ⟨gb165, 2, none⟩ = some (.int .u64 a1_2) := (blk_cell BK165.out 2).trans rfl; have hcz79_3 : w78.cell? ⟨gb165, 3, none⟩ = some (.int .u8 a1_3) := (blk_cell BK165.out 3).trans rfl; have hcz79_4 : w78.cell? ⟨gb165, 4, none⟩ = some (.string a1_4) := (blk_cell BK165.out 4).trans rfl; have hcz79_5 : w78.cell? ⟨gb165, 5, none⟩ = some (.string a1_5) := (blk_cell BK165.out 5).trans rfl; have hcz79_6 : w78.cell? ⟨gb165, 6, none⟩ = some (.int .i64 a1_6) := (blk_cell BK165.out 6).trans rfl; have hcz79_7 : w78.cell? ⟨gb165, 7, none⟩ = some (.int .i64 a1_7) := (blk_cell BK165.out 7).trans rfl; have hfz79_0 := blk_frozen BK165.out 0; have hfz79_1 := blk_frozen BK165.out 1; have hfz79_2 := blk_frozen BK165.out 2; have hfz79_3 := blk_frozen BK165.out 3; have hfz79_4 := blk_frozen BK165.out 4; have hfz79_5 := blk_frozen BK165.out 5; have hfz79_6 := blk_frozen BK165.out 6; have hfz79_7 := blk_frozen BK165.out 7; have hcz80_0 : w78.cell? ⟨gb164, 0, none⟩ = some (.int .u64 a0_0) := (blk_cell BK164.out 0).trans rfl; have hcz80_1 : w78.cell? ⟨gb164, 1, none⟩ = some (.int .u64 a0_1) := (blk_cell BK164.out 1).trans rfl; have hcz80_2 : w78.cell? ⟨gb164, 2, none⟩ = some (.int .u64 a0_2) := (blk_cell BK164.out 2).trans rfl; have hcz80_3 : w78.cell? ⟨gb164, 3, none⟩ = some (.int .u8 a0_3) := (blk_cell BK164.out 3).trans rfl; have hcz80_4 : w78.cell? ⟨gb164, 4, none⟩ = some (.string a0_4) := (blk_cell BK164.out 4).trans rfl; have hcz80_5 : w78.cell? ⟨gb164, 5, none⟩ = some (.string a0_5) := (blk_cell BK164.out 5).trans rfl; have hcz80_6 : w78.cell? ⟨gb164, 6, none⟩ = some (.int .i64 a0_6) := (blk_cell BK164.out 6).trans rfl; have hcz80_7 : w78.cell? ⟨gb164, 7, none⟩ = some (.int .i64 a0_7) := (blk_cell BK164.out 7).trans rfl; have hfz80_0 := blk_frozen BK164.out 0; have hfz80_1 := blk_frozen BK164.out 1; have hfz80_2 := blk_frozen BK164.out 2; have hfz80_3 := blk_frozen BK164.out 3; have hfz80_4 := blk_frozen BK164.out 4; have hfz80_5 := blk_frozen BK164.out 5; have hfz80_6 := blk_frozen BK164.out 6; have hfz80_7 := blk_frozen BK164.out 7) | (go_at_call 22; (with_reducible refine (span_Cmp.calls kj38 a1_0 a1_1 a1_2 a1_3 a1_4 a1_5 a1_6 a1_7 a0_0 a0_1 a0_2 a0_3 a0_4 a0_5 a0_6 a0_7 t176 _ A57.out).mono ?_); rintro e w81 ⟨rfl, hb⟩; have n0_ := Aside0.mk (blk_below (g := gb164) (o := .cells #[.int .u64 a0_0, .int .u64 a0_1, .int .u64 a0_2, .int .u8 a0_3, .string a0_4, .string a0_5, .int .i64 a0_6, .int .i64 a0_7] 39 (0, 0)) (by (with_reducible repeat (first | refine blk_drewN ?_ _ | refine blk_drew ?_ | refine blk_alloc ?_ _)); exact BK164.out) hb); have n1_ := Aside0.mk (blk_below (g := gb165) (o := .cells #[.int .u64 a1_0, .int .u64 a1_1, .int .u64 a1_2, .int .u8 a1_3, .string a1_4, .string a1_5, .int .i64 a1_6, .int .i64 a1_7] 39 (0, 0)) (by (with_reducible repeat (first | refine blk_drewN ?_ _ | refine blk_drew ?_ | refine blk_alloc ?_ _)); exact BK165.out) hb); have n2_ := Aside0.mk (blk_below (g := gb166) (o := .cells #[.int .u64 a2_0, .int .u64 a2_1, .int .u64 a2_2, .int .u8 a2_3, .string a2_4, .string a2_5, .int .i64 a2_6, .int .i64 a2_7] 39 (0, 0)) (by (with_reducible repeat (first | refine blk_drewN ?_ _ | refine blk_drew ?_ | refine blk_alloc ?_ _)); exact BK166.out) hb); have n3_ := Aside0.mk (below_step (by repeat (first | (with_reducible first | exact HB.out | apply below_alloc | apply pw_below_drewN | apply below_drew1 | refine below_set ?_ GE164.out | refine below_set ?_ GE165.out | refine below_set ?_ GE166.out) | exact HB.out)) hb); clear BK164; clear BK165; clear BK166; clear HB; have BK164 := n0_; have BK165 := n1_; have BK166 := n2_; have HB := n3_; clear n0_ n1_ n2_ n3_; (try clear hb); (try clear hb2); (try clear hk); (try clear hi)))
                    go_ret
                    exact ⟨by first | rfl | (simp [errW_none, errW_some] <;> rfl) | (simp [*, errW_none, errW_some] <;> rfl), by repeat (first | (with_reducible first | exact HB.out | apply below_alloc | apply pw_below_drewN | apply below_drew1 | refine below_set ?_ GE164.out | refine below_set ?_ GE165.out | refine below_set ?_ GE166.out) | exact HB.out)⟩
                · rw [if_neg c58] at H
                  have c58b0 : (t176 == (wrap64 (-t171))) = false := beq_eq_false_iff_ne.mpr c58
                  have c58b1 : (t176 != (wrap64 (-t171))) = true := bne_iff_ne.mpr c58
                  obtain rfl := Option.some.inj H
                  go_wp2_with (first | ((with_reducible refine gate_callee (f := 18) rfl ?_); refine goesL_ (some 53) rfl rfl Try.func18 (by kernel_rfl) rfl #[] rfl (by (try simp only [List.map_toArray, List.map_cons, List.map_nil]); first | done | rfl | (simp only [List.length_drop, List.length_take]; rfl)) ?_; (with_reducible refine (merkhetlaw01_fixed.calls kj38  true _ A53.out).mono ?_); rintro e w82 ⟨rfl, hb⟩; refine ⟨_, rfl, ?_⟩; have n0_ := Aside0.mk (blk_below (g := gb164) (o := .cells #[.int .u64 a0_0, .int .u64 a0_1, .int .u64 a0_2, .int .u8 a0_3, .string a0_4, .string a0_5, .int .i64 a0_6, .int .i64 a0_7] 39 (0, 0)) (by (with_reducible repeat (first | refine blk_drewN ?_ _ | refine blk_drew ?_ | refine blk_alloc ?_ _)); exact BK164.out) hb); have n1_ := Aside0.mk (blk_below (g := gb165) (o := .cells #[.int .u64 a1_0, .int .u64 a1_1, .int .u64 a1_2, .int .u8 a1_3, .string a1_4, .string a1_5, .int .i64 a1_6, .int .i64 a1_7] 39 (0, 0)) (by (with_reducible repeat (first | refine blk_drewN ?_ _ | refine blk_drew ?_ | refine blk_alloc ?_ _)); exact BK165.out) hb); have n2_ := Aside0.mk (blk_below (g := gb166) (o := .cells #[.int .u64 a2_0, .int .u64 a2_1, .int .u64 a2_2, .int .u8 a2_3, .string a2_4, .string a2_5, .int .i64 a2_6, .int .i64 a2_7] 39 (0, 0)) (by (with_reducible repeat (first | refine blk_drewN ?_ _ | refine blk_drew ?_ | refine blk_alloc ?_ _)); exact BK166.out) hb); have n3_ := Aside0.mk (below_step (by repeat (first | (with_reducible first | exact HB.out | apply below_alloc | apply pw_below_drewN | apply below_drew1 | refine below_set ?_ GE164.out | refine below_set ?_ GE165.out | refine below_set ?_ GE166.out) | exact HB.out)) hb); clear BK164; clear BK165; clear BK166; clear HB; have BK164 := n0_; have BK165 := n1_; have BK166 := n2_; have HB := n3_; clear n0_ n1_ n2_ n3_; (try clear hb); (try clear hb2); (try clear hk); (try clear hi); have hnb83 := NB164_165.out; have hnc83 := NB165_164.out; have hnb84 := NB164_166.out; have hnc84 := NB166_164.out; have hcz85_0 : w82.cell? ⟨gb164, 0, none⟩ = some (.int .u64 a0_0) := (blk_cell BK164.out 0).trans rfl; have hcz85_1 : w82.cell? ⟨gb164, 1, none⟩ = some (.int .u64 a0_1) := (blk_cell BK164.out 1).trans rfl; have hcz85_2 : w82.cell? ⟨gb164, 2, none⟩ = some (.int .u64 a0_2) := (blk_cell BK164.out 2).trans rfl; have hcz85_3 : w82.cell? ⟨gb164, 3, none⟩ = some (.int .u8 a0_3) := (blk_cell BK164.out 3).trans rfl; have hcz85_4 : w82.cell? ⟨gb164, 4, none⟩ = some (.string a0_4) := (blk_cell BK164.out 4).trans rfl; have hcz85_5 : w82.cell? ⟨gb164, 5, none⟩ = some (.string a0_5) := (blk_cell BK164.out 5).trans rfl; have hcz85_6 : w82.cell? ⟨gb164, 6, none⟩ = some (.int .i64 a0_6) := (blk_cell BK164.out 6).trans rfl; have hcz85_7 : w82.cell? ⟨gb164, 7, none⟩ = some (.int .i64 a0_7) := (blk_cell BK164.out 7).trans rfl; have hfz85_0 := blk_frozen BK164.out 0; have hfz85_1 := blk_frozen BK164.out 1; have hfz85_2 := blk_frozen BK164.out 2; have hfz85_3 := blk_frozen BK164.out 3; have hfz85_4 := blk_frozen BK164.out 4; have hfz85_5 := blk_frozen BK164.out 5; have hfz85_6 := blk_frozen BK164.out 6; have hfz85_7 := blk_frozen BK164.out 7; have hnb86 := NB165_166.out; have hnc86 := NB166_165.out; have hcz87_0 : w82.cell? ⟨gb165, 0, none⟩ = some (.int .u64 a1_0) := (blk_cell BK165.out 0).trans rfl; have hcz87_1 : w82.cell? ⟨gb165, 1, none⟩ = some (.int .u64 a1_1) := (blk_cell BK165.out 1).trans rfl; have hcz87_2 : w82.cell? ⟨gb165, 2, none⟩ = some (.int .u64 a1_2) := (blk_cell BK165.out 2).trans rfl; have hcz87_3 : w82.cell? ⟨gb165, 3, none⟩ = some (.int .u8 a1_3) := (blk_cell BK165.out 3).trans rfl; have hcz87_4 : w82.cell? ⟨gb165, 4, none⟩ = some (.string a1_4) := (blk_cell BK165.out 4).trans rfl; have hcz87_5 : w82.cell? ⟨gb165, 5, none⟩ = some (.string a1_5) := (blk_cell BK165.out 5).trans rfl; have hcz87_6 : w82.cell? ⟨gb165, 6, none⟩ = some (.int .i64 a1_6) := (blk_cell BK165.out 6).trans rfl; have hcz87_7 : w82.cell? ⟨gb165, 7, none⟩ = some (.int .i64 a1_7) := (blk_cell BK165.out 7).trans rfl; have hfz87_0 := blk_frozen BK165.out 0; have hfz87_1 := blk_frozen BK165.out 1; have hfz87_2 := blk_frozen BK165.out 2; have hfz87_3 := blk_frozen BK165.out 3; have hfz87_4 := blk_frozen BK165.out 4; have hfz87_5 := blk_frozen BK165.out 5; have hfz87_6 := blk_frozen BK165.out 6; have hfz87_7 := blk_frozen BK165.out 7) | (go_at_call 23; (with_reducible refine (merkhetref01_Cmp.calls kj38 a0_0 a0_1 a0_2 a0_3 a0_4 a0_5 a0_6 a0_7 a1_0 a1_1 a1_2 a1_3 a1_4 a1_5 a1_6 a1_7 t175 _ A55.out).mono ?_); rintro e w88 ⟨rfl, hb⟩; have n0_ := Aside0.mk (blk_below (g := gb164) (o := .cells #[.int .u64 a0_0, .int .u64 a0_1, .int .u64 a0_2, .int .u8 a0_3, .string a0_4, .string a0_5, .int .i64 a0_6, .int .i64 a0_7] 39 (0, 0)) (by (with_reducible repeat (first | refine blk_drewN ?_ _ | refine blk_drew ?_ | refine blk_alloc ?_ _)); exact BK164.out) hb); have n1_ := Aside0.mk (blk_below (g := gb165) (o := .cells #[.int .u64 a1_0, .int .u64 a1_1, .int .u64 a1_2, .int .u8 a1_3, .string a1_4, .string a1_5, .int .i64 a1_6, .int .i64 a1_7] 39 (0, 0)) (by (with_reducible repeat (first | refine blk_drewN ?_ _ | refine blk_drew ?_ | refine blk_alloc ?_ _)); exact BK165.out) hb); have n2_ := Aside0.mk (blk_below (g := gb166) (o := .cells #[.int .u64 a2_0, .int .u64 a2_1, .int .u64 a2_2, .int .u8 a2_3, .string a2_4, .string a2_5, .int .i64 a2_6, .int .i64 a2_7] 39 (0, 0)) (by (with_reducible repeat (first | refine blk_drewN ?_ _ | refine blk_drew ?_ | refine blk_alloc ?_ _)); exact BK166.out) hb); have n3_ := Aside0.mk (below_step (by repeat (first | (with_reducible first | exact HB.out | apply below_alloc | apply pw_below_drewN | apply below_drew1 | refine below_set ?_ GE164.out | refine below_set ?_ GE165.out | refine below_set ?_ GE166.out) | exact HB.out)) hb); clear BK164; clear BK165; clear BK166; clear HB; have BK164 := n0_; have BK165 := n1_; have BK166 := n2_; have HB := n3_; clear n0_ n1_ n2_ n3_; (try clear hb); (try clear hb2); (try clear hk); (try clear hi); have hcz89_0 : w88.cell? ⟨gb165, 0, none⟩ = some (.int .u64 a1_0) := (blk_cell BK165.out 0).trans rfl; have hcz89_1 : w88.cell? ⟨gb165, 1, none⟩ = some (.int .u64 a1_1) := (blk_cell BK165.out 1).trans rfl; have hcz89_2 : w88.cell? ⟨gb165, 2, none⟩ = some (.int .u64 a1_2) := (blk_cell BK165.out 2).trans rfl; have hcz89_3 : w88.cell? ⟨gb165, 3, none⟩ = some (.int .u8 a1_3) := (blk_cell BK165.out 3).trans rfl; have hcz89_4 : w88.cell? ⟨gb165, 4, none⟩ = some (.string a1_4) := (blk_cell BK165.out 4).trans rfl; have hcz89_5 : w88.cell? ⟨gb165, 5, none⟩ = some (.string a1_5) := (blk_cell BK165.out 5).trans rfl; have hcz89_6 : w88.cell? ⟨gb165, 6, none⟩ = some (.int .i64 a1_6) := (blk_cell BK165.out 6).trans rfl; have hcz89_7 : w88.cell? ⟨gb165, 7, none⟩ = some (.int .i64 a1_7) := (blk_cell BK165.out 7).trans rfl; have hfz89_0 := blk_frozen BK165.out 0; have hfz89_1 := blk_frozen BK165.out 1; have hfz89_2 := blk_frozen BK165.out 2; have hfz89_3 := blk_frozen BK165.out 3; have hfz89_4 := blk_frozen BK165.out 4; have hfz89_5 := blk_frozen BK165.out 5; have hfz89_6 := blk_frozen BK165.out 6; have hfz89_7 := blk_frozen BK165.out 7; have hcz90_0 : w88.cell? ⟨gb164, 0, none⟩ = some (.int .u64 a0_0) := (blk_cell BK164.out 0).trans rfl; have hcz90_1 : w88.cell? ⟨gb164, 1, none⟩ = some (.int .u64 a0_1) := (blk_cell BK164.out 1).trans rfl; have hcz90_2 : w88.cell? ⟨gb164, 2, none⟩ = some (.int .u64 a0_2) := (blk_cell BK164.out 2).trans rfl; have hcz90_3 : w88.cell? ⟨gb164, 3, none⟩ = some (.int .u8 a0_3) := (blk_cell BK164.out 3).trans rfl; have hcz90_4 : w88.cell? ⟨gb164, 4, none⟩ = some (.string a0_4) := (blk_cell BK164.out 4).trans rfl; have hcz90_5 : w88.cell? ⟨gb164, 5, none⟩ = some (.string a0_5) := (blk_cell BK164.out 5).trans rfl; have hcz90_6 : w88.cell? ⟨gb164, 6, none⟩ = some (.int .i64 a0_6) := (blk_cell BK164.out 6).trans rfl; have hcz90_7 : w88.cell? ⟨gb164, 7, none⟩ = some (.int .i64 a0_7) := (blk_cell BK164.out 7).trans rfl; have hfz90_0 := blk_frozen BK164.out 0; have hfz90_1 := blk_frozen BK164.out 1; have hfz90_2 := blk_frozen BK164.out 2; have hfz90_3 := blk_frozen BK164.out 3; have hfz90_4 := blk_frozen BK164.out 4; have hfz90_5 := blk_frozen BK164.out 5; have hfz90_6 := blk_frozen BK164.out 6; have hfz90_7 := blk_frozen BK164.out 7) | (go_at_call 22; (with_reducible refine (span_Cmp.calls kj38 a1_0 a1_1 a1_2 a1_3 a1_4 a1_5 a1_6 a1_7 a0_0 a0_1 a0_2 a0_3 a0_4 a0_5 a0_6 a0_7 t176 _ A57.out).mono ?_); rintro e w91 ⟨rfl, hb⟩; have n0_ := Aside0.mk (blk_below (g := gb164) (o := .cells #[.int .u64 a0_0, .int .u64 a0_1, .int .u64 a0_2, .int .u8 a0_3, .string a0_4, .string a0_5, .int .i64 a0_6, .int .i64 a0_7] 39 (0, 0)) (by (with_reducible repeat (first | refine blk_drewN ?_ _ | refine blk_drew ?_ | refine blk_alloc ?_ _)); exact BK164.out) hb); have n1_ := Aside0.mk (blk_below (g := gb165) (o := .cells #[.int .u64 a1_0, .int .u64 a1_1, .int .u64 a1_2, .int .u8 a1_3, .string a1_4, .string a1_5, .int .i64 a1_6, .int .i64 a1_7] 39 (0, 0)) (by (with_reducible repeat (first | refine blk_drewN ?_ _ | refine blk_drew ?_ | refine blk_alloc ?_ _)); exact BK165.out) hb); have n2_ := Aside0.mk (blk_below (g := gb166) (o := .cells #[.int .u64 a2_0, .int .u64 a2_1, .int .u64 a2_2, .int .u8 a2_3, .string a2_4, .string a2_5, .int .i64 a2_6, .int .i64 a2_7] 39 (0, 0)) (by (with_reducible repeat (first | refine blk_drewN ?_ _ | refine blk_drew ?_ | refine blk_alloc ?_ _)); exact BK166.out) hb); have n3_ := Aside0.mk (below_step (by repeat (first | (with_reducible first | exact HB.out | apply below_alloc | apply pw_below_drewN | apply below_drew1 | refine below_set ?_ GE164.out | refine below_set ?_ GE165.out | refine below_set ?_ GE166.out) | exact HB.out)) hb); clear BK164; clear BK165; clear BK166; clear HB; have BK164 := n0_; have BK165 := n1_; have BK166 := n2_; have HB := n3_; clear n0_ n1_ n2_ n3_; (try clear hb); (try clear hb2); (try clear hk); (try clear hi)))
                  go_ret
                  exact ⟨by first | rfl | (simp [errW_none, errW_some] <;> rfl) | (simp [*, errW_none, errW_some] <;> rfl), by repeat (first | (with_reducible first | exact HB.out | apply below_alloc | apply pw_below_drewN | apply below_drew1 | refine below_set ?_ GE164.out | refine below_set ?_ GE165.out | refine below_set ?_ GE166.out) | exact HB.out)⟩
              · rw [if_neg c56] at H
                have c56b0 : (t171 == t175) = false := beq_eq_false_iff_ne.mpr c56
                have c56b1 : (t171 != t175) = true := bne_iff_ne.mpr c56
                obtain rfl := Option.some.inj H
                go_wp2_with (first | ((with_reducible refine gate_callee (f := 18) rfl ?_); refine goesL_ (some 53) rfl rfl Try.func18 (by kernel_rfl) rfl #[] rfl (by (try simp only [List.map_toArray, List.map_cons, List.map_nil]); first | done | rfl | (simp only [List.length_drop, List.length_take]; rfl)) ?_; (with_reducible refine (merkhetlaw01_fixed.calls kj38  true _ A53.out).mono ?_); rintro e w92 ⟨rfl, hb⟩; refine ⟨_, rfl, ?_⟩; have n0_ := Aside0.mk (blk_below (g := gb164) (o := .cells #[.int .u64 a0_0, .int .u64 a0_1, .int .u64 a0_2, .int .u8 a0_3, .string a0_4, .string a0_5, .int .i64 a0_6, .int .i64 a0_7] 39 (0, 0)) (by (with_reducible repeat (first | refine blk_drewN ?_ _ | refine blk_drew ?_ | refine blk_alloc ?_ _)); exact BK164.out) hb); have n1_ := Aside0.mk (blk_below (g := gb165) (o := .cells #[.int .u64 a1_0, .int .u64 a1_1, .int .u64 a1_2, .int .u8 a1_3, .string a1_4, .string a1_5, .int .i64 a1_6, .int .i64 a1_7] 39 (0, 0)) (by (with_reducible repeat (first | refine blk_drewN ?_ _ | refine blk_drew ?_ | refine blk_alloc ?_ _)); exact BK165.out) hb); have n2_ := Aside0.mk (blk_below (g := gb166) (o := .cells #[.int .u64 a2_0, .int .u64 a2_1, .int .u64 a2_2, .int .u8 a2_3, .string a2_4, .string a2_5, .int .i64 a2_6, .int .i64 a2_7] 39 (0, 0)) (by (with_reducible repeat (first | refine blk_drewN ?_ _ | refine blk_drew ?_ | refine blk_alloc ?_ _)); exact BK166.out) hb); have n3_ := Aside0.mk (below_step (by repeat (first | (with_reducible first | exact HB.out | apply below_alloc | apply pw_below_drewN | apply below_drew1 | refine below_set ?_ GE164.out | refine below_set ?_ GE165.out | refine below_set ?_ GE166.out) | exact HB.out)) hb); clear BK164; clear BK165; clear BK166; clear HB; have BK164 := n0_; have BK165 := n1_; have BK166 := n2_; have HB := n3_; clear n0_ n1_ n2_ n3_; (try clear hb); (try clear hb2); (try clear hk); (try clear hi); have hnb93 := NB164_165.out; have hnc93 := NB165_164.out; have hnb94 := NB164_166.out; have hnc94 := NB166_164.out; have hcz95_0 : w92.cell? ⟨gb164, 0, none⟩ = some (.int .u64 a0_0) := (blk_cell BK164.out 0).trans rfl; have hcz95_1 : w92.cell? ⟨gb164, 1, none⟩ = some (.int .u64 a0_1) := (blk_cell BK164.out 1).trans rfl; have hcz95_2 : w92.cell? ⟨gb164, 2, none⟩ = some (.int .u64 a0_2) := (blk_cell BK164.out 2).trans rfl; have hcz95_3 : w92.cell? ⟨gb164, 3, none⟩ = some (.int .u8 a0_3) := (blk_cell BK164.out 3).trans rfl; have hcz95_4 : w92.cell? ⟨gb164, 4, none⟩ = some (.string a0_4) := (blk_cell BK164.out 4).trans rfl; have hcz95_5 : w92.cell? ⟨gb164, 5, none⟩ = some (.string a0_5) := (blk_cell BK164.out 5).trans rfl; have hcz95_6 : w92.cell? ⟨gb164, 6, none⟩ = some (.int .i64 a0_6) := (blk_cell BK164.out 6).trans rfl; have hcz95_7 : w92.cell? ⟨gb164, 7, none⟩ = some (.int .i64 a0_7) := (blk_cell BK164.out 7).trans rfl; have hfz95_0 := blk_frozen BK164.out 0; have hfz95_1 := blk_frozen BK164.out 1; have hfz95_2 := blk_frozen BK164.out 2; have hfz95_3 := blk_frozen BK164.out 3; have hfz95_4 := blk_frozen BK164.out 4; have hfz95_5 := blk_frozen BK164.out 5; have hfz95_6 := blk_frozen BK164.out 6; have hfz95_7 := blk_frozen BK164.out 7; have hnb96 := NB165_166.out; have hnc96 := NB166_165.out; have hcz97_0 : w92.cell? ⟨gb165, 0, none⟩ = some (.int .u64 a1_0) := (blk_cell BK165.out 0).trans rfl; have hcz97_1 : w92.cell? ⟨gb165, 1, none⟩ = some (.int .u64 a1_1) := (blk_cell BK165.out 1).trans rfl; have hcz97_2 : w92.cell? ⟨gb165, 2, none⟩ = some (.int .u64 a1_2) := (blk_cell BK165.out 2).trans rfl; have hcz97_3 : w92.cell? ⟨gb165, 3, none⟩ = some (.int .u8 a1_3) := (blk_cell BK165.out 3).trans rfl; have hcz97_4 : w92.cell? ⟨gb165, 4, none⟩ = some (.string a1_4) := (blk_cell BK165.out 4).trans rfl; have hcz97_5 : w92.cell? ⟨gb165, 5, none⟩ = some (.string a1_5) := (blk_cell BK165.out 5).trans rfl; have hcz97_6 : w92.cell? ⟨gb165, 6, none⟩ = some (.int .i64 a1_6) := (blk_cell BK165.out 6).trans rfl; have hcz97_7 : w92.cell? ⟨gb165, 7, none⟩ = some (.int .i64 a1_7) := (blk_cell BK165.out 7).trans rfl; have hfz97_0 := blk_frozen BK165.out 0; have hfz97_1 := blk_frozen BK165.out 1; have hfz97_2 := blk_frozen BK165.out 2; have hfz97_3 := blk_frozen BK165.out 3; have hfz97_4 := blk_frozen BK165.out 4; have hfz97_5 := blk_frozen BK165.out 5; have hfz97_6 := blk_frozen BK165.out 6; have hfz97_7 := blk_frozen BK165.out 7) | (go_at_call 23; (with_reducible refine (merkhetref01_Cmp.calls kj38 a0_0 a0_1 a0_2 a0_3 a0_4 a0_5 a0_6 a0_7 a1_0 a1_1 a1_2 a1_3 a1_4 a1_5 a1_6 a1_7 t175 _ A55.out).mono ?_); rintro e w98 ⟨rfl, hb⟩; have n0_ := Aside0.mk (blk_below (g := gb164) (o := .cells #[.int .u64 a0_0, .int .u64 a0_1, .int .u64 a0_2, .int .u8 a0_3, .string a0_4, .string a0_5, .int .i64 a0_6, .int .i64 a0_7] 39 (0, 0)) (by (with_reducible repeat (first | refine blk_drewN ?_ _ | refine blk_drew ?_ | refine blk_alloc ?_ _)); exact BK164.out) hb); have n1_ := Aside0.mk (blk_below (g := gb165) (o := .cells #[.int .u64 a1_0, .int .u64 a1_1, .int .u64 a1_2, .int .u8 a1_3, .string a1_4, .string a1_5, .int .i64 a1_6, .int .i64 a1_7] 39 (0, 0)) (by (with_reducible repeat (first | refine blk_drewN ?_ _ | refine blk_drew ?_ | refine blk_alloc ?_ _)); exact BK165.out) hb); have n2_ := Aside0.mk (blk_below (g := gb166) (o := .cells #[.int .u64 a2_0, .int .u64 a2_1, .int .u64 a2_2, .int .u8 a2_3, .string a2_4, .string a2_5, .int .i64 a2_6, .int .i64 a2_7] 39 (0, 0)) (by (with_reducible repeat (first | refine blk_drewN ?_ _ | refine blk_drew ?_ | refine blk_alloc ?_ _)); exact BK166.out) hb); have n3_ := Aside0.mk (below_step (by repeat (first | (with_reducible first | exact HB.out | apply below_alloc | apply pw_below_drewN | apply below_drew1 | refine below_set ?_ GE164.out | refine below_set ?_ GE165.out | refine below_set ?_ GE166.out) | exact HB.out)) hb); clear BK164; clear BK165; clear BK166; clear HB; have BK164 := n0_; have BK165 := n1_; have BK166 := n2_; have HB := n3_; clear n0_ n1_ n2_ n3_; (try clear hb); (try clear hb2); (try clear hk); (try clear hi)))
                go_ret
                exact ⟨by first | rfl | (simp [errW_none, errW_some] <;> rfl) | (simp [*, errW_none, errW_some] <;> rfl), by repeat (first | (with_reducible first | exact HB.out | apply below_alloc | apply pw_below_drewN | apply below_drew1 | refine below_set ?_ GE164.out | refine below_set ?_ GE165.out | refine below_set ?_ GE166.out) | exact HB.out)⟩
            · replace c54 := Bool.eq_false_iff.mpr c54
              subst c54
              have H1 : (some false) = some r := by rw [if_neg (show ¬ (false = true) by decide)] at H; exact H
              clear H
              have H := H1
              clear H1
              obtain rfl := Option.some.inj H
              go_wp2_with (first | ((with_reducible refine gate_callee (f := 18) rfl ?_); refine goesL_ (some 53) rfl rfl Try.func18 (by kernel_rfl) rfl #[] rfl (by (try simp only [List.map_toArray, List.map_cons, List.map_nil]); first | done | rfl | (simp only [List.length_drop, List.length_take]; rfl)) ?_; (with_reducible refine (merkhetlaw01_fixed.calls kj38  false _ A53.out).mono ?_); rintro e w99 ⟨rfl, hb⟩; refine ⟨_, rfl, ?_⟩; have n0_ := Aside0.mk (blk_below (g := gb164) (o := .cells #[.int .u64 a0_0, .int .u64 a0_1, .int .u64 a0_2, .int .u8 a0_3, .string a0_4, .string a0_5, .int .i64 a0_6, .int .i64 a0_7] 39 (0, 0)) (by (with_reducible repeat (first | refine blk_drewN ?_ _ | refine blk_drew ?_ | refine blk_alloc ?_ _)); exact BK164.out) hb); have n1_ := Aside0.mk (blk_below (g := gb165) (o := .cells #[.int .u64 a1_0, .int .u64 a1_1, .int .u64 a1_2, .int .u8 a1_3, .string a1_4, .string a1_5, .int .i64 a1_6, .int .i64 a1_7] 39 (0, 0)) (by (with_reducible repeat (first | refine blk_drewN ?_ _ | refine blk_drew ?_ | refine blk_alloc ?_ _)); exact BK165.out) hb); have n2_ := Aside0.mk (blk_below (g := gb166) (o := .cells #[.int .u64 a2_0, .int .u64 a2_1, .int .u64 a2_2, .int .u8 a2_3, .string a2_4, .string a2_5, .int .i64 a2_6, .int .i64 a2_7] 39 (0, 0)) (by (with_reducible repeat (first | refine blk_drewN ?_ _ | refine blk_drew ?_ | refine blk_alloc ?_ _)); exact BK166.out) hb); have n3_ := Aside0.mk (below_step (by repeat (first | (with_reducible first | exact HB.out | apply below_alloc | apply pw_below_drewN | apply below_drew1 | refine below_set ?_ GE164.out | refine below_set ?_ GE165.out | refine below_set ?_ GE166.out) | exact HB.out)) hb); clear BK164; clear BK165; clear BK166; clear HB; have BK164 := n0_; have BK165 := n1_; have BK166 := n2_; have HB := n3_; clear n0_ n1_ n2_ n3_; (try clear hb); (try clear hb2); (try clear hk); (try clear hi)))
              go_ret
              exact ⟨by first | rfl | (simp [errW_none, errW_some] <;> rfl) | (simp [*, errW_none, errW_some] <;> rfl), by repeat (first | (with_reducible first | exact HB.out | apply below_alloc | apply pw_below_drewN | apply below_drew1 | refine below_set ?_ GE164.out | refine below_set ?_ GE165.out | refine below_set ?_ GE166.out) | exact HB.out)⟩

end Go.Proofs.Ytkcnfdffemddlaa.Q
