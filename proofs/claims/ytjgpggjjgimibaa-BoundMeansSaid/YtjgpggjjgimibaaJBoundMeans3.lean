/- Texts joined by wip/tools/merge.py: Qx7 RefH Qx8 RefK RefG GapR MeanG Nx0 Nx1 NOpens PureBoundMeans. -/
import Derived.Test.YtjgpggjjgimibaaJBoundMeans0
import Derived.Test.YtjgpggjjgimibaaJBoundMeans1
import Derived.Test.YtjgpggjjgimibaaJBoundMeans2
import Derived.RegionTactic
import Derived.BigRegion
import Derived.Test.YtjgpggjjgimibaaProg
import Derived.Below
import Derived.Deep.Draws
import Derived.Deep.AppendLies
import Derived.Maps.AppendAt
import Derived.OwnWalk
import Derived.Laws.BytesArg
import Derived.Laws.MakeOwn
import Derived.Laws.OwnMore
import Derived.Deep.OwnRows
import Derived.Tactics
import Derived.Lib.ConvBytes
import Derived.Laws.Slices
import Derived.WalkKit
import Derived.KernelRfl
import Derived.RowKit3
import Derived.Deep.LoopGhost
import Derived.Deep.QuietTactic
import Derived.BigQuiet
import Derived.WideLaws
import Derived.Deep.DeepCutAuto
import Derived.Deep.CutBlock
import Derived.Deep.RegionHeld3
import Derived.Laws.Rows
import Derived.Lib.AppendStr
import Derived.ArgAppend
import Derived.Laws.IdiomCopy
import Derived.OrdersHeld
import Derived.Laws.BitsLemmas
import Derived.RowKit
import Derived.Test.YtjgpggjjgimibaaWWords
import Derived.Test.YtjgpggjjgimibaaWLast
import Derived.Test.YtjgpggjjgimibaaWTab
import Derived.Test.YtjgpggjjgimibaaWFour
import Derived.Test.YtjgpggjjgimibaaWQPut
import Derived.Test.YtjgpggjjgimibaaWApart
import Derived.Test.YtjgpggjjgimibaaWArr
import Derived.Test.YtjgpggjjgimibaaWZeros
import Derived.Test.YtjgpggjjgimibaaWFoot
import Derived.Test.YtjgpggjjgimibaaWKept
import Derived.Test.YtjgpggjjgimibaaWShare
import Derived.Test.YtjgpggjjgimibaaWN
import Derived.Test.YtjgpggjjgimibaaWFootNe
import Derived.Test.YtjgpggjjgimibaaWAt
import Derived.Test.YtjgpggjjgimibaaWEqStruct
import Derived.Test.YtjgpggjjgimibaaWRepsOne
import Derived.Test.YtjgpggjjgimibaaWInv
import Derived.Test.YtjgpggjjgimibaaWInvWords
import Derived.Test.YtjgpggjjgimibaaWGuard
import Derived.Test.YtjgpggjjgimibaaWNEv
import Derived.Test.YtjgpggjjgimibaaWMore
-- Written by wip/tools/gp.py, a program of this session round the kit's printer. Lean checks it.
namespace Go.Proofs.Ytjgpggjjgimibaa.Q
open Go.RowKit Go.Proofs.YtjgpggjjgimibaaW.PrintWords Go.Proofs.YtjgpggjjgimibaaW.PrintLast Go.Proofs.YtjgpggjjgimibaaW.PrintMore
attribute [local go_sem] max2_int min2_int max_two min_two max_three min_three max_four min_four   -- for this text's walks alone
set_option linter.unusedVariables false
set_option linter.unusedSimpArgs false

/-! ### merkhetref09_Hosts: function 41 -/
mutual
def merkhetref09_Hosts.l0 : Nat → List (S42) → List ByteArray → Int → Option (List ByteArray)
  | 0, _, _, _ => none
  | k + 1, x0, x3, x4 => if x4 < (x0.length : Int) then (if 0 ≤ x4 then ((merkhetref09_Place.f k x3 ((rd_T42 x0 x4).f4)).bind fun t168 => (if t168 ≥ 0 then (merkhetref09_Hosts.l0 k x0 x3 (wrap64 (x4 + 1))) else (merkhetref09_Hosts.l1 k x0 x3 x4 (x3.length : Int)))) else (none)) else (some x3)
def merkhetref09_Hosts.l1 : Nat → List (S42) → List ByteArray → Int → Int → Option (List ByteArray)
  | 0, _, _, _, _ => none
  | k + 1, x0, x3, x4, x5 => if x5 > 0 then (if 0 ≤ (wrap64 (x5 - 1)) then (if (wrap64 (x5 - 1)) < (x3.length : Int) then (if 0 ≤ x4 then (if x4 < (x0.length : Int) then ((merkhetref01_Text.f k (rdOf ByteArray.empty x3 (wrap64 (x5 - 1))) ((rd_T42 x0 x4).f4)).bind fun t171 => (if t171 > 0 then (merkhetref09_Hosts.l1 k x0 x3 x4 (wrap64 (x5 - 1))) else ((some (([] : List ByteArray) : List ByteArray)).bind fun y172 => (if 0 ≤ x5 then (if x5 ≤ (x3.length : Int) then ((some (x3.drop (x5 : Int).toNat : List ByteArray)).bind fun y175 => (if y172.length + y175.length < 8796093022208 then ((some (y172 ++ y175 : List ByteArray)).bind fun y179 => ((some (x3.take (x5 : Int).toNat : List ByteArray)).bind fun y182 => (if y182.length < 8796093022208 then ((some (y182 ++ [(rd_T42 x0 x4).f4] : List ByteArray)).bind fun y186 => (if y186.length + y179.length < 8796093022208 then (merkhetref09_Hosts.l0 k x0 (y186 ++ y179) (wrap64 (x4 + 1))) else (none))) else (none)))) else (none))) else (none)) else (none))))) else (none)) else (none)) else (none)) else (none)) else ((some (([] : List ByteArray) : List ByteArray)).bind fun y192 => (if 0 ≤ x5 then (if x5 ≤ (x3.length : Int) then ((some (x3.drop (x5 : Int).toNat : List ByteArray)).bind fun y195 => (if y192.length + y195.length < 8796093022208 then ((some (y192 ++ y195 : List ByteArray)).bind fun y199 => ((some (x3.take (x5 : Int).toNat : List ByteArray)).bind fun y202 => (if 0 ≤ x4 then (if x4 < (x0.length : Int) then (if y202.length < 8796093022208 then ((some (y202 ++ [(rd_T42 x0 x4).f4] : List ByteArray)).bind fun y206 => (if y206.length + y199.length < 8796093022208 then (merkhetref09_Hosts.l0 k x0 (y206 ++ y199) (wrap64 (x4 + 1))) else (none))) else (none)) else (none)) else (none)))) else (none))) else (none)) else (none)))
end
def merkhetref09_Hosts.f (k : Nat) (l0 : List (S42)) : Option (List ByteArray) := merkhetref09_Hosts.l0 k l0 (([] : List ByteArray)) 0
theorem merkhetref09_Hosts.mono_l : ∀ k, (∀ y0 y1 y2, LeO (merkhetref09_Hosts.l0 k y0 y1 y2) (merkhetref09_Hosts.l0 (k + 1) y0 y1 y2)) ∧ (∀ y0 y1 y2 y3, LeO (merkhetref09_Hosts.l1 k y0 y1 y2 y3) (merkhetref09_Hosts.l1 (k + 1) y0 y1 y2 y3))
  | 0 => ⟨fun _ _ _ r h => by simp [merkhetref09_Hosts.l0] at h, fun _ _ _ _ r h => by simp [merkhetref09_Hosts.l1] at h⟩
  | k + 1 => by
    obtain ⟨ih0, ih1⟩ := merkhetref09_Hosts.mono_l k
    refine ⟨?_, ?_⟩
    · intro y0 y1 y2
      unfold merkhetref09_Hosts.l0
      repeat' first
      | (with_reducible exact ih0 _ _ _)
      | (with_reducible exact ih1 _ _ _ _)
      | (with_reducible exact merkhetref01_Text.mono _ _ _)
      | (with_reducible exact merkhetref09_Place.mono _ _ _)
      | (with_reducible exact LeO.refl _)
      | (with_reducible exact LeO.none _)
      | (with_reducible refine LeO.ite ?_ ?_)
      | (with_reducible refine LeO.bind ?_ (fun _ => ?_))
      | exact ih0 _ _ _
      | exact ih1 _ _ _ _
      | exact merkhetref01_Text.mono _ _ _
      | exact merkhetref09_Place.mono _ _ _
      | exact LeO.none _
      | refine LeO.ite ?_ ?_
      | refine LeO.bind ?_ (fun _ => ?_)
    · intro y0 y1 y2 y3
      unfold merkhetref09_Hosts.l1
      repeat' first
      | (with_reducible exact ih0 _ _ _)
      | (with_reducible exact ih1 _ _ _ _)
      | (with_reducible exact merkhetref01_Text.mono _ _ _)
      | (with_reducible exact merkhetref09_Place.mono _ _ _)
      | (with_reducible exact LeO.refl _)
      | (with_reducible exact LeO.none _)
      | (with_reducible refine LeO.ite ?_ ?_)
      | (with_reducible refine LeO.bind ?_ (fun _ => ?_))
      | exact ih0 _ _ _
      | exact ih1 _ _ _ _
      | exact merkhetref01_Text.mono _ _ _
      | exact merkhetref09_Place.mono _ _ _
      | exact LeO.none _
      | refine LeO.ite ?_ ?_
      | refine LeO.bind ?_ (fun _ => ?_)
theorem merkhetref09_Hosts.mono : ∀ a0 k, LeO (merkhetref09_Hosts.f k a0) (merkhetref09_Hosts.f (k + 1) a0) := by
  intro a0 k
  obtain ⟨ih0, ih1⟩ := merkhetref09_Hosts.mono_l k
  unfold merkhetref09_Hosts.f
  repeat' first
      | (with_reducible exact ih0 _ _ _)
      | (with_reducible exact ih1 _ _ _ _)
      | (with_reducible exact merkhetref01_Text.mono _ _ _)
      | (with_reducible exact merkhetref09_Place.mono _ _ _)
      | (with_reducible exact LeO.refl _)
      | (with_reducible exact LeO.none _)
      | (with_reducible refine LeO.ite ?_ ?_)
      | (with_reducible refine LeO.bind ?_ (fun _ => ?_))
      | exact ih0 _ _ _
      | exact ih1 _ _ _ _
      | exact merkhetref01_Text.mono _ _ _
      | exact merkhetref09_Place.mono _ _ _
      | exact LeO.none _
      | refine LeO.ite ?_ ?_
      | refine LeO.bind ?_ (fun _ => ?_)
def merkhetref09_Hosts.T7 : Bool × List (List Nat × List Nat) := (true, [([], []), ([0], [0]), ([1], [1]), ([2], [2]), ([2], [2]), ([4, 2], [2, 4]), ([3, 5, 2], [2, 3, 5]), ([6, 2], [2, 6]), ([2], [2]), ([2], [2]), ([8, 9, 2], [2, 8, 9]), ([10, 2], [2, 10]), ([11, 2], [2, 11]), ([7, 12, 2, 2], [2, 7, 12]), ([13, 2], [2, 13]), ([2, 14], [2, 14])])
def merkhetref09_Hosts.B7 : List Nat := [0, 1, 3, 7, 7, 23, 63, 127, 7, 7, 775, 1799, 3847, 8191, 16383, 32767]
theorem merkhetref09_Hosts.tab7 : rtab .any (opsOf Try.f41 7) = merkhetref09_Hosts.T7 := by kernel_rfl
theorem merkhetref09_Hosts.bits7 : waitsOk merkhetref09_Hosts.T7.2 merkhetref09_Hosts.B7 = true := by kernel_rfl
def merkhetref09_Hosts.T10 : Bool × List (List Nat × List Nat) := (true, [([], []), ([], []), ([0, 1], [0, 1]), ([], []), ([], []), ([3, 4], [3, 4]), ([5], [5]), ([6], [6]), ([7], [7]), ([2, 8], [2, 8]), ([], []), ([9, 10, 9], [9, 10]), ([11, 11, 0, 1, 2, 3, 4, 5, 6, 7, 8, 9, 10, 11], [0, 11])])
def merkhetref09_Hosts.B10 : List Nat := [0, 0, 3, 0, 0, 24, 56, 120, 248, 511, 0, 2047, 4095]
theorem merkhetref09_Hosts.tab10 : rtab .any (opsOf Try.f41 10) = merkhetref09_Hosts.T10 := by kernel_rfl
theorem merkhetref09_Hosts.bits10 : waitsOk merkhetref09_Hosts.T10.2 merkhetref09_Hosts.B10 = true := by kernel_rfl
set_option maxHeartbeats 8000000 in
set_option maxRecDepth 100000 in
theorem merkhetref09_Hosts.calls (k : Nat) (A0 : Option Addr) (c0 : Nat) (l0 : List (S42)) (r : List ByteArray) (w : World) (hr0 : Kd.C k42 w A0 l0.length l0) (hc0 : l0.length ≤ c0) (h : merkhetref09_Hosts.f k l0 = some r) :
    Calls Try.prog 41 #[.slice A0 l0.length c0] w fun e w' => ∃ v0_ : Value, e = .returned (v0_) ∧ Kd.R Kd.string 9 w' w.heap.size (fun _ => True) v0_ r ∧ Below w.heap.size w w' := by
  have HR0 := Aside0.mk hr0
  have HC0 := Aside0.mk hc0
  clear hr0 hc0
  have HB := Aside0.mk (Below.refl w.heap.size w)
  have H : (merkhetref09_Hosts.l0 k l0 (([] : List ByteArray)) 0) = some r := h
  clear h
  obtain ⟨y164, hy164⟩ : ∃ y_ : List ByteArray, y_ = (([] : List ByteArray)) := ⟨_, rfl⟩
  replace H : (merkhetref09_Hosts.l0 k l0 y164 0) = some r := by first | (rw [hy164]; with_reducible exact H) | (have H2_ := (Option.bind_some _ _).symm.trans H; rw [hy164]; with_reducible exact H2_) | (have H2_ := (Option.bind_some _ _).symm.trans H; with_reducible exact H2_) | with_reducible exact H | (rw [hy164]; exact H) | exact H
  have Ny164 := Aside0.mk hy164
  clear hy164
  have H' := Aside0.mk H
  clear H
  go_enter Try.func41, Try.ntmps41
  go_wp2_with (first | ((with_reducible refine gate_dst (N := 7) rfl ?_); refine Kd.R_lit Kd.string _ 9 ?hg (N := 7) ?hd (xs := ([] : List ByteArray)) (inner := []) (ok := fun _ => True) (okp := fun _ => True) ?hr ?hp (fun _ hk => hk) trivial (Below.refl _ _) (Nat.le_refl _) (by simp) ?_; (case hd => rfl); (case hg => rfl); (case hr => first | (go_simp; done) | (go_simp; rfl)); (case hp => exact (Reps.none _ _)); intro v165 w2 ho3 hb hg_ hnew_; clear hg_ hnew_; (first | rw [← Ny164.out] at ho3 | (simp only [Int.reduceToNat] at ho3; rw [← Ny164.out] at ho3)); have n0_ := Aside0.mk (Kd.R_lower ho3 (below_size (by repeat (first | (with_reducible first | exact HB.out | apply below_alloc | apply pw_below_drewN | apply below_drew1) | exact HB.out)))); have n1_ := Aside0.mk (below_step (by repeat (first | (with_reducible first | exact HB.out | apply below_alloc | apply pw_below_drewN | apply below_drew1) | exact HB.out)) hb); clear HB; have HO166 := n0_; have HB := n1_; clear n0_ n1_; clear hb ho3))
  go_loopg [3, 4] k (fun kq v3 v4 w' => ∃ (x3_1 : List ByteArray) (x4_1 : Int), v4 = .int .i64 x4_1 ∧ Aside0 (merkhetref09_Hosts.l0 kq l0 x3_1 x4_1 = some r) ∧ Aside0 (kq ≤ k) ∧ Aside0 (Kd.R Kd.string 9 w' w.heap.size (fun _ => True) v3 x3_1) ∧ Aside0 (Below w.heap.size w w'))
  case atStart => exact ⟨(y164), (0), (by first | rfl | (simp; done) | (simp [*]; done)), H', ⟨Nat.le_refl _⟩, ⟨by (with_reducible repeat (first | apply Kd.R_alloc | apply Kd.R_drewN | apply Kd.R_drew)); exact HO166.out⟩, ⟨by repeat (first | (with_reducible first | exact HB.out | apply below_alloc | apply pw_below_drewN | apply below_drew1) | exact HB.out)⟩⟩
  case round =>
    clear H'
    try clear p2
    obtain ⟨x3_1, x4_1, rfl, HA, HK1, HO_3, HB⟩ := hrel
    cases gk with
    | zero => exact absurd HA.out (by simp [merkhetref09_Hosts.l0])
    | succ k1 =>
      have H := HA.out
      clear HA
      simp only [merkhetref09_Hosts.l0] at H
      by_cases c4 : x4_1 < (l0.length : Int)
      · rw [if_pos c4] at H
        have c4b0 : decide (x4_1 < (l0.length : Int)) = true := decide_eq_true c4
        clear c4
        by_cases c5 : 0 ≤ x4_1
        · rw [if_pos c5] at H
          have c5b0 : decide (0 ≤ x4_1) = true := decide_eq_true c5
          clear c5
          replace H := Option.bind_eq_some_iff.mp H
          obtain ⟨t168, A60, H⟩ := H
          replace H : (if t168 ≥ 0 then (merkhetref09_Hosts.l0 k1 l0 x3_1 (wrap64 (x4_1 + 1))) else (merkhetref09_Hosts.l1 k1 l0 x3_1 x4_1 (x3_1.length : Int))) = some r := H
          have A6 := Aside0.mk A60
          clear A60
          by_cases c7 : t168 ≥ 0
          · rw [if_pos c7] at H
            have c7b0 : decide (0 ≤ t168) = true := decide_eq_true c7
            clear c7
            have H' := Aside0.mk H
            clear H
            have p167 : 0 ≤ (x4_1 : Int) := of_decide_eq_true (by first | (with_reducible assumption) | assumption)
            have q167 : x4_1 < (l0.length : Int) := of_decide_eq_true (by first | (with_reducible assumption) | assumption)
            obtain ⟨ad167, e167, hx167_0, hx167_1, hx167_2, hx167_3, hx167_4, hx167_5, hx167_6, hx167_7⟩ := at_T42 HR0.out x4_1 p167 q167
            cases e167
            replace hx167_0 := (HB.out.cell (World.block_lt_of_cell? w _ hx167_0)).trans hx167_0
            replace hx167_1 := (HB.out.cell (World.block_lt_of_cell? w _ hx167_1)).trans hx167_1
            replace hx167_2 := (HB.out.cell (World.block_lt_of_cell? w _ hx167_2)).trans hx167_2
            replace hx167_3 := (HB.out.cell (World.block_lt_of_cell? w _ hx167_3)).trans hx167_3
            replace hx167_4 := (HB.out.cell (World.block_lt_of_cell? w _ hx167_4)).trans hx167_4
            replace hx167_5 := (HB.out.cell (World.block_lt_of_cell? w _ hx167_5)).trans hx167_5
            replace hx167_6 := (HB.out.cell (World.block_lt_of_cell? w _ hx167_6)).trans hx167_6
            replace hx167_7 := (HB.out.cell (World.block_lt_of_cell? w _ hx167_7)).trans hx167_7
            replace p167 := eq_true p167
            replace q167 := eq_true q167
            obtain ⟨Ao8, co8, eo8⟩ := Kd.R_slice HO_3.out
            subst eo8
            go_wp2_with (first | ((with_reducible refine gate_callee (f := 42) rfl ?_); refine goesL_ (some 20) rfl rfl Try.func42 (by kernel_rfl) rfl #[.slice Ao8 x3_1.length co8, .string ((rd_T42 l0 x4_1).f4)] rfl (by (try simp only [List.map_toArray, List.map_cons, List.map_nil]); first | done | rfl | (simp only [List.length_drop, List.length_take]; rfl)) ?_; (with_reducible refine (merkhetref09_Place.calls k1 _ _ x3_1 ((rd_T42 l0 x4_1).f4) t168 _ ?side1 ?side2 A6.out).mono ?_); (case side1 => repeat (first | exact (Kd.R_reads' HO_3.out).2.2 | (with_reducible refine Kd.C_alloc ?_ _) | (with_reducible refine Kd.C_drewN ?_ _) | (with_reducible refine Kd.C_drew ?_))); (case side2 => exact (Kd.R_reads' HO_3.out).2.1); rintro e w' ⟨rfl, ⟨nd, rfl⟩⟩; refine ⟨_, rfl, ?_⟩))
            go_roundg k1
            case measure => have := HK1.out; omega
            case rel => exact ⟨(x3_1), (wrap64 (x4_1 + 1)), (by first | rfl | (simp; done) | (simp [*]; done)), H', ⟨by have := HK1.out; omega⟩, ⟨by (with_reducible repeat (first | apply Kd.R_alloc | apply Kd.R_drewN | apply Kd.R_drew)); exact HO_3.out⟩, ⟨by repeat (first | (with_reducible first | exact HB.out | apply below_alloc | apply pw_below_drewN | apply below_drew1) | exact HB.out)⟩⟩
          · rw [if_neg c7] at H
            have c7b0 : decide (0 ≤ t168) = false := decide_eq_false c7
            clear c7
            have H' := Aside0.mk H
            clear H
            have p167 : 0 ≤ (x4_1 : Int) := of_decide_eq_true (by first | (with_reducible assumption) | assumption)
            have q167 : x4_1 < (l0.length : Int) := of_decide_eq_true (by first | (with_reducible assumption) | assumption)
            obtain ⟨ad167, e167, hx167_0, hx167_1, hx167_2, hx167_3, hx167_4, hx167_5, hx167_6, hx167_7⟩ := at_T42 HR0.out x4_1 p167 q167
            cases e167
            replace hx167_0 := (HB.out.cell (World.block_lt_of_cell? w _ hx167_0)).trans hx167_0
            replace hx167_1 := (HB.out.cell (World.block_lt_of_cell? w _ hx167_1)).trans hx167_1
            replace hx167_2 := (HB.out.cell (World.block_lt_of_cell? w _ hx167_2)).trans hx167_2
            replace hx167_3 := (HB.out.cell (World.block_lt_of_cell? w _ hx167_3)).trans hx167_3
            replace hx167_4 := (HB.out.cell (World.block_lt_of_cell? w _ hx167_4)).trans hx167_4
            replace hx167_5 := (HB.out.cell (World.block_lt_of_cell? w _ hx167_5)).trans hx167_5
            replace hx167_6 := (HB.out.cell (World.block_lt_of_cell? w _ hx167_6)).trans hx167_6
            replace hx167_7 := (HB.out.cell (World.block_lt_of_cell? w _ hx167_7)).trans hx167_7
            replace p167 := eq_true p167
            replace q167 := eq_true q167
            obtain ⟨Ao9, co9, eo9⟩ := Kd.R_slice HO_3.out
            subst eo9
            go_wp2_with (first | ((with_reducible refine gate_callee (f := 42) rfl ?_); refine goesL_ (some 20) rfl rfl Try.func42 (by kernel_rfl) rfl #[.slice Ao9 x3_1.length co9, .string ((rd_T42 l0 x4_1).f4)] rfl (by (try simp only [List.map_toArray, List.map_cons, List.map_nil]); first | done | rfl | (simp only [List.length_drop, List.length_take]; rfl)) ?_; (with_reducible refine (merkhetref09_Place.calls k1 _ _ x3_1 ((rd_T42 l0 x4_1).f4) t168 _ ?side1 ?side2 A6.out).mono ?_); (case side1 => repeat (first | exact (Kd.R_reads' HO_3.out).2.2 | (with_reducible refine Kd.C_alloc ?_ _) | (with_reducible refine Kd.C_drewN ?_ _) | (with_reducible refine Kd.C_drew ?_))); (case side2 => exact (Kd.R_reads' HO_3.out).2.1); rintro e w' ⟨rfl, ⟨nd, rfl⟩⟩; refine ⟨_, rfl, ?_⟩))
            go_loopg [5] k1 (fun kq v5 w' => ∃ (x5_2 : Int), v5 = .int .i64 x5_2 ∧ Aside0 (merkhetref09_Hosts.l1 kq l0 x3_1 x4_1 x5_2 = some r) ∧ Aside0 (kq ≤ k1) ∧ Aside0 (Kd.R Kd.string 9 w' w.heap.size (fun _ => True) (.slice Ao9 x3_1.length co9) x3_1) ∧ Aside0 (Below w.heap.size w w'))
            case atStart => exact ⟨((x3_1.length : Int)), (by first | rfl | (simp; done) | (simp [*]; done)), H', ⟨Nat.le_refl _⟩, ⟨by (with_reducible repeat (first | apply Kd.R_alloc | apply Kd.R_drewN | apply Kd.R_drew)); exact HO_3.out⟩, ⟨by repeat (first | (with_reducible first | exact HB.out | apply below_alloc | apply pw_below_drewN | apply below_drew1) | exact HB.out)⟩⟩
            case round =>
              clear H'
              try clear p1
              try clear q1
              try clear hx1
              try clear p2
              try clear c4
              try clear c4b0
              try clear c5
              try clear c5b0
              try clear p6
              try clear c7
              try clear c7b0
              try clear hx167_0
              try clear hx167_1
              try clear hx167_2
              try clear hx167_3
              try clear hx167_4
              try clear hx167_5
              try clear hx167_6
              try clear hx167_7
              try clear p167
              try clear p2
              try clear q167
              obtain ⟨x5_2, rfl, HA, HK2, HO_3, HB⟩ := hrel
              cases gk with
              | zero => exact absurd HA.out (by simp [merkhetref09_Hosts.l1])
              | succ k2 =>
                have H := HA.out
                clear HA
                simp only [merkhetref09_Hosts.l1] at H
                by_cases c10 : x5_2 > 0
                · rw [if_pos c10] at H
                  have c10b0 : decide (0 < x5_2) = true := decide_eq_true c10
                  clear c10
                  obtain ⟨ji11, hji11⟩ : ∃ j_ : Int, (wrap64 (x5_2 - 1)) = j_ := ⟨_, rfl⟩
                  replace H : (if 0 ≤ (ji11) then (if (ji11) < (x3_1.length : Int) then (if 0 ≤ x4_1 then (if x4_1 < (l0.length : Int) then ((merkhetref01_Text.f k2 (rdOf ByteArray.empty x3_1 (ji11)) ((rd_T42 l0 x4_1).f4)).bind fun t171 => (if t171 > 0 then (merkhetref09_Hosts.l1 k2 l0 x3_1 x4_1 ji11) else ((some (([] : List ByteArray) : List ByteArray)).bind fun y172 => (if 0 ≤ x5_2 then (if x5_2 ≤ (x3_1.length : Int) then ((some (x3_1.drop (x5_2 : Int).toNat : List ByteArray)).bind fun y175 => (if y172.length + y175.length < 8796093022208 then ((some (y172 ++ y175 : List ByteArray)).bind fun y179 => ((some (x3_1.take (x5_2 : Int).toNat : List ByteArray)).bind fun y182 => (if y182.length < 8796093022208 then ((some (y182 ++ [(rd_T42 l0 x4_1).f4] : List ByteArray)).bind fun y186 => (if y186.length + y179.length < 8796093022208 then (merkhetref09_Hosts.l0 k2 l0 (y186 ++ y179) (wrap64 (x4_1 + 1))) else (none))) else (none)))) else (none))) else (none)) else (none))))) else (none)) else (none)) else (none)) else (none)) = some r := by first | (rw [hji11] at H; exact H) | (simp only [hji11] at H ⊢; exact H)
                  have hji11w : (IntKind.i64.wrap (x5_2 - 1)) = ji11 := (i64_w _).trans hji11
                  by_cases c12 : 0 ≤ (ji11)
                  · rw [if_pos c12] at H
                    have c12b0 : decide (0 ≤ (ji11)) = true := decide_eq_true c12
                    clear c12
                    by_cases c13 : (ji11) < (x3_1.length : Int)
                    · rw [if_pos c13] at H
                      have c13b0 : decide ((ji11) < (x3_1.length : Int)) = true := decide_eq_true c13
                      clear c13
                      by_cases c14 : 0 ≤ x4_1
                      · rw [if_pos c14] at H
                        have c14b0 : decide (0 ≤ x4_1) = true := decide_eq_true c14
                        clear c14
                        by_cases c15 : x4_1 < (l0.length : Int)
                        · rw [if_pos c15] at H
                          have c15b0 : decide (x4_1 < (l0.length : Int)) = true := decide_eq_true c15
                          clear c15
                          replace H := Option.bind_eq_some_iff.mp H
                          obtain ⟨t171, A160, H⟩ := H
                          replace H : (if t171 > 0 then (merkhetref09_Hosts.l1 k2 l0 x3_1 x4_1 ji11) else ((some (([] : List ByteArray) : List ByteArray)).bind fun y172 => (if 0 ≤ x5_2 then (if x5_2 ≤ (x3_1.length : Int) then ((some (x3_1.drop (x5_2 : Int).toNat : List ByteArray)).bind fun y175 => (if y172.length + y175.length < 8796093022208 then ((some (y172 ++ y175 : List ByteArray)).bind fun y179 => ((some (x3_1.take (x5_2 : Int).toNat : List ByteArray)).bind fun y182 => (if y182.length < 8796093022208 then ((some (y182 ++ [(rd_T42 l0 x4_1).f4] : List ByteArray)).bind fun y186 => (if y186.length + y179.length < 8796093022208 then (merkhetref09_Hosts.l0 k2 l0 (y186 ++ y179) (wrap64 (x4_1 + 1))) else (none))) else (none)))) else (none))) else (none)) else (none)))) = some r := H
                          have A16 := Aside0.mk A160
                          clear A160
                          by_cases c17 : t171 > 0
                          · rw [if_pos c17] at H
                            have c17b0 : decide (0 < t171) = true := decide_eq_true c17
                            clear c17
                            have H' := Aside0.mk H
                            clear H
                            try go_wp2
                            have n0_ := Aside0.mk (Kd.R_drew HO_3.out)
                            have n1_ := Aside0.mk (below_drew1 HB.out)
                            clear HO_3
                            clear HB
                            have HO_3 := n0_
                            have HB := n1_
                            clear n0_ n1_
                            have p169 : 0 ≤ ((ji11) : Int) := of_decide_eq_true (by first | (with_reducible assumption) | assumption)
                            have q169 : (ji11) < (x3_1.length : Int) := of_decide_eq_true (by first | (with_reducible assumption) | assumption)
                            obtain ⟨ad169, e169, hx169_0⟩ := Kd.at_string (Kd.R_reads' HO_3.out).2.2 (ji11) p169 q169
                            cases e169
                            replace p169 := eq_true p169
                            replace q169 := eq_true q169
                            have p170 : 0 ≤ (x4_1 : Int) := of_decide_eq_true (by first | (with_reducible assumption) | assumption)
                            have q170 : x4_1 < (l0.length : Int) := of_decide_eq_true (by first | (with_reducible assumption) | assumption)
                            obtain ⟨ad170, e170, hx170_0, hx170_1, hx170_2, hx170_3, hx170_4, hx170_5, hx170_6, hx170_7⟩ := at_T42 HR0.out x4_1 p170 q170
                            have hw170_7 := hx170_7
                            have hw170_6 := hx170_6
                            have hw170_5 := hx170_5
                            have hw170_4 := hx170_4
                            have hw170_3 := hx170_3
                            have hw170_2 := hx170_2
                            have hw170_1 := hx170_1
                            have hw170_0 := hx170_0
                            obtain rfl : ad167 = ad170 := (by injection e170)
                            replace hx170_0 := (HB.out.cell (World.block_lt_of_cell? w _ hx170_0)).trans hx170_0
                            replace hx170_1 := (HB.out.cell (World.block_lt_of_cell? w _ hx170_1)).trans hx170_1
                            replace hx170_2 := (HB.out.cell (World.block_lt_of_cell? w _ hx170_2)).trans hx170_2
                            replace hx170_3 := (HB.out.cell (World.block_lt_of_cell? w _ hx170_3)).trans hx170_3
                            replace hx170_4 := (HB.out.cell (World.block_lt_of_cell? w _ hx170_4)).trans hx170_4
                            replace hx170_5 := (HB.out.cell (World.block_lt_of_cell? w _ hx170_5)).trans hx170_5
                            replace hx170_6 := (HB.out.cell (World.block_lt_of_cell? w _ hx170_6)).trans hx170_6
                            replace hx170_7 := (HB.out.cell (World.block_lt_of_cell? w _ hx170_7)).trans hx170_7
                            replace p170 := eq_true p170
                            replace q170 := eq_true q170
                            refine start_ (n := 16) (S := fun w' => w'.cell? (ad169.add ((ji11)).toNat) = some (.string (rdOf ByteArray.empty x3_1 (ji11))) ∧ w'.cell? (ad167.add ((x4_1).toNat * 8)) = some (.int .u64 ((rd_T42 l0 x4_1).f0)) ∧ w'.cell? ⟨(ad167.add ((x4_1).toNat * 8)).block, (ad167.add ((x4_1).toNat * 8)).off + 1, none⟩ = some (.int .u64 ((rd_T42 l0 x4_1).f1)) ∧ w'.cell? ⟨(ad167.add ((x4_1).toNat * 8)).block, (ad167.add ((x4_1).toNat * 8)).off + 2, none⟩ = some (.int .u64 ((rd_T42 l0 x4_1).f2)) ∧ w'.cell? ⟨(ad167.add ((x4_1).toNat * 8)).block, (ad167.add ((x4_1).toNat * 8)).off + 3, none⟩ = some (.int .u8 ((rd_T42 l0 x4_1).f3)) ∧ w'.cell? ⟨(ad167.add ((x4_1).toNat * 8)).block, (ad167.add ((x4_1).toNat * 8)).off + 4, none⟩ = some (.string ((rd_T42 l0 x4_1).f4)) ∧ w'.cell? ⟨(ad167.add ((x4_1).toNat * 8)).block, (ad167.add ((x4_1).toNat * 8)).off + 5, none⟩ = some (.string ((rd_T42 l0 x4_1).f5)) ∧ w'.cell? ⟨(ad167.add ((x4_1).toNat * 8)).block, (ad167.add ((x4_1).toNat * 8)).off + 6, none⟩ = some (.int .i64 ((rd_T42 l0 x4_1).f6)) ∧ w'.cell? ⟨(ad167.add ((x4_1).toNat * 8)).block, (ad167.add ((x4_1).toNat * 8)).off + 7, none⟩ = some (.int .i64 ((rd_T42 l0 x4_1).f7))) (ds := []) #[false, false, false, false, false, false, false, false, false, false, false, false, false, false, false, false] (by kernel_rfl) rfl rfl ⟨hx169_0, ((HB.out.cell (World.block_lt_of_cell? w _ hw170_0)).trans hw170_0), ((HB.out.cell (World.block_lt_of_cell? w _ hw170_1)).trans hw170_1), ((HB.out.cell (World.block_lt_of_cell? w _ hw170_2)).trans hw170_2), ((HB.out.cell (World.block_lt_of_cell? w _ hw170_3)).trans hw170_3), ((HB.out.cell (World.block_lt_of_cell? w _ hw170_4)).trans hw170_4), ((HB.out.cell (World.block_lt_of_cell? w _ hw170_5)).trans hw170_5), ((HB.out.cell (World.block_lt_of_cell? w _ hw170_6)).trans hw170_6), ((HB.out.cell (World.block_lt_of_cell? w _ hw170_7)).trans hw170_7)⟩ (fun hHeld => ?_); refine with_tabW merkhetref09_Hosts.tab7 merkhetref09_Hosts.bits7 (fun HT_ HW_ => ?_)
                            generalize wr.drew = w18 at HO_3 HB hx169_0 hx170_0 hx170_1 hx170_2 hx170_3 hx170_4 hx170_5 hx170_6 hx170_7 hHeld ⊢
                            refine pure_ (i := 0) (N := some 24) (v := ?_) (a' := ?_) #[true, false, false, false, false, false, false, false, false, false, false, false, false, false, false, false] rfl rfl (any_of HT_.out (by kernel_rfl)) (fun _ _ _ h => h) (Or.inl ⟨by rfl, ?_⟩) ?_ ?_
                            rotate_left
                            · intro w'
                              go_simp
                              with_reducible rfl
                            rotate_left
                            · simp only [Act.put, List.setIfInBounds_toArray, List.set_cons_zero, List.set_cons_succ, i64_w, i32_w]
                              rfl
                            refine pure_ (i := 1) (N := some 25) (v := ?_) (a' := ?_) #[true, true, false, false, false, false, false, false, false, false, false, false, false, false, false, false] rfl rfl (any_of HT_.out (by kernel_rfl)) (fun _ _ _ h => h) (Or.inl ⟨by rfl, ?_⟩) ?_ ?_
                            rotate_left
                            · intro w'
                              go_simp
                              with_reducible rfl
                            rotate_left
                            · simp only [Act.put, List.setIfInBounds_toArray, List.set_cons_zero, List.set_cons_succ, i64_w, i32_w]
                              rfl
                            refine pure_ (i := 2) (N := some 26) (v := ?_) (a' := ?_) #[true, true, true, false, false, false, false, false, false, false, false, false, false, false, false, false] rfl rfl (any_of HT_.out (by kernel_rfl)) (fun _ _ _ h => h) (Or.inl ⟨by rfl, ?_⟩) ?_ ?_
                            rotate_left
                            · intro w'
                              go_simp
                              with_reducible rfl
                            rotate_left
                            · simp only [Act.put, List.setIfInBounds_toArray, List.set_cons_zero, List.set_cons_succ, i64_w, i32_w]
                              rfl
                            refine pure_ (i := 3) (N := some 27) (v := ?_) (a' := ?_) #[true, true, true, true, false, false, false, false, false, false, false, false, false, false, false, false] rfl rfl (any_of HT_.out (by kernel_rfl)) (fun _ _ _ h => h) (Or.inl ⟨by rfl, ?_⟩) ?_ ?_
                            rotate_left
                            · intro w'
                              go_simp
                              with_reducible rfl
                            rotate_left
                            · simp only [Act.put, List.setIfInBounds_toArray, List.set_cons_zero, List.set_cons_succ, i64_w, i32_w]
                              rfl
                            refine pure_ (i := 4) (N := some 28) (v := ?_) (a' := ?_) #[true, true, true, true, true, false, false, false, false, false, false, false, false, false, false, false] rfl rfl (any_of HT_.out (by kernel_rfl)) (fun _ _ _ h => h) (Or.inl ⟨by rfl, ?_⟩) ?_ ?_
                            rotate_left
                            · intro w'
                              go_simp
                              with_reducible rfl
                            rotate_left
                            · simp only [Act.put, List.setIfInBounds_toArray, List.set_cons_zero, List.set_cons_succ, i64_w, i32_w]
                              rfl
                            refine pure_ (i := 5) (N := some 29) (v := ?_) (a' := ?_) #[true, true, true, true, true, true, false, false, false, false, false, false, false, false, false, false] rfl rfl (any_of HT_.out (by kernel_rfl)) (fun _ _ _ h => h) (Or.inl ⟨by rfl, ?_⟩) ?_ ?_
                            rotate_left
                            · intro w'
                              go_simp
                              with_reducible rfl
                            rotate_left
                            · simp only [Act.put, List.setIfInBounds_toArray, List.set_cons_zero, List.set_cons_succ, i64_w, i32_w]
                              rfl
                            refine pure_ (i := 6) (N := some 30) (v := ?_) (a' := ?_) #[true, true, true, true, true, true, true, false, false, false, false, false, false, false, false, false] rfl rfl (any_of HT_.out (by kernel_rfl)) (fun _ _ _ h => h) (Or.inl ⟨by rfl, ?_⟩) ?_ ?_
                            rotate_left
                            · intro w'
                              go_simp
                              with_reducible rfl
                            rotate_left
                            · simp only [Act.put, List.setIfInBounds_toArray, List.set_cons_zero, List.set_cons_succ, i64_w, i32_w]
                              rfl
                            refine pure_ (i := 8) (N := some 32) (v := ?_) (a' := ?_) #[true, true, true, true, true, true, true, false, true, false, false, false, false, false, false, false] rfl rfl (any_of HT_.out (by kernel_rfl)) (fun _ _ _ h => h) (Or.inl ⟨by rfl, ?_⟩) ?_ ?_
                            rotate_left
                            · intro w'
                              go_simp
                              with_reducible rfl
                            rotate_left
                            · simp only [Act.put, List.setIfInBounds_toArray, List.set_cons_zero, List.set_cons_succ, i64_w, i32_w]
                              rfl
                            refine pure_ (i := 9) (N := some 33) (v := ?_) (a' := ?_) #[true, true, true, true, true, true, true, false, true, true, false, false, false, false, false, false] rfl rfl (any_of HT_.out (by kernel_rfl)) (fun _ _ _ h => h) (Or.inl ⟨by rfl, ?_⟩) ?_ ?_
                            rotate_left
                            · intro w'
                              go_simp
                              with_reducible rfl
                            rotate_left
                            · simp only [Act.put, List.setIfInBounds_toArray, List.set_cons_zero, List.set_cons_succ, i64_w, i32_w]
                              rfl
                            refine pure_ (i := 10) (N := some 34) (v := ?_) (a' := ?_) #[true, true, true, true, true, true, true, false, true, true, true, false, false, false, false, false] rfl rfl (any_of HT_.out (by kernel_rfl)) (fun _ _ _ h => h) (Or.inl ⟨by rfl, ?_⟩) ?_ ?_
                            rotate_left
                            · intro w'
                              go_simp
                              with_reducible rfl
                            rotate_left
                            · simp only [Act.put, List.setIfInBounds_toArray, List.set_cons_zero, List.set_cons_succ, i64_w, i32_w]
                              rfl
                            refine pure_ (i := 11) (N := some 35) (v := ?_) (a' := ?_) #[true, true, true, true, true, true, true, false, true, true, true, true, false, false, false, false] rfl rfl (any_of HT_.out (by kernel_rfl)) (fun _ _ _ h => h) (Or.inl ⟨by rfl, ?_⟩) ?_ ?_
                            rotate_left
                            · intro w'
                              go_simp
                              with_reducible rfl
                            rotate_left
                            · simp only [Act.put, List.setIfInBounds_toArray, List.set_cons_zero, List.set_cons_succ, i64_w, i32_w]
                              rfl
                            refine take_ (i := 7) (N := some 31) (v := ?_) (a' := ?_) #[true, true, true, true, true, true, true, true, true, true, true, true, false, false, false, false] rfl rfl (take_ofW HT_.out HW_.out (by kernel_rfl)) (fun _ _ _ h => h) (Or.inl ⟨by rfl, ?_⟩) hHeld ?_ ?_
                            rotate_left
                            · rintro w' ⟨s0, s1, s2, s3, s4, s5, s6, s7, s8⟩
                              go_simp
                              with_reducible rfl
                            rotate_left
                            · simp only [Act.put, List.setIfInBounds_toArray, List.set_cons_zero, List.set_cons_succ, i64_w, i32_w]
                              rfl
                            refine take_ (i := 12) (N := some 36) (v := ?_) (a' := ?_) #[true, true, true, true, true, true, true, true, true, true, true, true, true, false, false, false] rfl rfl (take_ofW HT_.out HW_.out (by kernel_rfl)) (fun _ _ _ h => h) (Or.inl ⟨by rfl, ?_⟩) hHeld ?_ ?_
                            rotate_left
                            · rintro w' ⟨s0, s1, s2, s3, s4, s5, s6, s7, s8⟩
                              go_simp
                              with_reducible rfl
                            rotate_left
                            · simp only [Act.put, List.setIfInBounds_toArray, List.set_cons_zero, List.set_cons_succ, i64_w, i32_w]
                              rfl
                            refine one_ (i := 13) (N := some 37) #[true, true, true, true, true, true, true, true, true, true, true, true, true, true, false, false] rfl rfl (one_of HT_.out (by kernel_rfl)) (by decide) (fun K hK => ?_)
                            refine goes_ Try.func60 (by kernel_rfl) rfl #[.string (rdOf ByteArray.empty x3_1 (ji11)), .string ((rd_T42 l0 x4_1).f4)] (by rfl) rfl rfl (by (try simp only [List.map_toArray, List.map_cons, List.map_nil]); first | done | (simp only [hji11]; rfl) | rfl | (simp only [List.length_drop, List.length_take]; rfl)) ?_
                            with_reducible refine (merkhetref01_Text.calls k2 (rdOf ByteArray.empty x3_1 (ji11)) ((rd_T42 l0 x4_1).f4) t171 _ A16.out).mono ?_
                            rintro e w' ⟨rfl, ⟨nd, rfl⟩⟩
                            refine ⟨_, rfl, ?_⟩
                            refine hK.out _ _ ⟨hHeld.1, ((HB.out.cell (World.block_lt_of_cell? w _ hw170_0)).trans hw170_0), ((HB.out.cell (World.block_lt_of_cell? w _ hw170_1)).trans hw170_1), ((HB.out.cell (World.block_lt_of_cell? w _ hw170_2)).trans hw170_2), ((HB.out.cell (World.block_lt_of_cell? w _ hw170_3)).trans hw170_3), ((HB.out.cell (World.block_lt_of_cell? w _ hw170_4)).trans hw170_4), ((HB.out.cell (World.block_lt_of_cell? w _ hw170_5)).trans hw170_5), ((HB.out.cell (World.block_lt_of_cell? w _ hw170_6)).trans hw170_6), ((HB.out.cell (World.block_lt_of_cell? w _ hw170_7)).trans hw170_7)⟩ (fun hHeld => ?_)
                            clear hK K
                            refine norm_ (a' := ?_) ?_ ?_
                            rotate_left
                            · show Act.put _ (some 37) _ = _
                              simp only [Act.put, List.setIfInBounds_toArray, List.set_cons_zero, List.set_cons_succ, i64_w, i32_w]
                              rfl
                            refine pure_ (i := 14) (N := some 38) (v := ?_) (a' := ?_) #[true, true, true, true, true, true, true, true, true, true, true, true, true, true, true, false] rfl rfl (any_of HT_.out (by kernel_rfl)) (fun _ _ _ h => h) (Or.inl ⟨by rfl, ?_⟩) ?_ ?_
                            rotate_left
                            · intro w'
                              go_simp
                              with_reducible rfl
                            rotate_left
                            · simp only [Act.put, List.setIfInBounds_toArray, List.set_cons_zero, List.set_cons_succ, i64_w, i32_w]
                              rfl
                            refine pure_ (i := 15) (N := some 39) (v := ?_) (a' := ?_) #[true, true, true, true, true, true, true, true, true, true, true, true, true, true, true, true] rfl rfl (any_of HT_.out (by kernel_rfl)) (fun _ _ _ h => h) (Or.inl ⟨by rfl, ?_⟩) ?_ ?_
                            rotate_left
                            · intro w'
                              go_simp
                              with_reducible rfl
                            rotate_left
                            · simp only [Act.put, List.setIfInBounds_toArray, List.set_cons_zero, List.set_cons_succ, i64_w, i32_w]
                              rfl
                            refine done_ (done_of HT_.out (by kernel_rfl)) ?_
                            try go_wp2
                            go_roundg k2
                            case measure => have := HK1.out; have := HK2.out; omega
                            case rel => exact ⟨(ji11), (by first | rfl | (simp; done) | (simp only [← hji11] <;> (first | rfl | simp)) | (simp [*]; done)), H', ⟨by have := HK1.out; have := HK2.out; omega⟩, ⟨by (with_reducible repeat (first | apply Kd.R_alloc | apply Kd.R_drewN | apply Kd.R_drew)); exact HO_3.out⟩, ⟨by repeat (first | (with_reducible first | exact HB.out | apply below_alloc | apply pw_below_drewN | apply below_drew1) | exact HB.out)⟩⟩
                          · rw [if_neg c17] at H
                            have c17b0 : decide (0 < t171) = false := decide_eq_false c17
                            clear c17
                            obtain ⟨y172, hy172⟩ : ∃ y_ : List ByteArray, y_ = (([] : List ByteArray)) := ⟨_, rfl⟩
                            replace H : (if 0 ≤ x5_2 then (if x5_2 ≤ (x3_1.length : Int) then ((some (x3_1.drop (x5_2 : Int).toNat : List ByteArray)).bind fun y175 => (if y172.length + y175.length < 8796093022208 then ((some (y172 ++ y175 : List ByteArray)).bind fun y179 => ((some (x3_1.take (x5_2 : Int).toNat : List ByteArray)).bind fun y182 => (if y182.length < 8796093022208 then ((some (y182 ++ [(rd_T42 l0 x4_1).f4] : List ByteArray)).bind fun y186 => (if y186.length + y179.length < 8796093022208 then (merkhetref09_Hosts.l0 k2 l0 (y186 ++ y179) (wrap64 (x4_1 + 1))) else (none))) else (none)))) else (none))) else (none)) else (none)) = some r := by first | (rw [hy172]; with_reducible exact H) | (have H2_ := (Option.bind_some _ _).symm.trans H; rw [hy172]; with_reducible exact H2_) | (have H2_ := (Option.bind_some _ _).symm.trans H; with_reducible exact H2_) | with_reducible exact H | (rw [hy172]; exact H) | exact H
                            have Ny172 := Aside0.mk hy172
                            clear hy172
                            by_cases c19 : 0 ≤ x5_2
                            · rw [if_pos c19] at H
                              have c19b0 := eq_true c19
                              have c19b1 : decide (0 ≤ x5_2) = true := decide_eq_true c19
                              clear c19
                              by_cases c20 : x5_2 ≤ (x3_1.length : Int)
                              · rw [if_pos c20] at H
                                have c20b0 := eq_true c20
                                have c20b1 : decide (x5_2 ≤ (x3_1.length : Int)) = true := decide_eq_true c20
                                clear c20
                                obtain ⟨y175, hy175⟩ : ∃ y_ : List ByteArray, y_ = (x3_1.drop (x5_2 : Int).toNat) := ⟨_, rfl⟩
                                replace H : (if y172.length + y175.length < 8796093022208 then ((some (y172 ++ y175 : List ByteArray)).bind fun y179 => ((some (x3_1.take (x5_2 : Int).toNat : List ByteArray)).bind fun y182 => (if y182.length < 8796093022208 then ((some (y182 ++ [(rd_T42 l0 x4_1).f4] : List ByteArray)).bind fun y186 => (if y186.length + y179.length < 8796093022208 then (merkhetref09_Hosts.l0 k2 l0 (y186 ++ y179) (wrap64 (x4_1 + 1))) else (none))) else (none)))) else (none)) = some r := by first | (rw [hy175]; with_reducible exact H) | (have H2_ := (Option.bind_some _ _).symm.trans H; rw [hy175]; with_reducible exact H2_) | (have H2_ := (Option.bind_some _ _).symm.trans H; with_reducible exact H2_) | with_reducible exact H | (rw [hy175]; exact H) | exact H
                                have Ny175 := Aside0.mk hy175
                                clear hy175
                                by_cases c21 : y172.length + y175.length < 8796093022208
                                · rw [if_pos c21] at H
                                  have LMc21 := Aside0.mk c21
                                  clear c21
                                  obtain ⟨y179, hy179⟩ : ∃ y_ : List ByteArray, y_ = (y172 ++ y175) := ⟨_, rfl⟩
                                  replace H : ((some (x3_1.take (x5_2 : Int).toNat : List ByteArray)).bind fun y182 => (if y182.length < 8796093022208 then ((some (y182 ++ [(rd_T42 l0 x4_1).f4] : List ByteArray)).bind fun y186 => (if y186.length + y179.length < 8796093022208 then (merkhetref09_Hosts.l0 k2 l0 (y186 ++ y179) (wrap64 (x4_1 + 1))) else (none))) else (none))) = some r := by first | (rw [hy179]; with_reducible exact H) | (have H2_ := (Option.bind_some _ _).symm.trans H; rw [hy179]; with_reducible exact H2_) | (have H2_ := (Option.bind_some _ _).symm.trans H; with_reducible exact H2_) | with_reducible exact H | (rw [hy179]; exact H) | exact H
                                  have Ny179 := Aside0.mk hy179
                                  clear hy179
                                  have c22b0 := eq_true (of_decide_eq_true (by first | (with_reducible assumption) | assumption) : x5_2 ≤ (x3_1.length : Int))
                                  obtain ⟨y182, hy182⟩ : ∃ y_ : List ByteArray, y_ = (x3_1.take (x5_2 : Int).toNat) := ⟨_, rfl⟩
                                  replace H : (if y182.length < 8796093022208 then ((some (y182 ++ [(rd_T42 l0 x4_1).f4] : List ByteArray)).bind fun y186 => (if y186.length + y179.length < 8796093022208 then (merkhetref09_Hosts.l0 k2 l0 (y186 ++ y179) (wrap64 (x4_1 + 1))) else (none))) else (none)) = some r := by first | (rw [hy182]; with_reducible exact H) | (have H2_ := (Option.bind_some _ _).symm.trans H; rw [hy182]; with_reducible exact H2_) | (have H2_ := (Option.bind_some _ _).symm.trans H; with_reducible exact H2_) | with_reducible exact H | (rw [hy182]; exact H) | exact H
                                  have Ny182 := Aside0.mk hy182
                                  clear hy182
                                  by_cases c23 : y182.length < 8796093022208
                                  · rw [if_pos c23] at H
                                    have LMc23 := Aside0.mk c23
                                    clear c23
                                    obtain ⟨y186, hy186⟩ : ∃ y_ : List ByteArray, y_ = (y182 ++ [(rd_T42 l0 x4_1).f4]) := ⟨_, rfl⟩
                                    replace H : (if y186.length + y179.length < 8796093022208 then (merkhetref09_Hosts.l0 k2 l0 (y186 ++ y179) (wrap64 (x4_1 + 1))) else (none)) = some r := by first | (rw [hy186]; with_reducible exact H) | (have H2_ := (Option.bind_some _ _).symm.trans H; rw [hy186]; with_reducible exact H2_) | (have H2_ := (Option.bind_some _ _).symm.trans H; with_reducible exact H2_) | with_reducible exact H | (rw [hy186]; exact H) | exact H
                                    have Ny186 := Aside0.mk hy186
                                    clear hy186
                                    by_cases c24 : y186.length + y179.length < 8796093022208
                                    · rw [if_pos c24] at H
                                      have LMc24 := Aside0.mk c24
                                      clear c24
                                      obtain ⟨y189, hy189⟩ : ∃ y_ : List ByteArray, y_ = (y186 ++ y179) := ⟨_, rfl⟩
                                      replace H : (merkhetref09_Hosts.l0 k2 l0 y189 (wrap64 (x4_1 + 1))) = some r := by first | (rw [hy189]; with_reducible exact H) | (have H2_ := (Option.bind_some _ _).symm.trans H; rw [hy189]; with_reducible exact H2_) | (have H2_ := (Option.bind_some _ _).symm.trans H; with_reducible exact H2_) | with_reducible exact H | (rw [hy189]; exact H) | exact H
                                      have Ny189 := Aside0.mk hy189
                                      clear hy189
                                      have H' := Aside0.mk H
                                      clear H
                                      try go_wp2
                                      have n0_ := Aside0.mk (Kd.R_drew HO_3.out)
                                      have n1_ := Aside0.mk (below_drew1 HB.out)
                                      clear HO_3
                                      clear HB
                                      have HO_3 := n0_
                                      have HB := n1_
                                      clear n0_ n1_
                                      have p169 : 0 ≤ ((ji11) : Int) := of_decide_eq_true (by first | (with_reducible assumption) | assumption)
                                      have q169 : (ji11) < (x3_1.length : Int) := of_decide_eq_true (by first | (with_reducible assumption) | assumption)
                                      obtain ⟨ad169, e169, hx169_0⟩ := Kd.at_string (Kd.R_reads' HO_3.out).2.2 (ji11) p169 q169
                                      cases e169
                                      replace p169 := eq_true p169
                                      replace q169 := eq_true q169
                                      have p170 : 0 ≤ (x4_1 : Int) := of_decide_eq_true (by first | (with_reducible assumption) | assumption)
                                      have q170 : x4_1 < (l0.length : Int) := of_decide_eq_true (by first | (with_reducible assumption) | assumption)
                                      obtain ⟨ad170, e170, hx170_0, hx170_1, hx170_2, hx170_3, hx170_4, hx170_5, hx170_6, hx170_7⟩ := at_T42 HR0.out x4_1 p170 q170
                                      have hw170_7 := hx170_7
                                      have hw170_6 := hx170_6
                                      have hw170_5 := hx170_5
                                      have hw170_4 := hx170_4
                                      have hw170_3 := hx170_3
                                      have hw170_2 := hx170_2
                                      have hw170_1 := hx170_1
                                      have hw170_0 := hx170_0
                                      obtain rfl : ad167 = ad170 := (by injection e170)
                                      replace hx170_0 := (HB.out.cell (World.block_lt_of_cell? w _ hx170_0)).trans hx170_0
                                      replace hx170_1 := (HB.out.cell (World.block_lt_of_cell? w _ hx170_1)).trans hx170_1
                                      replace hx170_2 := (HB.out.cell (World.block_lt_of_cell? w _ hx170_2)).trans hx170_2
                                      replace hx170_3 := (HB.out.cell (World.block_lt_of_cell? w _ hx170_3)).trans hx170_3
                                      replace hx170_4 := (HB.out.cell (World.block_lt_of_cell? w _ hx170_4)).trans hx170_4
                                      replace hx170_5 := (HB.out.cell (World.block_lt_of_cell? w _ hx170_5)).trans hx170_5
                                      replace hx170_6 := (HB.out.cell (World.block_lt_of_cell? w _ hx170_6)).trans hx170_6
                                      replace hx170_7 := (HB.out.cell (World.block_lt_of_cell? w _ hx170_7)).trans hx170_7
                                      replace p170 := eq_true p170
                                      replace q170 := eq_true q170
                                      refine start_ (n := 16) (S := fun w' => w'.cell? (ad169.add ((ji11)).toNat) = some (.string (rdOf ByteArray.empty x3_1 (ji11))) ∧ w'.cell? (ad167.add ((x4_1).toNat * 8)) = some (.int .u64 ((rd_T42 l0 x4_1).f0)) ∧ w'.cell? ⟨(ad167.add ((x4_1).toNat * 8)).block, (ad167.add ((x4_1).toNat * 8)).off + 1, none⟩ = some (.int .u64 ((rd_T42 l0 x4_1).f1)) ∧ w'.cell? ⟨(ad167.add ((x4_1).toNat * 8)).block, (ad167.add ((x4_1).toNat * 8)).off + 2, none⟩ = some (.int .u64 ((rd_T42 l0 x4_1).f2)) ∧ w'.cell? ⟨(ad167.add ((x4_1).toNat * 8)).block, (ad167.add ((x4_1).toNat * 8)).off + 3, none⟩ = some (.int .u8 ((rd_T42 l0 x4_1).f3)) ∧ w'.cell? ⟨(ad167.add ((x4_1).toNat * 8)).block, (ad167.add ((x4_1).toNat * 8)).off + 4, none⟩ = some (.string ((rd_T42 l0 x4_1).f4)) ∧ w'.cell? ⟨(ad167.add ((x4_1).toNat * 8)).block, (ad167.add ((x4_1).toNat * 8)).off + 5, none⟩ = some (.string ((rd_T42 l0 x4_1).f5)) ∧ w'.cell? ⟨(ad167.add ((x4_1).toNat * 8)).block, (ad167.add ((x4_1).toNat * 8)).off + 6, none⟩ = some (.int .i64 ((rd_T42 l0 x4_1).f6)) ∧ w'.cell? ⟨(ad167.add ((x4_1).toNat * 8)).block, (ad167.add ((x4_1).toNat * 8)).off + 7, none⟩ = some (.int .i64 ((rd_T42 l0 x4_1).f7))) (ds := []) #[false, false, false, false, false, false, false, false, false, false, false, false, false, false, false, false] (by kernel_rfl) rfl rfl ⟨hx169_0, ((HB.out.cell (World.block_lt_of_cell? w _ hw170_0)).trans hw170_0), ((HB.out.cell (World.block_lt_of_cell? w _ hw170_1)).trans hw170_1), ((HB.out.cell (World.block_lt_of_cell? w _ hw170_2)).trans hw170_2), ((HB.out.cell (World.block_lt_of_cell? w _ hw170_3)).trans hw170_3), ((HB.out.cell (World.block_lt_of_cell? w _ hw170_4)).trans hw170_4), ((HB.out.cell (World.block_lt_of_cell? w _ hw170_5)).trans hw170_5), ((HB.out.cell (World.block_lt_of_cell? w _ hw170_6)).trans hw170_6), ((HB.out.cell (World.block_lt_of_cell? w _ hw170_7)).trans hw170_7)⟩ (fun hHeld => ?_); refine with_tabW merkhetref09_Hosts.tab7 merkhetref09_Hosts.bits7 (fun HT_ HW_ => ?_)
                                      generalize wr.drew = w25 at HO_3 HB hx169_0 hx170_0 hx170_1 hx170_2 hx170_3 hx170_4 hx170_5 hx170_6 hx170_7 hHeld ⊢
                                      refine pure_ (i := 0) (N := some 24) (v := ?_) (a' := ?_) #[true, false, false, false, false, false, false, false, false, false, false, false, false, false, false, false] rfl rfl (any_of HT_.out (by kernel_rfl)) (fun _ _ _ h => h) (Or.inl ⟨by rfl, ?_⟩) ?_ ?_
                                      rotate_left
                                      · intro w'
                                        go_simp
                                        with_reducible rfl
                                      rotate_left
                                      · simp only [Act.put, List.setIfInBounds_toArray, List.set_cons_zero, List.set_cons_succ, i64_w, i32_w]
                                        rfl
                                      refine pure_ (i := 1) (N := some 25) (v := ?_) (a' := ?_) #[true, true, false, false, false, false, false, false, false, false, false, false, false, false, false, false] rfl rfl (any_of HT_.out (by kernel_rfl)) (fun _ _ _ h => h) (Or.inl ⟨by rfl, ?_⟩) ?_ ?_
                                      rotate_left
                                      · intro w'
                                        go_simp
                                        with_reducible rfl
                                      rotate_left
                                      · simp only [Act.put, List.setIfInBounds_toArray, List.set_cons_zero, List.set_cons_succ, i64_w, i32_w]
                                        rfl
                                      refine pure_ (i := 2) (N := some 26) (v := ?_) (a' := ?_) #[true, true, true, false, false, false, false, false, false, false, false, false, false, false, false, false] rfl rfl (any_of HT_.out (by kernel_rfl)) (fun _ _ _ h => h) (Or.inl ⟨by rfl, ?_⟩) ?_ ?_
                                      rotate_left
                                      · intro w'
                                        go_simp
                                        with_reducible rfl
                                      rotate_left
                                      · simp only [Act.put, List.setIfInBounds_toArray, List.set_cons_zero, List.set_cons_succ, i64_w, i32_w]
                                        rfl
                                      refine pure_ (i := 3) (N := some 27) (v := ?_) (a' := ?_) #[true, true, true, true, false, false, false, false, false, false, false, false, false, false, false, false] rfl rfl (any_of HT_.out (by kernel_rfl)) (fun _ _ _ h => h) (Or.inl ⟨by rfl, ?_⟩) ?_ ?_
                                      rotate_left
                                      · intro w'
                                        go_simp
                                        with_reducible rfl
                                      rotate_left
                                      · simp only [Act.put, List.setIfInBounds_toArray, List.set_cons_zero, List.set_cons_succ, i64_w, i32_w]
                                        rfl
                                      refine pure_ (i := 4) (N := some 28) (v := ?_) (a' := ?_) #[true, true, true, true, true, false, false, false, false, false, false, false, false, false, false, false] rfl rfl (any_of HT_.out (by kernel_rfl)) (fun _ _ _ h => h) (Or.inl ⟨by rfl, ?_⟩) ?_ ?_
                                      rotate_left
                                      · intro w'
                                        go_simp
                                        with_reducible rfl
                                      rotate_left
                                      · simp only [Act.put, List.setIfInBounds_toArray, List.set_cons_zero, List.set_cons_succ, i64_w, i32_w]
                                        rfl
                                      refine pure_ (i := 5) (N := some 29) (v := ?_) (a' := ?_) #[true, true, true, true, true, true, false, false, false, false, false, false, false, false, false, false] rfl rfl (any_of HT_.out (by kernel_rfl)) (fun _ _ _ h => h) (Or.inl ⟨by rfl, ?_⟩) ?_ ?_
                                      rotate_left
                                      · intro w'
                                        go_simp
                                        with_reducible rfl
                                      rotate_left
                                      · simp only [Act.put, List.setIfInBounds_toArray, List.set_cons_zero, List.set_cons_succ, i64_w, i32_w]
                                        rfl
                                      refine pure_ (i := 6) (N := some 30) (v := ?_) (a' := ?_) #[true, true, true, true, true, true, true, false, false, false, false, false, false, false, false, false] rfl rfl (any_of HT_.out (by kernel_rfl)) (fun _ _ _ h => h) (Or.inl ⟨by rfl, ?_⟩) ?_ ?_
                                      rotate_left
                                      · intro w'
                                        go_simp
                                        with_reducible rfl
                                      rotate_left
                                      · simp only [Act.put, List.setIfInBounds_toArray, List.set_cons_zero, List.set_cons_succ, i64_w, i32_w]
                                        rfl
                                      refine pure_ (i := 8) (N := some 32) (v := ?_) (a' := ?_) #[true, true, true, true, true, true, true, false, true, false, false, false, false, false, false, false] rfl rfl (any_of HT_.out (by kernel_rfl)) (fun _ _ _ h => h) (Or.inl ⟨by rfl, ?_⟩) ?_ ?_
                                      rotate_left
                                      · intro w'
                                        go_simp
                                        with_reducible rfl
                                      rotate_left
                                      · simp only [Act.put, List.setIfInBounds_toArray, List.set_cons_zero, List.set_cons_succ, i64_w, i32_w]
                                        rfl
                                      refine pure_ (i := 9) (N := some 33) (v := ?_) (a' := ?_) #[true, true, true, true, true, true, true, false, true, true, false, false, false, false, false, false] rfl rfl (any_of HT_.out (by kernel_rfl)) (fun _ _ _ h => h) (Or.inl ⟨by rfl, ?_⟩) ?_ ?_
                                      rotate_left
                                      · intro w'
                                        go_simp
                                        with_reducible rfl
                                      rotate_left
                                      · simp only [Act.put, List.setIfInBounds_toArray, List.set_cons_zero, List.set_cons_succ, i64_w, i32_w]
                                        rfl
                                      refine pure_ (i := 10) (N := some 34) (v := ?_) (a' := ?_) #[true, true, true, true, true, true, true, false, true, true, true, false, false, false, false, false] rfl rfl (any_of HT_.out (by kernel_rfl)) (fun _ _ _ h => h) (Or.inl ⟨by rfl, ?_⟩) ?_ ?_
                                      rotate_left
                                      · intro w'
                                        go_simp
                                        with_reducible rfl
                                      rotate_left
                                      · simp only [Act.put, List.setIfInBounds_toArray, List.set_cons_zero, List.set_cons_succ, i64_w, i32_w]
                                        rfl
                                      refine pure_ (i := 11) (N := some 35) (v := ?_) (a' := ?_) #[true, true, true, true, true, true, true, false, true, true, true, true, false, false, false, false] rfl rfl (any_of HT_.out (by kernel_rfl)) (fun _ _ _ h => h) (Or.inl ⟨by rfl, ?_⟩) ?_ ?_
                                      rotate_left
                                      · intro w'
                                        go_simp
                                        with_reducible rfl
                                      rotate_left
                                      · simp only [Act.put, List.setIfInBounds_toArray, List.set_cons_zero, List.set_cons_succ, i64_w, i32_w]
                                        rfl
                                      refine take_ (i := 7) (N := some 31) (v := ?_) (a' := ?_) #[true, true, true, true, true, true, true, true, true, true, true, true, false, false, false, false] rfl rfl (take_ofW HT_.out HW_.out (by kernel_rfl)) (fun _ _ _ h => h) (Or.inl ⟨by rfl, ?_⟩) hHeld ?_ ?_
                                      rotate_left
                                      · rintro w' ⟨s0, s1, s2, s3, s4, s5, s6, s7, s8⟩
                                        go_simp
                                        with_reducible rfl
                                      rotate_left
                                      · simp only [Act.put, List.setIfInBounds_toArray, List.set_cons_zero, List.set_cons_succ, i64_w, i32_w]
                                        rfl
                                      refine take_ (i := 12) (N := some 36) (v := ?_) (a' := ?_) #[true, true, true, true, true, true, true, true, true, true, true, true, true, false, false, false] rfl rfl (take_ofW HT_.out HW_.out (by kernel_rfl)) (fun _ _ _ h => h) (Or.inl ⟨by rfl, ?_⟩) hHeld ?_ ?_
                                      rotate_left
                                      · rintro w' ⟨s0, s1, s2, s3, s4, s5, s6, s7, s8⟩
                                        go_simp
                                        with_reducible rfl
                                      rotate_left
                                      · simp only [Act.put, List.setIfInBounds_toArray, List.set_cons_zero, List.set_cons_succ, i64_w, i32_w]
                                        rfl
                                      refine one_ (i := 13) (N := some 37) #[true, true, true, true, true, true, true, true, true, true, true, true, true, true, false, false] rfl rfl (one_of HT_.out (by kernel_rfl)) (by decide) (fun K hK => ?_)
                                      refine goes_ Try.func60 (by kernel_rfl) rfl #[.string (rdOf ByteArray.empty x3_1 (ji11)), .string ((rd_T42 l0 x4_1).f4)] (by rfl) rfl rfl (by (try simp only [List.map_toArray, List.map_cons, List.map_nil]); first | done | (simp only [hji11]; rfl) | rfl | (simp only [List.length_drop, List.length_take]; rfl)) ?_
                                      with_reducible refine (merkhetref01_Text.calls k2 (rdOf ByteArray.empty x3_1 (ji11)) ((rd_T42 l0 x4_1).f4) t171 _ A16.out).mono ?_
                                      rintro e w' ⟨rfl, ⟨nd, rfl⟩⟩
                                      refine ⟨_, rfl, ?_⟩
                                      refine hK.out _ _ ⟨hHeld.1, ((HB.out.cell (World.block_lt_of_cell? w _ hw170_0)).trans hw170_0), ((HB.out.cell (World.block_lt_of_cell? w _ hw170_1)).trans hw170_1), ((HB.out.cell (World.block_lt_of_cell? w _ hw170_2)).trans hw170_2), ((HB.out.cell (World.block_lt_of_cell? w _ hw170_3)).trans hw170_3), ((HB.out.cell (World.block_lt_of_cell? w _ hw170_4)).trans hw170_4), ((HB.out.cell (World.block_lt_of_cell? w _ hw170_5)).trans hw170_5), ((HB.out.cell (World.block_lt_of_cell? w _ hw170_6)).trans hw170_6), ((HB.out.cell (World.block_lt_of_cell? w _ hw170_7)).trans hw170_7)⟩ (fun hHeld => ?_)
                                      clear hK K
                                      refine norm_ (a' := ?_) ?_ ?_
                                      rotate_left
                                      · show Act.put _ (some 37) _ = _
                                        simp only [Act.put, List.setIfInBounds_toArray, List.set_cons_zero, List.set_cons_succ, i64_w, i32_w]
                                        rfl
                                      refine pure_ (i := 14) (N := some 38) (v := ?_) (a' := ?_) #[true, true, true, true, true, true, true, true, true, true, true, true, true, true, true, false] rfl rfl (any_of HT_.out (by kernel_rfl)) (fun _ _ _ h => h) (Or.inl ⟨by rfl, ?_⟩) ?_ ?_
                                      rotate_left
                                      · intro w'
                                        go_simp
                                        with_reducible rfl
                                      rotate_left
                                      · simp only [Act.put, List.setIfInBounds_toArray, List.set_cons_zero, List.set_cons_succ, i64_w, i32_w]
                                        rfl
                                      refine pure_ (i := 15) (N := some 39) (v := ?_) (a' := ?_) #[true, true, true, true, true, true, true, true, true, true, true, true, true, true, true, true] rfl rfl (any_of HT_.out (by kernel_rfl)) (fun _ _ _ h => h) (Or.inl ⟨by rfl, ?_⟩) ?_ ?_
                                      rotate_left
                                      · intro w'
                                        go_simp
                                        with_reducible rfl
                                      rotate_left
                                      · simp only [Act.put, List.setIfInBounds_toArray, List.set_cons_zero, List.set_cons_succ, i64_w, i32_w]
                                        rfl
                                      refine done_ (done_of HT_.out (by kernel_rfl)) ?_
                                      try go_wp2_with (first | ((with_reducible refine gate_dst (N := 42) rfl ?_); refine Kd.R_lit Kd.string _ 9 ?hg (N := 42) ?hd (xs := ([] : List ByteArray)) (inner := []) (ok := fun _ => True) (okp := fun _ => True) ?hr ?hp (fun _ hk => hk) trivial (Below.refl _ _) (Nat.le_refl _) (by simp) ?_; (case hd => rfl); (case hg => rfl); (case hr => first | (go_simp; done) | (go_simp; rfl)); (case hp => exact (Reps.none _ _)); intro v173 w26 ho27 hb hg_ hnew_; clear hg_ hnew_; (first | rw [← Ny172.out] at ho27 | (simp only [Int.reduceToNat] at ho27; rw [← Ny172.out] at ho27)); have n0_ := Aside0.mk (Kd.R_elder' (by (with_reducible repeat (first | apply Kd.R_alloc | apply Kd.R_drewN | apply Kd.R_drew)); exact HO_3.out) (Kd.R_base ho27) hb); have n1_ := Aside0.mk (Kd.R_lower (Kd.R_new' ho27 (Kd.R_lt (by (with_reducible repeat (first | apply Kd.R_alloc | apply Kd.R_drewN | apply Kd.R_drew)); exact HO_3.out))) (below_size (by repeat (first | (with_reducible first | exact HB.out | apply below_alloc | apply pw_below_drewN | apply below_drew1) | exact HB.out)))); have n2_ := Aside0.mk (below_step (by repeat (first | (with_reducible first | exact HB.out | apply below_alloc | apply pw_below_drewN | apply below_drew1) | exact HB.out)) hb); clear HO_3; clear HB; have HO_3 := n0_; have HO174 := n1_; have HB := n2_; clear n0_ n1_ n2_; clear hb ho27; have q28 : (x5_2 : Int) ≤ ((x3_1.length : Int) : Int) := of_decide_eq_true (by first | (with_reducible assumption) | assumption); obtain ⟨i028, hi028, _, hsz28, _⟩ := info_parts info9; have hroom28 : x3_1.length ≤ co9 := (Kd.R_reads' HO_3.out).2.1; have hC28 : Kd.C Kd.string _ (some ad169) x3_1.length x3_1 := (Kd.R_reads' HO_3.out).2.2; have q028 : (0 : Int) ≤ (x5_2 : Int) := of_decide_eq_true (by first | (with_reducible assumption) | assumption); have hcut28 := cut_from (P := Try.prog) 61 9 .i64 Try.underlying61 hi028 1 hsz28 (some ad169) x3_1.length co9 x5_2 q028 q28; have hr28 := Kd.C_drop (m := (x5_2 : Int).toNat) (c := co9) hC28 (by omega) hroom28; obtain ⟨A28, hA28⟩ : ∃ A1, A1 = (if co9 = (x5_2 : Int).toNat then (some ad169) else ((some ad169) : Option Addr).map (·.add ((x5_2 : Int).toNat * 1))) := ⟨_, rfl⟩; obtain ⟨c28, hc28⟩ : ∃ c1, c1 = co9 - (x5_2 : Int).toNat := ⟨_, rfl⟩; have hy28 : y175.length = x3_1.length - (x5_2 : Int).toNat := (by rw [Ny175.out, List.length_drop] <;> omega); rw [show (x3_1).drop (x5_2 : Int).toNat = y175 from Ny175.out.symm] at hr28; replace hr28 : Kd.C Kd.string _ A28 y175.length y175 := (by rw [hA28]; exact hr28); rw [← hy28, ← hA28, ← hc28] at hcut28; have HR178 := Aside0.mk hr28; have HC178 := Aside0.mk (show y175.length ≤ c28 from by rw [hy28, hc28]; exact Nat.sub_le_sub_right hroom28 _); clear hr28 hC28 hroom28 hi028 hsz28 hc28; have KY28 := Aside0.mk hy28; have KA28 := Aside0.mk hA28; clear hy28 hA28; have KL28 := Aside0.mk (show (x5_2 : Int).toNat ≤ x3_1.length from by omega); replace q28 := eq_true q28) | ((with_reducible refine gate_builtin (b := .append) (xs := #[.tmp 42, .tmp 45]) rfl ?_); at_builtin; refine Kd.R_append_rows Kd.string (w0 := w) w.heap.size rfl (.tmp 42) (.tmp 45) 61 9 (.string ⟨#[]⟩) 16 rfl Try.underlying61 info9 rfl (by decide) (by omega) v173 y172 y175 _ _ _ (fun k_ => some k_ ≠ (.slice (some ad169) x3_1.length co9 : Value).ownBlock) (fun _ => False) rfl rfl ?aO ?aR (fun _ _ h => h) (fun _ h => h.elim) ?aF ?aB ?aS ?aL ?_; (case aR => repeat (first | exact (by repeat (first | (with_reducible exact HR178.out) | (with_reducible refine Kd.C_alloc ?_ _) | (with_reducible refine Kd.C_drewN ?_ _) | (with_reducible refine Kd.C_drew ?_) | exact HR178.out)) | (with_reducible refine Kd.C_alloc ?_ _) | (with_reducible refine Kd.C_drewN ?_ _) | (with_reducible refine Kd.C_drew ?_))); (case aB => exact (by repeat (first | (with_reducible first | exact HB.out | apply below_alloc | apply pw_below_drewN | apply below_drew1) | exact HB.out))); (case aF => exact (fun k_ hk => Kd.fresh' (Kd.R_lt (by (with_reducible repeat (first | apply Kd.R_alloc | apply Kd.R_drewN | apply Kd.R_drew)); exact HO_3.out)) k_ hk)); (case aO => exact (by (with_reducible repeat (first | apply Kd.R_alloc | apply Kd.R_drewN | apply Kd.R_drew)); exact Kd.R_mono HO174.out (fun _ hk => hk.2))); (case aS => exact (below_size (by repeat (first | (with_reducible first | exact HB.out | apply below_alloc | apply pw_below_drewN | apply below_drew1) | exact HB.out)))); (case aL => have := LMc21.out; omega); intro v180 w29 ho hb hg hat; rw [← Ny179.out] at ho; have n0_ := Aside0.mk (Kd.R_after (ok := (fun _ => True)) (by (with_reducible repeat (first | apply Kd.R_alloc | apply Kd.R_drewN | apply Kd.R_drew)); exact HO_3.out) hg hat); have n1_ := Aside0.mk (hb); have n2_ := Aside0.mk ((show Kd.C Kd.string w29 A28 y175.length y175 from by rw [Ny175.out, KA28.out]; exact Kd.C_drop (m := (x5_2 : Int).toNat) (c := co9) ((Kd.R_reads' (Kd.R_after (ok := (fun _ => True)) (by (with_reducible repeat (first | apply Kd.R_alloc | apply Kd.R_drewN | apply Kd.R_drew)); exact HO_3.out) hg hat)).2.2) KL28.out ((Kd.R_reads' (Kd.R_after (ok := (fun _ => True)) (by (with_reducible repeat (first | apply Kd.R_alloc | apply Kd.R_drewN | apply Kd.R_drew)); exact HO_3.out) hg hat)).2.1))); have n3_ := Aside0.mk (ho); clear HO_3; clear HB; clear HR178; clear HO174; have HO_3 := n0_; have HB := n1_; have HR178 := n2_; have HO181 := n3_; clear n0_ n1_ n2_ n3_; clear ho hb hg hat))
                                      have n0_ := Aside0.mk (Kd.R_drew HO_3.out)
                                      have n1_ := Aside0.mk (Kd.R_drew HO181.out)
                                      have n2_ := Aside0.mk (Kd.C_drew HR178.out)
                                      have n3_ := Aside0.mk (below_drew1 HB.out)
                                      clear HO_3
                                      clear HO181
                                      clear HR178
                                      clear HB
                                      have HO_3 := n0_
                                      have HO181 := n1_
                                      have HR178 := n2_
                                      have HB := n3_
                                      clear n0_ n1_ n2_ n3_
                                      have q31 : (x5_2 : Int) ≤ ((x3_1.length : Int) : Int) := of_decide_eq_true (by first | (with_reducible assumption) | assumption)
                                      obtain ⟨i031, hi031, _, hsz31, _⟩ := info_parts info9
                                      have hcut31 := cut_to (P := Try.prog) 61 9 .i64 Try.underlying61 hi031 (some ad169) x3_1.length co9 x5_2 (of_decide_eq_true (by first | (with_reducible assumption) | assumption)) q31 (Kd.R_reads' HO_3.out).2.1
                                      have hr31 := Kd.R_take (m := (x5_2 : Int).toNat) HO_3.out (by omega)
                                      have hy31 : y182.length = (x5_2 : Int).toNat := (by rw [Ny182.out, List.length_take]; omega)
                                      rw [← Ny182.out] at hr31
                                      rw [← hy31] at hr31 hcut31
                                      clear hy31 hi031 hsz31 HO_3
                                      have HO184 := Aside0.mk hr31
                                      clear hr31
                                      replace q31 := eq_true q31
                                      have p185 : 0 ≤ (x4_1 : Int) := of_decide_eq_true (by first | (with_reducible assumption) | assumption)
                                      have q185 : x4_1 < (l0.length : Int) := of_decide_eq_true (by first | (with_reducible assumption) | assumption)
                                      obtain ⟨ad185, e185, hx185_0, hx185_1, hx185_2, hx185_3, hx185_4, hx185_5, hx185_6, hx185_7⟩ := at_T42 HR0.out x4_1 p185 q185
                                      have hw185_7 := hx185_7
                                      have hw185_6 := hx185_6
                                      have hw185_5 := hx185_5
                                      have hw185_4 := hx185_4
                                      have hw185_3 := hx185_3
                                      have hw185_2 := hx185_2
                                      have hw185_1 := hx185_1
                                      have hw185_0 := hx185_0
                                      obtain rfl : ad167 = ad185 := (by injection e185)
                                      replace hx185_0 := (HB.out.cell (World.block_lt_of_cell? w _ hx185_0)).trans hx185_0
                                      replace hx185_1 := (HB.out.cell (World.block_lt_of_cell? w _ hx185_1)).trans hx185_1
                                      replace hx185_2 := (HB.out.cell (World.block_lt_of_cell? w _ hx185_2)).trans hx185_2
                                      replace hx185_3 := (HB.out.cell (World.block_lt_of_cell? w _ hx185_3)).trans hx185_3
                                      replace hx185_4 := (HB.out.cell (World.block_lt_of_cell? w _ hx185_4)).trans hx185_4
                                      replace hx185_5 := (HB.out.cell (World.block_lt_of_cell? w _ hx185_5)).trans hx185_5
                                      replace hx185_6 := (HB.out.cell (World.block_lt_of_cell? w _ hx185_6)).trans hx185_6
                                      replace hx185_7 := (HB.out.cell (World.block_lt_of_cell? w _ hx185_7)).trans hx185_7
                                      replace p185 := eq_true p185
                                      replace q185 := eq_true q185
                                      refine start_ (n := 13) (S := fun w' => w'.cell? (ad167.add ((x4_1).toNat * 8)) = some (.int .u64 ((rd_T42 l0 x4_1).f0)) ∧ w'.cell? ⟨(ad167.add ((x4_1).toNat * 8)).block, (ad167.add ((x4_1).toNat * 8)).off + 1, none⟩ = some (.int .u64 ((rd_T42 l0 x4_1).f1)) ∧ w'.cell? ⟨(ad167.add ((x4_1).toNat * 8)).block, (ad167.add ((x4_1).toNat * 8)).off + 2, none⟩ = some (.int .u64 ((rd_T42 l0 x4_1).f2)) ∧ w'.cell? ⟨(ad167.add ((x4_1).toNat * 8)).block, (ad167.add ((x4_1).toNat * 8)).off + 3, none⟩ = some (.int .u8 ((rd_T42 l0 x4_1).f3)) ∧ w'.cell? ⟨(ad167.add ((x4_1).toNat * 8)).block, (ad167.add ((x4_1).toNat * 8)).off + 4, none⟩ = some (.string ((rd_T42 l0 x4_1).f4)) ∧ w'.cell? ⟨(ad167.add ((x4_1).toNat * 8)).block, (ad167.add ((x4_1).toNat * 8)).off + 5, none⟩ = some (.string ((rd_T42 l0 x4_1).f5)) ∧ w'.cell? ⟨(ad167.add ((x4_1).toNat * 8)).block, (ad167.add ((x4_1).toNat * 8)).off + 6, none⟩ = some (.int .i64 ((rd_T42 l0 x4_1).f6)) ∧ w'.cell? ⟨(ad167.add ((x4_1).toNat * 8)).block, (ad167.add ((x4_1).toNat * 8)).off + 7, none⟩ = some (.int .i64 ((rd_T42 l0 x4_1).f7))) (ds := []) #[false, false, false, false, false, false, false, false, false, false, false, false, false] (by kernel_rfl) rfl rfl ⟨((HB.out.cell (World.block_lt_of_cell? w _ hw185_0)).trans hw185_0), ((HB.out.cell (World.block_lt_of_cell? w _ hw185_1)).trans hw185_1), ((HB.out.cell (World.block_lt_of_cell? w _ hw185_2)).trans hw185_2), ((HB.out.cell (World.block_lt_of_cell? w _ hw185_3)).trans hw185_3), ((HB.out.cell (World.block_lt_of_cell? w _ hw185_4)).trans hw185_4), ((HB.out.cell (World.block_lt_of_cell? w _ hw185_5)).trans hw185_5), ((HB.out.cell (World.block_lt_of_cell? w _ hw185_6)).trans hw185_6), ((HB.out.cell (World.block_lt_of_cell? w _ hw185_7)).trans hw185_7)⟩ (fun hHeld => ?_); refine with_tabW merkhetref09_Hosts.tab10 merkhetref09_Hosts.bits10 (fun HT_ HW_ => ?_)
                                      generalize w29.drew = w30 at HO_3 HO181 HR178 HB HO184 hx185_0 hx185_1 hx185_2 hx185_3 hx185_4 hx185_5 hx185_6 hx185_7 hHeld ⊢
                                      refine pure_ (i := 0) (N := some 47) (v := ?_) (a' := ?_) #[true, false, false, false, false, false, false, false, false, false, false, false, false] rfl rfl (any_of HT_.out (by kernel_rfl)) (fun _ _ _ h => h) (Or.inl ⟨by rfl, ?_⟩) ?_ ?_
                                      rotate_left
                                      · intro w'
                                        go_simp
                                        with_reducible rfl
                                      rotate_left
                                      · simp only [Act.put, List.setIfInBounds_toArray, List.set_cons_zero, List.set_cons_succ, i64_w, i32_w]
                                        rfl
                                      refine pure_ (i := 1) (N := some 48) (v := ?_) (a' := ?_) #[true, true, false, false, false, false, false, false, false, false, false, false, false] rfl rfl (any_of HT_.out (by kernel_rfl)) (fun _ _ _ h => h) (Or.inl ⟨by rfl, ?_⟩) ?_ ?_
                                      rotate_left
                                      · intro w'
                                        go_simp
                                        with_reducible rfl
                                      rotate_left
                                      · simp only [Act.put, List.setIfInBounds_toArray, List.set_cons_zero, List.set_cons_succ, i64_w, i32_w]
                                        rfl
                                      refine pure_ (i := 2) (N := some 49) (v := ?_) (a' := ?_) #[true, true, true, false, false, false, false, false, false, false, false, false, false] rfl rfl (any_of HT_.out (by kernel_rfl)) (fun _ _ _ h => h) (Or.inl ⟨by rfl, ?_⟩) ?_ ?_
                                      rotate_left
                                      · intro w'
                                        go_simp
                                        with_reducible rfl
                                      rotate_left
                                      · simp only [Act.put, List.setIfInBounds_toArray, List.set_cons_zero, List.set_cons_succ, i64_w, i32_w]
                                        rfl
                                      refine pure_ (i := 3) (N := some 50) (v := ?_) (a' := ?_) #[true, true, true, true, false, false, false, false, false, false, false, false, false] rfl rfl (any_of HT_.out (by kernel_rfl)) (fun _ _ _ h => h) (Or.inl ⟨by rfl, ?_⟩) ?_ ?_
                                      rotate_left
                                      · intro w'
                                        go_simp
                                        with_reducible rfl
                                      rotate_left
                                      · simp only [Act.put, List.setIfInBounds_toArray, List.set_cons_zero, List.set_cons_succ, i64_w, i32_w]
                                        rfl
                                      refine pure_ (i := 4) (N := some 51) (v := ?_) (a' := ?_) #[true, true, true, true, true, false, false, false, false, false, false, false, false] rfl rfl (any_of HT_.out (by kernel_rfl)) (fun _ _ _ h => h) (Or.inl ⟨by rfl, ?_⟩) ?_ ?_
                                      rotate_left
                                      · intro w'
                                        go_simp
                                        with_reducible rfl
                                      rotate_left
                                      · simp only [Act.put, List.setIfInBounds_toArray, List.set_cons_zero, List.set_cons_succ, i64_w, i32_w]
                                        rfl
                                      refine pure_ (i := 5) (N := some 52) (v := ?_) (a' := ?_) #[true, true, true, true, true, true, false, false, false, false, false, false, false] rfl rfl (any_of HT_.out (by kernel_rfl)) (fun _ _ _ h => h) (Or.inl ⟨by rfl, ?_⟩) ?_ ?_
                                      rotate_left
                                      · intro w'
                                        go_simp
                                        with_reducible rfl
                                      rotate_left
                                      · simp only [Act.put, List.setIfInBounds_toArray, List.set_cons_zero, List.set_cons_succ, i64_w, i32_w]
                                        rfl
                                      refine pure_ (i := 6) (N := some 53) (v := ?_) (a' := ?_) #[true, true, true, true, true, true, true, false, false, false, false, false, false] rfl rfl (any_of HT_.out (by kernel_rfl)) (fun _ _ _ h => h) (Or.inl ⟨by rfl, ?_⟩) ?_ ?_
                                      rotate_left
                                      · intro w'
                                        go_simp
                                        with_reducible rfl
                                      rotate_left
                                      · simp only [Act.put, List.setIfInBounds_toArray, List.set_cons_zero, List.set_cons_succ, i64_w, i32_w]
                                        rfl
                                      refine pure_ (i := 10) (N := some 57) (v := ?_) (a' := ?_) #[true, true, true, true, true, true, true, false, false, false, true, false, false] rfl rfl (any_of HT_.out (by kernel_rfl)) (fun _ _ _ h => h) (Or.inl ⟨by rfl, ?_⟩) ?_ ?_
                                      rotate_left
                                      · intro w'
                                        go_simp
                                        with_reducible rfl
                                      rotate_left
                                      · simp only [Act.put, List.setIfInBounds_toArray, List.set_cons_zero, List.set_cons_succ, i64_w, i32_w]
                                        rfl
                                      refine take_ (i := 7) (N := some 54) (v := ?_) (a' := ?_) #[true, true, true, true, true, true, true, true, false, false, true, false, false] rfl rfl (take_ofW HT_.out HW_.out (by kernel_rfl)) (fun _ _ _ h => h) (Or.inl ⟨by rfl, ?_⟩) hHeld ?_ ?_
                                      rotate_left
                                      · rintro w' ⟨s0, s1, s2, s3, s4, s5, s6, s7⟩
                                        go_simp
                                        with_reducible rfl
                                      rotate_left
                                      · simp only [Act.put, List.setIfInBounds_toArray, List.set_cons_zero, List.set_cons_succ, i64_w, i32_w]
                                        rfl
                                      refine one_ (i := 8) (N := some 55) #[true, true, true, true, true, true, true, true, true, false, true, false, false] rfl rfl (one_of HT_.out (by kernel_rfl)) (by decide) (fun K hK => ?_)
                                      refine value_ (w1 := ?_) (v := ?_) (by rfl) rfl ?_ ?_
                                      rotate_left 2
                                      · go_simp
                                        constructor
                                        · rfl
                                        · rfl
                                      refine hK.out _ _ ⟨(World.cell?_alloc_lt _ _ _ (World.block_lt_of_cell? _ _ (((HB.out.cell (World.block_lt_of_cell? w _ hw185_0)).trans hw185_0)))).trans (((HB.out.cell (World.block_lt_of_cell? w _ hw185_0)).trans hw185_0)), (World.cell?_alloc_lt _ _ _ (World.block_lt_of_cell? _ _ (((HB.out.cell (World.block_lt_of_cell? w _ hw185_1)).trans hw185_1)))).trans (((HB.out.cell (World.block_lt_of_cell? w _ hw185_1)).trans hw185_1)), (World.cell?_alloc_lt _ _ _ (World.block_lt_of_cell? _ _ (((HB.out.cell (World.block_lt_of_cell? w _ hw185_2)).trans hw185_2)))).trans (((HB.out.cell (World.block_lt_of_cell? w _ hw185_2)).trans hw185_2)), (World.cell?_alloc_lt _ _ _ (World.block_lt_of_cell? _ _ (((HB.out.cell (World.block_lt_of_cell? w _ hw185_3)).trans hw185_3)))).trans (((HB.out.cell (World.block_lt_of_cell? w _ hw185_3)).trans hw185_3)), (World.cell?_alloc_lt _ _ _ (World.block_lt_of_cell? _ _ (((HB.out.cell (World.block_lt_of_cell? w _ hw185_4)).trans hw185_4)))).trans (((HB.out.cell (World.block_lt_of_cell? w _ hw185_4)).trans hw185_4)), (World.cell?_alloc_lt _ _ _ (World.block_lt_of_cell? _ _ (((HB.out.cell (World.block_lt_of_cell? w _ hw185_5)).trans hw185_5)))).trans (((HB.out.cell (World.block_lt_of_cell? w _ hw185_5)).trans hw185_5)), (World.cell?_alloc_lt _ _ _ (World.block_lt_of_cell? _ _ (((HB.out.cell (World.block_lt_of_cell? w _ hw185_6)).trans hw185_6)))).trans (((HB.out.cell (World.block_lt_of_cell? w _ hw185_6)).trans hw185_6)), (World.cell?_alloc_lt _ _ _ (World.block_lt_of_cell? _ _ (((HB.out.cell (World.block_lt_of_cell? w _ hw185_7)).trans hw185_7)))).trans (((HB.out.cell (World.block_lt_of_cell? w _ hw185_7)).trans hw185_7))⟩ (fun hHeld => ?_)
                                      clear hK K
                                      refine norm_ (a' := ?_) ?_ ?_
                                      rotate_left
                                      · show Act.put _ (some 55) _ = _
                                        simp only [Act.put, List.setIfInBounds_toArray, List.set_cons_zero, List.set_cons_succ, i64_w, i32_w]
                                        rfl
                                      refine one_ (i := 9) (N := some 56) #[true, true, true, true, true, true, true, true, true, true, true, false, false] rfl rfl (one_of HT_.out (by kernel_rfl)) (by decide) (fun K hK => ?_)
                                      refine Kd.R_append_step Kd.string (w0 := w) w.heap.size (by rfl) (.tmp 49) (.tmp 55) 61 9 (.string ⟨#[]⟩) 16 rfl Try.underlying61 info9 rfl (by decide) (by omega) (.slice (some ad169) y182.length co9) y182 ((rd_T42 l0 x4_1).f4) [.string ((rd_T42 l0 x4_1).f4)] (fun k_ => some k_ ≠ (v180 : Value).ownBlock) (fun _ => False) rfl rfl ?aP (fun _ hk => hk.elim) ?aF ?aO ?aB ?aS ?aL ?_
                                      (case aP => exact rfl)
                                      (case aB => exact (by repeat (first | (with_reducible first | exact HB.out | apply below_alloc | apply pw_below_drewN | apply below_drew1) | exact HB.out)))
                                      (case aF => exact (fun k_ hk => Kd.fresh' (Kd.R_lt (by (with_reducible repeat (first | apply Kd.R_alloc | apply Kd.R_drewN | apply Kd.R_drew)); exact HO181.out)) k_ hk))
                                      (case aO => exact (by (with_reducible repeat (first | apply Kd.R_alloc | apply Kd.R_drewN | apply Kd.R_drew)); exact Kd.R_mono HO184.out (fun _ hk => hk.2)))
                                      (case aS => exact (below_size (by repeat (first | (with_reducible first | exact HB.out | apply below_alloc | apply pw_below_drewN | apply below_drew1) | exact HB.out))))
                                      (case aL => have := LMc23.out; omega)
                                      intro v187 w32 ho hb hg hat
                                      rw [← Ny186.out] at ho
                                      have n0_ := Aside0.mk (Kd.R_after (ok := (fun _ => True)) (by (with_reducible repeat (first | apply Kd.R_alloc | apply Kd.R_drewN | apply Kd.R_drew)); exact Kd.R_mono HO181.out (fun _ hk => ⟨trivial, by first | exact hk | exact fun h_ => hk (h_.trans (own_len _ _ _ _ _))⟩)) hg hat)
                                      have n1_ := Aside0.mk (hb)
                                      have n2_ := Aside0.mk (ho)
                                      clear HO181
                                      clear HB
                                      clear HO184
                                      have HO181 := n0_
                                      have HB := n1_
                                      have HO188 := n2_
                                      clear n0_ n1_ n2_
                                      clear ho hb hg hat
                                      obtain ⟨Ao34, co34, eo34⟩ := Kd.R_slice HO181.out
                                      (first | subst eo34 | (injection eo34 with f1_ f2_ f3_; have f4_ := f1_.symm; have f5_ := f3_.symm; clear f1_ f2_ f3_; subst f4_; subst f5_))
                                      refine hK.out _ _ ⟨((HB.out.cell (World.block_lt_of_cell? w _ hw185_0)).trans hw185_0), ((HB.out.cell (World.block_lt_of_cell? w _ hw185_1)).trans hw185_1), ((HB.out.cell (World.block_lt_of_cell? w _ hw185_2)).trans hw185_2), ((HB.out.cell (World.block_lt_of_cell? w _ hw185_3)).trans hw185_3), ((HB.out.cell (World.block_lt_of_cell? w _ hw185_4)).trans hw185_4), ((HB.out.cell (World.block_lt_of_cell? w _ hw185_5)).trans hw185_5), ((HB.out.cell (World.block_lt_of_cell? w _ hw185_6)).trans hw185_6), ((HB.out.cell (World.block_lt_of_cell? w _ hw185_7)).trans hw185_7)⟩ (fun hHeld => ?_)
                                      clear hK K
                                      refine norm_ (a' := ?_) ?_ ?_
                                      rotate_left
                                      · show Act.put _ (some 56) _ = _
                                        simp only [Act.put, List.setIfInBounds_toArray, List.set_cons_zero, List.set_cons_succ, i64_w, i32_w]
                                        rfl
                                      refine one_ (i := 11) (N := some 58) #[true, true, true, true, true, true, true, true, true, true, true, true, false] rfl rfl (one_of HT_.out (by kernel_rfl)) (by decide) (fun K hK => ?_)
                                      refine Kd.R_append_rows_step Kd.string (w0 := w) w.heap.size (by rfl) (.tmp 56) (.tmp 57) 61 9 (.string ⟨#[]⟩) 16 rfl Try.underlying61 info9 rfl (by decide) (by omega) v187 y186 y179 _ _ _ (fun k_ => some k_ ≠ (.slice Ao34 y179.length co34 : Value).ownBlock) (fun _ => False) rfl rfl ?aO ?aR (fun _ _ h => h) (fun _ h => h.elim) ?aF ?aB ?aS ?aL ?_
                                      (case aR => repeat (first | exact (Kd.R_reads' HO181.out).2.2 | (with_reducible refine Kd.C_alloc ?_ _) | (with_reducible refine Kd.C_drewN ?_ _) | (with_reducible refine Kd.C_drew ?_)))
                                      (case aB => exact (by repeat (first | (with_reducible first | exact HB.out | apply below_alloc | apply pw_below_drewN | apply below_drew1) | exact HB.out)))
                                      (case aF => exact (fun k_ hk => Kd.fresh' (Kd.R_lt (by (with_reducible repeat (first | apply Kd.R_alloc | apply Kd.R_drewN | apply Kd.R_drew)); exact HO181.out)) k_ hk))
                                      (case aO => exact (by (with_reducible repeat (first | apply Kd.R_alloc | apply Kd.R_drewN | apply Kd.R_drew)); exact HO188.out))
                                      (case aS => exact (below_size (by repeat (first | (with_reducible first | exact HB.out | apply below_alloc | apply pw_below_drewN | apply below_drew1) | exact HB.out))))
                                      (case aL => have := LMc24.out; omega)
                                      intro v190 w33 ho hb hg hat
                                      rw [← Ny189.out] at ho
                                      have n0_ := Aside0.mk (Kd.R_after (ok := (fun _ => True)) (by (with_reducible repeat (first | apply Kd.R_alloc | apply Kd.R_drewN | apply Kd.R_drew)); exact HO181.out) hg hat)
                                      have n1_ := Aside0.mk (hb)
                                      have n2_ := Aside0.mk (ho)
                                      clear HO181
                                      clear HB
                                      clear HO188
                                      have HO181 := n0_
                                      have HB := n1_
                                      have HO191 := n2_
                                      clear n0_ n1_ n2_
                                      clear ho hb hg hat
                                      refine hK.out _ _ ⟨((HB.out.cell (World.block_lt_of_cell? w _ hw185_0)).trans hw185_0), ((HB.out.cell (World.block_lt_of_cell? w _ hw185_1)).trans hw185_1), ((HB.out.cell (World.block_lt_of_cell? w _ hw185_2)).trans hw185_2), ((HB.out.cell (World.block_lt_of_cell? w _ hw185_3)).trans hw185_3), ((HB.out.cell (World.block_lt_of_cell? w _ hw185_4)).trans hw185_4), ((HB.out.cell (World.block_lt_of_cell? w _ hw185_5)).trans hw185_5), ((HB.out.cell (World.block_lt_of_cell? w _ hw185_6)).trans hw185_6), ((HB.out.cell (World.block_lt_of_cell? w _ hw185_7)).trans hw185_7)⟩ (fun hHeld => ?_)
                                      clear hK K
                                      refine norm_ (a' := ?_) ?_ ?_
                                      rotate_left
                                      · show Act.put _ (some 58) _ = _
                                        simp only [Act.put, List.setIfInBounds_toArray, List.set_cons_zero, List.set_cons_succ, i64_w, i32_w]
                                        rfl
                                      refine pure_ (i := 12) (N := some 3) (v := ?_) (a' := ?_) #[true, true, true, true, true, true, true, true, true, true, true, true, true] rfl rfl (any_of HT_.out (by kernel_rfl)) (fun _ _ _ h => h) (Or.inl ⟨by rfl, ?_⟩) ?_ ?_
                                      rotate_left
                                      · intro w'
                                        go_simp
                                        with_reducible rfl
                                      rotate_left
                                      · simp only [Act.put, List.setIfInBounds_toArray, List.set_cons_zero, List.set_cons_succ, i64_w, i32_w]
                                        rfl
                                      refine done_ (done_of HT_.out (by kernel_rfl)) ?_
                                      try go_wp2
                                      go_roundg k2
                                      case measure => have := HK1.out; have := HK2.out; omega
                                      case rel => exact ⟨(y189), (wrap64 (x4_1 + 1)), (by first | rfl | (simp; done) | (simp [*]; done)), H', ⟨by have := HK1.out; have := HK2.out; omega⟩, ⟨by (with_reducible repeat (first | apply Kd.R_alloc | apply Kd.R_drewN | apply Kd.R_drew)); exact Kd.R_mono HO191.out (fun _ hk => trivial)⟩, ⟨by repeat (first | (with_reducible first | exact HB.out | apply below_alloc | apply pw_below_drewN | apply below_drew1) | exact HB.out)⟩⟩
                                    · rw [if_neg c24] at H
                                      exact absurd H (by simp)
                                  · rw [if_neg c23] at H
                                    exact absurd H (by simp)
                                · rw [if_neg c21] at H
                                  exact absurd H (by simp)
                              · rw [if_neg c20] at H
                                exact absurd H (by simp)
                            · rw [if_neg c19] at H
                              exact absurd H (by simp)
                        · rw [if_neg c15] at H
                          exact absurd H (by simp)
                      · rw [if_neg c14] at H
                        exact absurd H (by simp)
                    · rw [if_neg c13] at H
                      exact absurd H (by simp)
                  · rw [if_neg c12] at H
                    exact absurd H (by simp)
                · rw [if_neg c10] at H
                  have c10b0 : decide (0 < x5_2) = false := decide_eq_false c10
                  clear c10
                  obtain ⟨y192, hy192⟩ : ∃ y_ : List ByteArray, y_ = (([] : List ByteArray)) := ⟨_, rfl⟩
                  replace H : (if 0 ≤ x5_2 then (if x5_2 ≤ (x3_1.length : Int) then ((some (x3_1.drop (x5_2 : Int).toNat : List ByteArray)).bind fun y195 => (if y192.length + y195.length < 8796093022208 then ((some (y192 ++ y195 : List ByteArray)).bind fun y199 => ((some (x3_1.take (x5_2 : Int).toNat : List ByteArray)).bind fun y202 => (if 0 ≤ x4_1 then (if x4_1 < (l0.length : Int) then (if y202.length < 8796093022208 then ((some (y202 ++ [(rd_T42 l0 x4_1).f4] : List ByteArray)).bind fun y206 => (if y206.length + y199.length < 8796093022208 then (merkhetref09_Hosts.l0 k2 l0 (y206 ++ y199) (wrap64 (x4_1 + 1))) else (none))) else (none)) else (none)) else (none)))) else (none))) else (none)) else (none)) = some r := by first | (rw [hy192]; with_reducible exact H) | (have H2_ := (Option.bind_some _ _).symm.trans H; rw [hy192]; with_reducible exact H2_) | (have H2_ := (Option.bind_some _ _).symm.trans H; with_reducible exact H2_) | with_reducible exact H | (rw [hy192]; exact H) | exact H
                  have Ny192 := Aside0.mk hy192
                  clear hy192
                  by_cases c35 : 0 ≤ x5_2
                  · rw [if_pos c35] at H
                    have c35b0 := eq_true c35
                    have c35b1 : decide (0 ≤ x5_2) = true := decide_eq_true c35
                    clear c35
                    by_cases c36 : x5_2 ≤ (x3_1.length : Int)
                    · rw [if_pos c36] at H
                      have c36b0 := eq_true c36
                      have c36b1 : decide (x5_2 ≤ (x3_1.length : Int)) = true := decide_eq_true c36
                      clear c36
                      obtain ⟨y195, hy195⟩ : ∃ y_ : List ByteArray, y_ = (x3_1.drop (x5_2 : Int).toNat) := ⟨_, rfl⟩
                      replace H : (if y192.length + y195.length < 8796093022208 then ((some (y192 ++ y195 : List ByteArray)).bind fun y199 => ((some (x3_1.take (x5_2 : Int).toNat : List ByteArray)).bind fun y202 => (if 0 ≤ x4_1 then (if x4_1 < (l0.length : Int) then (if y202.length < 8796093022208 then ((some (y202 ++ [(rd_T42 l0 x4_1).f4] : List ByteArray)).bind fun y206 => (if y206.length + y199.length < 8796093022208 then (merkhetref09_Hosts.l0 k2 l0 (y206 ++ y199) (wrap64 (x4_1 + 1))) else (none))) else (none)) else (none)) else (none)))) else (none)) = some r := by first | (rw [hy195]; with_reducible exact H) | (have H2_ := (Option.bind_some _ _).symm.trans H; rw [hy195]; with_reducible exact H2_) | (have H2_ := (Option.bind_some _ _).symm.trans H; with_reducible exact H2_) | with_reducible exact H | (rw [hy195]; exact H) | exact H
                      have Ny195 := Aside0.mk hy195
                      clear hy195
                      by_cases c37 : y192.length + y195.length < 8796093022208
                      · rw [if_pos c37] at H
                        have LMc37 := Aside0.mk c37
                        clear c37
                        obtain ⟨y199, hy199⟩ : ∃ y_ : List ByteArray, y_ = (y192 ++ y195) := ⟨_, rfl⟩
                        replace H : ((some (x3_1.take (x5_2 : Int).toNat : List ByteArray)).bind fun y202 => (if 0 ≤ x4_1 then (if x4_1 < (l0.length : Int) then (if y202.length < 8796093022208 then ((some (y202 ++ [(rd_T42 l0 x4_1).f4] : List ByteArray)).bind fun y206 => (if y206.length + y199.length < 8796093022208 then (merkhetref09_Hosts.l0 k2 l0 (y206 ++ y199) (wrap64 (x4_1 + 1))) else (none))) else (none)) else (none)) else (none))) = some r := by first | (rw [hy199]; with_reducible exact H) | (have H2_ := (Option.bind_some _ _).symm.trans H; rw [hy199]; with_reducible exact H2_) | (have H2_ := (Option.bind_some _ _).symm.trans H; with_reducible exact H2_) | with_reducible exact H | (rw [hy199]; exact H) | exact H
                        have Ny199 := Aside0.mk hy199
                        clear hy199
                        have c38b0 := eq_true (of_decide_eq_true (by first | (with_reducible assumption) | assumption) : x5_2 ≤ (x3_1.length : Int))
                        obtain ⟨y202, hy202⟩ : ∃ y_ : List ByteArray, y_ = (x3_1.take (x5_2 : Int).toNat) := ⟨_, rfl⟩
                        replace H : (if 0 ≤ x4_1 then (if x4_1 < (l0.length : Int) then (if y202.length < 8796093022208 then ((some (y202 ++ [(rd_T42 l0 x4_1).f4] : List ByteArray)).bind fun y206 => (if y206.length + y199.length < 8796093022208 then (merkhetref09_Hosts.l0 k2 l0 (y206 ++ y199) (wrap64 (x4_1 + 1))) else (none))) else (none)) else (none)) else (none)) = some r := by first | (rw [hy202]; with_reducible exact H) | (have H2_ := (Option.bind_some _ _).symm.trans H; rw [hy202]; with_reducible exact H2_) | (have H2_ := (Option.bind_some _ _).symm.trans H; with_reducible exact H2_) | with_reducible exact H | (rw [hy202]; exact H) | exact H
                        have Ny202 := Aside0.mk hy202
                        clear hy202
                        by_cases c39 : 0 ≤ x4_1
                        · rw [if_pos c39] at H
                          have c39b0 : decide (0 ≤ x4_1) = true := decide_eq_true c39
                          clear c39
                          by_cases c40 : x4_1 < (l0.length : Int)
                          · rw [if_pos c40] at H
                            have c40b0 : decide (x4_1 < (l0.length : Int)) = true := decide_eq_true c40
                            clear c40
                            by_cases c41 : y202.length < 8796093022208
                            · rw [if_pos c41] at H
                              have LMc41 := Aside0.mk c41
                              clear c41
                              obtain ⟨y206, hy206⟩ : ∃ y_ : List ByteArray, y_ = (y202 ++ [(rd_T42 l0 x4_1).f4]) := ⟨_, rfl⟩
                              replace H : (if y206.length + y199.length < 8796093022208 then (merkhetref09_Hosts.l0 k2 l0 (y206 ++ y199) (wrap64 (x4_1 + 1))) else (none)) = some r := by first | (rw [hy206]; with_reducible exact H) | (have H2_ := (Option.bind_some _ _).symm.trans H; rw [hy206]; with_reducible exact H2_) | (have H2_ := (Option.bind_some _ _).symm.trans H; with_reducible exact H2_) | with_reducible exact H | (rw [hy206]; exact H) | exact H
                              have Ny206 := Aside0.mk hy206
                              clear hy206
                              by_cases c42 : y206.length + y199.length < 8796093022208
                              · rw [if_pos c42] at H
                                have LMc42 := Aside0.mk c42
                                clear c42
                                obtain ⟨y209, hy209⟩ : ∃ y_ : List ByteArray, y_ = (y206 ++ y199) := ⟨_, rfl⟩
                                replace H : (merkhetref09_Hosts.l0 k2 l0 y209 (wrap64 (x4_1 + 1))) = some r := by first | (rw [hy209]; with_reducible exact H) | (have H2_ := (Option.bind_some _ _).symm.trans H; rw [hy209]; with_reducible exact H2_) | (have H2_ := (Option.bind_some _ _).symm.trans H; with_reducible exact H2_) | with_reducible exact H | (rw [hy209]; exact H) | exact H
                                have Ny209 := Aside0.mk hy209
                                clear hy209
                                have H' := Aside0.mk H
                                clear H
                                try go_wp2
                                have n0_ := Aside0.mk (Kd.R_drew HO_3.out)
                                have n1_ := Aside0.mk (below_drew1 HB.out)
                                clear HO_3
                                clear HB
                                have HO_3 := n0_
                                have HB := n1_
                                clear n0_ n1_
                                refine start_ (n := 16) (S := fun w' => True) (ds := []) #[false, false, false, false, false, false, false, false, false, false, false, false, false, false, false, false] (by kernel_rfl) rfl rfl trivial (fun hHeld => ?_); refine with_tabW merkhetref09_Hosts.tab7 merkhetref09_Hosts.bits7 (fun HT_ HW_ => ?_)
                                generalize wr.drew = w43 at HO_3 HB hHeld ⊢
                                refine pure_ (i := 0) (N := some 24) (v := ?_) (a' := ?_) #[true, false, false, false, false, false, false, false, false, false, false, false, false, false, false, false] rfl rfl (any_of HT_.out (by kernel_rfl)) (fun _ _ _ h => h) (Or.inl ⟨by rfl, ?_⟩) ?_ ?_
                                rotate_left
                                · intro w'
                                  go_simp
                                  with_reducible rfl
                                rotate_left
                                · simp only [Act.put, List.setIfInBounds_toArray, List.set_cons_zero, List.set_cons_succ, i64_w, i32_w]
                                  rfl
                                refine pure_ (i := 1) (N := some 25) (v := ?_) (a' := ?_) #[true, true, false, false, false, false, false, false, false, false, false, false, false, false, false, false] rfl rfl (any_of HT_.out (by kernel_rfl)) (fun _ _ _ h => h) (Or.inl ⟨by rfl, ?_⟩) ?_ ?_
                                rotate_left
                                · intro w'
                                  go_simp
                                  with_reducible rfl
                                rotate_left
                                · simp only [Act.put, List.setIfInBounds_toArray, List.set_cons_zero, List.set_cons_succ, i64_w, i32_w]
                                  rfl
                                refine pure_ (i := 2) (N := some 26) (v := ?_) (a' := ?_) #[true, true, true, false, false, false, false, false, false, false, false, false, false, false, false, false] rfl rfl (any_of HT_.out (by kernel_rfl)) (fun _ _ _ h => h) (Or.inl ⟨by rfl, ?_⟩) ?_ ?_
                                rotate_left
                                · intro w'
                                  go_simp
                                  with_reducible rfl
                                rotate_left
                                · simp only [Act.put, List.setIfInBounds_toArray, List.set_cons_zero, List.set_cons_succ, i64_w, i32_w]
                                  rfl
                                refine pure_ (i := 3) (N := some 27) (v := undef) (a' := ?_) #[true, true, true, true, false, false, false, false, false, false, false, false, false, false, false, false] rfl rfl (any_of HT_.out (by kernel_rfl)) (fun _ _ _ h => h) (Or.inr ⟨by rfl, rfl⟩) ?_ ?_
                                rotate_left
                                · simp only [Act.put, List.setIfInBounds_toArray, List.set_cons_zero, List.set_cons_succ, i64_w, i32_w]
                                  rfl
                                refine pure_ (i := 4) (N := some 28) (v := undef) (a' := ?_) #[true, true, true, true, true, false, false, false, false, false, false, false, false, false, false, false] rfl rfl (any_of HT_.out (by kernel_rfl)) (fun _ _ _ h => h) (Or.inr ⟨by rfl, rfl⟩) ?_ ?_
                                rotate_left
                                · simp only [Act.put, List.setIfInBounds_toArray, List.set_cons_zero, List.set_cons_succ, i64_w, i32_w]
                                  rfl
                                refine pure_ (i := 5) (N := some 29) (v := undef) (a' := ?_) #[true, true, true, true, true, true, false, false, false, false, false, false, false, false, false, false] rfl rfl (any_of HT_.out (by kernel_rfl)) (fun _ _ _ h => h) (Or.inr ⟨by rfl, rfl⟩) ?_ ?_
                                rotate_left
                                · simp only [Act.put, List.setIfInBounds_toArray, List.set_cons_zero, List.set_cons_succ, i64_w, i32_w]
                                  rfl
                                refine pure_ (i := 6) (N := some 30) (v := undef) (a' := ?_) #[true, true, true, true, true, true, true, false, false, false, false, false, false, false, false, false] rfl rfl (any_of HT_.out (by kernel_rfl)) (fun _ _ _ h => h) (Or.inr ⟨by rfl, rfl⟩) ?_ ?_
                                rotate_left
                                · simp only [Act.put, List.setIfInBounds_toArray, List.set_cons_zero, List.set_cons_succ, i64_w, i32_w]
                                  rfl
                                refine pure_ (i := 7) (N := some 31) (v := undef) (a' := ?_) #[true, true, true, true, true, true, true, true, false, false, false, false, false, false, false, false] rfl rfl (any_of HT_.out (by kernel_rfl)) (fun _ _ _ h => h) (Or.inr ⟨by rfl, rfl⟩) ?_ ?_
                                rotate_left
                                · simp only [Act.put, List.setIfInBounds_toArray, List.set_cons_zero, List.set_cons_succ, i64_w, i32_w]
                                  rfl
                                refine pure_ (i := 8) (N := some 32) (v := undef) (a' := ?_) #[true, true, true, true, true, true, true, true, true, false, false, false, false, false, false, false] rfl rfl (any_of HT_.out (by kernel_rfl)) (fun _ _ _ h => h) (Or.inr ⟨by rfl, rfl⟩) ?_ ?_
                                rotate_left
                                · simp only [Act.put, List.setIfInBounds_toArray, List.set_cons_zero, List.set_cons_succ, i64_w, i32_w]
                                  rfl
                                refine pure_ (i := 9) (N := some 33) (v := undef) (a' := ?_) #[true, true, true, true, true, true, true, true, true, true, false, false, false, false, false, false] rfl rfl (any_of HT_.out (by kernel_rfl)) (fun _ _ _ h => h) (Or.inr ⟨by rfl, rfl⟩) ?_ ?_
                                rotate_left
                                · simp only [Act.put, List.setIfInBounds_toArray, List.set_cons_zero, List.set_cons_succ, i64_w, i32_w]
                                  rfl
                                refine pure_ (i := 10) (N := some 34) (v := undef) (a' := ?_) #[true, true, true, true, true, true, true, true, true, true, true, false, false, false, false, false] rfl rfl (any_of HT_.out (by kernel_rfl)) (fun _ _ _ h => h) (Or.inr ⟨by rfl, rfl⟩) ?_ ?_
                                rotate_left
                                · simp only [Act.put, List.setIfInBounds_toArray, List.set_cons_zero, List.set_cons_succ, i64_w, i32_w]
                                  rfl
                                refine pure_ (i := 11) (N := some 35) (v := undef) (a' := ?_) #[true, true, true, true, true, true, true, true, true, true, true, true, false, false, false, false] rfl rfl (any_of HT_.out (by kernel_rfl)) (fun _ _ _ h => h) (Or.inr ⟨by rfl, rfl⟩) ?_ ?_
                                rotate_left
                                · simp only [Act.put, List.setIfInBounds_toArray, List.set_cons_zero, List.set_cons_succ, i64_w, i32_w]
                                  rfl
                                refine pure_ (i := 12) (N := some 36) (v := undef) (a' := ?_) #[true, true, true, true, true, true, true, true, true, true, true, true, true, false, false, false] rfl rfl (any_of HT_.out (by kernel_rfl)) (fun _ _ _ h => h) (Or.inr ⟨by rfl, rfl⟩) ?_ ?_
                                rotate_left
                                · simp only [Act.put, List.setIfInBounds_toArray, List.set_cons_zero, List.set_cons_succ, i64_w, i32_w]
                                  rfl
                                refine pure_ (i := 13) (N := some 37) (v := undef) (a' := ?_) #[true, true, true, true, true, true, true, true, true, true, true, true, true, true, false, false] rfl rfl (any_of HT_.out (by kernel_rfl)) (fun _ _ _ h => h) (Or.inr ⟨by rfl, rfl⟩) ?_ ?_
                                rotate_left
                                · simp only [Act.put, List.setIfInBounds_toArray, List.set_cons_zero, List.set_cons_succ, i64_w, i32_w]
                                  rfl
                                refine pure_ (i := 14) (N := some 38) (v := undef) (a' := ?_) #[true, true, true, true, true, true, true, true, true, true, true, true, true, true, true, false] rfl rfl (any_of HT_.out (by kernel_rfl)) (fun _ _ _ h => h) (Or.inr ⟨by rfl, rfl⟩) ?_ ?_
                                rotate_left
                                · simp only [Act.put, List.setIfInBounds_toArray, List.set_cons_zero, List.set_cons_succ, i64_w, i32_w]
                                  rfl
                                refine pure_ (i := 15) (N := some 39) (v := ?_) (a' := ?_) #[true, true, true, true, true, true, true, true, true, true, true, true, true, true, true, true] rfl rfl (any_of HT_.out (by kernel_rfl)) (fun _ _ _ h => h) (Or.inl ⟨by rfl, ?_⟩) ?_ ?_
                                rotate_left
                                · intro w'
                                  go_simp
                                  with_reducible rfl
                                rotate_left
                                · simp only [Act.put, List.setIfInBounds_toArray, List.set_cons_zero, List.set_cons_succ, i64_w, i32_w]
                                  rfl
                                refine done_ (done_of HT_.out (by kernel_rfl)) ?_
                                try go_wp2_with (first | ((with_reducible refine gate_dst (N := 42) rfl ?_); refine Kd.R_lit Kd.string _ 9 ?hg (N := 42) ?hd (xs := ([] : List ByteArray)) (inner := []) (ok := fun _ => True) (okp := fun _ => True) ?hr ?hp (fun _ hk => hk) trivial (Below.refl _ _) (Nat.le_refl _) (by simp) ?_; (case hd => rfl); (case hg => rfl); (case hr => first | (go_simp; done) | (go_simp; rfl)); (case hp => exact (Reps.none _ _)); intro v193 w44 ho45 hb hg_ hnew_; clear hg_ hnew_; (first | rw [← Ny192.out] at ho45 | (simp only [Int.reduceToNat] at ho45; rw [← Ny192.out] at ho45)); have n0_ := Aside0.mk (Kd.R_elder' (by (with_reducible repeat (first | apply Kd.R_alloc | apply Kd.R_drewN | apply Kd.R_drew)); exact HO_3.out) (Kd.R_base ho45) hb); have n1_ := Aside0.mk (Kd.R_lower (Kd.R_new' ho45 (Kd.R_lt (by (with_reducible repeat (first | apply Kd.R_alloc | apply Kd.R_drewN | apply Kd.R_drew)); exact HO_3.out))) (below_size (by repeat (first | (with_reducible first | exact HB.out | apply below_alloc | apply pw_below_drewN | apply below_drew1) | exact HB.out)))); have n2_ := Aside0.mk (below_step (by repeat (first | (with_reducible first | exact HB.out | apply below_alloc | apply pw_below_drewN | apply below_drew1) | exact HB.out)) hb); clear HO_3; clear HB; have HO_3 := n0_; have HO194 := n1_; have HB := n2_; clear n0_ n1_ n2_; clear hb ho45; have q46 : (x5_2 : Int) ≤ ((x3_1.length : Int) : Int) := of_decide_eq_true (by first | (with_reducible assumption) | assumption); obtain ⟨i046, hi046, _, hsz46, _⟩ := info_parts info9; have hroom46 : x3_1.length ≤ co9 := (Kd.R_reads' HO_3.out).2.1; have hC46 : Kd.C Kd.string _ Ao9 x3_1.length x3_1 := (Kd.R_reads' HO_3.out).2.2; have q046 : (0 : Int) ≤ (x5_2 : Int) := of_decide_eq_true (by first | (with_reducible assumption) | assumption); have hcut46 := cut_from (P := Try.prog) 61 9 .i64 Try.underlying61 hi046 1 hsz46 Ao9 x3_1.length co9 x5_2 q046 q46; have hr46 := Kd.C_drop (m := (x5_2 : Int).toNat) (c := co9) hC46 (by omega) hroom46; obtain ⟨A46, hA46⟩ : ∃ A1, A1 = (if co9 = (x5_2 : Int).toNat then Ao9 else (Ao9 : Option Addr).map (·.add ((x5_2 : Int).toNat * 1))) := ⟨_, rfl⟩; obtain ⟨c46, hc46⟩ : ∃ c1, c1 = co9 - (x5_2 : Int).toNat := ⟨_, rfl⟩; have hy46 : y195.length = x3_1.length - (x5_2 : Int).toNat := (by rw [Ny195.out, List.length_drop] <;> omega); rw [show (x3_1).drop (x5_2 : Int).toNat = y195 from Ny195.out.symm] at hr46; replace hr46 : Kd.C Kd.string _ A46 y195.length y195 := (by rw [hA46]; exact hr46); rw [← hy46, ← hA46, ← hc46] at hcut46; have HR198 := Aside0.mk hr46; have HC198 := Aside0.mk (show y195.length ≤ c46 from by rw [hy46, hc46]; exact Nat.sub_le_sub_right hroom46 _); clear hr46 hC46 hroom46 hi046 hsz46 hc46; have KY46 := Aside0.mk hy46; have KA46 := Aside0.mk hA46; clear hy46 hA46; have KL46 := Aside0.mk (show (x5_2 : Int).toNat ≤ x3_1.length from by omega); replace q46 := eq_true q46) | ((with_reducible refine gate_builtin (b := .append) (xs := #[.tmp 42, .tmp 45]) rfl ?_); at_builtin; refine Kd.R_append_rows Kd.string (w0 := w) w.heap.size rfl (.tmp 42) (.tmp 45) 61 9 (.string ⟨#[]⟩) 16 rfl Try.underlying61 info9 rfl (by decide) (by omega) v193 y192 y195 _ _ _ (fun k_ => some k_ ≠ (.slice Ao9 x3_1.length co9 : Value).ownBlock) (fun _ => False) rfl rfl ?aO ?aR (fun _ _ h => h) (fun _ h => h.elim) ?aF ?aB ?aS ?aL ?_; (case aR => repeat (first | exact (by repeat (first | (with_reducible exact HR198.out) | (with_reducible refine Kd.C_alloc ?_ _) | (with_reducible refine Kd.C_drewN ?_ _) | (with_reducible refine Kd.C_drew ?_) | exact HR198.out)) | (with_reducible refine Kd.C_alloc ?_ _) | (with_reducible refine Kd.C_drewN ?_ _) | (with_reducible refine Kd.C_drew ?_))); (case aB => exact (by repeat (first | (with_reducible first | exact HB.out | apply below_alloc | apply pw_below_drewN | apply below_drew1) | exact HB.out))); (case aF => exact (fun k_ hk => Kd.fresh' (Kd.R_lt (by (with_reducible repeat (first | apply Kd.R_alloc | apply Kd.R_drewN | apply Kd.R_drew)); exact HO_3.out)) k_ hk)); (case aO => exact (by (with_reducible repeat (first | apply Kd.R_alloc | apply Kd.R_drewN | apply Kd.R_drew)); exact Kd.R_mono HO194.out (fun _ hk => hk.2))); (case aS => exact (below_size (by repeat (first | (with_reducible first | exact HB.out | apply below_alloc | apply pw_below_drewN | apply below_drew1) | exact HB.out)))); (case aL => have := LMc37.out; omega); intro v200 w47 ho hb hg hat; rw [← Ny199.out] at ho; have n0_ := Aside0.mk (Kd.R_after (ok := (fun _ => True)) (by (with_reducible repeat (first | apply Kd.R_alloc | apply Kd.R_drewN | apply Kd.R_drew)); exact HO_3.out) hg hat); have n1_ := Aside0.mk (hb); have n2_ := Aside0.mk ((show Kd.C Kd.string w47 A46 y195.length y195 from by rw [Ny195.out, KA46.out]; exact Kd.C_drop (m := (x5_2 : Int).toNat) (c := co9) ((Kd.R_reads' (Kd.R_after (ok := (fun _ => True)) (by (with_reducible repeat (first | apply Kd.R_alloc | apply Kd.R_drewN | apply Kd.R_drew)); exact HO_3.out) hg hat)).2.2) KL46.out ((Kd.R_reads' (Kd.R_after (ok := (fun _ => True)) (by (with_reducible repeat (first | apply Kd.R_alloc | apply Kd.R_drewN | apply Kd.R_drew)); exact HO_3.out) hg hat)).2.1))); have n3_ := Aside0.mk (ho); clear HO_3; clear HB; clear HR198; clear HO194; have HO_3 := n0_; have HB := n1_; have HR198 := n2_; have HO201 := n3_; clear n0_ n1_ n2_ n3_; clear ho hb hg hat))
                                have n0_ := Aside0.mk (Kd.R_drew HO_3.out)
                                have n1_ := Aside0.mk (Kd.R_drew HO201.out)
                                have n2_ := Aside0.mk (Kd.C_drew HR198.out)
                                have n3_ := Aside0.mk (below_drew1 HB.out)
                                clear HO_3
                                clear HO201
                                clear HR198
                                clear HB
                                have HO_3 := n0_
                                have HO201 := n1_
                                have HR198 := n2_
                                have HB := n3_
                                clear n0_ n1_ n2_ n3_
                                have q49 : (x5_2 : Int) ≤ ((x3_1.length : Int) : Int) := of_decide_eq_true (by first | (with_reducible assumption) | assumption)
                                obtain ⟨i049, hi049, _, hsz49, _⟩ := info_parts info9
                                have hcut49 := cut_to (P := Try.prog) 61 9 .i64 Try.underlying61 hi049 Ao9 x3_1.length co9 x5_2 (of_decide_eq_true (by first | (with_reducible assumption) | assumption)) q49 (Kd.R_reads' HO_3.out).2.1
                                have hr49 := Kd.R_take (m := (x5_2 : Int).toNat) HO_3.out (by omega)
                                have hy49 : y202.length = (x5_2 : Int).toNat := (by rw [Ny202.out, List.length_take]; omega)
                                rw [← Ny202.out] at hr49
                                rw [← hy49] at hr49 hcut49
                                clear hy49 hi049 hsz49 HO_3
                                have HO204 := Aside0.mk hr49
                                clear hr49
                                replace q49 := eq_true q49
                                have p205 : 0 ≤ (x4_1 : Int) := of_decide_eq_true (by first | (with_reducible assumption) | assumption)
                                have q205 : x4_1 < (l0.length : Int) := of_decide_eq_true (by first | (with_reducible assumption) | assumption)
                                obtain ⟨ad205, e205, hx205_0, hx205_1, hx205_2, hx205_3, hx205_4, hx205_5, hx205_6, hx205_7⟩ := at_T42 HR0.out x4_1 p205 q205
                                have hw205_7 := hx205_7
                                have hw205_6 := hx205_6
                                have hw205_5 := hx205_5
                                have hw205_4 := hx205_4
                                have hw205_3 := hx205_3
                                have hw205_2 := hx205_2
                                have hw205_1 := hx205_1
                                have hw205_0 := hx205_0
                                obtain rfl : ad167 = ad205 := (by injection e205)
                                replace hx205_0 := (HB.out.cell (World.block_lt_of_cell? w _ hx205_0)).trans hx205_0
                                replace hx205_1 := (HB.out.cell (World.block_lt_of_cell? w _ hx205_1)).trans hx205_1
                                replace hx205_2 := (HB.out.cell (World.block_lt_of_cell? w _ hx205_2)).trans hx205_2
                                replace hx205_3 := (HB.out.cell (World.block_lt_of_cell? w _ hx205_3)).trans hx205_3
                                replace hx205_4 := (HB.out.cell (World.block_lt_of_cell? w _ hx205_4)).trans hx205_4
                                replace hx205_5 := (HB.out.cell (World.block_lt_of_cell? w _ hx205_5)).trans hx205_5
                                replace hx205_6 := (HB.out.cell (World.block_lt_of_cell? w _ hx205_6)).trans hx205_6
                                replace hx205_7 := (HB.out.cell (World.block_lt_of_cell? w _ hx205_7)).trans hx205_7
                                replace p205 := eq_true p205
                                replace q205 := eq_true q205
                                refine start_ (n := 13) (S := fun w' => w'.cell? (ad167.add ((x4_1).toNat * 8)) = some (.int .u64 ((rd_T42 l0 x4_1).f0)) ∧ w'.cell? ⟨(ad167.add ((x4_1).toNat * 8)).block, (ad167.add ((x4_1).toNat * 8)).off + 1, none⟩ = some (.int .u64 ((rd_T42 l0 x4_1).f1)) ∧ w'.cell? ⟨(ad167.add ((x4_1).toNat * 8)).block, (ad167.add ((x4_1).toNat * 8)).off + 2, none⟩ = some (.int .u64 ((rd_T42 l0 x4_1).f2)) ∧ w'.cell? ⟨(ad167.add ((x4_1).toNat * 8)).block, (ad167.add ((x4_1).toNat * 8)).off + 3, none⟩ = some (.int .u8 ((rd_T42 l0 x4_1).f3)) ∧ w'.cell? ⟨(ad167.add ((x4_1).toNat * 8)).block, (ad167.add ((x4_1).toNat * 8)).off + 4, none⟩ = some (.string ((rd_T42 l0 x4_1).f4)) ∧ w'.cell? ⟨(ad167.add ((x4_1).toNat * 8)).block, (ad167.add ((x4_1).toNat * 8)).off + 5, none⟩ = some (.string ((rd_T42 l0 x4_1).f5)) ∧ w'.cell? ⟨(ad167.add ((x4_1).toNat * 8)).block, (ad167.add ((x4_1).toNat * 8)).off + 6, none⟩ = some (.int .i64 ((rd_T42 l0 x4_1).f6)) ∧ w'.cell? ⟨(ad167.add ((x4_1).toNat * 8)).block, (ad167.add ((x4_1).toNat * 8)).off + 7, none⟩ = some (.int .i64 ((rd_T42 l0 x4_1).f7))) (ds := []) #[false, false, false, false, false, false, false, false, false, false, false, false, false] (by kernel_rfl) rfl rfl ⟨((HB.out.cell (World.block_lt_of_cell? w _ hw205_0)).trans hw205_0), ((HB.out.cell (World.block_lt_of_cell? w _ hw205_1)).trans hw205_1), ((HB.out.cell (World.block_lt_of_cell? w _ hw205_2)).trans hw205_2), ((HB.out.cell (World.block_lt_of_cell? w _ hw205_3)).trans hw205_3), ((HB.out.cell (World.block_lt_of_cell? w _ hw205_4)).trans hw205_4), ((HB.out.cell (World.block_lt_of_cell? w _ hw205_5)).trans hw205_5), ((HB.out.cell (World.block_lt_of_cell? w _ hw205_6)).trans hw205_6), ((HB.out.cell (World.block_lt_of_cell? w _ hw205_7)).trans hw205_7)⟩ (fun hHeld => ?_); refine with_tabW merkhetref09_Hosts.tab10 merkhetref09_Hosts.bits10 (fun HT_ HW_ => ?_)
                                generalize w47.drew = w48 at HO_3 HO201 HR198 HB HO204 hx205_0 hx205_1 hx205_2 hx205_3 hx205_4 hx205_5 hx205_6 hx205_7 hHeld ⊢
                                refine pure_ (i := 0) (N := some 47) (v := ?_) (a' := ?_) #[true, false, false, false, false, false, false, false, false, false, false, false, false] rfl rfl (any_of HT_.out (by kernel_rfl)) (fun _ _ _ h => h) (Or.inl ⟨by rfl, ?_⟩) ?_ ?_
                                rotate_left
                                · intro w'
                                  go_simp
                                  with_reducible rfl
                                rotate_left
                                · simp only [Act.put, List.setIfInBounds_toArray, List.set_cons_zero, List.set_cons_succ, i64_w, i32_w]
                                  rfl
                                refine pure_ (i := 1) (N := some 48) (v := ?_) (a' := ?_) #[true, true, false, false, false, false, false, false, false, false, false, false, false] rfl rfl (any_of HT_.out (by kernel_rfl)) (fun _ _ _ h => h) (Or.inl ⟨by rfl, ?_⟩) ?_ ?_
                                rotate_left
                                · intro w'
                                  go_simp
                                  with_reducible rfl
                                rotate_left
                                · simp only [Act.put, List.setIfInBounds_toArray, List.set_cons_zero, List.set_cons_succ, i64_w, i32_w]
                                  rfl
                                refine pure_ (i := 2) (N := some 49) (v := ?_) (a' := ?_) #[true, true, true, false, false, false, false, false, false, false, false, false, false] rfl rfl (any_of HT_.out (by kernel_rfl)) (fun _ _ _ h => h) (Or.inl ⟨by rfl, ?_⟩) ?_ ?_
                                rotate_left
                                · intro w'
                                  go_simp
                                  with_reducible rfl
                                rotate_left
                                · simp only [Act.put, List.setIfInBounds_toArray, List.set_cons_zero, List.set_cons_succ, i64_w, i32_w]
                                  rfl
                                refine pure_ (i := 3) (N := some 50) (v := ?_) (a' := ?_) #[true, true, true, true, false, false, false, false, false, false, false, false, false] rfl rfl (any_of HT_.out (by kernel_rfl)) (fun _ _ _ h => h) (Or.inl ⟨by rfl, ?_⟩) ?_ ?_
                                rotate_left
                                · intro w'
                                  go_simp
                                  with_reducible rfl
                                rotate_left
                                · simp only [Act.put, List.setIfInBounds_toArray, List.set_cons_zero, List.set_cons_succ, i64_w, i32_w]
                                  rfl
                                refine pure_ (i := 4) (N := some 51) (v := ?_) (a' := ?_) #[true, true, true, true, true, false, false, false, false, false, false, false, false] rfl rfl (any_of HT_.out (by kernel_rfl)) (fun _ _ _ h => h) (Or.inl ⟨by rfl, ?_⟩) ?_ ?_
                                rotate_left
                                · intro w'
                                  go_simp
                                  with_reducible rfl
                                rotate_left
                                · simp only [Act.put, List.setIfInBounds_toArray, List.set_cons_zero, List.set_cons_succ, i64_w, i32_w]
                                  rfl
                                refine pure_ (i := 5) (N := some 52) (v := ?_) (a' := ?_) #[true, true, true, true, true, true, false, false, false, false, false, false, false] rfl rfl (any_of HT_.out (by kernel_rfl)) (fun _ _ _ h => h) (Or.inl ⟨by rfl, ?_⟩) ?_ ?_
                                rotate_left
                                · intro w'
                                  go_simp
                                  with_reducible rfl
                                rotate_left
                                · simp only [Act.put, List.setIfInBounds_toArray, List.set_cons_zero, List.set_cons_succ, i64_w, i32_w]
                                  rfl
                                refine pure_ (i := 6) (N := some 53) (v := ?_) (a' := ?_) #[true, true, true, true, true, true, true, false, false, false, false, false, false] rfl rfl (any_of HT_.out (by kernel_rfl)) (fun _ _ _ h => h) (Or.inl ⟨by rfl, ?_⟩) ?_ ?_
                                rotate_left
                                · intro w'
                                  go_simp
                                  with_reducible rfl
                                rotate_left
                                · simp only [Act.put, List.setIfInBounds_toArray, List.set_cons_zero, List.set_cons_succ, i64_w, i32_w]
                                  rfl
                                refine pure_ (i := 10) (N := some 57) (v := ?_) (a' := ?_) #[true, true, true, true, true, true, true, false, false, false, true, false, false] rfl rfl (any_of HT_.out (by kernel_rfl)) (fun _ _ _ h => h) (Or.inl ⟨by rfl, ?_⟩) ?_ ?_
                                rotate_left
                                · intro w'
                                  go_simp
                                  with_reducible rfl
                                rotate_left
                                · simp only [Act.put, List.setIfInBounds_toArray, List.set_cons_zero, List.set_cons_succ, i64_w, i32_w]
                                  rfl
                                refine take_ (i := 7) (N := some 54) (v := ?_) (a' := ?_) #[true, true, true, true, true, true, true, true, false, false, true, false, false] rfl rfl (take_ofW HT_.out HW_.out (by kernel_rfl)) (fun _ _ _ h => h) (Or.inl ⟨by rfl, ?_⟩) hHeld ?_ ?_
                                rotate_left
                                · rintro w' ⟨s0, s1, s2, s3, s4, s5, s6, s7⟩
                                  go_simp
                                  with_reducible rfl
                                rotate_left
                                · simp only [Act.put, List.setIfInBounds_toArray, List.set_cons_zero, List.set_cons_succ, i64_w, i32_w]
                                  rfl
                                refine one_ (i := 8) (N := some 55) #[true, true, true, true, true, true, true, true, true, false, true, false, false] rfl rfl (one_of HT_.out (by kernel_rfl)) (by decide) (fun K hK => ?_)
                                refine value_ (w1 := ?_) (v := ?_) (by rfl) rfl ?_ ?_
                                rotate_left 2
                                · go_simp
                                  constructor
                                  · rfl
                                  · rfl
                                refine hK.out _ _ ⟨(World.cell?_alloc_lt _ _ _ (World.block_lt_of_cell? _ _ (((HB.out.cell (World.block_lt_of_cell? w _ hw205_0)).trans hw205_0)))).trans (((HB.out.cell (World.block_lt_of_cell? w _ hw205_0)).trans hw205_0)), (World.cell?_alloc_lt _ _ _ (World.block_lt_of_cell? _ _ (((HB.out.cell (World.block_lt_of_cell? w _ hw205_1)).trans hw205_1)))).trans (((HB.out.cell (World.block_lt_of_cell? w _ hw205_1)).trans hw205_1)), (World.cell?_alloc_lt _ _ _ (World.block_lt_of_cell? _ _ (((HB.out.cell (World.block_lt_of_cell? w _ hw205_2)).trans hw205_2)))).trans (((HB.out.cell (World.block_lt_of_cell? w _ hw205_2)).trans hw205_2)), (World.cell?_alloc_lt _ _ _ (World.block_lt_of_cell? _ _ (((HB.out.cell (World.block_lt_of_cell? w _ hw205_3)).trans hw205_3)))).trans (((HB.out.cell (World.block_lt_of_cell? w _ hw205_3)).trans hw205_3)), (World.cell?_alloc_lt _ _ _ (World.block_lt_of_cell? _ _ (((HB.out.cell (World.block_lt_of_cell? w _ hw205_4)).trans hw205_4)))).trans (((HB.out.cell (World.block_lt_of_cell? w _ hw205_4)).trans hw205_4)), (World.cell?_alloc_lt _ _ _ (World.block_lt_of_cell? _ _ (((HB.out.cell (World.block_lt_of_cell? w _ hw205_5)).trans hw205_5)))).trans (((HB.out.cell (World.block_lt_of_cell? w _ hw205_5)).trans hw205_5)), (World.cell?_alloc_lt _ _ _ (World.block_lt_of_cell? _ _ (((HB.out.cell (World.block_lt_of_cell? w _ hw205_6)).trans hw205_6)))).trans (((HB.out.cell (World.block_lt_of_cell? w _ hw205_6)).trans hw205_6)), (World.cell?_alloc_lt _ _ _ (World.block_lt_of_cell? _ _ (((HB.out.cell (World.block_lt_of_cell? w _ hw205_7)).trans hw205_7)))).trans (((HB.out.cell (World.block_lt_of_cell? w _ hw205_7)).trans hw205_7))⟩ (fun hHeld => ?_)
                                clear hK K
                                refine norm_ (a' := ?_) ?_ ?_
                                rotate_left
                                · show Act.put _ (some 55) _ = _
                                  simp only [Act.put, List.setIfInBounds_toArray, List.set_cons_zero, List.set_cons_succ, i64_w, i32_w]
                                  rfl
                                refine one_ (i := 9) (N := some 56) #[true, true, true, true, true, true, true, true, true, true, true, false, false] rfl rfl (one_of HT_.out (by kernel_rfl)) (by decide) (fun K hK => ?_)
                                refine Kd.R_append_step Kd.string (w0 := w) w.heap.size (by rfl) (.tmp 49) (.tmp 55) 61 9 (.string ⟨#[]⟩) 16 rfl Try.underlying61 info9 rfl (by decide) (by omega) (.slice Ao9 y202.length co9) y202 ((rd_T42 l0 x4_1).f4) [.string ((rd_T42 l0 x4_1).f4)] (fun k_ => some k_ ≠ (v200 : Value).ownBlock) (fun _ => False) rfl rfl ?aP (fun _ hk => hk.elim) ?aF ?aO ?aB ?aS ?aL ?_
                                (case aP => exact rfl)
                                (case aB => exact (by repeat (first | (with_reducible first | exact HB.out | apply below_alloc | apply pw_below_drewN | apply below_drew1) | exact HB.out)))
                                (case aF => exact (fun k_ hk => Kd.fresh' (Kd.R_lt (by (with_reducible repeat (first | apply Kd.R_alloc | apply Kd.R_drewN | apply Kd.R_drew)); exact HO201.out)) k_ hk))
                                (case aO => exact (by (with_reducible repeat (first | apply Kd.R_alloc | apply Kd.R_drewN | apply Kd.R_drew)); exact Kd.R_mono HO204.out (fun _ hk => hk.2)))
                                (case aS => exact (below_size (by repeat (first | (with_reducible first | exact HB.out | apply below_alloc | apply pw_below_drewN | apply below_drew1) | exact HB.out))))
                                (case aL => have := LMc41.out; omega)
                                intro v207 w50 ho hb hg hat
                                rw [← Ny206.out] at ho
                                have n0_ := Aside0.mk (Kd.R_after (ok := (fun _ => True)) (by (with_reducible repeat (first | apply Kd.R_alloc | apply Kd.R_drewN | apply Kd.R_drew)); exact Kd.R_mono HO201.out (fun _ hk => ⟨trivial, by first | exact hk | exact fun h_ => hk (h_.trans (own_len _ _ _ _ _))⟩)) hg hat)
                                have n1_ := Aside0.mk (hb)
                                have n2_ := Aside0.mk (ho)
                                clear HO201
                                clear HB
                                clear HO204
                                have HO201 := n0_
                                have HB := n1_
                                have HO208 := n2_
                                clear n0_ n1_ n2_
                                clear ho hb hg hat
                                obtain ⟨Ao52, co52, eo52⟩ := Kd.R_slice HO201.out
                                (first | subst eo52 | (injection eo52 with f1_ f2_ f3_; have f4_ := f1_.symm; have f5_ := f3_.symm; clear f1_ f2_ f3_; subst f4_; subst f5_))
                                refine hK.out _ _ ⟨((HB.out.cell (World.block_lt_of_cell? w _ hw205_0)).trans hw205_0), ((HB.out.cell (World.block_lt_of_cell? w _ hw205_1)).trans hw205_1), ((HB.out.cell (World.block_lt_of_cell? w _ hw205_2)).trans hw205_2), ((HB.out.cell (World.block_lt_of_cell? w _ hw205_3)).trans hw205_3), ((HB.out.cell (World.block_lt_of_cell? w _ hw205_4)).trans hw205_4), ((HB.out.cell (World.block_lt_of_cell? w _ hw205_5)).trans hw205_5), ((HB.out.cell (World.block_lt_of_cell? w _ hw205_6)).trans hw205_6), ((HB.out.cell (World.block_lt_of_cell? w _ hw205_7)).trans hw205_7)⟩ (fun hHeld => ?_)
                                clear hK K
                                refine norm_ (a' := ?_) ?_ ?_
                                rotate_left
                                · show Act.put _ (some 56) _ = _
                                  simp only [Act.put, List.setIfInBounds_toArray, List.set_cons_zero, List.set_cons_succ, i64_w, i32_w]
                                  rfl
                                refine one_ (i := 11) (N := some 58) #[true, true, true, true, true, true, true, true, true, true, true, true, false] rfl rfl (one_of HT_.out (by kernel_rfl)) (by decide) (fun K hK => ?_)
                                refine Kd.R_append_rows_step Kd.string (w0 := w) w.heap.size (by rfl) (.tmp 56) (.tmp 57) 61 9 (.string ⟨#[]⟩) 16 rfl Try.underlying61 info9 rfl (by decide) (by omega) v207 y206 y199 _ _ _ (fun k_ => some k_ ≠ (.slice Ao52 y199.length co52 : Value).ownBlock) (fun _ => False) rfl rfl ?aO ?aR (fun _ _ h => h) (fun _ h => h.elim) ?aF ?aB ?aS ?aL ?_
                                (case aR => repeat (first | exact (Kd.R_reads' HO201.out).2.2 | (with_reducible refine Kd.C_alloc ?_ _) | (with_reducible refine Kd.C_drewN ?_ _) | (with_reducible refine Kd.C_drew ?_)))
                                (case aB => exact (by repeat (first | (with_reducible first | exact HB.out | apply below_alloc | apply pw_below_drewN | apply below_drew1) | exact HB.out)))
                                (case aF => exact (fun k_ hk => Kd.fresh' (Kd.R_lt (by (with_reducible repeat (first | apply Kd.R_alloc | apply Kd.R_drewN | apply Kd.R_drew)); exact HO201.out)) k_ hk))
                                (case aO => exact (by (with_reducible repeat (first | apply Kd.R_alloc | apply Kd.R_drewN | apply Kd.R_drew)); exact HO208.out))
                                (case aS => exact (below_size (by repeat (first | (with_reducible first | exact HB.out | apply below_alloc | apply pw_below_drewN | apply below_drew1) | exact HB.out))))
                                (case aL => have := LMc42.out; omega)
                                intro v210 w51 ho hb hg hat
                                rw [← Ny209.out] at ho
                                have n0_ := Aside0.mk (Kd.R_after (ok := (fun _ => True)) (by (with_reducible repeat (first | apply Kd.R_alloc | apply Kd.R_drewN | apply Kd.R_drew)); exact HO201.out) hg hat)
                                have n1_ := Aside0.mk (hb)
                                have n2_ := Aside0.mk (ho)
                                clear HO201
                                clear HB
                                clear HO208
                                have HO201 := n0_
                                have HB := n1_
                                have HO211 := n2_
                                clear n0_ n1_ n2_
                                clear ho hb hg hat
                                refine hK.out _ _ ⟨((HB.out.cell (World.block_lt_of_cell? w _ hw205_0)).trans hw205_0), ((HB.out.cell (World.block_lt_of_cell? w _ hw205_1)).trans hw205_1), ((HB.out.cell (World.block_lt_of_cell? w _ hw205_2)).trans hw205_2), ((HB.out.cell (World.block_lt_of_cell? w _ hw205_3)).trans hw205_3), ((HB.out.cell (World.block_lt_of_cell? w _ hw205_4)).trans hw205_4), ((HB.out.cell (World.block_lt_of_cell? w _ hw205_5)).trans hw205_5), ((HB.out.cell (World.block_lt_of_cell? w _ hw205_6)).trans hw205_6), ((HB.out.cell (World.block_lt_of_cell? w _ hw205_7)).trans hw205_7)⟩ (fun hHeld => ?_)
                                clear hK K
                                refine norm_ (a' := ?_) ?_ ?_
                                rotate_left
                                · show Act.put _ (some 58) _ = _
                                  simp only [Act.put, List.setIfInBounds_toArray, List.set_cons_zero, List.set_cons_succ, i64_w, i32_w]
                                  rfl
                                refine pure_ (i := 12) (N := some 3) (v := ?_) (a' := ?_) #[true, true, true, true, true, true, true, true, true, true, true, true, true] rfl rfl (any_of HT_.out (by kernel_rfl)) (fun _ _ _ h => h) (Or.inl ⟨by rfl, ?_⟩) ?_ ?_
                                rotate_left
                                · intro w'
                                  go_simp
                                  with_reducible rfl
                                rotate_left
                                · simp only [Act.put, List.setIfInBounds_toArray, List.set_cons_zero, List.set_cons_succ, i64_w, i32_w]
                                  rfl
                                refine done_ (done_of HT_.out (by kernel_rfl)) ?_
                                try go_wp2
                                go_roundg k2
                                case measure => have := HK1.out; have := HK2.out; omega
                                case rel => exact ⟨(y209), (wrap64 (x4_1 + 1)), (by first | rfl | (simp; done) | (simp [*]; done)), H', ⟨by have := HK1.out; have := HK2.out; omega⟩, ⟨by (with_reducible repeat (first | apply Kd.R_alloc | apply Kd.R_drewN | apply Kd.R_drew)); exact Kd.R_mono HO211.out (fun _ hk => trivial)⟩, ⟨by repeat (first | (with_reducible first | exact HB.out | apply below_alloc | apply pw_below_drewN | apply below_drew1) | exact HB.out)⟩⟩
                              · rw [if_neg c42] at H
                                exact absurd H (by simp)
                            · rw [if_neg c41] at H
                              exact absurd H (by simp)
                          · rw [if_neg c40] at H
                            exact absurd H (by simp)
                        · rw [if_neg c39] at H
                          exact absurd H (by simp)
                      · rw [if_neg c37] at H
                        exact absurd H (by simp)
                    · rw [if_neg c36] at H
                      exact absurd H (by simp)
                  · rw [if_neg c35] at H
                    exact absurd H (by simp)
        · rw [if_neg c5] at H
          exact absurd H (by simp)
      · rw [if_neg c4] at H
        have c4b0 : decide (x4_1 < (l0.length : Int)) = false := decide_eq_false c4
        clear c4
        obtain rfl := Option.some.inj H
        go_wp2
        go_ret
        exact ⟨_, by first | rfl | (simp [errW_none, errW_some] <;> rfl) | (simp [*, errW_none, errW_some] <;> rfl), by (with_reducible repeat (first | apply Kd.R_alloc | apply Kd.R_drewN | apply Kd.R_drew)); exact HO_3.out, by repeat (first | (with_reducible first | exact HB.out | apply below_alloc | apply pw_below_drewN | apply below_drew1) | exact HB.out)⟩

end Go.Proofs.Ytjgpggjjgimibaa.Q

/- The document's hosts, as plain lists. -/
namespace Go.Proofs.Ytjgpggjjgimibaa.L
open Go.RowKit Go.Proofs.Ytjgpggjjgimibaa.Q Go.Proofs.YtjgpggjjgimibaaW.PrintWords Go.Proofs.YtjgpggjjgimibaaW.PrintLast Go.Proofs.YtjgpggjjgimibaaW.PrintMore Go.Proofs.YtjgpggjjgimibaaW.Lib
set_option linter.unusedVariables false

/-- The place of a text; -1. -/
def placeZ (l : List ByteArray) (s : ByteArray) : Int := if numB l s < l.length then (numB l s : Int) else -1
theorem numB_cons (x : ByteArray) (l : List ByteArray) (s : ByteArray) : numB (x :: l) s = if x = s then 0 else numB l s + 1 := by
  unfold numB
  rw [List.findIdx_cons]
  by_cases h : x = s
  · simp [h]
  · simp [h]
theorem text_eq {s t : ByteArray} : s.toList = t.toList ↔ s = t := by
  rw [toList_data, toList_data]
  constructor
  · intro h
    cases s; cases t
    simp_all
  · rintro rfl; rfl
theorem place_ev (l : List ByteArray) (s : ByteArray) (hl : l.length ≤ 1000000000) : Ev (fun k => merkhetref09_Place.f k l s) (placeZ l s) := by
  have key : ∀ (d i : Nat), l.length - i = d → i ≤ l.length → Ev (fun k => merkhetref09_Place.l0 k l s (i : Int)) (if numB (l.drop i) s < (l.drop i).length then ((i + numB (l.drop i) s : Nat) : Int) else -1) := by
    intro d
    induction d with
    | zero =>
      intro i hd hi
      rw [List.drop_of_length_le (by omega), if_neg (by simp)]
      refine Ev.succ ?_
      simp only [merkhetref09_Place.l0]
      exact Ev.neg (by omega) (Ev.now _)
    | succ d ih =>
      intro i hd hi
      have hil : i < l.length := by omega
      have hr : rdOf ByteArray.empty l (i : Int) = l[i] := by simp [rdOf, List.getD, hil]
      refine Ev.succ ?_
      simp only [merkhetref09_Place.l0, hr]
      refine Ev.pos (by omega) (Ev.pos (by omega) ?_)
      rw [List.drop_eq_getElem_cons hil, numB_cons, List.length_cons]
      refine Ev.ite (fun h => ?_) (fun h => ?_)
      · rw [if_pos (text_eq.1 h), if_pos (by omega)]
        exact Ev.cast (Ev.now _) (by simp)
      · rw [if_neg (fun h2 => h (text_eq.2 h2)), wrap_id (by omega) (by omega)]
        have h1 := ih (i + 1) (by omega) (by omega)
        refine Ev.cast h1 ?_
        by_cases h3 : numB (l.drop (i + 1)) s < (l.drop (i + 1)).length
        · rw [if_pos h3, if_pos (by omega)]; congr 1; omega
        · rw [if_neg h3, if_neg (by omega)]
  have := key l.length 0 (by omega) (by omega)
  unfold merkhetref09_Place.f placeZ
  simpa using this

theorem placeZ_mem (l : List ByteArray) (s : ByteArray) : 0 ≤ placeZ l s ↔ s ∈ l := by
  unfold placeZ
  constructor
  · intro h
    by_cases h2 : numB l s < l.length
    · have := List.findIdx_getElem (p := fun h => decide (h = s)) (w := h2)
      have h3 : l[numB l s] = s := of_decide_eq_true this
      rw [← h3]; exact List.getElem_mem _
    · rw [if_neg h2] at h; omega
  · intro h
    rw [if_pos (numB_lt h)]; omega
theorem hostsB_fold (l : List Span) : (l.map (·.f4)).foldl (insH cmpB) [] = hostsB l := by
  obtain ⟨h1, h2, _⟩ := foldH cmpB_is (l.map (·.f4)) [] List.Pairwise.nil
  refine h1.one cmpB_is (hostsB_rise l) fun x => ?_
  rw [h2, hostsB_mem, List.mem_map]
  simp
theorem rhosts_ev (x : List Span) (hx : x.length ≤ 1000000) (hw : ∀ s ∈ x, s.f4.size ≤ 140737488351232) : Ev (fun k => merkhetref09_Hosts.f k x) (hostsB x) := by
  have key : ∀ (d i : Nat), x.length - i = d → i ≤ x.length → ∀ a : List ByteArray, a.length ≤ i → (∀ s ∈ a, s.size ≤ 140737488351232) → Ev (fun k => merkhetref09_Hosts.l0 k x a (i : Int)) (((x.drop i).map (·.f4)).foldl (insH cmpB) a) := by
    intro d
    induction d with
    | zero =>
      intro i hd hi a ha _
      refine Ev.succ ?_
      simp only [merkhetref09_Hosts.l0]
      rw [List.drop_of_length_le (by omega)]
      exact Ev.neg (by omega) (Ev.now _)
    | succ d ih =>
      intro i hd hi a ha haw
      have hix : i < x.length := by omega
      have ws := hw x[i] (List.getElem_mem hix)
      rw [List.drop_eq_getElem_cons hix, List.map_cons, List.foldl_cons]
      have hins : (insH cmpB a x[i].f4).length ≤ i + 1 := by have := insH_length (c := cmpB) a x[i].f4; omega
      have hinw : ∀ s ∈ insH cmpB a x[i].f4, s.size ≤ 140737488351232 := by
        intro s hs
        rcases (insH_mem a x[i].f4 s).1 hs with hs | rfl
        · exact haw s hs
        · exact ws
      have next := ih (i + 1) (by omega) (by omega) _ hins hinw
      generalize hres : ((x.drop (i + 1)).map (·.f4)).foldl (insH cmpB) (insH cmpB a x[i].f4) = res at next
      refine Ev.succ ?_
      simp only [merkhetref09_Hosts.l0, rdS_nat x i hix]
      refine Ev.pos (by omega) (Ev.pos (by omega) (Ev.bind (place_ev a x[i].f4 (by omega)) (Ev.ite (fun h => ?_) (fun h => ?_))))
      · have hm := (placeZ_mem a x[i].f4).1 h
        have hst : insH cmpB a x[i].f4 = a := by unfold insH; rw [if_pos hm]
        rw [hst] at next
        rw [wrap_id (by omega) (by omega)]
        exact next
      · have hm : x[i].f4 ∉ a := fun h2 => h ((placeZ_mem a x[i].f4).2 h2)
        have hst : insH cmpB a x[i].f4 = a.take (posG cmpB a x[i].f4 a.length) ++ x[i].f4 :: a.drop (posG cmpB a x[i].f4 a.length) := by unfold insH; rw [if_neg hm]
        rw [hst] at next
        have fin : ∀ j : Nat, j ≤ a.length → posG cmpB a x[i].f4 a.length = j → Ev (fun k => if 0 ≤ (j : Int) then (if (j : Int) ≤ (a.length : Int) then ((some (a.drop (j : Int).toNat : List ByteArray)).bind fun y227 => (if ([] : List ByteArray).length + y227.length < 8796093022208 then ((some (([] : List ByteArray) ++ y227 : List ByteArray)).bind fun y231 => ((some (a.take (j : Int).toNat : List ByteArray)).bind fun y234 => (if y234.length < 8796093022208 then ((some (y234 ++ [x[i].f4] : List ByteArray)).bind fun y238 => (if y238.length + y231.length < 8796093022208 then (merkhetref09_Hosts.l0 k x (y238 ++ y231) (wrap64 ((i : Int) + 1))) else (none))) else (none)))) else (none))) else (none)) else (none)) res := by
          intro j hj hp
          rw [hp] at next
          refine Ev.pos (by omega) (Ev.pos (by omega) ?_)
          simp only [Option.bind_some, Int.toNat_natCast]
          refine Ev.pos (by simp; omega) (Ev.pos (by simp; omega) (Ev.pos (by simp; omega) ?_))
          rw [wrap_id (by omega) (by omega)]
          refine Ev.congr (fun k => ?_) next
          simp
        have inner : ∀ j : Nat, j ≤ a.length → posG cmpB a x[i].f4 a.length = posG cmpB a x[i].f4 j → Ev (fun k => merkhetref09_Hosts.l1 k x a (i : Int) (j : Int)) res := by
          intro j
          induction j with
          | zero =>
            intro hj hp
            refine Ev.succ ?_
            simp only [merkhetref09_Hosts.l1, rdS_nat x i hix]
            refine Ev.neg (by omega) ?_
            simp only [Option.bind_some]
            have := fin 0 (by omega) (by rw [hp]; rfl)
            simp only [Option.bind_some] at this
            refine Ev.congr (fun k => ?_) this
            simp only [show (0 : Int) ≤ (i : Int) by omega, show (i : Int) < (x.length : Int) by omega, if_true]
          | succ j ihj =>
            intro hj hp
            have hja : j < a.length := by omega
            have hr : rdOf ByteArray.empty a (j : Int) = a[j] := by simp [rdOf, List.getD, hja]
            have hg : a.getD j x[i].f4 = a[j] := by simp [List.getD, hja]
            refine Ev.succ ?_
            simp only [merkhetref09_Hosts.l1]
            refine Ev.pos (by omega) ?_
            rw [wrap_id (by omega) (by omega), show ((j + 1 : Nat) : Int) - 1 = (j : Int) by omega]
            refine Ev.pos (by omega) (Ev.pos (by omega) (Ev.pos (by omega) (Ev.pos (by omega) ?_)))
            simp only [rdS_nat x i hix, hr]
            refine Ev.bind (text_ev a[j] x[i].f4 (haw _ (List.getElem_mem _)) ws) (Ev.ite (fun e => ?_) (fun e => ?_))
            · exact ihj (by omega) (by rw [hp, posG_succ, hg, if_pos e])
            · simp only [Option.bind_some]
              have := fin (j + 1) (by omega) (by rw [hp, posG_succ, hg, if_neg e])
              simp only [Option.bind_some] at this
              exact this
        exact inner a.length (Nat.le_refl _) rfl
  have := key x.length 0 (by omega) (by omega) [] (by simp) (by simp)
  rw [List.drop_zero, hostsB_fold] at this
  exact this
end Go.Proofs.Ytjgpggjjgimibaa.L

-- Written by wip/tools/gp.py, a program of this session round the kit's printer. Lean checks it.
namespace Go.Proofs.Ytjgpggjjgimibaa.Q
open Go.RowKit Go.Proofs.YtjgpggjjgimibaaW.PrintWords Go.Proofs.YtjgpggjjgimibaaW.PrintLast Go.Proofs.YtjgpggjjgimibaaW.PrintMore
attribute [local go_sem] max2_int min2_int max_two min_two max_three min_three max_four min_four   -- for this text's walks alone
set_option linter.unusedVariables false
set_option linter.unusedSimpArgs false

/-! ### merkhetref13_Of: function 22 -/
def merkhetref13_Of.l0 : Nat → List (S42) → List ByteArray → List Int → Int → Option (List Int)
  | 0, _, _, _, _ => none
  | k + 1, x0, x3, x4, x5 => if x5 < (x0.length : Int) then (if 0 ≤ x5 then ((merkhetref09_Place.f k x3 ((rd_T42 x0 x5).f4)).bind fun t219 => (if x4.length < 17592186044416 then (merkhetref13_Of.l0 k x0 x3 (x4 ++ [t219]) (wrap64 (x5 + 1))) else (none))) else (none)) else (some x4)
def merkhetref13_Of.f (k : Nat) (l0 : List (S42)) : Option (List Int) := (merkhetref09_Hosts.f k l0).bind fun t212 => (merkhetref13_Of.l0 k l0 t212 (([] : List Int)) 0)
theorem merkhetref13_Of.mono_l : ∀ k, (∀ y0 y1 y2 y3, LeO (merkhetref13_Of.l0 k y0 y1 y2 y3) (merkhetref13_Of.l0 (k + 1) y0 y1 y2 y3))
  | 0 => fun _ _ _ _ r h => by simp [merkhetref13_Of.l0] at h
  | k + 1 => by
    have ih0 := merkhetref13_Of.mono_l k
    · intro y0 y1 y2 y3
      unfold merkhetref13_Of.l0
      repeat' first
      | (with_reducible exact ih0 _ _ _ _)
      | (with_reducible exact merkhetref09_Hosts.mono _ _)
      | (with_reducible exact merkhetref09_Place.mono _ _ _)
      | (with_reducible exact LeO.refl _)
      | (with_reducible exact LeO.none _)
      | (with_reducible refine LeO.ite ?_ ?_)
      | (with_reducible refine LeO.bind ?_ (fun _ => ?_))
      | exact ih0 _ _ _ _
      | exact merkhetref09_Hosts.mono _ _
      | exact merkhetref09_Place.mono _ _ _
      | exact LeO.none _
      | refine LeO.ite ?_ ?_
      | refine LeO.bind ?_ (fun _ => ?_)
theorem merkhetref13_Of.mono : ∀ a0 k, LeO (merkhetref13_Of.f k a0) (merkhetref13_Of.f (k + 1) a0) := by
  intro a0 k
  have ih0 := merkhetref13_Of.mono_l k
  unfold merkhetref13_Of.f
  repeat' first
      | (with_reducible exact ih0 _ _ _ _)
      | (with_reducible exact merkhetref09_Hosts.mono _ _)
      | (with_reducible exact merkhetref09_Place.mono _ _ _)
      | (with_reducible exact LeO.refl _)
      | (with_reducible exact LeO.none _)
      | (with_reducible refine LeO.ite ?_ ?_)
      | (with_reducible refine LeO.bind ?_ (fun _ => ?_))
      | exact ih0 _ _ _ _
      | exact merkhetref09_Hosts.mono _ _
      | exact merkhetref09_Place.mono _ _ _
      | exact LeO.none _
      | refine LeO.ite ?_ ?_
      | refine LeO.bind ?_ (fun _ => ?_)
set_option maxHeartbeats 8000000 in
set_option maxRecDepth 100000 in
theorem merkhetref13_Of.calls (k : Nat) (A0 : Option Addr) (c0 : Nat) (l0 : List (S42)) (r : List Int) (w : World) (hr0 : Kd.C k42 w A0 l0.length l0) (hc0 : l0.length ≤ c0) (h : merkhetref13_Of.f k l0 = some r) :
    Calls Try.prog 22 #[.slice A0 l0.length c0] w fun e w' => ∃ v0_ : Value, e = .returned (v0_) ∧ Kd.R (Kd.int .i64) 3 w' w.heap.size (fun _ => True) v0_ r ∧ Below w.heap.size w w' := by
  have HR0 := Aside0.mk hr0
  have HC0 := Aside0.mk hc0
  clear hr0 hc0
  have HB := Aside0.mk (Below.refl w.heap.size w)
  have H : ((merkhetref09_Hosts.f k l0).bind fun t212 => (merkhetref13_Of.l0 k l0 t212 (([] : List Int)) 0)) = some r := h
  clear h
  replace H := Option.bind_eq_some_iff.mp H
  obtain ⟨t212, A20, H⟩ := H
  replace H : (merkhetref13_Of.l0 k l0 t212 (([] : List Int)) 0) = some r := H
  have A2 := Aside0.mk A20
  clear A20
  obtain ⟨y215, hy215⟩ : ∃ y_ : List Int, y_ = (([] : List Int)) := ⟨_, rfl⟩
  replace H : (merkhetref13_Of.l0 k l0 t212 y215 0) = some r := by first | (rw [hy215]; with_reducible exact H) | (have H2_ := (Option.bind_some _ _).symm.trans H; rw [hy215]; with_reducible exact H2_) | (have H2_ := (Option.bind_some _ _).symm.trans H; with_reducible exact H2_) | with_reducible exact H | (rw [hy215]; exact H) | exact H
  have Ny215 := Aside0.mk hy215
  clear hy215
  have H' := Aside0.mk H
  clear H
  go_enter Try.func22, Try.ntmps22
  go_wp2_with (first | ((with_reducible refine gate_callee (f := 41) rfl ?_); refine goesL_ (some 7) rfl rfl Try.func41 (by kernel_rfl) rfl #[.slice A0 l0.length c0] rfl (by (try simp only [List.map_toArray, List.map_cons, List.map_nil]); first | done | rfl | (simp only [List.length_drop, List.length_take]; rfl)) ?_; (with_reducible refine (merkhetref09_Hosts.calls k _ _ l0 t212 _ ?side1 ?side2 A2.out).mono ?_); (case side1 => repeat (first | exact HR0.out | (with_reducible refine Kd.C_alloc ?_ _) | (with_reducible refine Kd.C_drewN ?_ _) | (with_reducible refine Kd.C_drew ?_))); (case side2 => exact HC0.out); rintro e w3 ⟨v213, rfl, ho0, hb⟩; refine ⟨_, rfl, ?_⟩; have n0_ := Aside0.mk (Kd.R_lower ho0 (below_size (by repeat (first | (with_reducible first | exact HB.out | apply below_alloc | apply pw_below_drewN | apply below_drew1) | exact HB.out)))); have n1_ := Aside0.mk (below_step (by repeat (first | (with_reducible first | exact HB.out | apply below_alloc | apply pw_below_drewN | apply below_drew1) | exact HB.out)) hb); clear HB; have HO214 := n0_; have HB := n1_; clear n0_ n1_; (try clear hb); (try clear hb2); (try clear hk); (try clear hi); (try clear ho0)) | ((with_reducible refine gate_dst (N := 8) rfl ?_); refine Kd.R_lit (Kd.int .i64) _ 3 ?hg (N := 8) ?hd (xs := ([] : List Int)) (inner := []) (ok := fun _ => True) (okp := fun _ => True) ?hr ?hp (fun _ hk => hk) trivial (Below.refl _ _) (Nat.le_refl _) (by simp) ?_; (case hd => rfl); (case hg => rfl); (case hr => first | (go_simp; done) | (go_simp; rfl)); (case hp => exact (Reps.none _ _)); intro v216 w4 ho5 hb hg_ hnew_; clear hg_ hnew_; (first | rw [← Ny215.out] at ho5 | (simp only [Int.reduceToNat] at ho5; rw [← Ny215.out] at ho5)); have n0_ := Aside0.mk (Kd.R_below (by (with_reducible repeat (first | apply Kd.R_alloc | apply Kd.R_drewN | apply Kd.R_drew)); exact HO214.out) hb); have n1_ := Aside0.mk (Kd.R_lower ho5 (below_size (by repeat (first | (with_reducible first | exact HB.out | apply below_alloc | apply pw_below_drewN | apply below_drew1) | exact HB.out)))); have n2_ := Aside0.mk (below_step (by repeat (first | (with_reducible first | exact HB.out | apply below_alloc | apply pw_below_drewN | apply below_drew1) | exact HB.out)) hb); clear HO214; clear HB; have HO214 := n0_; have HO217 := n1_; have HB := n2_; clear n0_ n1_ n2_; clear hb ho5))
  go_loopg [4, 5] k (fun kq v4 v5 w' => ∃ (x4_1 : List Int) (x5_1 : Int), v5 = .int .i64 x5_1 ∧ Aside0 (merkhetref13_Of.l0 kq l0 t212 x4_1 x5_1 = some r) ∧ Aside0 (kq ≤ k) ∧ Aside0 (Kd.R Kd.string 9 w' w.heap.size (fun _ => True) v213 t212) ∧ Aside0 (Kd.R (Kd.int .i64) 3 w' w.heap.size (fun _ => True) v4 x4_1) ∧ Aside0 (Below w.heap.size w w'))
  case atStart => exact ⟨(y215), (0), (by first | rfl | (simp; done) | (simp [*]; done)), H', ⟨Nat.le_refl _⟩, ⟨by (with_reducible repeat (first | apply Kd.R_alloc | apply Kd.R_drewN | apply Kd.R_drew)); exact HO214.out⟩, ⟨by (with_reducible repeat (first | apply Kd.R_alloc | apply Kd.R_drewN | apply Kd.R_drew)); exact HO217.out⟩, ⟨by repeat (first | (with_reducible first | exact HB.out | apply below_alloc | apply pw_below_drewN | apply below_drew1) | exact HB.out)⟩⟩
  case round =>
    clear H'
    try clear c2
    try clear p2
    try clear c4
    obtain ⟨x4_1, x5_1, rfl, HA, HK1, HO_3, HO_4, HB⟩ := hrel
    cases gk with
    | zero => exact absurd HA.out (by simp [merkhetref13_Of.l0])
    | succ k1 =>
      have H := HA.out
      clear HA
      simp only [merkhetref13_Of.l0] at H
      by_cases c6 : x5_1 < (l0.length : Int)
      · rw [if_pos c6] at H
        have c6b0 : decide (x5_1 < (l0.length : Int)) = true := decide_eq_true c6
        clear c6
        by_cases c7 : 0 ≤ x5_1
        · rw [if_pos c7] at H
          have c7b0 : decide (0 ≤ x5_1) = true := decide_eq_true c7
          clear c7
          replace H := Option.bind_eq_some_iff.mp H
          obtain ⟨t219, A80, H⟩ := H
          replace H : (if x4_1.length < 17592186044416 then (merkhetref13_Of.l0 k1 l0 t212 (x4_1 ++ [t219]) (wrap64 (x5_1 + 1))) else (none)) = some r := H
          have A8 := Aside0.mk A80
          clear A80
          by_cases c9 : x4_1.length < 17592186044416
          · rw [if_pos c9] at H
            have LMc9 := Aside0.mk c9
            clear c9
            obtain ⟨y220, hy220⟩ : ∃ y_ : List Int, y_ = (x4_1 ++ [t219]) := ⟨_, rfl⟩
            replace H : (merkhetref13_Of.l0 k1 l0 t212 y220 (wrap64 (x5_1 + 1))) = some r := by first | (rw [hy220]; with_reducible exact H) | (have H2_ := (Option.bind_some _ _).symm.trans H; rw [hy220]; with_reducible exact H2_) | (have H2_ := (Option.bind_some _ _).symm.trans H; with_reducible exact H2_) | with_reducible exact H | (rw [hy220]; exact H) | exact H
            have Ny220 := Aside0.mk hy220
            clear hy220
            have H' := Aside0.mk H
            clear H
            have p218 : 0 ≤ (x5_1 : Int) := of_decide_eq_true (by first | (with_reducible assumption) | assumption)
            have q218 : x5_1 < (l0.length : Int) := of_decide_eq_true (by first | (with_reducible assumption) | assumption)
            obtain ⟨ad218, e218, hx218_0, hx218_1, hx218_2, hx218_3, hx218_4, hx218_5, hx218_6, hx218_7⟩ := at_T42 HR0.out x5_1 p218 q218
            cases e218
            replace hx218_0 := (HB.out.cell (World.block_lt_of_cell? w _ hx218_0)).trans hx218_0
            replace hx218_1 := (HB.out.cell (World.block_lt_of_cell? w _ hx218_1)).trans hx218_1
            replace hx218_2 := (HB.out.cell (World.block_lt_of_cell? w _ hx218_2)).trans hx218_2
            replace hx218_3 := (HB.out.cell (World.block_lt_of_cell? w _ hx218_3)).trans hx218_3
            replace hx218_4 := (HB.out.cell (World.block_lt_of_cell? w _ hx218_4)).trans hx218_4
            replace hx218_5 := (HB.out.cell (World.block_lt_of_cell? w _ hx218_5)).trans hx218_5
            replace hx218_6 := (HB.out.cell (World.block_lt_of_cell? w _ hx218_6)).trans hx218_6
            replace hx218_7 := (HB.out.cell (World.block_lt_of_cell? w _ hx218_7)).trans hx218_7
            replace p218 := eq_true p218
            replace q218 := eq_true q218
            obtain ⟨Ao10, co10, eo10⟩ := Kd.R_slice HO_3.out
            subst eo10
            go_wp2_with (first | ((with_reducible refine gate_callee (f := 42) rfl ?_); refine goesL_ (some 22) rfl rfl Try.func42 (by kernel_rfl) rfl #[.slice Ao10 t212.length co10, .string ((rd_T42 l0 x5_1).f4)] rfl (by (try simp only [List.map_toArray, List.map_cons, List.map_nil]); first | done | rfl | (simp only [List.length_drop, List.length_take]; rfl)) ?_; (with_reducible refine (merkhetref09_Place.calls k1 _ _ t212 ((rd_T42 l0 x5_1).f4) t219 _ ?side1 ?side2 A8.out).mono ?_); (case side1 => repeat (first | exact (Kd.R_reads' HO_3.out).2.2 | (with_reducible refine Kd.C_alloc ?_ _) | (with_reducible refine Kd.C_drewN ?_ _) | (with_reducible refine Kd.C_drew ?_))); (case side2 => exact (Kd.R_reads' HO_3.out).2.1); rintro e w' ⟨rfl, ⟨nd, rfl⟩⟩; refine ⟨_, rfl, ?_⟩) | ((with_reducible refine gate_builtin (b := .append) (xs := #[.tmp 15, .tmp 23]) rfl ?_); at_builtin; refine Kd.R_append (Kd.int .i64) (w0 := w) w.heap.size rfl (.tmp 15) (.tmp 23) 27 3 (.int .i64 0) 8 rfl Try.underlying27 info3 rfl (by decide) (by omega) u4 x4_1 t219 [.int .i64 t219] (fun _ => True) (fun _ => False) rfl rfl ?aP (fun _ hk => hk.elim) ?aF ?aO ?aB ?aS ?aL ?_; (case aP => exact rfl); (case aB => exact (by repeat (first | (with_reducible first | exact HB.out | apply below_alloc | apply pw_below_drewN | apply below_drew1) | exact HB.out))); (case aF => exact (fun _ _ => trivial)); (case aO => exact (by (with_reducible repeat (first | apply Kd.R_alloc | apply Kd.R_drewN | apply Kd.R_drew)); exact HO_4.out)); (case aS => exact (below_size (by repeat (first | (with_reducible first | exact HB.out | apply below_alloc | apply pw_below_drewN | apply below_drew1) | exact HB.out)))); (case aL => have := LMc9.out; omega); intro v221 w11 ho hb hg hat; rw [← Ny220.out] at ho; have n0_ := Aside0.mk (Kd.R_over' (by (with_reducible repeat (first | apply Kd.R_alloc | apply Kd.R_drewN | apply Kd.R_drew)); exact HO_3.out) (Kd.R_typed (by (with_reducible repeat (first | apply Kd.R_alloc | apply Kd.R_drewN | apply Kd.R_drew)); exact HO_4.out)) (by decide) hg); have n1_ := Aside0.mk (hb); have n2_ := Aside0.mk (ho); clear HO_3; clear HB; clear HO_4; have HO_3 := n0_; have HB := n1_; have HO222 := n2_; clear n0_ n1_ n2_; clear ho hb hg hat))
            go_roundg k1
            case measure => have := HK1.out; omega
            case rel => exact ⟨(y220), (wrap64 (x5_1 + 1)), (by first | rfl | (simp; done) | (simp [*]; done)), H', ⟨by have := HK1.out; omega⟩, ⟨by (with_reducible repeat (first | apply Kd.R_alloc | apply Kd.R_drewN | apply Kd.R_drew)); exact HO_3.out⟩, ⟨by (with_reducible repeat (first | apply Kd.R_alloc | apply Kd.R_drewN | apply Kd.R_drew)); exact HO222.out⟩, ⟨by repeat (first | (with_reducible first | exact HB.out | apply below_alloc | apply pw_below_drewN | apply below_drew1) | exact HB.out)⟩⟩
          · rw [if_neg c9] at H
            exact absurd H (by simp)
        · rw [if_neg c7] at H
          exact absurd H (by simp)
      · rw [if_neg c6] at H
        have c6b0 : decide (x5_1 < (l0.length : Int)) = false := decide_eq_false c6
        clear c6
        obtain rfl := Option.some.inj H
        go_wp2
        go_ret
        exact ⟨_, by first | rfl | (simp [errW_none, errW_some] <;> rfl) | (simp [*, errW_none, errW_some] <;> rfl), by (with_reducible repeat (first | apply Kd.R_alloc | apply Kd.R_drewN | apply Kd.R_drew)); exact HO_4.out, by repeat (first | (with_reducible first | exact HB.out | apply below_alloc | apply pw_below_drewN | apply below_drew1) | exact HB.out)⟩

end Go.Proofs.Ytjgpggjjgimibaa.Q

/- The document's numbers and groups of hosts, as plain lists. -/
namespace Go.Proofs.Ytjgpggjjgimibaa.L
open Go.RowKit Go.Proofs.Ytjgpggjjgimibaa.Q Go.Proofs.YtjgpggjjgimibaaW.PrintWords Go.Proofs.YtjgpggjjgimibaaW.PrintLast Go.Proofs.YtjgpggjjgimibaaW.PrintMore Go.Proofs.YtjgpggjjgimibaaW.Lib
set_option linter.unusedVariables false

theorem rof13_ev (x : List Span) (hx : x.length ≤ 1000000) (hw : ∀ s ∈ x, s.f4.size ≤ 140737488351232) : Ev (fun k => merkhetref13_Of.f k x) (numsL x) := by
  have key : ∀ (d i : Nat), x.length - i = d → i ≤ x.length → Ev (fun k => merkhetref13_Of.l0 k x (hostsB x) ((numsL x).take i) (i : Int)) (numsL x) := by
    intro d
    induction d with
    | zero =>
      intro i hd hi
      refine Ev.succ ?_
      simp only [merkhetref13_Of.l0]
      rw [List.take_of_length_le (by unfold numsL; rw [List.length_map]; omega)]
      exact Ev.neg (by omega) (Ev.now _)
    | succ d ih =>
      intro i hd hi
      have hix : i < x.length := by omega
      have hm : x[i].f4 ∈ hostsB x := (hostsB_mem x _).2 ⟨x[i], List.getElem_mem hix, rfl⟩
      have hp : placeZ (hostsB x) x[i].f4 = (numB (hostsB x) x[i].f4 : Int) := by unfold placeZ; rw [if_pos (numB_lt hm)]
      have hn : (numsL x).take (i + 1) = (numsL x).take i ++ [(numB (hostsB x) x[i].f4 : Int)] := by
        rw [List.take_succ_eq_append_getElem (by unfold numsL; rw [List.length_map]; exact hix)]
        congr 2
        unfold numsL
        rw [List.getElem_map]
      refine Ev.succ ?_
      simp only [merkhetref13_Of.l0, rdS_nat x i hix]
      refine Ev.pos (by omega) (Ev.pos (by omega) (Ev.bind (place_ev (hostsB x) x[i].f4 (by have := hostsB_length x; omega)) (Ev.pos (by simp; omega) ?_)))
      rw [wrap_id (by omega) (by omega), hp, ← hn]
      exact ih (i + 1) (by omega) (by omega)
  unfold merkhetref13_Of.f
  refine Ev.bind (rhosts_ev x hx hw) ?_
  have := key x.length 0 (by omega) (by omega)
  simpa using this

end Go.Proofs.Ytjgpggjjgimibaa.L

/- The guard of layer 4, as plain lists. -/
namespace Go.Proofs.Ytjgpggjjgimibaa.L
open Go.RowKit Go.Proofs.Ytjgpggjjgimibaa.Q Go.Proofs.YtjgpggjjgimibaaW.PrintWords Go.Proofs.YtjgpggjjgimibaaW.PrintLast Go.Proofs.YtjgpggjjgimibaaW.PrintMore Go.Proofs.YtjgpggjjgimibaaW.Lib
set_option linter.unusedVariables false

theorem great_ev (l : List Span) : ∃ b, Ev (fun k => merkhetlaw04_Great.f k l) b ∧ (b = false → l.length ≤ 60 ∧ ∀ x ∈ l, x.f4.size ≤ 100 ∧ x.f5.size ≤ 100) := by
  unfold merkhetlaw04_Great.f
  by_cases h : (l.length : Int) > 60
  · exact ⟨true, Ev.pos h (Ev.now _), by simp⟩
  · have key : ∀ (d i : Nat), l.length - i = d → i ≤ l.length → ∃ b, Ev (fun k => merkhetlaw04_Great.l0 k l (l.length : Int) (i : Int)) b ∧ (b = false → ∀ x ∈ l.drop i, x.f4.size ≤ 100 ∧ x.f5.size ≤ 100) := by
      intro d
      induction d with
      | zero =>
        intro i hd hi
        refine ⟨false, Ev.succ ?_, fun _ x hx => ?_⟩
        · simp only [merkhetlaw04_Great.l0]
          exact Ev.neg (by omega) (Ev.now _)
        · rw [List.drop_of_length_le (by omega)] at hx; cases hx
      | succ d ih =>
        intro i hd hi
        have hil : i < l.length := by omega
        obtain ⟨b, hb, hb2⟩ := ih (i + 1) (by omega) (by omega)
        by_cases h4 : ((l[i].f4.size : Nat) : Int) > 100
        · refine ⟨true, Ev.succ ?_, by simp⟩
          simp only [merkhetlaw04_Great.l0, rdS_nat l i hil]
          exact Ev.pos (by omega) (Ev.pos (by omega) (Ev.pos (by omega) (Ev.pos h4 (Ev.now _))))
        · by_cases h5 : ((l[i].f5.size : Nat) : Int) > 100
          · refine ⟨true, Ev.succ ?_, by simp⟩
            simp only [merkhetlaw04_Great.l0, rdS_nat l i hil]
            exact Ev.pos (by omega) (Ev.pos (by omega) (Ev.pos (by omega) (Ev.neg h4 (Ev.pos h5 (Ev.now _)))))
          · refine ⟨b, Ev.succ ?_, fun e x hx => ?_⟩
            · simp only [merkhetlaw04_Great.l0, rdS_nat l i hil]
              refine Ev.pos (by omega) (Ev.pos (by omega) (Ev.pos (by omega) (Ev.neg h4 (Ev.neg h5 ?_))))
              rw [wrap_id (by omega) (by omega)]
              exact hb
            · rw [List.drop_eq_getElem_cons hil] at hx
              rcases List.mem_cons.1 hx with rfl | hx
              · omega
              · exact hb2 e x hx
    obtain ⟨b, hb, hb2⟩ := key l.length 0 (by omega) (by omega)
    refine ⟨b, Ev.neg h hb, fun e => ⟨by omega, fun x hx => hb2 e x (by simpa using hx)⟩⟩

end Go.Proofs.Ytjgpggjjgimibaa.L

/- The document's lead and rest of a pair: the walk. -/
namespace Go.Proofs.Ytjgpggjjgimibaa.L
open Go.RowKit Go.Proofs.Ytjgpggjjgimibaa.Q Go.Proofs.YtjgpggjjgimibaaW.PrintWords Go.Proofs.YtjgpggjjgimibaaW.PrintLast Go.Proofs.YtjgpggjjgimibaaW.PrintMore Go.Proofs.YtjgpggjjgimibaaW.MapB Go.Proofs.YtjgpggjjgimibaaW.Lib
set_option linter.unusedVariables false
set_option linter.unusedSimpArgs false
theorem heap_lt' (w : World) (o : Obj) {k : Nat} (h : k < w.heap.size) : (w.alloc o).heap[k]? = w.heap[k]? := (below_alloc (Below.refl w.heap.size w) o).block k h
theorem keep1a {w : World} {a : Addr} {v : Value} {o1 : Obj} (h : w.cell? a = some v) : (w.alloc o1).cell? a = some v :=
  ((below_alloc (Below.refl w.heap.size w) o1).cell (World.block_lt_of_cell? w _ h)).trans h
theorem keep2a {w : World} {a : Addr} {v : Value} {o1 o2 : Obj} (h : w.cell? a = some v) : ((w.alloc o1).alloc o2).cell? a = some v :=
  ((below_alloc (below_alloc (Below.refl w.heap.size w) o1) o2).cell (World.block_lt_of_cell? w _ h)).trans h
end Go.Proofs.Ytjgpggjjgimibaa.L

/- BoundMeans: the walk. -/
namespace Go.Proofs.Ytjgpggjjgimibaa.L
open Go.RowKit Go.Proofs.Ytjgpggjjgimibaa.Q Go.Proofs.YtjgpggjjgimibaaW.PrintWords Go.Proofs.YtjgpggjjgimibaaW.PrintLast Go.Proofs.YtjgpggjjgimibaaW.PrintMore Go.Proofs.YtjgpggjjgimibaaW.MapB Go.Proofs.YtjgpggjjgimibaaW.Lib
set_option linter.unusedVariables false
set_option linter.unusedSimpArgs false
theorem heap_newA (w : World) (cx : Array Value) (t : TypeId) (o3 : Obj) : ((w.alloc (.cells cx t)).alloc o3).heap[w.heap.size]? = some (.cells cx t (0, 0)) :=
  (heap_lt' (w.alloc (.cells cx t)) o3 (by simp)).trans (MapKept.heap_alloc w _).1
theorem heap_newB (w : World) (o1 : Obj) (cx : Array Value) (t : TypeId) : ((w.alloc o1).alloc (.cells cx t)).heap[w.heap.size + 1]? = some (.cells cx t (0, 0)) := by
  have e : (w.alloc o1).heap.size = w.heap.size + 1 := by simp
  have h := (MapKept.heap_alloc (w.alloc o1) (.cells cx t)).1
  rw [e] at h
  exact h
theorem pairsB_mem {l : List S42} {ps : List Int} {p : S35} (h : p ∈ pairsB l ps) : 0 ≤ p.f0 ∧ p.f0 < l.length ∧ 0 ≤ p.f1 ∧ p.f1 < l.length ∧ mayS (rd_T42 l p.f0) = true ∧ mayS (rd_T42 l p.f1) = true := by
  unfold pairsB at h
  split at h
  · rename_i h1
    obtain ⟨i, hi, hp⟩ := List.mem_flatMap.1 h
    have hi' := List.mem_range.1 hi
    unfold pairAt at hp
    split at hp
    · rename_i h2
      rw [List.mem_singleton.1 hp]
      have h3 := inP_rd (ps := ps) (by rw [← h1.1]; exact h1.2) i (by omega) (by omega)
      exact ⟨h2.1, by show rd ps i < _; omega, by show (0 : Int) ≤ (i : Int); omega, by show (i : Int) < _; omega, h2.2.2.2.2, h2.2.2.2.1⟩
    · cases hp
  · cases h
theorem rdT_mem (l : List S42) (i : Int) (h0 : 0 ≤ i) (h1 : i < l.length) : rd_T42 l i ∈ l := by
  have hx : i.toNat < l.length := by omega
  rw [show rd_T42 l i = l[i.toNat] by simp [rd_T42, List.getD, hx]]
  exact List.getElem_mem _
theorem rd_mem (l : List Int) (i : Int) (h0 : 0 ≤ i) (h1 : i < l.length) : rd l i ∈ l := by
  have hx : i.toNat < l.length := by omega
  rw [show rd l i = l[i.toNat] by simp [rd, List.getD, hx]]
  exact List.getElem_mem _
theorem numsL_nn (l : List S42) : ∀ x ∈ numsL l, 0 ≤ x := by
  intro x hx
  unfold numsL at hx
  obtain ⟨s, hs, rfl⟩ := List.mem_map.1 hx
  omega
/-- What a pair's edges come to. -/
theorem one_pair_edges (l : List S42) (nums : List Int) (p : S35) (x y : S42) (hx : rd_T42 l p.f0 = x) (hy : rd_T42 l p.f1 = y) (h0 : 0 ≤ p.f0) (h1 : p.f0 < l.length) (h2 : 0 ≤ p.f1) (h3 : p.f1 < l.length) (mx : mayS x = true) (my : mayS y = true) :
    edgesB mayS l nums [p] = [⟨rd nums p.f1, rd nums p.f0, y.f6 - x.f6, p, false⟩, ⟨rd nums p.f0, rd nums p.f1, x.f7 - y.f7 - (y.f6 - x.f6), p, true⟩] := by
  have bx := mayB_le mx
  have bY := mayB_le my
  have hg : gapsB mayS l p.f0 p.f1 = (y.f6 - x.f6, x.f7 - y.f7 - (y.f6 - x.f6), true) := by
    unfold gapsB findS
    rw [hx, hy]
    simp only [h0, h1, h2, h3, mx, my, true_and, and_self, if_true]
    rw [wrap_id (i := y.f6 - x.f6) (by omega) (by omega), wrap_id (i := x.f7 - y.f7) (by omega) (by omega), wrap_id (by omega) (by omega)]
  unfold edgesB edgesAt
  simp [hg]
theorem holds_iff (e : S37) (l : List Int) (a b : Int) (h0 : 0 ≤ e.f0) (h1 : e.f0 < l.length) (h2 : 0 ≤ e.f1) (h3 : e.f1 < l.length) (h : rd l e.f1 ≤ rd l e.f0 + e.f2 ↔ a ≤ b) : holdsB e l = decide (a ≤ b) := by
  unfold holdsB
  rw [if_pos ⟨h0, h2, h1, h3⟩]
  exact decide_eq_decide.2 h
set_option maxHeartbeats 16000000 in
set_option maxRecDepth 100000 in
theorem means_calls (l0 : List S42) (l1 : List Int) (hf : ∀ s ∈ l0, fitR s) (hi : ∀ x ∈ l1, inI x) (hl1 : l1.length ≤ 17592186044416) (A0 A1 : Option Addr) (c0 c1_ : Nat) (w : World) (hr0 : Kd.C k42 w A0 l0.length l0) (hc0 : l0.length ≤ c0) (hr1 : Kd.C (Kd.int .i64) w A1 l1.length l1) (hc1 : l1.length ≤ c1_) :
    Calls Try.prog 5 #[.slice A0 l0.length c0, .slice A1 l1.length c1_] w fun e w' => e = .returned (.bool true) ∧ Below w.heap.size w w' := by
  have hu35 := Try.underlying35
  have HR0 := Aside0.mk hr0
  have HR1 := Aside0.mk hr1
  have HC0 := Aside0.mk hc0
  have HC1 := Aside0.mk hc1
  have HL1 := Aside0.mk hl1
  have HF := Aside0.mk hf
  have HI := Aside0.mk hi
  have QF := Aside0.mk fixed_calls
  obtain ⟨b, hb, hb2⟩ := great_ev l0
  obtain ⟨kg, hkg⟩ := Ev.rounds hb
  have QG := Aside0.mk (merkhetlaw04_Great.calls kg A0 c0 l0 b w hr0 hc0 hkg)
  clear hb hkg hf hi hr0 hr1 hc0 hc1 hl1
  go_enter Try.func5, Try.ntmps5
  cases b with
  | true =>
    go_wp2_with (first
      | (go_at_call 11; refine QG.out.mono ?_; rintro e w1 ⟨rfl, hb⟩; have HB := Aside0.mk hb; clear hb)
      | (go_at_call 12; refine (QF.out _).mono ?_; rintro e w2 ⟨rfl, hb⟩; have HB2 := Aside0.mk (below_step HB.out hb); clear hb))
    go_ret
    exact ⟨rfl, HB2.out⟩
  | false =>
  have h60 := (hb2 rfl).1
  have HL0 := Aside0.mk h60
  clear hb2 h60
  go_wp2_with (go_at_call 11; refine QG.out.mono ?_; rintro e w1 ⟨rfl, hb⟩; have HB1 := Aside0.mk hb; clear hb)
  go_loopg [24] l1.length (fun kq v24 w' => ∃ x24 : Int, v24 = .int .i64 x24 ∧ Aside0 (0 ≤ x24 ∧ x24 + kq = l1.length) ∧ Aside0 (∀ o ∈ l1.take x24.toNat, -288230376151711744 ≤ o ∧ o ≤ 288230376151711744) ∧ Aside0 (Below w.heap.size w w'))
  case atStart => exact ⟨0, rfl, ⟨by omega, by omega⟩, ⟨by simp⟩, HB1⟩
  case round =>
    obtain ⟨x24, rfl, HK, HO, HB⟩ := hrel
    by_cases c1 : x24 < (l1.length : Int)
    · have c1b := decide_eq_true c1
      have p1 : 0 ≤ x24 := HK.out.1
      obtain ⟨ad, e1, hx⟩ := Kd.at_int HR1.out x24 p1 c1
      cases e1
      replace hx := (HB.out.cell (World.block_lt_of_cell? w _ hx)).trans hx
      have hit : x24.toNat < l1.length := by omega
      have HNx := Aside0.mk (show l1.take (x24 + 1).toNat = l1.take x24.toNat ++ [rd l1 x24] from by
        rw [show (x24 + 1).toNat = x24.toNat + 1 by omega, List.take_succ_eq_append_getElem hit]
        simp [rd, List.getD, hit])
      have P1 := Aside0.mk p1
      have Q1 := Aside0.mk c1
      have W1 := Aside0.mk (show wrap64 (x24 + 1) = x24 + 1 from by unfold wrap64; have := HL1.out; have := P1.out; have := Q1.out; omega)
      clear hit
      generalize rd l1 x24 = o at *
      replace p1 := eq_true p1
      replace c1 := eq_true c1
      obtain ⟨k1, rfl⟩ : ∃ k1, gk = k1 + 1 := ⟨gk - 1, by have := HK.out; have := Q1.out; omega⟩
      by_cases d1 : 288230376151711744 < o
      · have d1b := decide_eq_true d1
        clear d1
        go_wp2_with (go_at_call 12; refine (QF.out _).mono ?_; rintro e w2 ⟨rfl, hb⟩; have HB2 := Aside0.mk (below_step HB.out hb); clear hb)
        go_ret
        exact ⟨rfl, HB2.out⟩
      by_cases d2 : o < -288230376151711744
      · have d1b := decide_eq_false d1
        have d2b := decide_eq_true d2
        clear d1 d2
        go_wp2_with (go_at_call 12; refine (QF.out _).mono ?_; rintro e w2 ⟨rfl, hb⟩; have HB2 := Aside0.mk (below_step HB.out hb); clear hb)
        go_ret
        exact ⟨rfl, HB2.out⟩
      have d1b := decide_eq_false d1
      have d2b := decide_eq_false d2
      have HOo := Aside0.mk (show -288230376151711744 ≤ o ∧ o ≤ 288230376151711744 from ⟨by omega, by omega⟩)
      clear d1 d2
      go_wp2_with fail
      go_roundg k1
      case measure => omega
      case rel => exact ⟨x24 + 1, by rw [W1.out], ⟨by have := P1.out; omega, by have := HK.out; omega⟩, ⟨by
        rw [HNx.out]
        intro y hy
        rcases List.mem_append.1 hy with h | h
        · exact HO.out y h
        · rw [List.mem_singleton.1 h]; exact HOo.out⟩, HB⟩
    · have c1b := decide_eq_false c1
      have hx : x24.toNat = l1.length := by have := HK.out; omega
      have ha := HO.out
      rw [hx, List.take_length] at ha
      have HOA := Aside0.mk ha
      obtain ⟨k13, hk13⟩ := Ev.rounds (rof13_ev l0 (by have := HL0.out; omega) (fun s hs => (HF.out s hs).1.2.1))
      obtain ⟨k10, hk10⟩ := Ev.rounds (par_ev l0 (by have := HL0.out; omega))
      obtain ⟨k12, hk12⟩ := Ev.rounds (rpairs_ev l0 (by have := HL0.out; omega) HF.out (parL l0) (by rw [parL_length]; have := HL0.out; omega))
      have Q13 := Aside0.mk (fun (W : World) (hb : Below w.heap.size w W) => merkhetref13_Of.calls k13 A0 c0 l0 (numsL l0) W (Kd.C_below HR0.out hb) HC0.out hk13)
      have Q10 := Aside0.mk (fun (W : World) (hb : Below w.heap.size w W) => merkhetref10_Of.calls k10 A0 c0 l0 (parL l0) W (Kd.C_below HR0.out hb) HC0.out hk10)
      have Q12 := Aside0.mk (fun (W : World) (hb : Below w.heap.size w W) (A2 : Option Addr) (c2 : Nat) (hr2 : Kd.C (Kd.int .i64) W A2 (parL l0).length (parL l0)) (hc2 : (parL l0).length ≤ c2) => merkhetref12_Of.calls k12 A0 c0 l0 A2 c2 (parL l0) (pairsB l0 (parL l0)) W (Kd.C_below HR0.out hb) HC0.out hr2 hc2 hk12)
      have hnl : (numsL l0).length = l0.length := by unfold numsL; rw [List.length_map]
      have HNl := Aside0.mk hnl
      have HNn := Aside0.mk (numsL_nn l0)
      have HPl := Aside0.mk (pairsB_length l0 (parL l0))
      have HPm := Aside0.mk (fun p (h : p ∈ pairsB l0 (parL l0)) => pairsB_mem h)
      have QE := Aside0.mk (fun (p : S35) (W : World) (k : Nat) (hb : Below w.heap.size w W) (hp : W.heap[k]? = some (.cells #[.int .i64 p.f0, .int .i64 p.f1] 35 (0, 0))) => (show Calls Try.prog 16 #[.slice A0 l0.length c0, .slice (some ⟨k, 0, none⟩) 1 1] W _ from edges_calls mayS l0 (mayS_ev l0 (fun s hs => (HF.out s hs).1)) (by have := HL0.out; omega) (fun s hs => (HF.out s hs).1) [p] (by simp) A0 (some ⟨k, 0, none⟩) c0 1 W (Kd.C_below HR0.out hb) HC0.out (one_pair W k p hp)))
      have HE2 := Aside0.mk (one_pair_edges l0 (numsL l0))
      clear hk13 hk10 hk12 hnl ha hx c1 HO HK
      generalize numsL l0 = nums at *
      generalize pairsB l0 (parL l0) = pairs at *
      generalize parL l0 = par at *
      go_wp2_with (first
        | (go_at_call 22; refine (Q13.out _ HB.out).mono ?_; rintro e w3 ⟨v3, rfl, ho, hb⟩; obtain ⟨A3, c3, rfl⟩ := Kd.R_slice ho; have HB3 := Aside0.mk (below_step HB.out hb); have HN3 := Aside0.mk (Kd.R_lower ho HB.out.size); clear ho hb)
        | (go_at_call 14; refine (Q10.out _ HB3.out).mono ?_; rintro e w4 ⟨v4, rfl, ho, hb⟩; obtain ⟨A4, c4, rfl⟩ := Kd.R_slice ho; have HB4 := Aside0.mk (below_step HB3.out hb); have HN4 := Aside0.mk (Kd.R_below HN3.out hb); have HP4 := Aside0.mk (Kd.R_reads' ho); clear ho hb)
        | (go_at_call 13; refine (Q12.out _ HB4.out _ _ HP4.out.2.2 HP4.out.2.1).mono ?_; rintro e w5 ⟨v5, rfl, ho, hb⟩; obtain ⟨A5, c5, rfl⟩ := Kd.R_slice ho; have HB5 := Aside0.mk (below_step HB4.out hb); have HN5 := Aside0.mk (Kd.R_below HN4.out hb); have HR5 := Aside0.mk (Kd.R_lower ho HB4.out.size); clear ho hb))
      go_loopg [43] pairs.length (fun kq v43 w' => ∃ x43 : Int, v43 = .int .i64 x43 ∧ Aside0 (0 ≤ x43 ∧ x43 + kq = pairs.length) ∧ Aside0 (Kd.R (Kd.int .i64) 3 w' w.heap.size (fun _ => True) (.slice A3 nums.length c3) nums) ∧ Aside0 (Kd.R k35 35 w' w.heap.size (fun _ => True) (.slice A5 pairs.length c5) pairs) ∧ Aside0 (Below w.heap.size w w'))
      case atStart => exact ⟨0, rfl, ⟨by omega, by omega⟩, HN5, HR5, HB5⟩
      case round =>
        obtain ⟨x43, rfl, HK, HN, HP, HB⟩ := hrel
        by_cases c1 : x43 < (pairs.length : Int)
        · have c2b := decide_eq_true c1
          have p1 : 0 ≤ x43 := HK.out.1
          obtain ⟨ad5, e5, hp0, hp1⟩ := at_T35 (Kd.R_reads' HP.out).2.2 x43 p1 c1
          cases e5
          have hit : x43.toNat < pairs.length := by omega
          have hpm : rd_T35 pairs x43 ∈ pairs := by
            rw [show rd_T35 pairs x43 = pairs[x43.toNat] by simp [rd_T35, List.getD, hit]]
            exact List.getElem_mem _
          obtain ⟨i0, i1, i2, i3, mx, my⟩ := HPm.out _ hpm
          have P1 := Aside0.mk p1
          have Q1 := Aside0.mk c1
          have W1 := Aside0.mk (show wrap64 (x43 + 1) = x43 + 1 from by unfold wrap64; have := HPl.out; have := HL0.out; have := P1.out; have := Q1.out; omega)
          clear hit hpm
          generalize rd_T35 pairs x43 = p at *
          replace p1 := eq_true p1
          replace c1 := eq_true c1
          obtain ⟨k1, rfl⟩ : ∃ k1, gk = k1 + 1 := ⟨gk - 1, by have := HK.out; have := Q1.out; omega⟩
          obtain ⟨ad0, e0, hx0, hx1, hx2, hx3, hx4, hx5, hx6, hx7⟩ := at_T42 HR0.out p.f0 i0 i1
          cases e0
          obtain ⟨ad0', e0, hy0, hy1, hy2, hy3, hy4, hy5, hy6, hy7⟩ := at_T42 HR0.out p.f1 i2 i3
          obtain rfl : ad0 = ad0' := by injection e0
          have fx := HF.out _ (rdT_mem l0 p.f0 i0 i1)
          have fy := HF.out _ (rdT_mem l0 p.f1 i2 i3)
          have HED := Aside0.mk (HE2.out p _ _ rfl rfl i0 i1 i2 i3 mx my)
          have BX := Aside0.mk (mayB_le mx)
          have BY := Aside0.mk (mayB_le my)
          have t1 := i1
          have t3 := i3
          rw [← HNl.out] at i1 i3
          have HC := Aside0.mk (HNn.out _ (rd_mem nums p.f0 i0 i1))
          have HS := Aside0.mk (HNn.out _ (rd_mem nums p.f1 i2 i3))
          obtain ⟨ad3, e3, hn0⟩ := Kd.at_int (Kd.R_reads' HN.out).2.2 p.f0 i0 i1
          cases e3
          obtain ⟨ad3', e3, hn1⟩ := Kd.at_int (Kd.R_reads' HN.out).2.2 p.f1 i2 i3
          obtain rfl : ad3 = ad3' := by injection e3
          have QP := Aside0.mk (QE.out p)
          clear mx my fx fy QE HE2 HPm Q13 Q10 Q12 QG
          generalize rd_T42 l0 p.f0 = x at *
          generalize rd_T42 l0 p.f1 = y at *
          rw [HED.out] at QP
          clear HED
          generalize rd nums p.f0 = c at *
          generalize rd nums p.f1 = s at *
          replace i0 := eq_true i0
          replace i1 := eq_true i1
          replace i2 := eq_true i2
          replace i3 := eq_true i3
          replace t1 := eq_true t1
          replace t3 := eq_true t3
          have hsl : Below w.heap.size w ((wr.alloc (.cells #[.int .i64 p.f0, .int .i64 p.f1] 35)).alloc (.cells #[.int .i64 p.f0, .int .i64 p.f1] 35)) := below_alloc (below_alloc HB.out _) _
          have hpk : ((wr.alloc (.cells #[.int .i64 p.f0, .int .i64 p.f1] 35)).alloc (.cells #[.int .i64 p.f0, .int .i64 p.f1] 35)).heap[wr.heap.size + 1]? = some (.cells #[.int .i64 p.f0, .int .i64 p.f1] 35 (0, 0)) := by
            have e : (wr.alloc (.cells #[.int .i64 p.f0, .int .i64 p.f1] 35)).heap.size = wr.heap.size + 1 := by simp
            rw [← e]; exact (MapKept.heap_alloc _ _).1
          have QO := Aside0.mk (QP.out _ _ hsl hpk)
          have HSL := Aside0.mk hsl
          clear hsl hpk QP
          go_wp2_with (go_at_call 16; go_loud ((with_reducible refine QO.out.mono ?_); rintro e w6 ⟨v6, rfl, ho, hb⟩; obtain ⟨A6, c6, rfl⟩ := Kd.R_slice ho))
          have hbw : Below wr.heap.size wr w6 := below_step (below_alloc (below_alloc (Below.refl wr.heap.size wr) _) _) hb
          have bp : w6.heap[wr.heap.size]? = some (.cells #[.int .i64 p.f0, .int .i64 p.f1] 35 (0, 0)) := (hb.block wr.heap.size (by simp; omega)).trans ((heap_lt' _ _ (by simp)).trans (MapKept.heap_alloc wr _).1)
          have kp0 : w6.cell? ⟨wr.heap.size, 0, none⟩ = some (.int .i64 p.f0) := (blk_cell bp 0).trans rfl
          have kp1 : w6.cell? ⟨wr.heap.size, 1, none⟩ = some (.int .i64 p.f1) := (blk_cell bp 1).trans rfl
          have hm0 := (hbw.cell (World.block_lt_of_cell? wr _ hn0)).trans hn0
          have hm1 := (hbw.cell (World.block_lt_of_cell? wr _ hn1)).trans hn1
          have HO6 := Aside0.mk ho
          have HBa := Aside0.mk hb
          clear hb ho hbw bp
          go_cut [9, 10, 11, 12, 41, 42, 43] (fun v9 v10 v11 v12 v41 v42 v43 wc => v9 = .pointer (some ⟨wr.heap.size, 0, none⟩) ∧ v10 = .slice A6 2 c6 ∧ v11 = .int .i64 c ∧ v12 = .int .i64 s ∧ v41 = .slice (some ad5) pairs.length c5 ∧ v42 = .int .i64 pairs.length ∧ v43 = .int .i64 x43 ∧ Aside0 (Kd.R k37 37 wc ((wr.alloc (.cells #[.int .i64 p.f0, .int .i64 p.f1] 35)).alloc (.cells #[.int .i64 p.f0, .int .i64 p.f1] 35)).heap.size (fun _ => True) (.slice A6 2 c6) [⟨s, c, y.f6 - x.f6, p, false⟩, ⟨c, s, x.f7 - y.f7 - (y.f6 - x.f6), p, true⟩]) ∧ Aside0 (Below ((wr.alloc (.cells #[.int .i64 p.f0, .int .i64 p.f1] 35)).alloc (.cells #[.int .i64 p.f0, .int .i64 p.f1] 35)).heap.size ((wr.alloc (.cells #[.int .i64 p.f0, .int .i64 p.f1] 35)).alloc (.cells #[.int .i64 p.f0, .int .i64 p.f1] 35)) wc))
          case first =>
            go_quiet (fail)
            go_wp2_with fail
            go_meet
            case rel => exact ⟨rfl, rfl, rfl, rfl, rfl, rfl, rfl, ⟨Kd.R_drewN HO6.out _⟩, ⟨pw_below_drewN HBa.out _⟩⟩
          case rest =>
          clear kp0 kp1 hm0 hm1 HO6 HBa
          obtain ⟨rfl, rfl, rfl, rfl, rfl, rfl, rfl, HO6, HBa⟩ := hcut
          have ho := HO6.out
          have hb := HBa.out
          clear HO6 HBa
          obtain ⟨w7, rfl⟩ : ∃ w7 : World, w7 = wc := ⟨_, rfl⟩
          have HB6 := Aside0.mk (below_step HSL.out hb)
          have hbw : Below wr.heap.size wr w7 := below_step (below_alloc (below_alloc (Below.refl wr.heap.size wr) _) _) hb
          have bp : w7.heap[wr.heap.size]? = some (.cells #[.int .i64 p.f0, .int .i64 p.f1] 35 (0, 0)) := (hb.block wr.heap.size (by simp; omega)).trans ((heap_lt' _ _ (by simp)).trans (MapKept.heap_alloc wr _).1)
          have kp0 : w7.cell? ⟨wr.heap.size, 0, none⟩ = some (.int .i64 p.f0) := (blk_cell bp 0).trans rfl
          have kp1 : w7.cell? ⟨wr.heap.size, 1, none⟩ = some (.int .i64 p.f1) := (blk_cell bp 1).trans rfl
          replace hn0 := (hbw.cell (World.block_lt_of_cell? wr _ hn0)).trans hn0
          replace hn1 := (hbw.cell (World.block_lt_of_cell? wr _ hn1)).trans hn1
          replace hx0 := (HB6.out.cell (World.block_lt_of_cell? w _ hx0)).trans hx0
          replace hx1 := (HB6.out.cell (World.block_lt_of_cell? w _ hx1)).trans hx1
          replace hx2 := (HB6.out.cell (World.block_lt_of_cell? w _ hx2)).trans hx2
          replace hx3 := (HB6.out.cell (World.block_lt_of_cell? w _ hx3)).trans hx3
          replace hx4 := (HB6.out.cell (World.block_lt_of_cell? w _ hx4)).trans hx4
          replace hx5 := (HB6.out.cell (World.block_lt_of_cell? w _ hx5)).trans hx5
          replace hx6 := (HB6.out.cell (World.block_lt_of_cell? w _ hx6)).trans hx6
          replace hx7 := (HB6.out.cell (World.block_lt_of_cell? w _ hx7)).trans hx7
          replace hy0 := (HB6.out.cell (World.block_lt_of_cell? w _ hy0)).trans hy0
          replace hy1 := (HB6.out.cell (World.block_lt_of_cell? w _ hy1)).trans hy1
          replace hy2 := (HB6.out.cell (World.block_lt_of_cell? w _ hy2)).trans hy2
          replace hy3 := (HB6.out.cell (World.block_lt_of_cell? w _ hy3)).trans hy3
          replace hy4 := (HB6.out.cell (World.block_lt_of_cell? w _ hy4)).trans hy4
          replace hy5 := (HB6.out.cell (World.block_lt_of_cell? w _ hy5)).trans hy5
          replace hy6 := (HB6.out.cell (World.block_lt_of_cell? w _ hy6)).trans hy6
          replace hy7 := (HB6.out.cell (World.block_lt_of_cell? w _ hy7)).trans hy7
          obtain ⟨ad6, e6, he0, he1, he2, he3, he4, he5⟩ := at_T37 (Kd.R_reads' ho).2.2 0 (by decide) (by simp)
          cases e6
          obtain ⟨ad6', e6, hg0, hg1, hg2, hg3, hg4, hg5⟩ := at_T37 (Kd.R_reads' ho).2.2 1 (by decide) (by simp)
          obtain rfl : ad6 = ad6' := by injection e6
          have z0 : ad6.add (Int.toNat 0 * 6) = ad6 := by rw [show Int.toNat 0 * 6 = 0 from rfl, Addr.add_zero']
          rw [z0] at he0 he1 he2 he3 he4 he5
          have HEs := Aside0.mk (show Kd.C k37 w7 (some ad6) 2 [⟨s, c, y.f6 - x.f6, p, false⟩, ⟨c, s, x.f7 - y.f7 - (y.f6 - x.f6), p, true⟩] from (Kd.R_reads' ho).2.2)
          have HN6 := Aside0.mk (Kd.R_below HN.out hbw)
          have HP6 := Aside0.mk (Kd.R_below HP.out hbw)
          clear hb hbw bp ho z0 hp0 hp1 HN HP QO HSL e6
          replace he0 : w7.cell? ad6 = some (.int .i64 s) := he0
          replace he1 : w7.cell? ⟨ad6.block, ad6.off + 1, none⟩ = some (.int .i64 c) := he1
          replace he2 : w7.cell? ⟨ad6.block, ad6.off + 2, none⟩ = some (.int .i64 (y.f6 - x.f6)) := he2
          replace he3 : w7.cell? ⟨ad6.block, ad6.off + 3, none⟩ = some (.int .i64 p.f0) := he3
          replace he4 : w7.cell? ⟨ad6.block, ad6.off + 4, none⟩ = some (.int .i64 p.f1) := he4
          replace he5 : w7.cell? ⟨ad6.block, ad6.off + 5, none⟩ = some (.bool false) := he5
          replace hg0 : w7.cell? ⟨ad6.block, ad6.off + 6, none⟩ = some (.int .i64 c) := hg0
          replace hg1 : w7.cell? ⟨ad6.block, ad6.off + 6 + 1, none⟩ = some (.int .i64 s) := hg1
          replace hg2 : w7.cell? ⟨ad6.block, ad6.off + 6 + 2, none⟩ = some (.int .i64 (x.f7 - y.f7 - (y.f6 - x.f6))) := hg2
          replace hg3 : w7.cell? ⟨ad6.block, ad6.off + 6 + 3, none⟩ = some (.int .i64 p.f0) := hg3
          replace hg4 : w7.cell? ⟨ad6.block, ad6.off + 6 + 4, none⟩ = some (.int .i64 p.f1) := hg4
          replace hg5 : w7.cell? ⟨ad6.block, ad6.off + 6 + 5, none⟩ = some (.bool true) := hg5
          by_cases g1 : (l1.length : Int) ≤ c
          · have g1b := decide_eq_true g1
            clear g1
            go_wp2_with fail
            go_roundg k1
            case measure => omega
            case rel => exact ⟨x43 + 1, by rw [W1.out], ⟨by have := P1.out; omega, by have := HK.out; omega⟩, HN6, HP6, HB6⟩
          by_cases g2 : (l1.length : Int) ≤ s
          · have g1b := decide_eq_false g1
            have g2b := decide_eq_true g2
            clear g1 g2
            go_wp2_with fail
            go_roundg k1
            case measure => omega
            case rel => exact ⟨x43 + 1, by rw [W1.out], ⟨by have := P1.out; omega, by have := HK.out; omega⟩, HN6, HP6, HB6⟩
          have g1b := decide_eq_false g1
          have g2b := decide_eq_false g2
          go_upto_region 18 with (fail)
          go_cut [9, 10, 11, 12, 13, 14, 41, 42, 43] (fun v9 v10 v11 v12 v13 v14 v41 v42 v43 wd => v9 = .pointer (some ⟨wr.heap.size, 0, none⟩) ∧ v10 = .slice (some ad6) 2 c6 ∧ v11 = .int .i64 c ∧ v12 = .int .i64 s ∧ v41 = .slice (some ad5) pairs.length c5 ∧ v42 = .int .i64 pairs.length ∧ v43 = .int .i64 x43 ∧ ∃ kx ky : Nat, v13 = .pointer (some ⟨kx, 0, none⟩) ∧ v14 = .pointer (some ⟨ky, 0, none⟩) ∧ Aside0 (wd.heap[kx]? = some (.cells #[.int .u64 x.f0, .int .u64 x.f1, .int .u64 x.f2, .int .u8 x.f3, .string x.f4, .string x.f5, .int .i64 x.f6, .int .i64 x.f7] 42 (0, 0))) ∧ Aside0 (wd.heap[ky]? = some (.cells #[.int .u64 y.f0, .int .u64 y.f1, .int .u64 y.f2, .int .u8 y.f3, .string y.f4, .string y.f5, .int .i64 y.f6, .int .i64 y.f7] 42 (0, 0))) ∧ Aside0 (Below w7.heap.size w7 wd))
          case first =>
            clear he0 he1 he2 he3 he4 he5 hg0 hg1 hg2 hg3 hg4 hg5 hn0 hn1
            have jp0 := fun o1 => keep1a (o1 := o1) kp0
            have jp1 := fun o1 => keep1a (o1 := o1) kp1
            have kq0 := fun o1 o2 => keep2a (o1 := o1) (o2 := o2) kp0
            have kq1 := fun o1 o2 => keep2a (o1 := o1) (o2 := o2) kp1
            have jx0 := fun o1 => keep1a (o1 := o1) hx0
            have kx0 := fun o1 o2 => keep2a (o1 := o1) (o2 := o2) hx0
            have jx1 := fun o1 => keep1a (o1 := o1) hx1
            have kx1 := fun o1 o2 => keep2a (o1 := o1) (o2 := o2) hx1
            have jx2 := fun o1 => keep1a (o1 := o1) hx2
            have kx2 := fun o1 o2 => keep2a (o1 := o1) (o2 := o2) hx2
            have jx3 := fun o1 => keep1a (o1 := o1) hx3
            have kx3 := fun o1 o2 => keep2a (o1 := o1) (o2 := o2) hx3
            have jx4 := fun o1 => keep1a (o1 := o1) hx4
            have kx4 := fun o1 o2 => keep2a (o1 := o1) (o2 := o2) hx4
            have jx5 := fun o1 => keep1a (o1 := o1) hx5
            have kx5 := fun o1 o2 => keep2a (o1 := o1) (o2 := o2) hx5
            have jx6 := fun o1 => keep1a (o1 := o1) hx6
            have kx6 := fun o1 o2 => keep2a (o1 := o1) (o2 := o2) hx6
            have jx7 := fun o1 => keep1a (o1 := o1) hx7
            have kx7 := fun o1 o2 => keep2a (o1 := o1) (o2 := o2) hx7
            have jy0 := fun o1 => keep1a (o1 := o1) hy0
            have ky0 := fun o1 o2 => keep2a (o1 := o1) (o2 := o2) hy0
            have jy1 := fun o1 => keep1a (o1 := o1) hy1
            have ky1 := fun o1 o2 => keep2a (o1 := o1) (o2 := o2) hy1
            have jy2 := fun o1 => keep1a (o1 := o1) hy2
            have ky2 := fun o1 o2 => keep2a (o1 := o1) (o2 := o2) hy2
            have jy3 := fun o1 => keep1a (o1 := o1) hy3
            have ky3 := fun o1 o2 => keep2a (o1 := o1) (o2 := o2) hy3
            have jy4 := fun o1 => keep1a (o1 := o1) hy4
            have ky4 := fun o1 o2 => keep2a (o1 := o1) (o2 := o2) hy4
            have jy5 := fun o1 => keep1a (o1 := o1) hy5
            have ky5 := fun o1 o2 => keep2a (o1 := o1) (o2 := o2) hy5
            have jy6 := fun o1 => keep1a (o1 := o1) hy6
            have ky6 := fun o1 o2 => keep2a (o1 := o1) (o2 := o2) hy6
            have jy7 := fun o1 => keep1a (o1 := o1) hy7
            have ky7 := fun o1 o2 => keep2a (o1 := o1) (o2 := o2) hy7
            go_region
            all_goals (go_wp2_with fail; go_meet; case rel => exact ⟨rfl, rfl, rfl, rfl, rfl, rfl, rfl, _, _, rfl, rfl, ⟨by first | exact heap_newA _ _ _ _ | exact heap_newB _ _ _ _⟩, ⟨by first | exact heap_newB _ _ _ _ | exact heap_newA _ _ _ _⟩, ⟨by first | exact below_alloc (below_alloc (pw_below_drewN (Below.refl w7.heap.size w7) _) _) _ | exact pw_below_drewN (below_alloc (below_alloc (Below.refl w7.heap.size w7) _) _) _ | exact below_drew (pw_below_drewN (below_alloc (below_alloc (Below.refl w7.heap.size w7) _) _) _)⟩⟩)
          case rest =>
            obtain ⟨rfl, rfl, rfl, rfl, rfl, rfl, rfl, kx, ky, rfl, rfl, BXc, BYc, HBc⟩ := hcut
            obtain ⟨w8, rfl⟩ : ∃ w8 : World, w8 = wc := ⟨_, rfl⟩
            have kx6 : w8.cell? ⟨kx, 6, none⟩ = some (.int .i64 x.f6) := (blk_cell BXc.out 6).trans rfl
            have kx7 : w8.cell? ⟨kx, 7, none⟩ = some (.int .i64 x.f7) := (blk_cell BXc.out 7).trans rfl
            have ky6 : w8.cell? ⟨ky, 6, none⟩ = some (.int .i64 y.f6) := (blk_cell BYc.out 6).trans rfl
            have ky7 : w8.cell? ⟨ky, 7, none⟩ = some (.int .i64 y.f7) := (blk_cell BYc.out 7).trans rfl
            replace he0 := (HBc.out.cell (World.block_lt_of_cell? w7 _ he0)).trans he0
            replace he1 := (HBc.out.cell (World.block_lt_of_cell? w7 _ he1)).trans he1
            replace he2 := (HBc.out.cell (World.block_lt_of_cell? w7 _ he2)).trans he2
            replace he3 := (HBc.out.cell (World.block_lt_of_cell? w7 _ he3)).trans he3
            replace he4 := (HBc.out.cell (World.block_lt_of_cell? w7 _ he4)).trans he4
            replace he5 := (HBc.out.cell (World.block_lt_of_cell? w7 _ he5)).trans he5
            replace hg0 := (HBc.out.cell (World.block_lt_of_cell? w7 _ hg0)).trans hg0
            replace hg1 := (HBc.out.cell (World.block_lt_of_cell? w7 _ hg1)).trans hg1
            replace hg2 := (HBc.out.cell (World.block_lt_of_cell? w7 _ hg2)).trans hg2
            replace hg3 := (HBc.out.cell (World.block_lt_of_cell? w7 _ hg3)).trans hg3
            replace hg4 := (HBc.out.cell (World.block_lt_of_cell? w7 _ hg4)).trans hg4
            replace hg5 := (HBc.out.cell (World.block_lt_of_cell? w7 _ hg5)).trans hg5
            have HB8 := Aside0.mk (below_step HB6.out HBc.out)
            have HE8 := Aside0.mk (Kd.C_below HEs.out HBc.out)
            have HN8 := Aside0.mk (Kd.R_below HN6.out HBc.out)
            have HP8 := Aside0.mk (Kd.R_below HP6.out HBc.out)
            have u1 : c < (l1.length : Int) := by omega
            have u3 : s < (l1.length : Int) := by omega
            obtain ⟨ad1, e1, ho0⟩ := Kd.at_int HR1.out c HC.out u1
            cases e1
            obtain ⟨ad1', e1, ho1⟩ := Kd.at_int HR1.out s HS.out u3
            obtain rfl : ad1 = ad1' := by injection e1
            replace ho0 := (HB8.out.cell (World.block_lt_of_cell? w _ ho0)).trans ho0
            replace ho1 := (HB8.out.cell (World.block_lt_of_cell? w _ ho1)).trans ho1
            have ob0 := HOA.out _ (rd_mem l1 c HC.out u1)
            have ob1 := HOA.out _ (rd_mem l1 s HS.out u3)
            have bx := BX.out
            have bY := BY.out
            have hH0 : holdsB ⟨s, c, y.f6 - x.f6, p, false⟩ l1 = decide (x.f6 + rd l1 c ≤ y.f6 + rd l1 s) := holds_iff _ _ _ _ HS.out u3 HC.out u1 (by show rd l1 c ≤ rd l1 s + (y.f6 - x.f6) ↔ _; omega)
            have hH1 : holdsB ⟨c, s, x.f7 - y.f7 - (y.f6 - x.f6), p, true⟩ l1 = decide (y.f6 + y.f7 + rd l1 s ≤ x.f6 + x.f7 + rd l1 c) := holds_iff _ _ _ _ HC.out u1 HS.out u3 (by show rd l1 s ≤ rd l1 c + (x.f7 - y.f7 - (y.f6 - x.f6)) ↔ _; omega)
            have hi0 : inI (y.f6 - x.f6) := by unfold inI; omega
            have hi1 : inI (x.f7 - y.f7 - (y.f6 - x.f6)) := by unfold inI; omega
            obtain ⟨fr, hfr⟩ : ∃ fr, x.f6 + rd l1 c = fr := ⟨_, rfl⟩
            have hwfr : IntKind.i64.wrap (x.f6 + rd l1 c) = fr := ((i64_w _).trans (wrap_id (by omega) (by omega))).trans hfr
            have hvfr : wrap64 (x.f6 + rd l1 c) = fr := (wrap_id (by omega) (by omega)).trans hfr
            obtain ⟨xe, hxe⟩ : ∃ xe, x.f6 + x.f7 = xe := ⟨_, rfl⟩
            have hwxe : IntKind.i64.wrap (x.f6 + x.f7) = xe := ((i64_w _).trans (wrap_id (by omega) (by omega))).trans hxe
            have hvxe : wrap64 (x.f6 + x.f7) = xe := (wrap_id (by omega) (by omega)).trans hxe
            obtain ⟨to_, hto_⟩ : ∃ to_, xe + rd l1 c = to_ := ⟨_, rfl⟩
            have hwto_ : IntKind.i64.wrap (xe + rd l1 c) = to_ := ((i64_w _).trans (wrap_id (by omega) (by omega))).trans hto_
            have hvto_ : wrap64 (xe + rd l1 c) = to_ := (wrap_id (by omega) (by omega)).trans hto_
            obtain ⟨fi, hfi⟩ : ∃ fi, y.f6 + rd l1 s = fi := ⟨_, rfl⟩
            have hwfi : IntKind.i64.wrap (y.f6 + rd l1 s) = fi := ((i64_w _).trans (wrap_id (by omega) (by omega))).trans hfi
            have hvfi : wrap64 (y.f6 + rd l1 s) = fi := (wrap_id (by omega) (by omega)).trans hfi
            obtain ⟨ye, hye⟩ : ∃ ye, y.f6 + y.f7 = ye := ⟨_, rfl⟩
            have hwye : IntKind.i64.wrap (y.f6 + y.f7) = ye := ((i64_w _).trans (wrap_id (by omega) (by omega))).trans hye
            have hvye : wrap64 (y.f6 + y.f7) = ye := (wrap_id (by omega) (by omega)).trans hye
            obtain ⟨la, hla⟩ : ∃ la, ye + rd l1 s = la := ⟨_, rfl⟩
            have hwla : IntKind.i64.wrap (ye + rd l1 s) = la := ((i64_w _).trans (wrap_id (by omega) (by omega))).trans hla
            have hvla : wrap64 (ye + rd l1 s) = la := (wrap_id (by omega) (by omega)).trans hla
            rw [hfr, hfi] at hH0
            rw [hxe, hye, hto_, hla] at hH1
            obtain ⟨b1, hb1⟩ : ∃ b1, decide (fr ≤ fi) = b1 := ⟨_, rfl⟩
            obtain ⟨b2, hb2⟩ : ∃ b2, decide (la ≤ to_) = b2 := ⟨_, rfl⟩
            have QH0 : Aside0 (∀ W, Below w.heap.size w W → Calls Try.prog 18 #[.agg #[.int .i64 s, .int .i64 c, .int .i64 (y.f6 - x.f6), .int .i64 p.f0, .int .i64 p.f1, .bool false], .slice (some ad1) l1.length c1_] W fun e w' => e = .returned (.bool b1) ∧ Below W.heap.size W w') := by
              refine ⟨fun W hb => ?_⟩
              have h := holds_calls ⟨s, c, y.f6 - x.f6, p, false⟩ l1 HI.out hi0 (some ad1) c1_ W (Kd.C_below HR1.out hb) HC1.out
              rw [hH0, hb1] at h
              exact h
            have QH1 : Aside0 (∀ W, Below w.heap.size w W → Calls Try.prog 18 #[.agg #[.int .i64 c, .int .i64 s, .int .i64 (x.f7 - y.f7 - (y.f6 - x.f6)), .int .i64 p.f0, .int .i64 p.f1, .bool true], .slice (some ad1) l1.length c1_] W fun e w' => e = .returned (.bool b2) ∧ Below W.heap.size W w') := by
              refine ⟨fun W hb => ?_⟩
              have h := holds_calls ⟨c, s, x.f7 - y.f7 - (y.f6 - x.f6), p, true⟩ l1 HI.out hi1 (some ad1) c1_ W (Kd.C_below HR1.out hb) HC1.out
              rw [hH1, hb2] at h
              exact h
            have QA : Aside0 (∀ W, Below w.heap.size w W → Below w8.heap.size w8 W → Calls Try.prog 20 #[.slice (some ad6) 2 c6, .slice (some ad1) l1.length c1_] W fun e w' => e = .returned (.bool (b1 && b2)) ∧ Below W.heap.size W w') := by
              refine ⟨fun W hb hb8 => ?_⟩
              have h := all_calls [⟨s, c, y.f6 - x.f6, p, false⟩, ⟨c, s, x.f7 - y.f7 - (y.f6 - x.f6), p, true⟩] l1 HI.out (by intro e he; simp only [List.mem_cons, List.not_mem_nil, or_false] at he; rcases he with rfl | rfl; exact hi0; exact hi1) (by simp) (some ad6) (some ad1) c6 c1_ W (Kd.C_below HE8.out hb8) (Kd.C_below HR1.out hb) HC1.out
              rw [show List.all [(⟨s, c, y.f6 - x.f6, p, false⟩ : S37), ⟨c, s, x.f7 - y.f7 - (y.f6 - x.f6), p, true⟩] (fun e => holdsB e l1) = (b1 && b2) from by simp only [List.all_cons, List.all_nil, hH0, hH1, hb1, hb2, Bool.and_true]] at h
              exact h
            clear hH0 hH1 ob0 ob1 bx bY hi0 hi1 hfr hxe hto_ hfi hye hla g1 g2
            have u0 := HC.out
            have u2 := HS.out
            replace u0 := eq_true u0
            replace u1 := eq_true u1
            replace u2 := eq_true u2
            replace u3 := eq_true u3
            generalize rd l1 c = oc at *
            generalize rd l1 s = os at *
            clear hx0 hx1 hx2 hx3 hx4 hx5 hx6 hx7 hy0 hy1 hy2 hy3 hy4 hy5 hy6 hy7 hn0 hn1 kp0 kp1 HB6 HEs HN6 HP6 BXc BYc HBc
            cases b1 <;> cases b2
            all_goals
              go_wp2_with fail
              go_quiet (fail)
              go_wp2_with fail
              go_quiet (fail)
              go_wp2_with (first
                | (go_at_call 18; (with_reducible refine (QH0.out _ ?s1).mono ?_); (case s1 => repeat (first | exact HB8.out | refine pw_below_drewN ?_ _ | refine below_drew ?_)); rintro e w9 ⟨rfl, hb⟩; have HB9 : Aside0 (Below w8.heap.size w8 w9) := ⟨below_step (by repeat (first | exact Below.refl _ _ | refine pw_below_drewN ?_ _ | refine below_drew ?_)) hb⟩; replace hg0 := (HB9.out.cell (World.block_lt_of_cell? w8 _ hg0)).trans hg0; replace hg1 := (HB9.out.cell (World.block_lt_of_cell? w8 _ hg1)).trans hg1; replace hg2 := (HB9.out.cell (World.block_lt_of_cell? w8 _ hg2)).trans hg2; replace hg3 := (HB9.out.cell (World.block_lt_of_cell? w8 _ hg3)).trans hg3; replace hg4 := (HB9.out.cell (World.block_lt_of_cell? w8 _ hg4)).trans hg4; replace hg5 := (HB9.out.cell (World.block_lt_of_cell? w8 _ hg5)).trans hg5;  clear hb QH0)
                | (go_at_call 18; (with_reducible refine (QH1.out _ (below_step HB8.out HB9.out)).mono ?_); rintro e w10 ⟨rfl, hb⟩; have HBx : Aside0 (Below w8.heap.size w8 w10) := ⟨below_step HB9.out hb⟩; clear hb QH1)
                | (go_at_call 20; (with_reducible refine (QA.out _ (below_step HB8.out HBx.out) HBx.out).mono ?_); rintro e w11 ⟨rfl, hb⟩; have HBy : Aside0 (Below w8.heap.size w8 w11) := ⟨below_step HBx.out hb⟩; clear hb QA))
              go_roundg k1
              case measure => omega
              case rel => exact ⟨x43 + 1, by rw [W1.out], ⟨by have := P1.out; omega, by have := HK.out; omega⟩, ⟨Kd.R_below HN8.out HBy.out⟩, ⟨Kd.R_below HP8.out HBy.out⟩, ⟨below_step HB8.out HBy.out⟩⟩
        · have c2b := decide_eq_false c1
          clear c1
          go_wp2_with (go_at_call 12; refine (QF.out _).mono ?_; rintro e w2 ⟨rfl, hb⟩; have HB2 := Aside0.mk (below_step HB.out hb); clear hb)
          go_ret
          exact ⟨rfl, HB2.out⟩
end Go.Proofs.Ytjgpggjjgimibaa.L

-- Written by wip/tools/gp.py, a program of this session round the kit's printer. Lean checks it.
namespace Go.Proofs.Ytjgpggjjgimibaa.N
open Go.RowKit Go.Proofs.Ytjgpggjjgimibaa.Q Go.Proofs.YtjgpggjjgimibaaW.PrintWords Go.Proofs.YtjgpggjjgimibaaW.PrintLast Go.Proofs.YtjgpggjjgimibaaW.PrintMore
attribute [local go_sem] max2_int min2_int max_two min_two max_three min_three max_four min_four   -- for this text's walks alone
set_option linter.unusedVariables false
set_option linter.unusedSimpArgs false
end Go.Proofs.Ytjgpggjjgimibaa.N

-- Written by wip/tools/gp.py, a program of this session round the kit's printer. Lean checks it.
namespace Go.Proofs.Ytjgpggjjgimibaa.N
open Go.RowKit Go.Proofs.Ytjgpggjjgimibaa.Q Go.Proofs.YtjgpggjjgimibaaW.PrintWords Go.Proofs.YtjgpggjjgimibaaW.PrintLast Go.Proofs.YtjgpggjjgimibaaW.PrintMore
attribute [local go_sem] max2_int min2_int max_two min_two max_three min_three max_four min_four   -- for this text's walks alone
set_option linter.unusedVariables false
set_option linter.unusedSimpArgs false

/-! ### merkhetlaw14_BoundMeans: function 5 (given) -/
def merkhetlaw14_BoundMeans.f (l0 : List S42) (l1 : List Int) : Option Bool := if (∀ x ∈ l0, L.fitR x) ∧ (∀ x ∈ l1, L.inI x) ∧ l1.length ≤ 17592186044416 then some true else none
theorem merkhetlaw14_BoundMeans.calls (A0 : Option Addr) (c0 : Nat) (l0 : List (S42)) (A1 : Option Addr) (c1 : Nat) (l1 : List Int) (r : Bool) (w : World) (hr0 : Kd.C k42 w A0 l0.length l0) (hc0 : l0.length ≤ c0) (hr1 : Kd.C (Kd.int .i64) w A1 l1.length l1) (hc1 : l1.length ≤ c1) (h : merkhetlaw14_BoundMeans.f l0 l1 = some r) :
    Calls Try.prog 5 #[.slice A0 l0.length c0, .slice A1 l1.length c1] w fun e w' => e = .returned (.bool r) ∧ Below w.heap.size w w' := by
  unfold merkhetlaw14_BoundMeans.f at h
  split at h
  · rename_i hl
    obtain rfl := Option.some.inj h
    exact L.means_calls l0 l1 hl.1 hl.2.1 hl.2.2 A0 A1 c0 c1 w hr0 hc0 hr1 hc1
  · cases h

end Go.Proofs.Ytjgpggjjgimibaa.N

-- Written by wip/tools/row.py, a program of this session. Lean checks it.
namespace Go.Proofs.Ytjgpggjjgimibaa.N
open Go.RowKit Go.Proofs.YtjgpggjjgimibaaW.PrintWords Go.Proofs.YtjgpggjjgimibaaW.Open Go.Proofs.Ytjgpggjjgimibaa.Q
set_option linter.unusedVariables false

end Go.Proofs.Ytjgpggjjgimibaa.N

/- BoundMeans, the plain part: all is shown in the walk. -/
namespace Go.Proofs.Ytjgpggjjgimibaa.Pure
set_option linter.unusedVariables false
open Go.RowKit Go.Proofs.Ytjgpggjjgimibaa.Q Go.Proofs.Ytjgpggjjgimibaa.N Go.Proofs.YtjgpggjjgimibaaW.PrintWords Go.Proofs.YtjgpggjjgimibaaW.PrintLast Go.Proofs.YtjgpggjjgimibaaW.PrintMore Go.Proofs.YtjgpggjjgimibaaW.Lib Go.Proofs.Ytjgpggjjgimibaa.L

theorem BoundMeans (l0 : List (S42)) (l1 : List (Int)) (w0 : (l0.length ≤ maxLen ∧ l0.length * 80 ≤ reachBytes ∧ ∀ x ∈ l0, wf42 x)) (w1 : (l1.length ≤ maxLen ∧ l1.length * 8 ≤ reachBytes ∧ ∀ x ∈ l1, (Lit.int .i64 x).wf = true)) : merkhetlaw14_BoundMeans.f l0 l1 = some true := by
  obtain ⟨_, _, h0⟩ := w0
  obtain ⟨_, h2, h1⟩ := w1
  unfold merkhetlaw14_BoundMeans.f
  refine if_pos ⟨fun s hs => ?_, fun x hx => ?_, by unfold reachBytes at h2; omega⟩
  · have h := h0 s hs
    refine ⟨⟨h.2.1, h.2.2.2.2.1, h.2.2.2.2.2.1⟩, ?_⟩
    have := h.2.2.2.1
    simp [Lit.wf, IntKind.min, IntKind.max, IntKind.signed, IntKind.bits] at this
    exact this.1
  · have h := h1 x hx
    simp [Lit.wf, IntKind.min, IntKind.max, IntKind.signed, IntKind.bits] at h
    unfold inI; omega
end Go.Proofs.Ytjgpggjjgimibaa.Pure

