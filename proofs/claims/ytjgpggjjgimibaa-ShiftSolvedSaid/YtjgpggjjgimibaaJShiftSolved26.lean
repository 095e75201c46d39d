/- Texts joined by wip/tools/merge.py: Qx7 Qx8. -/
import Derived.Test.YtjgpggjjgimibaaJShiftSolved22
import Derived.Test.YtjgpggjjgimibaaJShiftSolved24
-- Written by wip/tools/gp.py, a program of this session round the kit's printer. Lean checks it.
namespace Go.Proofs.Ytjgpggjjgimibaa.Q
open Go.RowKit Go.Proofs.YtjgpggjjgimibaaW.PrintWords Go.Proofs.YtjgpggjjgimibaaW.PrintLast Go.Proofs.YtjgpggjjgimibaaW.PrintMore
attribute [local go_sem] max2_int min2_int max_two min_two max_three min_three max_four min_four   -- for this text's walks alone
set_option linter.unusedVariables false
set_option linter.unusedSimpArgs false

/-! ### merkhetref09_Hosts: function 41 -/
mutual
def merkhetref09_Hosts.l0 : Nat → List (S42) → List ByteArray → Int → Option (List ByteArray)
  | 0, _, _, _ => none
  | k + 1, x0, x3, x4 => if x4 < (x0.length : Int) then (if 0 ≤ x4 then ((merkhetref09_Place.f k x3 ((rd_T42 x0 x4).f4)).bind fun t168 => (if t168 ≥ 0 then (merkhetref09_Hosts.l0 k x0 x3 (wrap64 (x4 + 1))) else (merkhetref09_Hosts.l1 k x0 x3 x4 (x3.length : Int)))) else (none)) else (some x3)
def merkhetref09_Hosts.l1 : Nat → List (S42) → List ByteArray → Int → Int → Option (List ByteArray)
  | 0, _, _, _, _ => none
  | k + 1, x0, x3, x4, x5 => if x5 > 0 then (if 0 ≤ (wrap64 (x5 - 1)) then (if (wrap64 (x5 - 1)) < (x3.length : Int) then (if 0 ≤ x4 then (if x4 < (x0.length : Int) then ((merkhetref01_Text.f k (rdOf ByteArray.empty x3 (wrap64 (x5 - 1))) ((rd_T42 x0 x4).f4)).bind fun t171 => (if t171 > 0 then (merkhetref09_Hosts.l1 k x0 x3 x4 (wrap64 (x5 - 1))) else ((some (([] : List ByteArray) : List ByteArray)).bind fun y172 => (if 0 ≤ x5 then (if x5 ≤ (x3.length : Int) then ((some (x3.drop (x5 : Int).toNat : List ByteArray)).bind fun y175 => (if y172.length + y175.length < 8796093022208 then ((some (y172 ++ y175 : List ByteArray)).bind fun y179 => ((some (x3.take (x5 : Int).toNat : List ByteArray)).bind fun y182 => (if y182.length < 8796093022208 then ((some (y182 ++ [(rd_T42 x0 x4).f4] : List ByteArray)).bind fun y186 => (if y186.length + y179.length < 8796093022208 then (merkhetref09_Hosts.l0 k x0 (y186 ++ y179) (wrap64 (x4 + 1))) else (none))) else (none)))) else (none))) else (none)) else (none))))) else (none)) else (none)) else (none)) else (none)) else ((some (([] : List ByteArray) : List ByteArray)).bind fun y192 => (if 0 ≤ x5 then (if x5 ≤ (x3.length : Int) then ((some (x3.drop (x5 : Int).toNat : List ByteArray)).bind fun y195 => (if y192.length + y195.length < 8796093022208 then ((some (y192 ++ y195 : List ByteArray)).bind fun y199 => ((some (x3.take (x5 : Int).toNat : List ByteArray)).bind fun y202 => (if 0 ≤ x4 then (if x4 < (x0.length : Int) then (if y202.length < 8796093022208 then ((some (y202 ++ [(rd_T42 x0 x4).f4] : List ByteArray)).bind fun y206 => (if y206.length + y199.length < 8796093022208 then (merkhetref09_Hosts.l0 k x0 (y206 ++ y199) (wrap64 (x4 + 1))) else (none))) else (none)) else (none)) else (none)))) else (none))) else (none)) else (none)))
end
def merkhetref09_Hosts.f (k : Nat) (l0 : List (S42)) : Option (List ByteArray) := merkhetref09_Hosts.l0 k l0 (([] : List ByteArray)) 0
theorem merkhetref09_Hosts.mono_l : ∀ k, (∀ y0 y1 y2, LeO (merkhetref09_Hosts.l0 k y0 y1 y2) (merkhetref09_Hosts.l0 (k + 1) y0 y1 y2)) ∧ (∀ y0 y1 y2 y3, LeO (merkhetref09_Hosts.l1 k y0 y1 y2 y3) (merkhetref09_Hosts.l1 (k + 1) y0 y1 y2 y3))
  | 0 => ⟨fun _ _ _ r h => by simp [merkhetref09_Hosts.l0] at h, fun _ _ _ _ r h => by simp [merkhetref09_Hosts.l1] at h⟩
  | k + 1 => by
    obtain ⟨ih0, ih1⟩ := merkhetref09_Hosts.mono_l k
    refine ⟨?_, ?_⟩
    · intro y0 y1 y2
      unfold merkhetref09_Hosts.l0
      repeat' first
      | (with_reducible exact ih0 _ _ _)
      | (with_reducible exact ih1 _ _ _ _)
      | (with_reducible exact merkhetref01_Text.mono _ _ _)
      | (with_reducible exact merkhetref09_Place.mono _ _ _)
      | (with_reducible exact LeO.refl _)
      | (with_reducible exact LeO.none _)
      | (with_reducible refine LeO.ite ?_ ?_)
      | (with_reducible refine LeO.bind ?_ (fun _ => ?_))
      | exact ih0 _ _ _
      | exact ih1 _ _ _ _
      | exact merkhetref01_Text.mono _ _ _
      | exact merkhetref09_Place.mono _ _ _
      | exact LeO.none _
      | refine LeO.ite ?_ ?_
      | refine LeO.bind ?_ (fun _ => ?_)
    · intro y0 y1 y2 y3
      unfold merkhetref09_Hosts.l1
      repeat' first
      | (with_reducible exact ih0 _ _ _)
      | (with_reducible exact ih1 _ _ _ _)
      | (with_reducible exact merkhetref01_Text.mono _ _ _)
      | (with_reducible exact merkhetref09_Place.mono _ _ _)
      | (with_reducible exact LeO.refl _)
      | (with_reducible exact LeO.none _)
      | (with_reducible refine LeO.ite ?_ ?_)
      | (with_reducible refine LeO.bind ?_ (fun _ => ?_))
      | exact ih0 _ _ _
      | exact ih1 _ _ _ _
      | exact merkhetref01_Text.mono _ _ _
      | exact merkhetref09_Place.mono _ _ _
      | exact LeO.none _
      | refine LeO.ite ?_ ?_
      | refine LeO.bind ?_ (fun _ => ?_)
theorem merkhetref09_Hosts.mono : ∀ a0 k, LeO (merkhetref09_Hosts.f k a0) (merkhetref09_Hosts.f (k + 1) a0) := by
  intro a0 k
  obtain ⟨ih0, ih1⟩ := merkhetref09_Hosts.mono_l k
  unfold merkhetref09_Hosts.f
  repeat' first
      | (with_reducible exact ih0 _ _ _)
      | (with_reducible exact ih1 _ _ _ _)
      | (with_reducible exact merkhetref01_Text.mono _ _ _)
      | (with_reducible exact merkhetref09_Place.mono _ _ _)
      | (with_reducible exact LeO.refl _)
      | (with_reducible exact LeO.none _)
      | (with_reducible refine LeO.ite ?_ ?_)
      | (with_reducible refine LeO.bind ?_ (fun _ => ?_))
      | exact ih0 _ _ _
      | exact ih1 _ _ _ _
      | exact merkhetref01_Text.mono _ _ _
      | exact merkhetref09_Place.mono _ _ _
      | exact LeO.none _
      | refine LeO.ite ?_ ?_
      | refine LeO.bind ?_ (fun _ => ?_)
def merkhetref09_Hosts.T7 : Bool × List (List Nat × List Nat) := (true, [([], []), ([0], [0]), ([1], [1]), ([2], [2]), ([2], [2]), ([4, 2], [2, 4]), ([3, 5, 2], [2, 3, 5]), ([6, 2], [2, 6]), ([2], [2]), ([2], [2]), ([8, 9, 2], [2, 8, 9]), ([10, 2], [2, 10]), ([11, 2], [2, 11]), ([7, 12, 2, 2], [2, 7, 12]), ([13, 2], [2, 13]), ([2, 14], [2, 14])])
def merkhetref09_Hosts.B7 : List Nat := [0, 1, 3, 7, 7, 23, 63, 127, 7, 7, 775, 1799, 3847, 8191, 16383, 32767]
theorem merkhetref09_Hosts.tab7 : rtab .any (opsOf Try.f41 7) = merkhetref09_Hosts.T7 := by kernel_rfl
theorem merkhetref09_Hosts.bits7 : waitsOk merkhetref09_Hosts.T7.2 merkhetref09_Hosts.B7 = true := by kernel_rfl
def merkhetref09_Hosts.T10 : Bool × List (List Nat × List Nat) := (true, [([], []), ([], []), ([0, 1], [0, 1]), ([], []), ([], []), ([3, 4], [3, 4]), ([5], [5]), ([6], [6]), ([7], [7]), ([2, 8], [2, 8]), ([], []), ([9, 10, 9], [9, 10]), ([11, 11, 0, 1, 2, 3, 4, 5, 6, 7, 8, 9, 10, 11], [0, 11])])
def merkhetref09_Hosts.B10 : List Nat := [0, 0, 3, 0, 0, 24, 56, 120, 248, 511, 0, 2047, 4095]
theorem merkhetref09_Hosts.tab10 : rtab .any (opsOf Try.f41 10) = merkhetref09_Hosts.T10 := by kernel_rfl
theorem merkhetref09_Hosts.bits10 : waitsOk merkhetref09_Hosts.T10.2 merkhetref09_Hosts.B10 = true := by kernel_rfl
set_option maxHeartbeats 8000000 in
set_option maxRecDepth 100000 in
theorem merkhetref09_Hosts.calls (k : Nat) (A0 : Option Addr) (c0 : Nat) (l0 : List (S42)) (r : List ByteArray) (w : World) (hr0 : Kd.C k42 w A0 l0.length l0) (hc0 : l0.length ≤ c0) (h : merkhetref09_Hosts.f k l0 = some r) :
    Calls Try.prog 41 #[.slice A0 l0.length c0] w fun e w' => ∃ v0_ : Value, e = .returned (v0_) ∧ Kd.R Kd.string 9 w' w.heap.size (fun _ => True) v0_ r ∧ Below w.heap.size w w' := by
  have HR0 := Aside0.mk hr0
  have HC0 := Aside0.mk hc0
  clear hr0 hc0
  have HB := Aside0.mk (Below.refl w.heap.size w)
  have H : (merkhetref09_Hosts.l0 k l0 (([] : List ByteArray)) 0) = some r := h
  clear h
  obtain ⟨y164, hy164⟩ : ∃ y_ : List ByteArray, y_ = (([] : List ByteArray)) := ⟨_, rfl⟩
  replace H : (merkhetref09_Hosts.l0 k l0 y164 0) = some r := by first | (rw [hy164]; with_reducible exact H) | (have H2_ := (Option.bind_some _ _).symm.trans H; rw [hy164]; with_reducible exact H2_) | (have H2_ := (Option.bind_some _ _).symm.trans H; with_reducible exact H2_) | with_reducible exact H | (rw [hy164]; exact H) | exact H
  have Ny164 := Aside0.mk hy164
  clear hy164
  have H' := Aside0.mk H
  clear H
  go_enter Try.func41, Try.ntmps41
  go_wp2_with (first | ((with_reducible refine gate_dst (N := 7) rfl ?_); refine Kd.R_lit Kd.string _ 9 ?hg (N := 7) ?hd (xs := ([] : List ByteArray)) (inner := []) (ok := fun _ => True) (okp := fun _ => True) ?hr ?hp (fun _ hk => hk) trivial (Below.refl _ _) (Nat.le_refl _) (by simp) ?_; (case hd => rfl); (case hg => rfl); (case hr => first | (go_simp; done) | (go_simp; rfl)); (case hp => exact (Reps.none _ _)); intro v165 w2 ho3 hb hg_ hnew_; clear hg_ hnew_; (first | rw [← Ny164.out] at ho3 | (simp only [Int.reduceToNat] at ho3; rw [← Ny164.out] at ho3)); have n0_ := Aside0.mk (Kd.R_lower ho3 (below_size (by repeat (first | (with_reducible first | exact HB.out | apply below_alloc | apply pw_below_drewN | apply below_drew1) | exact HB.out)))); have n1_ := Aside0.mk (below_step (by repeat (first | (with_reducible first | exact HB.out | apply below_alloc | apply pw_below_drewN | apply below_drew1) | exact HB.out)) hb); clear HB; have HO166 := n0_; have HB := n1_; clear n0_ n1_; clear hb ho3))
  go_loopg [3, 4] k (fun kq v3 v4 w' => ∃ (x3_1 : List ByteArray) (x4_1 : Int), v4 = .int .i64 x4_1 ∧ Aside0 (merkhetref09_Hosts.l0 kq l0 x3_1 x4_1 = some r) ∧ Aside0 (kq ≤ k) ∧ Aside0 (Kd.R Kd.string 9 w' w.heap.size (fun _ => True) v3 x3_1) ∧ Aside0 (Below w.heap.size w w'))
  case atStart => exact ⟨(y164), (0), (by first | rfl | (simp; done) | (simp [*]; done)), H', ⟨Nat.le_refl _⟩, ⟨by (with_reducible repeat (first | apply Kd.R_alloc | apply Kd.R_drewN | apply Kd.R_drew)); exact HO166.out⟩, ⟨by repeat (first | (with_reducible first | exact HB.out | apply below_alloc | apply pw_below_drewN | apply below_drew1) | exact HB.out)⟩⟩
  case round =>
    clear H'
    (try clear p2)
    obtain ⟨x3_1, x4_1, rfl, HA, HK1, HO_3, HB⟩ := hrel
    cases gk with
    | zero => exact absurd HA.out (by simp [merkhetref09_Hosts.l0])
    | succ k1 =>
      have H := HA.out
      clear HA
      simp only [merkhetref09_Hosts.l0] at H
      by_cases c4 : x4_1 < (l0.length : Int)
      · rw [if_pos c4] at H
        have c4b0 : decide (x4_1 < (l0.length : Int)) = true := decide_eq_true c4
        clear c4
        by_cases c5 : 0 ≤ x4_1
        · rw [if_pos c5] at H
          have c5b0 : decide (0 ≤ x4_1) = true := decide_eq_true c5
          clear c5
          replace H := Option.bind_eq_some_iff.mp H
          obtain ⟨t168, A60, H⟩ := H
          replace H : (if t168 ≥ 0 then (merkhetref09_Hosts.l0 k1 l0 x3_1 (wrap64 (x4_1 + 1))) else (merkhetref09_Hosts.l1 k1 l0 x3_1 x4_1 (x3_1.length : Int))) = some r := H
          have A6 := Aside0.mk A60
          clear A60
          by_cases c7 : t168 ≥ 0
          · rw [if_pos c7] at H
            have c7b0 : decide (0 ≤ t168) = true := decide_eq_true c7
            clear c7
            have H' := Aside0.mk H
            clear H
            have p167 : 0 ≤ (x4_1 : Int) := of_decide_eq_true (by first | (with_reducible assumption) | assumption)
            have q167 : x4_1 < (l0.length : Int) := of_decide_eq_true (by first | (with_reducible assumption) | assumption)
            obtain ⟨ad167, e167, hx167_0, hx167_1, hx167_2, hx167_3, hx167_4, hx167_5, hx167_6, hx167_7⟩ := at_T42 HR0.out x4_1 p167 q167
            cases e167
            replace hx167_0 := (HB.out.cell (World.block_lt_of_cell? w _ hx167_0)).trans hx167_0
            replace hx167_1 := (HB.out.cell (World.block_lt_of_cell? w _ hx167_1)).trans hx167_1
            replace hx167_2 := (HB.out.cell (World.block_lt_of_cell? w _ hx167_2)).trans hx167_2
            replace hx167_3 := (HB.out.cell (World.block_lt_of_cell? w _ hx167_3)).trans hx167_3
            replace hx167_4 := (HB.out.cell (World.block_lt_of_cell? w _ hx167_4)).trans hx167_4
            replace hx167_5 := (HB.out.cell (World.block_lt_of_cell? w _ hx167_5)).trans hx167_5
            replace hx167_6 := (HB.out.cell (World.block_lt_of_cell? w _ hx167_6)).trans hx167_6
            replace hx167_7 := (HB.out.cell (World.block_lt_of_cell? w _ hx167_7)).trans hx167_7
            replace p167 := eq_true p167
            replace q167 := eq_true q167
            obtain ⟨Ao8, co8, eo8⟩ := Kd.R_slice HO_3.out
            subst eo8
            go_wp2_with (first | ((with_reducible refine gate_callee (f := 42) rfl ?_); refine goesL_ (some 20) rfl rfl Try.func42 (by kernel_rfl) rfl #[.slice Ao8 x3_1.length co8, .string ((rd_T42 l0 x4_1).f4)] rfl (by (try simp only [List.map_toArray, List.map_cons, List.map_nil]); first | done | rfl | (simp only [List.length_drop, List.length_take]; rfl)) ?_; (with_reducible refine (merkhetref09_Place.calls k1 _ _ x3_1 ((rd_T42 l0 x4_1).f4) t168 _ ?side1 ?side2 A6.out).mono ?_); (case side1 => repeat (first | exact (Kd.R_reads' HO_3.out).2.2 | (with_reducible refine Kd.C_alloc ?_ _) | (with_reducible refine Kd.C_drewN ?_ _) | (with_reducible refine Kd.C_drew ?_))); (case side2 => exact (Kd.R_reads' HO_3.out).2.1); rintro e w' ⟨rfl, ⟨nd, rfl⟩⟩; refine ⟨_, rfl, ?_⟩))
            go_roundg k1
            case measure => have := HK1.out; omega
            case rel => exact ⟨(x3_1), (wrap64 (x4_1 + 1)), (by first | rfl | (simp; done) | (simp [*]; done)), H', ⟨by have := HK1.out; omega⟩, ⟨by (with_reducible repeat (first | apply Kd.R_alloc | apply Kd.R_drewN | apply Kd.R_drew)); exact HO_3.out⟩, ⟨by repeat (first | (with_reducible first | exact HB.out | apply below_alloc | apply pw_below_drewN | apply below_drew1) | exact HB.out)⟩⟩
          · rw [if_neg c7] at H
            have c7b0 : decide (0 ≤ t168) = false := decide_eq_false c7
            clear c7
            have H' := Aside0.mk H
            clear H
            have p167 : 0 ≤ (x4_1 : Int) := of_decide_eq_true (by first | (with_reducible assumption) | assumption)
            have q167 : x4_1 < (l0.length : Int) := of_decide_eq_true (by first | (with_reducible assumption) | assumption)
            obtain ⟨ad167, e167, hx167_0, hx167_1, hx167_2, hx167_3, hx167_4, hx167_5, hx167_6, hx167_7⟩ := at_T42 HR0.out x4_1 p167 q167
            cases e167
            replace hx167_0 := (HB.out.cell (World.block_lt_of_cell? w _ hx167_0)).trans hx167_0
            replace hx167_1 := (HB.out.cell (World.block_lt_of_cell? w _ hx167_1)).trans hx167_1
            replace hx167_2 := (HB.out.cell (World.block_lt_of_cell? w _ hx167_2)).trans hx167_2
            replace hx167_3 := (HB.out.cell (World.block_lt_of_cell? w _ hx167_3)).trans hx167_3
            replace hx167_4 := (HB.out.cell (World.block_lt_of_cell? w _ hx167_4)).trans hx167_4
            replace hx167_5 := (HB.out.cell (World.block_lt_of_cell? w _ hx167_5)).trans hx167_5
            replace hx167_6 := (HB.out.cell (World.block_lt_of_cell? w _ hx167_6)).trans hx167_6
            replace hx167_7 := (HB.out.cell (World.block_lt_of_cell? w _ hx167_7)).trans hx167_7
            replace p167 := eq_true p167
            replace q167 := eq_true q167
            obtain ⟨Ao9, co9, eo9⟩ := Kd.R_slice HO_3.out
            subst eo9
            go_wp2_with (first | ((with_reducible refine gate_callee (f := 42) rfl ?_); refine goesL_ (some 20) rfl rfl Try.func42 (by kernel_rfl) rfl #[.slice Ao9 x3_1.length co9, .string ((rd_T42 l0 x4_1).f4)] rfl (by (try simp only [List.map_toArray, List.map_cons, List.map_nil]); first | done | rfl | (simp only [List.length_drop, List.length_take]; rfl)) ?_; (with_reducible refine (merkhetref09_Place.calls k1 _ _ x3_1 ((rd_T42 l0 x4_1).f4) t168 _ ?side1 ?side2 A6.out).mono ?_); (case side1 => repeat (first | exact (Kd.R_reads' HO_3.out).2.2 | (with_reducible refine Kd.C_alloc ?_ _) | (with_reducible refine Kd.C_drewN ?_ _) | (with_reducible refine Kd.C_drew ?_))); (case side2 => exact (Kd.R_reads' HO_3.out).2.1); rintro e w' ⟨rfl, ⟨nd, rfl⟩⟩; refine ⟨_, rfl, ?_⟩))
            go_loopg [5] k1 (fun kq v5 w' => ∃ (x5_2 : Int), v5 = .int .i64 x5_2 ∧ Aside0 (merkhetref09_Hosts.l1 kq l0 x3_1 x4_1 x5_2 = some r) ∧ Aside0 (kq ≤ k1) ∧ Aside0 (Kd.R Kd.string 9 w' w.heap.size (fun _ => True) (.slice Ao9 x3_1.length co9) x3_1) ∧ Aside0 (Below w.heap.size w w'))
            case atStart => exact ⟨((x3_1.length : Int)), (by first | rfl | (simp; done) | (simp [*]; done)), H', ⟨Nat.le_refl _⟩, ⟨by (with_reducible repeat (first | apply Kd.R_alloc | apply Kd.R_drewN | apply Kd.R_drew)); exact HO_3.out⟩, ⟨by repeat (first | (with_reducible first | exact HB.out | apply below_alloc | apply pw_below_drewN | apply below_drew1) | exact HB.out)⟩⟩
            case round =>
              clear H'
              (try clear p1); (try clear q1); (try clear hx1); (try clear p2); (try clear c4); (try clear c4b0); (try clear c5); (try clear c5b0); (try clear p6); (try clear c7); (try clear c7b0); (try clear hx167_0); (try clear hx167_1); (try clear hx167_2); (try clear hx167_3); (try clear hx167_4); (try clear hx167_5); (try clear hx167_6); (try clear hx167_7); (try clear p167); (try clear p2); (try clear q167)
              obtain ⟨x5_2, rfl, HA, HK2, HO_3, HB⟩ := hrel
              cases gk with
              | zero => exact absurd HA.out (by simp [merkhetref09_Hosts.l1])
              | succ k2 =>
                have H := HA.out
                clear HA
                simp only [merkhetref09_Hosts.l1] at H
                by_cases c10 : x5_2 > 0
                · rw [if_pos c10] at H
                  have c10b0 : decide (0 < x5_2) = true := decide_eq_true c10
                  clear c10
                  obtain ⟨ji11, hji11⟩ : ∃ j_ : Int, (wrap64 (x5_2 - 1)) = j_ := ⟨_, rfl⟩
                  replace H : (if 0 ≤ (ji11) then (if (ji11) < (x3_1.length : Int) then (if 0 ≤ x4_1 then (if x4_1 < (l0.length : Int) then ((merkhetref01_Text.f k2 (rdOf ByteArray.empty x3_1 (ji11)) ((rd_T42 l0 x4_1).f4)).bind fun t171 => (if t171 > 0 then (merkhetref09_Hosts.l1 k2 l0 x3_1 x4_1 ji11) else ((some (([] : List ByteArray) : List ByteArray)).bind fun y172 => (if 0 ≤ x5_2 then (if x5_2 ≤ (x3_1.length : Int) then ((some (x3_1.drop (x5_2 : Int).toNat : List ByteArray)).bind fun y175 => (if y172.length + y175.length < 8796093022208 then ((some (y172 ++ y175 : List ByteArray)).bind fun y179 => ((some (x3_1.take (x5_2 : Int).toNat : List ByteArray)).bind fun y182 => (if y182.length < 8796093022208 then ((some (y182 ++ [(rd_T42 l0 x4_1).f4] : List ByteArray)).bind fun y186 => (if y186.length + y179.length < 8796093022208 then (merkhetref09_Hosts.l0 k2 l0 (y186 ++ y179) (wrap64 (x4_1 + 1))) else (none))) else (none)))) else (none))) else (none)) else (none))))) else (none)) else (none)) else (none)) else (none)) = some r := by first | (rw [hji11] at H; exact H) | (simp only [hji11] at H ⊢; exact H)
                  have hji11w : (IntKind.i64.wrap (x5_2 - 1)) = ji11 := (i64_w _).trans hji11
                  by_cases c12 : 0 ≤ (ji11)
                  · rw [if_pos c12] at H
                    have c12b0 : decide (0 ≤ (ji11)) = true := decide_eq_true c12
                    clear c12
                    by_cases c13 : (ji11) < (x3_1.length : Int)
                    · rw [if_pos c13] at H
                      have c13b0 : decide ((ji11) < (x3_1.length : Int)) = true := decide_eq_true c13
                      clear c13
                      by_cases c14 : 0 ≤ x4_1
                      · rw [if_pos c14] at H
                        have c14b0 : decide (0 ≤ x4_1) = true := decide_eq_true c14
                        clear c14
                        by_cases c15 : x4_1 < (l0.length : Int)
                        · rw [if_pos c15] at H
                          have c15b0 : decide (x4_1 < (l0.length : Int)) = true := decide_eq_true c15
                          clear c15
                          replace H := Option.bind_eq_some_iff.mp H
                          obtain ⟨t171, A160, H⟩ := H
                          replace H : (if t171 > 0 then (merkhetref09_Hosts.l1 k2 l0 x3_1 x4_1 ji11) else ((some (([] : List ByteArray) : List ByteArray)).bind fun y172 => (if 0 ≤ x5_2 then (if x5_2 ≤ (x3_1.length : Int) then ((some (x3_1.drop (x5_2 : Int).toNat : List ByteArray)).bind fun y175 => (if y172.length + y175.length < 8796093022208 then ((some (y172 ++ y175 : List ByteArray)).bind fun y179 => ((some (x3_1.take (x5_2 : Int).toNat : List ByteArray)).bind fun y182 => (if y182.length < 8796093022208 then ((some (y182 ++ [(rd_T42 l0 x4_1).f4] : List ByteArray)).bind fun y186 => (if y186.length + y179.length < 8796093022208 then (merkhetref09_Hosts.l0 k2 l0 (y186 ++ y179) (wrap64 (x4_1 + 1))) else (none))) else (none)))) else (none))) else (none)) else (none)))) = some r := H
                          have A16 := Aside0.mk A160
                          clear A160
                          by_cases c17 : t171 > 0
                          · rw [if_pos c17] at H
                            have c17b0 : decide (0 < t171) = true := decide_eq_true c17
                            clear c17
                            have H' := Aside0.mk H
                            clear H
                            try go_wp2
                            have n0_ := Aside0.mk (Kd.R_drew HO_3.out)
                            have n1_ := Aside0.mk (below_drew1 HB.out)
                            clear HO_3
                            clear HB
                            have HO_3 := n0_
                            have HB := n1_
                            clear n0_ n1_
                            have p169 : 0 ≤ ((ji11) : Int) := of_decide_eq_true (by first | (with_reducible assumption) | assumption)
                            have q169 : (ji11) < (x3_1.length : Int) := of_decide_eq_true (by first | (with_reducible assumption) | assumption)
                            obtain ⟨ad169, e169, hx169_0⟩ := Kd.at_string (Kd.R_reads' HO_3.out).2.2 (ji11) p169 q169
                            cases e169
                            replace p169 := eq_true p169
                            replace q169 := eq_true q169
                            have p170 : 0 ≤ (x4_1 : Int) := of_decide_eq_true (by first | (with_reducible assumption) | assumption)
                            have q170 : x4_1 < (l0.length : Int) := of_decide_eq_true (by first | (with_reducible assumption) | assumption)
                            obtain ⟨ad170, e170, hx170_0, hx170_1, hx170_2, hx170_3, hx170_4, hx170_5, hx170_6, hx170_7⟩ := at_T42 HR0.out x4_1 p170 q170
                            have hw170_7 := hx170_7
                            have hw170_6 := hx170_6
                            have hw170_5 := hx170_5
                            have hw170_4 := hx170_4
                            have hw170_3 := hx170_3
                            have hw170_2 := hx170_2
                            have hw170_1 := hx170_1
                            have hw170_0 := hx170_0
                            obtain rfl : ad167 = ad170 := (by injection e170)
                            replace hx170_0 := (HB.out.cell (World.block_lt_of_cell? w _ hx170_0)).trans hx170_0
                            replace hx170_1 := (HB.out.cell (World.block_lt_of_cell? w _ hx170_1)).trans hx170_1
                            replace hx170_2 := (HB.out.cell (World.block_lt_of_cell? w _ hx170_2)).trans hx170_2
                            replace hx170_3 := (HB.out.cell (World.block_lt_of_cell? w _ hx170_3)).trans hx170_3
                            replace hx170_4 := (HB.out.cell (World.block_lt_of_cell? w _ hx170_4)).trans hx170_4
                            replace hx170_5 := (HB.out.cell (World.block_lt_of_cell? w _ hx170_5)).trans hx170_5
                            replace hx170_6 := (HB.out.cell (World.block_lt_of_cell? w _ hx170_6)).trans hx170_6
                            replace hx170_7 := (HB.out.cell (World.block_lt_of_cell? w _ hx170_7)).trans hx170_7
                            replace p170 := eq_true p170
                            replace q170 := eq_true q170
                            refine start_ (n := 16) (S := fun w' => w'.cell? (ad169.add ((ji11)).toNat) = some (.string (rdOf ByteArray.empty x3_1 (ji11))) ∧ w'.cell? (ad167.add ((x4_1).toNat * 8)) = some (.int .u64 ((rd_T42 l0 x4_1).f0)) ∧ w'.cell? ⟨(ad167.add ((x4_1).toNat * 8)).block, (ad167.add ((x4_1).toNat * 8)).off + 1, none⟩ = some (.int .u64 ((rd_T42 l0 x4_1).f1)) ∧ w'.cell? ⟨(ad167.add ((x4_1).toNat * 8)).block, (ad167.add ((x4_1).toNat * 8)).off + 2, none⟩ = some (.int .u64 ((rd_T42 l0 x4_1).f2)) ∧ w'.cell? ⟨(ad167.add ((x4_1).toNat * 8)).block, (ad167.add ((x4_1).toNat * 8)).off + 3, none⟩ = some (.int .u8 ((rd_T42 l0 x4_1).f3)) ∧ w'.cell? ⟨(ad167.add ((x4_1).toNat * 8)).block, (ad167.add ((x4_1).toNat * 8)).off + 4, none⟩ = some (.string ((rd_T42 l0 x4_1).f4)) ∧ w'.cell? ⟨(ad167.add ((x4_1).toNat * 8)).block, (ad167.add ((x4_1).toNat * 8)).off + 5, none⟩ = some (.string ((rd_T42 l0 x4_1).f5)) ∧ w'.cell? ⟨(ad167.add ((x4_1).toNat * 8)).block, (ad167.add ((x4_1).toNat * 8)).off + 6, none⟩ = some (.int .i64 ((rd_T42 l0 x4_1).f6)) ∧ w'.cell? ⟨(ad167.add ((x4_1).toNat * 8)).block, (ad167.add ((x4_1).toNat * 8)).off + 7, none⟩ = some (.int .i64 ((rd_T42 l0 x4_1).f7))) (ds := []) #[false, false, false, false, false, false, false, false, false, false, false, false, false, false, false, false] (by kernel_rfl) rfl rfl ⟨hx169_0, ((HB.out.cell (World.block_lt_of_cell? w _ hw170_0)).trans hw170_0), ((HB.out.cell (World.block_lt_of_cell? w _ hw170_1)).trans hw170_1), ((HB.out.cell (World.block_lt_of_cell? w _ hw170_2)).trans hw170_2), ((HB.out.cell (World.block_lt_of_cell? w _ hw170_3)).trans hw170_3), ((HB.out.cell (World.block_lt_of_cell? w _ hw170_4)).trans hw170_4), ((HB.out.cell (World.block_lt_of_cell? w _ hw170_5)).trans hw170_5), ((HB.out.cell (World.block_lt_of_cell? w _ hw170_6)).trans hw170_6), ((HB.out.cell (World.block_lt_of_cell? w _ hw170_7)).trans hw170_7)⟩ (fun hHeld => ?_); refine with_tabW merkhetref09_Hosts.tab7 merkhetref09_Hosts.bits7 (fun HT_ HW_ => ?_)
                            generalize wr.drew = w18 at HO_3 HB hx169_0 hx170_0 hx170_1 hx170_2 hx170_3 hx170_4 hx170_5 hx170_6 hx170_7 hHeld ⊢
                            refine pure_ (i := 0) (N := some 24) (v := ?_) (a' := ?_) #[true, false, false, false, false, false, false, false, false, false, false, false, false, false, false, false] rfl rfl (any_of HT_.out (by kernel_rfl)) (fun _ _ _ h => h) (Or.inl ⟨by rfl, ?_⟩) ?_ ?_
                            rotate_left
                            · intro w'
                              go_simp
                              with_reducible rfl
                            rotate_left
                            · simp only [Act.put, List.setIfInBounds_toArray, List.set_cons_zero, List.set_cons_succ, i64_w, i32_w]
                              rfl
                            refine pure_ (i := 1) (N := some 25) (v := ?_) (a' := ?_) #[true, true, false, false, false, false, false, false, false, false, false, false, false, false, false, false] rfl rfl (any_of HT_.out (by kernel_rfl)) (fun _ _ _ h => h) (Or.inl ⟨by rfl, ?_⟩) ?_ ?_
                            rotate_left
                            · intro w'
                              go_simp
                              with_reducible rfl
                            rotate_left
                            · simp only [Act.put, List.setIfInBounds_toArray, List.set_cons_zero, List.set_cons_succ, i64_w, i32_w]
                              rfl
                            refine pure_ (i := 2) (N := some 26) (v := ?_) (a' := ?_) #[true, true, true, false, false, false, false, false, false, false, false, false, false, false, false, false] rfl rfl (any_of HT_.out (by kernel_rfl)) (fun _ _ _ h => h) (Or.inl ⟨by rfl, ?_⟩) ?_ ?_
                            rotate_left
                            · intro w'
                              go_simp
                              with_reducible rfl
                            rotate_left
                            · simp only [Act.put, List.setIfInBounds_toArray, List.set_cons_zero, List.set_cons_succ, i64_w, i32_w]
                              rfl
                            refine pure_ (i := 3) (N := some 27) (v := ?_) (a' := ?_) #[true, true, true, true, false, false, false, false, false, false, false, false, false, false, false, false] rfl rfl (any_of HT_.out (by kernel_rfl)) (fun _ _ _ h => h) (Or.inl ⟨by rfl, ?_⟩) ?_ ?_
                            rotate_left
                            · intro w'
                              go_simp
                              with_reducible rfl
                            rotate_left
                            · simp only [Act.put, List.setIfInBounds_toArray, List.set_cons_zero, List.set_cons_succ, i64_w, i32_w]
                              rfl
                            refine pure_ (i := 4) (N := some 28) (v := ?_) (a' := ?_) #[true, true, true, true, true, false, false, false, false, false, false, false, false, false, false, false] rfl rfl (any_of HT_.out (by kernel_rfl)) (fun _ _ _ h => h) (Or.inl ⟨by rfl, ?_⟩) ?_ ?_
                            rotate_left
                            · intro w'
                              go_simp
                              with_reducible rfl
                            rotate_left
                            · simp only [Act.put, List.setIfInBounds_toArray, List.set_cons_zero, List.set_cons_succ, i64_w, i32_w]
                              rfl
                            refine pure_ (i := 5) (N := some 29) (v := ?_) (a' := ?_) #[true, true, true, true, true, true, false, false, false, false, false, false, false, false, false, false] rfl rfl (any_of HT_.out (by kernel_rfl)) (fun _ _ _ h => h) (Or.inl ⟨by rfl, ?_⟩) ?_ ?_
                            rotate_left
                            · intro w'
                              go_simp
                              with_reducible rfl
                            rotate_left
                            · simp only [Act.put, List.setIfInBounds_toArray, List.set_cons_zero, List.set_cons_succ, i64_w, i32_w]
                              rfl
                            refine pure_ (i := 6) (N := some 30) (v := ?_) (a' := ?_) #[true, true, true, true, true, true, true, false, false, false, false, false, false, false, false, false] rfl rfl (any_of HT_.out (by kernel_rfl)) (fun _ _ _ h => h) (Or.inl ⟨by rfl, ?_⟩) ?_ ?_
                            rotate_left
                            · intro w'
                              go_simp
                              with_reducible rfl
                            rotate_left
                            · simp only [Act.put, List.setIfInBounds_toArray, List.set_cons_zero, List.set_cons_succ, i64_w, i32_w]
                              rfl
                            refine pure_ (i := 8) (N := some 32) (v := ?_) (a' := ?_) #[true, true, true, true, true, true, true, false, true, false, false, false, false, false, false, false] rfl rfl (any_of HT_.out (by kernel_rfl)) (fun _ _ _ h => h) (Or.inl ⟨by rfl, ?_⟩) ?_ ?_
                            rotate_left
                            · intro w'
                              go_simp
                              with_reducible rfl
                            rotate_left
                            · simp only [Act.put, List.setIfInBounds_toArray, List.set_cons_zero, List.set_cons_succ, i64_w, i32_w]
                              rfl
                            refine pure_ (i := 9) (N := some 33) (v := ?_) (a' := ?_) #[true, true, true, true, true, true, true, false, true, true, false, false, false, false, false, false] rfl rfl (any_of HT_.out (by kernel_rfl)) (fun _ _ _ h => h) (Or.inl ⟨by rfl, ?_⟩) ?_ ?_
                            rotate_left
                            · intro w'
                              go_simp
                              with_reducible rfl
                            rotate_left
                            · simp only [Act.put, List.setIfInBounds_toArray, List.set_cons_zero, List.set_cons_succ, i64_w, i32_w]
                              rfl
                            refine pure_ (i := 10) (N := some 34) (v := ?_) (a' := ?_) #[true, true, true, true, true, true, true, false, true, true, true, false, false, false, false, false] rfl rfl (any_of HT_.out (by kernel_rfl)) (fun _ _ _ h => h) (Or.inl ⟨by rfl, ?_⟩) ?_ ?_
                            rotate_left
                            · intro w'
                              go_simp
                              with_reducible rfl
                            rotate_left
                            · simp only [Act.put, List.setIfInBounds_toArray, List.set_cons_zero, List.set_cons_succ, i64_w, i32_w]
                              rfl
                            refine pure_ (i := 11) (N := some 35) (v := ?_) (a' := ?_) #[true, true, true, true, true, true, true, false, true, true, true, true, false, false, false, false] rfl rfl (any_of HT_.out (by kernel_rfl)) (fun _ _ _ h => h) (Or.inl ⟨by rfl, ?_⟩) ?_ ?_
                            rotate_left
                            · intro w'
                              go_simp
                              with_reducible rfl
                            rotate_left
                            · simp only [Act.put, List.setIfInBounds_toArray, List.set_cons_zero, List.set_cons_succ, i64_w, i32_w]
                              rfl
                            refine take_ (i := 7) (N := some 31) (v := ?_) (a' := ?_) #[true, true, true, true, true, true, true, true, true, true, true, true, false, false, false, false] rfl rfl (take_ofW HT_.out HW_.out (by kernel_rfl)) (fun _ _ _ h => h) (Or.inl ⟨by rfl, ?_⟩) hHeld ?_ ?_
                            rotate_left
                            · rintro w' ⟨s0, s1, s2, s3, s4, s5, s6, s7, s8⟩
                              go_simp
                              with_reducible rfl
                            rotate_left
                            · simp only [Act.put, List.setIfInBounds_toArray, List.set_cons_zero, List.set_cons_succ, i64_w, i32_w]
                              rfl
                            refine take_ (i := 12) (N := some 36) (v := ?_) (a' := ?_) #[true, true, true, true, true, true, true, true, true, true, true, true, true, false, false, false] rfl rfl (take_ofW HT_.out HW_.out (by kernel_rfl)) (fun _ _ _ h => h) (Or.inl ⟨by rfl, ?_⟩) hHeld ?_ ?_
                            rotate_left
                            · rintro w' ⟨s0, s1, s2, s3, s4, s5, s6, s7, s8⟩
                              go_simp
                              with_reducible rfl
                            rotate_left
                            · simp only [Act.put, List.setIfInBounds_toArray, List.set_cons_zero, List.set_cons_succ, i64_w, i32_w]
                              rfl
                            refine one_ (i := 13) (N := some 37) #[true, true, true, true, true, true, true, true, true, true, true, true, true, true, false, false] rfl rfl (one_of HT_.out (by kernel_rfl)) (by decide) (fun K hK => ?_)
                            refine goes_ Try.func60 (by kernel_rfl) rfl #[.string (rdOf ByteArray.empty x3_1 (ji11)), .string ((rd_T42 l0 x4_1).f4)] (by rfl) rfl rfl (by (try simp only [List.map_toArray, List.map_cons, List.map_nil]); first | done | (simp only [hji11]; rfl) | rfl | (simp only [List.length_drop, List.length_take]; rfl)) ?_
                            with_reducible refine (merkhetref01_Text.calls k2 (rdOf ByteArray.empty x3_1 (ji11)) ((rd_T42 l0 x4_1).f4) t171 _ A16.out).mono ?_
                            rintro e w' ⟨rfl, ⟨nd, rfl⟩⟩
                            refine ⟨_, rfl, ?_⟩
                            refine hK.out _ _ ⟨hHeld.1, ((HB.out.cell (World.block_lt_of_cell? w _ hw170_0)).trans hw170_0), ((HB.out.cell (World.block_lt_of_cell? w _ hw170_1)).trans hw170_1), ((HB.out.cell (World.block_lt_of_cell? w _ hw170_2)).trans hw170_2), ((HB.out.cell (World.block_lt_of_cell? w _ hw170_3)).trans hw170_3), ((HB.out.cell (World.block_lt_of_cell? w _ hw170_4)).trans hw170_4), ((HB.out.cell (World.block_lt_of_cell? w _ hw170_5)).trans hw170_5), ((HB.out.cell (World.block_lt_of_cell? w _ hw170_6)).trans hw170_6), ((HB.out.cell (World.block_lt_of_cell? w _ hw170_7)).trans hw170_7)⟩ (fun hHeld => ?_)
                            clear hK K
                            refine norm_ (a' := ?_) ?_ ?_
                            rotate_left
                            · show Act.put _ (some 37) _ = _
                              simp only [Act.put, List.setIfInBounds_toArray, List.set_cons_zero, List.set_cons_succ, i64_w, i32_w]
                              rfl
                            refine pure_ (i := 14) (N := some 38) (v := ?_) (a' := ?_) #[true, true, true, true, true, true, true, true, true, true, true, true, true, true, true, false] rfl rfl (any_of HT_.out (by kernel_rfl)) (fun _ _ _ h => h) (Or.inl ⟨by rfl, ?_⟩) ?_ ?_
                            rotate_left
                            · intro w'
                              go_simp
                              with_reducible rfl
                            rotate_left
                            · simp only [Act.put, List.setIfInBounds_toArray, List.set_cons_zero, List.set_cons_succ, i64_w, i32_w]
                              rfl
                            refine pure_ (i := 15) (N := some 39) (v := ?_) (a' := ?_) #[true, true, true, true, true, true, true, true, true, true, true, true, true, true, true, true] rfl rfl (any_of HT_.out (by kernel_rfl)) (fun _ _ _ h => h) (Or.inl ⟨by rfl, ?_⟩) ?_ ?_
                            rotate_left
                            · intro w'
                              go_simp
                              with_reducible rfl
                            rotate_left
                            · simp only [Act.put, List.setIfInBounds_toArray, List.set_cons_zero, List.set_cons_succ, i64_w, i32_w]
                              rfl
                            refine done_ (done_of HT_.out (by kernel_rfl)) ?_
                            try go_wp2
                            go_roundg k2
                            case measure => have := HK1.out; have := HK2.out; omega
                            case rel => exact ⟨(ji11), (by first | rfl | (simp; done) | (simp only [← hji11] <;> (first | rfl | simp)) | (simp [*]; done)), H', ⟨by have := HK1.out; have := HK2.out; omega⟩, ⟨by (with_reducible repeat (first | apply Kd.R_alloc | apply Kd.R_drewN | apply Kd.R_drew)); exact HO_3.out⟩, ⟨by repeat (first | (with_reducible first | exact HB.out | apply below_alloc | apply pw_below_drewN | apply below_drew1) | exact HB.out)⟩⟩
                          · rw [if_neg c17] at H
                            have c17b0 : decide (0 < t171) = false := decide_eq_false c17
                            clear c17
                            obtain ⟨y172, hy172⟩ : ∃ y_ : List ByteArray, y_ = (([] : List ByteArray)) := ⟨_, rfl⟩
                            replace H : (if 0 ≤ x5_2 then (if x5_2 ≤ (x3_1.length : Int) then ((some (x3_1.drop (x5_2 : Int).toNat : List ByteArray)).bind fun y175 => (if y172.length + y175.length < 8796093022208 then ((some (y172 ++ y175 : List ByteArray)).bind fun y179 => ((some (x3_1.take (x5_2 : Int).toNat : List ByteArray)).bind fun y182 => (if y182.length < 8796093022208 then ((some (y182 ++ [(rd_T42 l0 x4_1).f4] : List ByteArray)).bind fun y186 => (if y186.length + y179.length < 8796093022208 then (merkhetref09_Hosts.l0 k2 l0 (y186 ++ y179) (wrap64 (x4_1 + 1))) else (none))) else (none)))) else (none))) else (none)) else (none)) = some r := by first | (rw [hy172]; with_reducible exact H) | (have H2_ := (Option.bind_some _ _).symm.trans H; rw [hy172]; with_reducible exact H2_) | (have H2_ := (Option.bind_some _ _).symm.trans H; with_reducible exact H2_) | with_reducible exact H | (rw [hy172]; exact H) | exact H
                            have Ny172 := Aside0.mk hy172
                            clear hy172
                            by_cases c19 : 0 ≤ x5_2
                            · rw [if_pos c19] at H
                              have c19b0 := eq_true c19
                              have c19b1 : decide (0 ≤ x5_2) = true := decide_eq_true c19
                              clear c19
                              by_cases c20 : x5_2 ≤ (x3_1.length : Int)
                              · rw [if_pos c20] at H
                                have c20b0 := eq_true c20
                                have c20b1 : decide (x5_2 ≤ (x3_1.length : Int)) = true := decide_eq_true c20
                                clear c20
                                obtain ⟨y175, hy175⟩ : ∃ y_ : List ByteArray, y_ = (x3_1.drop (x5_2 : Int).toNat) := ⟨_, rfl⟩
                                replace H : (if y172.length + y175.length < 8796093022208 then ((some (y172 ++ y175 : List ByteArray)).bind fun y179 => ((some (x3_1.take (x5_2 : Int).toNat : List ByteArray)).bind fun y182 => (if y182.length < 8796093022208 then ((some (y182 ++ [(rd_T42 l0 x4_1).f4] : List ByteArray)).bind fun y186 => (if y186.length + y179.length < 8796093022208 then (merkhetref09_Hosts.l0 k2 l0 (y186 ++ y179) (wrap64 (x4_1 + 1))) else (none))) else (none)))) else (none)) = some r := by first | (rw [hy175]; with_reducible exact H) | (have H2_ := (Option.bind_some _ _).symm.trans H; rw [hy175]; with_reducible exact H2_) | (have H2_ := (Option.bind_some _ _).symm.trans H; with_reducible exact H2_) | with_reducible exact H | (rw [hy175]; exact H) | exact H
                                have Ny175 := Aside0.mk hy175
                                clear hy175
                                by_cases c21 : y172.length + y175.length < 8796093022208
                                · rw [if_pos c21] at H
                                  have LMc21 := Aside0.mk c21
                                  clear c21
                                  obtain ⟨y179, hy179⟩ : ∃ y_ : List ByteArray, y_ = (y172 ++ y175) := ⟨_, rfl⟩
                                  replace H : ((some (x3_1.take (x5_2 : Int).toNat : List ByteArray)).bind fun y182 => (if y182.length < 8796093022208 then ((some (y182 ++ [(rd_T42 l0 x4_1).f4] : List ByteArray)).bind fun y186 => (if y186.length + y179.length < 8796093022208 then (merkhetref09_Hosts.l0 k2 l0 (y186 ++ y179) (wrap64 (x4_1 + 1))) else (none))) else (none))) = some r := by first | (rw [hy179]; with_reducible exact H) | (have H2_ := (Option.bind_some _ _).symm.trans H; rw [hy179]; with_reducible exact H2_) | (have H2_ := (Option.bind_some _ _).symm.trans H; with_reducible exact H2_) | with_reducible exact H | (rw [hy179]; exact H) | exact H
                                  have Ny179 := Aside0.mk hy179
                                  clear hy179
                                  have c22b0 := eq_true (of_decide_eq_true (by first | (with_reducible assumption) | assumption) : x5_2 ≤ (x3_1.length : Int))
                                  obtain ⟨y182, hy182⟩ : ∃ y_ : List ByteArray, y_ = (x3_1.take (x5_2 : Int).toNat) := ⟨_, rfl⟩
                                  replace H : (if y182.length < 8796093022208 then ((some (y182 ++ [(rd_T42 l0 x4_1).f4] : List ByteArray)).bind fun y186 => (if y186.length + y179.length < 8796093022208 then (merkhetref09_Hosts.l0 k2 l0 (y186 ++ y179) (wrap64 (x4_1 + 1))) else (none))) else (none)) = some r := by first | (rw [hy182]; with_reducible exact H) | (have H2_ := (Option.bind_some _ _).symm.trans H; rw [hy182]; with_reducible exact H2_) | (have H2_ := (Option.bind_some _ _).symm.trans H; with_reducible exact H2_) | with_reducible exact H | (rw [hy182]; exact H) | exact H
                                  have Ny182 := Aside0.mk hy182
                                  clear hy182
                                  by_cases c23 : y182.length < 8796093022208
                                  · rw [if_pos c23] at H
                                    have LMc23 := Aside0.mk c23
                                    clear c23
                                    obtain ⟨y186, hy186⟩ : ∃ y_ : List ByteArray, y_ = (y182 ++ [(rd_T42 l0 x4_1).f4]) := ⟨_, rfl⟩
                                    replace H : (if y186.length + y179.length < 8796093022208 then (merkhetref09_Hosts.l0 k2 l0 (y186 ++ y179) (wrap64 (x4_1 + 1))) else (none)) = some r := by first | (rw [hy186]; with_reducible exact H) | (have H2_ := (Option.bind_some _ _).symm.trans H; rw [hy186]; with_reducible exact H2_) | (have H2_ := (Option.bind_some _ _).symm.trans H; with_reducible exact H2_) | with_reducible exact H | (rw [hy186]; exact H) | exact H
                                    have Ny186 := Aside0.mk hy186
                                    clear hy186
                                    by_cases c24 : y186.length + y179.length < 8796093022208
                                    · rw [if_pos c24] at H
                                      have LMc24 := Aside0.mk c24
                                      clear c24
                                      obtain ⟨y189, hy189⟩ : ∃ y_ : List ByteArray, y_ = (y186 ++ y179) := ⟨_, rfl⟩
                                      replace H : (merkhetref09_Hosts.l0 k2 l0 y189 (wrap64 (x4_1 + 1))) = some r := by first | (rw [hy189]; with_reducible exact H) | (have H2_ := (Option.bind_some _ _).symm.trans H; rw [hy189]; with_reducible exact H2_) | (have H2_ := (Option.bind_some _ _).symm.trans H; with_reducible exact H2_) | with_reducible exact H | (rw [hy189]; exact H) | exact H
                                      have Ny189 := Aside0.mk hy189
                                      clear hy189
                                      have H' := Aside0.mk H
                                      clear H
                                      try go_wp2
                                      have n0_ := Aside0.mk (Kd.R_drew HO_3.out)
                                      have n1_ := Aside0.mk (below_drew1 HB.out)
                                      clear HO_3
                                      clear HB
                                      have HO_3 := n0_
                                      have HB := n1_
                                      clear n0_ n1_
                                      have p169 : 0 ≤ ((ji11) : Int) := of_decide_eq_true (by first | (with_reducible assumption) | assumption)
                                      have q169 : (ji11) < (x3_1.length : Int) := of_decide_eq_true (by first | (with_reducible assumption) | assumption)
                                      obtain ⟨ad169, e169, hx169_0⟩ := Kd.at_string (Kd.R_reads' HO_3.out).2.2 (ji11) p169 q169
                                      cases e169
                                      replace p169 := eq_true p169
                                      replace q169 := eq_true q169
                                      have p170 : 0 ≤ (x4_1 : Int) := of_decide_eq_true (by first | (with_reducible assumption) | assumption)
                                      have q170 : x4_1 < (l0.length : Int) := of_decide_eq_true (by first | (with_reducible assumption) | assumption)
                                      obtain ⟨ad170, e170, hx170_0, hx170_1, hx170_2, hx170_3, hx170_4, hx170_5, hx170_6, hx170_7⟩ := at_T42 HR0.out x4_1 p170 q170
                                      have hw170_7 := hx170_7
                                      have hw170_6 := hx170_6
                                      have hw170_5 := hx170_5
                                      have hw170_4 := hx170_4
                                      have hw170_3 := hx170_3
                                      have hw170_2 := hx170_2
                                      have hw170_1 := hx170_1
                                      have hw170_0 := hx170_0
                                      obtain rfl : ad167 = ad170 := (by injection e170)
                                      replace hx170_0 := (HB.out.cell (World.block_lt_of_cell? w _ hx170_0)).trans hx170_0
                                      replace hx170_1 := (HB.out.cell (World.block_lt_of_cell? w _ hx170_1)).trans hx170_1
                                      replace hx170_2 := (HB.out.cell (World.block_lt_of_cell? w _ hx170_2)).trans hx170_2
                                      replace hx170_3 := (HB.out.cell (World.block_lt_of_cell? w _ hx170_3)).trans hx170_3
                                      replace hx170_4 := (HB.out.cell (World.block_lt_of_cell? w _ hx170_4)).trans hx170_4
                                      replace hx170_5 := (HB.out.cell (World.block_lt_of_cell? w _ hx170_5)).trans hx170_5
                                      replace hx170_6 := (HB.out.cell (World.block_lt_of_cell? w _ hx170_6)).trans hx170_6
                                      replace hx170_7 := (HB.out.cell (World.block_lt_of_cell? w _ hx170_7)).trans hx170_7
                                      replace p170 := eq_true p170
                                      replace q170 := eq_true q170
                                      refine start_ (n := 16) (S := fun w' => w'.cell? (ad169.add ((ji11)).toNat) = some (.string (rdOf ByteArray.empty x3_1 (ji11))) ∧ w'.cell? (ad167.add ((x4_1).toNat * 8)) = some (.int .u64 ((rd_T42 l0 x4_1).f0)) ∧ w'.cell? ⟨(ad167.add ((x4_1).toNat * 8)).block, (ad167.add ((x4_1).toNat * 8)).off + 1, none⟩ = some (.int .u64 ((rd_T42 l0 x4_1).f1)) ∧ w'.cell? ⟨(ad167.add ((x4_1).toNat * 8)).block, (ad167.add ((x4_1).toNat * 8)).off + 2, none⟩ = some (.int .u64 ((rd_T42 l0 x4_1).f2)) ∧ w'.cell? ⟨(ad167.add ((x4_1).toNat * 8)).block, (ad167.add ((x4_1).toNat * 8)).off + 3, none⟩ = some (.int .u8 ((rd_T42 l0 x4_1).f3)) ∧ w'.cell? ⟨(ad167.add ((x4_1).toNat * 8)).block, (ad167.add ((x4_1).toNat * 8)).off + 4, none⟩ = some (.string ((rd_T42 l0 x4_1).f4)) ∧ w'.cell? ⟨(ad167.add ((x4_1).toNat * 8)).block, (ad167.add ((x4_1).toNat * 8)).off + 5, none⟩ = some (.string ((rd_T42 l0 x4_1).f5)) ∧ w'.cell? ⟨(ad167.add ((x4_1).toNat * 8)).block, (ad167.add ((x4_1).toNat * 8)).off + 6, none⟩ = some (.int .i64 ((rd_T42 l0 x4_1).f6)) ∧ w'.cell? ⟨(ad167.add ((x4_1).toNat * 8)).block, (ad167.add ((x4_1).toNat * 8)).off + 7, none⟩ = some (.int .i64 ((rd_T42 l0 x4_1).f7))) (ds := []) #[false, false, false, false, false, false, false, false, false, false, false, false, false, false, false, false] (by kernel_rfl) rfl rfl ⟨hx169_0, ((HB.out.cell (World.block_lt_of_cell? w _ hw170_0)).trans hw170_0), ((HB.out.cell (World.block_lt_of_cell? w _ hw170_1)).trans hw170_1), ((HB.out.cell (World.block_lt_of_cell? w _ hw170_2)).trans hw170_2), ((HB.out.cell (World.block_lt_of_cell? w _ hw170_3)).trans hw170_3), ((HB.out.cell (World.block_lt_of_cell? w _ hw170_4)).trans hw170_4), ((HB.out.cell (World.block_lt_of_cell? w _ hw170_5)).trans hw170_5), ((HB.out.cell (World.block_lt_of_cell? w _ hw170_6)).trans hw170_6), ((HB.out.cell (World.block_lt_of_cell? w _ hw170_7)).trans hw170_7)⟩ (fun hHeld => ?_); refine with_tabW merkhetref09_Hosts.tab7 merkhetref09_Hosts.bits7 (fun HT_ HW_ => ?_)
                                      generalize wr.drew = w25 at HO_3 HB hx169_0 hx170_0 hx170_1 hx170_2 hx170_3 hx170_4 hx170_5 hx170_6 hx170_7 hHeld ⊢
                                      refine pure_ (i := 0) (N := some 24) (v := ?_) (a' := ?_) #[true, false, false, false, false, false, false, false, false, false, false, false, false, false, false, false] rfl rfl (any_of HT_.out (by kernel_rfl)) (fun _ _ _ h => h) (Or.inl ⟨by rfl, ?_⟩) ?_ ?_
                                      rotate_left
                                      · intro w'
                                        go_simp
                                        with_reducible rfl
                                      rotate_left
                                      · simp only [Act.put, List.setIfInBounds_toArray, List.set_cons_zero, List.set_cons_succ, i64_w, i32_w]
                                        rfl
                                      refine pure_ (i := 1) (N := some 25) (v := ?_) (a' := ?_) #[true, true, false, false, false, false, false, false, false, false, false, false, false, false, false, false] rfl rfl (any_of HT_.out (by kernel_rfl)) (fun _ _ _ h => h) (Or.inl ⟨by rfl, ?_⟩) ?_ ?_
                                      rotate_left
                                      · intro w'
                                        go_simp
                                        with_reducible rfl
                                      rotate_left
                                      · simp only [Act.put, List.setIfInBounds_toArray, List.set_cons_zero, List.set_cons_succ, i64_w, i32_w]
                                        rfl
                                      refine pure_ (i := 2) (N := some 26) (v := ?_) (a' := ?_) #[true, true, true, false, false, false, false, false, false, false, false, false, false, false, false, false] rfl rfl (any_of HT_.out (by kernel_rfl)) (fun _ _ _ h => h) (Or.inl ⟨by rfl, ?_⟩) ?_ ?_
                                      rotate_left
                                      · intro w'
                                        go_simp
                                        with_reducible rfl
                                      rotate_left
                                      · simp only [Act.put, List.setIfInBounds_toArray, List.set_cons_zero, List.set_cons_succ, i64_w, i32_w]
                                        rfl
                                      refine pure_ (i := 3) (N := some 27) (v := ?_) (a' := ?_) #[true, true, true, true, false, false, false, false, false, false, false, false, false, false, false, false] rfl rfl (any_of HT_.out (by kernel_rfl)) (fun _ _ _ h => h) (Or.inl ⟨by rfl, ?_⟩) ?_ ?_
                                      rotate_left
                                      · intro w'
                                        go_simp
                                        with_reducible rfl
                                      rotate_left
                                      · simp only [Act.put, List.setIfInBounds_toArray, List.set_cons_zero, List.set_cons_succ, i64_w, i32_w]
                                        rfl
                                      refine pure_ (i := 4) (N := some 28) (v := ?_) (a' := ?_) #[true, true, true, true, true, false, false, false, false, false, false, false, false, false, false, false] rfl rfl (any_of HT_.out (by kernel_rfl)) (fun _ _ _ h => h) (Or.inl ⟨by rfl, ?_⟩) ?_ ?_
                                      rotate_left
                                      · intro w'
                                        go_simp
                                        with_reducible rfl
                                      rotate_left
                                      · simp only [Act.put, List.setIfInBounds_toArray, List.set_cons_zero, List.set_cons_succ, i64_w, i32_w]
                                        rfl
                                      refine pure_ (i := 5) (N := some 29) (v := ?_) (a' := ?_) #[true, true, true, true, true, true, false, false, false, false, false, false, false, false, false, false] rfl rfl (any_of HT_.out (by kernel_rfl)) (fun _ _ _ h => h) (Or.inl ⟨by rfl, ?_⟩) ?_ ?_
                                      rotate_left
                                      · intro w'
                                        go_simp
                                        with_reducible rfl
                                      rotate_left
                                      · simp only [Act.put, List.setIfInBounds_toArray, List.set_cons_zero, List.set_cons_succ, i64_w, i32_w]
                                        rfl
                                      refine pure_ (i := 6) (N := some 30) (v := ?_) (a' := ?_) #[true, true, true, true, true, true, true, false, false, false, false, false, false, false, false, false] rfl rfl (any_of HT_.out (by kernel_rfl)) (fun _ _ _ h => h) (Or.inl ⟨by rfl, ?_⟩) ?_ ?_
                                      rotate_left
                                      · intro w'
                                        go_simp
                                        with_reducible rfl
                                      rotate_left
                                      · simp only [Act.put, List.setIfInBounds_toArray, List.set_cons_zero, List.set_cons_succ, i64_w, i32_w]
                                        rfl
                                      refine pure_ (i := 8) (N := some 32) (v := ?_) (a' := ?_) #[true, true, true, true, true, true, true, false, true, false, false, false, false, false, false, false] rfl rfl (any_of HT_.out (by kernel_rfl)) (fun _ _ _ h => h) (Or.inl ⟨by rfl, ?_⟩) ?_ ?_
                                      rotate_left
                                      · intro w'
                                        go_simp
                                        with_reducible rfl
                                      rotate_left
                                      · simp only [Act.put, List.setIfInBounds_toArray, List.set_cons_zero, List.set_cons_succ, i64_w, i32_w]
                                        rfl
                                      refine pure_ (i := 9) (N := some 33) (v := ?_) (a' := ?_) #[true, true, true, true, true, true, true, false, true, true, false, false, false, false, false, false] rfl rfl (any_of HT_.out (by kernel_rfl)) (fun _ _ _ h => h) (Or.inl ⟨by rfl, ?_⟩) ?_ ?_
                                      rotate_left
                                      · intro w'
                                        go_simp
                                        with_reducible rfl
                                      rotate_left
                                      · simp only [Act.put, List.setIfInBounds_toArray, List.set_cons_zero, List.set_cons_succ, i64_w, i32_w]
                                        rfl
                                      refine pure_ (i := 10) (N := some 34) (v := ?_) (a' := ?_) #[true, true, true, true, true, true, true, false, true, true, true, false, false, false, false, false] rfl rfl (any_of HT_.out (by kernel_rfl)) (fun _ _ _ h => h) (Or.inl ⟨by rfl, ?_⟩) ?_ ?_
                                      rotate_left
                                      · intro w'
                                        go_simp
                                        with_reducible rfl
                                      rotate_left
                                      · simp only [Act.put, List.setIfInBounds_toArray, List.set_cons_zero, List.set_cons_succ, i64_w, i32_w]
                                        rfl
                                      refine pure_ (i := 11) (N := some 35) (v := ?_) (a' := ?_) #[true, true, true, true, true, true, true, false, true, true, true, true, false, false, false, false] rfl rfl (any_of HT_.out (by kernel_rfl)) (fun _ _ _ h => h) (Or.inl ⟨by rfl, ?_⟩) ?_ ?_
                                      rotate_left
                                      · intro w'
                                        go_simp
                                        with_reducible rfl
                                      rotate_left
                                      · simp only [Act.put, List.setIfInBounds_toArray, List.set_cons_zero, List.set_cons_succ, i64_w, i32_w]
                                        rfl
                                      refine take_ (i := 7) (N := some 31) (v := ?_) (a' := ?_) #[true, true, true, true, true, true, true, true, true, true, true, true, false, false, false, false] rfl rfl (take_ofW HT_.out HW_.out (by kernel_rfl)) (fun _ _ _ h => h) (Or.inl ⟨by rfl, ?_⟩) hHeld ?_ ?_
                                      rotate_left
                                      · rintro w' ⟨s0, s1, s2, s3, s4, s5, s6, s7, s8⟩
                                        go_simp
                                        with_reducible rfl
                                      rotate_left
                                      · simp only [Act.put, List.setIfInBounds_toArray, List.set_cons_zero, List.set_cons_succ, i64_w, i32_w]
                                        rfl
                                      refine take_ (i := 12) (N := some 36) (v := ?_) (a' := ?_) #[true, true, true, true, true, true, true, true, true, true, true, true, true, false, false, false] rfl rfl (take_ofW HT_.out HW_.out (by kernel_rfl)) (fun _ _ _ h => h) (Or.inl ⟨by rfl, ?_⟩) hHeld ?_ ?_
                                      rotate_left
                                      · rintro w' ⟨s0, s1, s2, s3, s4, s5, s6, s7, s8⟩
                                        go_simp
                                        with_reducible rfl
                                      rotate_left
                                      · simp only [Act.put, List.setIfInBounds_toArray, List.set_cons_zero, List.set_cons_succ, i64_w, i32_w]
                                        rfl
                                      refine one_ (i := 13) (N := some 37) #[true, true, true, true, true, true, true, true, true, true, true, true, true, true, false, false] rfl rfl (one_of HT_.out (by kernel_rfl)) (by decide) (fun K hK => ?_)
                                      refine goes_ Try.func60 (by kernel_rfl) rfl #[.string (rdOf ByteArray.empty x3_1 (ji11)), .string ((rd_T42 l0 x4_1).f4)] (by rfl) rfl rfl (by (try simp only [List.map_toArray, List.map_cons, List.map_nil]); first | done | (simp only [hji11]; rfl) | rfl | (simp only [List.length_drop, List.length_take]; rfl)) ?_
                                      with_reducible refine (merkhetref01_Text.calls k2 (rdOf ByteArray.empty x3_1 (ji11)) ((rd_T42 l0 x4_1).f4) t171 _ A16.out).mono ?_
                                      rintro e w' ⟨rfl, ⟨nd, rfl⟩⟩
                                      refine ⟨_, rfl, ?_⟩
                                      refine hK.out _ _ ⟨hHeld.1, ((HB.out.cell (World.block_lt_of_cell? w _ hw170_0)).trans hw170_0), ((HB.out.cell (World.block_lt_of_cell? w _ hw170_1)).trans hw170_1), ((HB.out.cell (World.block_lt_of_cell? w _ hw170_2)).trans hw170_2), ((HB.out.cell (World.block_lt_of_cell? w _ hw170_3)).trans hw170_3), ((HB.out.cell (World.block_lt_of_cell? w _ hw170_4)).trans hw170_4), ((HB.out.cell (World.block_lt_of_cell? w _ hw170_5)).trans hw170_5), ((HB.out.cell (World.block_lt_of_cell? w _ hw170_6)).trans hw170_6), ((HB.out.cell (World.block_lt_of_cell? w _ hw170_7)).trans hw170_7)⟩ (fun hHeld => ?_)
                                      clear hK K
                                      refine norm_ (a' := ?_) ?_ ?_
                                      rotate_left
                                      · show Act.put _ (some 37) _ = _
                                        simp only [Act.put, List.setIfInBounds_toArray, List.set_cons_zero, List.set_cons_succ, i64_w, i32_w]
                                        rfl
                                      refine pure_ (i := 14) (N := some 38) (v := ?_) (a' := ?_) #[true, true, true, true, true, true, true, true, true, true, true, true, true, true, true, false] rfl rfl (any_of HT_.out (by kernel_rfl)) (fun _ _ _ h => h) (Or.inl ⟨by rfl, ?_⟩) ?_ ?_
                                      rotate_left
                                      · intro w'
                                        go_simp
                                        with_reducible rfl
                                      rotate_left
                                      · simp only [Act.put, List.setIfInBounds_toArray, List.set_cons_zero, List.set_cons_succ, i64_w, i32_w]
                                        rfl
                                      refine pure_ (i := 15) (N := some 39) (v := ?_) (a' := ?_) #[true, true, true, true, true, true, true, true, true, true, true, true, true, true, true, true] rfl rfl (any_of HT_.out (by kernel_rfl)) (fun _ _ _ h => h) (Or.inl ⟨by rfl, ?_⟩) ?_ ?_
                                      rotate_left
                                      · intro w'
                                        go_simp
                                        with_reducible rfl
                                      rotate_left
                                      · simp only [Act.put, List.setIfInBounds_toArray, List.set_cons_zero, List.set_cons_succ, i64_w, i32_w]
                                        rfl
                                      refine done_ (done_of HT_.out (by kernel_rfl)) ?_
                                      try go_wp2_with (first | ((with_reducible refine gate_dst (N := 42) rfl ?_); refine Kd.R_lit Kd.string _ 9 ?hg (N := 42) ?hd (xs := ([] : List ByteArray)) (inner := []) (ok := fun _ => True) (okp := fun _ => True) ?hr ?hp (fun _ hk => hk) trivial (Below.refl _ _) (Nat.le_refl _) (by simp) ?_; (case hd => rfl); (case hg => rfl); (case hr => first | (go_simp; done) | (go_simp; rfl)); (case hp => exact (Reps.none _ _)); intro v173 w26 ho27 hb hg_ hnew_; clear hg_ hnew_; (first | rw [← Ny172.out] at ho27 | (simp only [Int.reduceToNat] at ho27; rw [← Ny172.out] at ho27)); have n0_ := Aside0.mk (Kd.R_elder' (by (with_reducible repeat (first | apply Kd.R_alloc | apply Kd.R_drewN | apply Kd.R_drew)); exact HO_3.out) (Kd.R_base ho27) hb); have n1_ := Aside0.mk (Kd.R_lower (Kd.R_new' ho27 (Kd.R_lt (by (with_reducible repeat (first | apply Kd.R_alloc | apply Kd.R_drewN | apply Kd.R_drew)); exact HO_3.out))) (below_size (by repeat (first | (with_reducible first | exact HB.out | apply below_alloc | apply pw_below_drewN | apply below_drew1) | exact HB.out)))); have n2_ := Aside0.mk (below_step (by repeat (first | (with_reducible first | exact HB.out | apply below_alloc | apply pw_below_drewN | apply below_drew1) | exact HB.out)) hb); clear HO_3; clear HB; have HO_3 := n0_; have HO174 := n1_; have HB := n2_; clear n0_ n1_ n2_; clear hb ho27; have q28 : (x5_2 : Int) ≤ ((x3_1.length : Int) : Int) := of_decide_eq_true (by first | (with_reducible assumption) | assumption); obtain ⟨i028, hi028, _, hsz28, _⟩ := info_parts info9; have hroom28 : x3_1.length ≤ co9 := (Kd.R_reads' HO_3.out).2.1; have hC28 : Kd.C Kd.string _ (some ad169) x3_1.length x3_1 := (Kd.R_reads' HO_3.out).2.2; have q028 : (0 : Int) ≤ (x5_2 : Int) := of_decide_eq_true (by first | (with_reducible assumption) | assumption); have hcut28 := cut_from (P := Try.prog) 61 9 .i64 Try.underlying61 hi028 1 hsz28 (some ad169) x3_1.length co9 x5_2 q028 q28; have hr28 := Kd.C_drop (m := (x5_2 : Int).toNat) (c := co9) hC28 (by omega) hroom28; obtain ⟨A28, hA28⟩ : ∃ A1, A1 = (if co9 = (x5_2 : Int).toNat then (some ad169) else ((some ad169) : Option Addr).map (·.add ((x5_2 : Int).toNat * 1))) := ⟨_, rfl⟩; obtain ⟨c28, hc28⟩ : ∃ c1, c1 = co9 - (x5_2 : Int).toNat := ⟨_, rfl⟩; have hy28 : y175.length = x3_1.length - (x5_2 : Int).toNat := (by rw [Ny175.out, List.length_drop] <;> omega); rw [show (x3_1).drop (x5_2 : Int).toNat = y175 from Ny175.out.symm] at hr28; replace hr28 : Kd.C Kd.string _ A28 y175.length y175 := (by rw [hA28]; exact hr28); rw [← hy28, ← hA28, ← hc28] at hcut28; have HR178 := Aside0.mk hr28; have HC178 := Aside0.mk (show y175.length ≤ c28 from by rw [hy28, hc28]; exact Nat.sub_le_sub_right hroom28 _); clear hr28 hC28 hroom28 hi028 hsz28 hc28; have KY28 := Aside0.mk hy28; have KA28 := Aside0.mk hA28; clear hy28 hA28; have KL28 := Aside0.mk (show (x5_2 : Int).toNat ≤ x3_1.length from by omega); replace q28 := eq_true q28) | ((with_reducible refine gate_builtin (b := .append) (xs := #[.tmp 42, .tmp 45]) rfl ?_); at_builtin; refine Kd.R_append_rows Kd.string (w0 := w) w.heap.size rfl (.tmp 42) (.tmp 45) 61 9 (.string ⟨#[]⟩) 16 rfl Try.underlying61 info9 rfl (by decide) (by omega) v173 y172 y175 _ _ _ (fun k_ => some k_ ≠ (.slice (some ad169) x3_1.length co9 : Value).ownBlock) (fun _ => False) rfl rfl ?aO ?aR (fun _ _ h => h) (fun _ h => h.elim) ?aF ?aB ?aS ?aL ?_; (case aR => repeat (first | exact (by repeat (first | (with_reducible exact HR178.out) | (with_reducible refine Kd.C_alloc ?_ _) | (with_reducible refine Kd.C_drewN ?_ _) | (with_reducible refine Kd.C_drew ?_) | exact HR178.out)) | (with_reducible refine Kd.C_alloc ?_ _) | (with_reducible refine Kd.C_drewN ?_ _) | (with_reducible refine Kd.C_drew ?_))); (case aB => exact (by repeat (first | (with_reducible first | exact HB.out | apply below_alloc | apply pw_below_drewN | apply below_drew1) | exact HB.out))); (case aF => exact (fun k_ hk => Kd.fresh' (Kd.R_lt (by (with_reducible repeat (first | apply Kd.R_alloc | apply Kd.R_drewN | apply Kd.R_drew)); exact HO_3.out)) k_ hk)); (case aO => exact (by (with_reducible repeat (first | apply Kd.R_alloc | apply Kd.R_drewN | apply Kd.R_drew)); exact Kd.R_mono HO174.out (fun _ hk => hk.2))); (case aS => exact (below_size (by repeat (first | (with_reducible first | exact HB.out | apply below_alloc | apply pw_below_drewN | apply below_drew1) | exact HB.out)))); (case aL => have := LMc21.out; omega); intro v180 w29 ho hb hg hat; rw [← Ny179.out] at ho; have n0_ := Aside0.mk (Kd.R_after (ok := (fun _ => True)) (by (with_reducible repeat (first | apply Kd.R_alloc | apply Kd.R_drewN | apply Kd.R_drew)); exact HO_3.out) hg hat); have n1_ := Aside0.mk (hb); have n2_ := Aside0.mk ((show Kd.C Kd.string w29 A28 y175.length y175 from by rw [Ny175.out, KA28.out]; exact Kd.C_drop (m := (x5_2 : Int).toNat) (c := co9) ((Kd.R_reads' (Kd.R_after (ok := (fun _ => True)) (by (with_reducible repeat (first | apply Kd.R_alloc | apply Kd.R_drewN | apply Kd.R_drew)); exact HO_3.out) hg hat)).2.2) KL28.out ((Kd.R_reads' (Kd.R_after (ok := (fun _ => True)) (by (with_reducible repeat (first | apply Kd.R_alloc | apply Kd.R_drewN | apply Kd.R_drew)); exact HO_3.out) hg hat)).2.1))); have n3_ := Aside0.mk (ho); clear HO_3; clear HB; clear HR178; clear HO174; have HO_3 := n0_; have HB := n1_; have HR178 := n2_; have HO181 := n3_; clear n0_ n1_ n2_ n3_; clear ho hb hg hat))
                                      have n0_ := Aside0.mk (Kd.R_drew HO_3.out)
                                      have n1_ := Aside0.mk (Kd.R_drew HO181.out)
                                      have n2_ := Aside0.mk (Kd.C_drew HR178.out)
                                      have n3_ := Aside0.mk (below_drew1 HB.out)
                                      clear HO_3
                                      clear HO181
                                      clear HR178
                                      clear HB
                                      have HO_3 := n0_
                                      have HO181 := n1_
                                      have HR178 := n2_
                                      have HB := n3_
                                      clear n0_ n1_ n2_ n3_
                                      have q31 : (x5_2 : Int) ≤ ((x3_1.length : Int) : Int) := of_decide_eq_true (by first | (with_reducible assumption) | assumption)
                                      obtain ⟨i031, hi031, _, hsz31, _⟩ := info_parts info9
                                      have hcut31 := cut_to (P := Try.prog) 61 9 .i64 Try.underlying61 hi031 (some ad169) x3_1.length co9 x5_2 (of_decide_eq_true (by first | (with_reducible assumption) | assumption)) q31 (Kd.R_reads' HO_3.out).2.1
                                      have hr31 := Kd.R_take (m := (x5_2 : Int).toNat) HO_3.out (by omega)
                                      have hy31 : y182.length = (x5_2 : Int).toNat := (by rw [Ny182.out, List.length_take]; omega)
                                      rw [← Ny182.out] at hr31
                                      rw [← hy31] at hr31 hcut31
                                      clear hy31 hi031 hsz31 HO_3
                                      have HO184 := Aside0.mk hr31
                                      clear hr31
                                      replace q31 := eq_true q31
                                      have p185 : 0 ≤ (x4_1 : Int) := of_decide_eq_true (by first | (with_reducible assumption) | assumption)
                                      have q185 : x4_1 < (l0.length : Int) := of_decide_eq_true (by first | (with_reducible assumption) | assumption)
                                      obtain ⟨ad185, e185, hx185_0, hx185_1, hx185_2, hx185_3, hx185_4, hx185_5, hx185_6, hx185_7⟩ := at_T42 HR0.out x4_1 p185 q185
                                      have hw185_7 := hx185_7
                                      have hw185_6 := hx185_6
                                      have hw185_5 := hx185_5
                                      have hw185_4 := hx185_4
                                      have hw185_3 := hx185_3
                                      have hw185_2 := hx185_2
                                      have hw185_1 := hx185_1
                                      have hw185_0 := hx185_0
                                      obtain rfl : ad167 = ad185 := (by injection e185)
                                      replace hx185_0 := (HB.out.cell (World.block_lt_of_cell? w _ hx185_0)).trans hx185_0
                                      replace hx185_1 := (HB.out.cell (World.block_lt_of_cell? w _ hx185_1)).trans hx185_1
                                      replace hx185_2 := (HB.out.cell (World.block_lt_of_cell? w _ hx185_2)).trans hx185_2
                                      replace hx185_3 := (HB.out.cell (World.block_lt_of_cell? w _ hx185_3)).trans hx185_3
                                      replace hx185_4 := (HB.out.cell (World.block_lt_of_cell? w _ hx185_4)).trans hx185_4
                                      replace hx185_5 := (HB.out.cell (World.block_lt_of_cell? w _ hx185_5)).trans hx185_5
                                      replace hx185_6 := (HB.out.cell (World.block_lt_of_cell? w _ hx185_6)).trans hx185_6
                                      replace hx185_7 := (HB.out.cell (World.block_lt_of_cell? w _ hx185_7)).trans hx185_7
                                      replace p185 := eq_true p185
                                      replace q185 := eq_true q185
                                      refine start_ (n := 13) (S := fun w' => w'.cell? (ad167.add ((x4_1).toNat * 8)) = some (.int .u64 ((rd_T42 l0 x4_1).f0)) ∧ w'.cell? ⟨(ad167.add ((x4_1).toNat * 8)).block, (ad167.add ((x4_1).toNat * 8)).off + 1, none⟩ = some (.int .u64 ((rd_T42 l0 x4_1).f1)) ∧ w'.cell? ⟨(ad167.add ((x4_1).toNat * 8)).block, (ad167.add ((x4_1).toNat * 8)).off + 2, none⟩ = some (.int .u64 ((rd_T42 l0 x4_1).f2)) ∧ w'.cell? ⟨(ad167.add ((x4_1).toNat * 8)).block, (ad167.add ((x4_1).toNat * 8)).off + 3, none⟩ = some (.int .u8 ((rd_T42 l0 x4_1).f3)) ∧ w'.cell? ⟨(ad167.add ((x4_1).toNat * 8)).block, (ad167.add ((x4_1).toNat * 8)).off + 4, none⟩ = some (.string ((rd_T42 l0 x4_1).f4)) ∧ w'.cell? ⟨(ad167.add ((x4_1).toNat * 8)).block, (ad167.add ((x4_1).toNat * 8)).off + 5, none⟩ = some (.string ((rd_T42 l0 x4_1).f5)) ∧ w'.cell? ⟨(ad167.add ((x4_1).toNat * 8)).block, (ad167.add ((x4_1).toNat * 8)).off + 6, none⟩ = some (.int .i64 ((rd_T42 l0 x4_1).f6)) ∧ w'.cell? ⟨(ad167.add ((x4_1).toNat * 8)).block, (ad167.add ((x4_1).toNat * 8)).off + 7, none⟩ = some (.int .i64 ((rd_T42 l0 x4_1).f7))) (ds := []) #[false, false, false, false, false, false, false, false, false, false, false, false, false] (by kernel_rfl) rfl rfl ⟨((HB.out.cell (World.block_lt_of_cell? w _ hw185_0)).trans hw185_0), ((HB.out.cell (World.block_lt_of_cell? w _ hw185_1)).trans hw185_1), ((HB.out.cell (World.block_lt_of_cell? w _ hw185_2)).trans hw185_2), ((HB.out.cell (World.block_lt_of_cell? w _ hw185_3)).trans hw185_3), ((HB.out.cell (World.block_lt_of_cell? w _ hw185_4)).trans hw185_4), ((HB.out.cell (World.block_lt_of_cell? w _ hw185_5)).trans hw185_5), ((HB.out.cell (World.block_lt_of_cell? w _ hw185_6)).trans hw185_6), ((HB.out.cell (World.block_lt_of_cell? w _ hw185_7)).trans hw185_7)⟩ (fun hHeld => ?_); refine with_tabW merkhetref09_Hosts.tab10 merkhetref09_Hosts.bits10 (fun HT_ HW_ => ?_)
                                      generalize w29.drew = w30 at HO_3 HO181 HR178 HB HO184 hx185_0 hx185_1 hx185_2 hx185_3 hx185_4 hx185_5 hx185_6 hx185_7 hHeld ⊢
                                      refine pure_ (i := 0) (N := some 47) (v := ?_) (a' := ?_) #[true, false, false, false, false, false, false, false, false, false, false, false, false] rfl rfl (any_of HT_.out (by kernel_rfl)) (fun _ _ _ h => h) (Or.inl ⟨by rfl, ?_⟩) ?_ ?_
                                      rotate_left
                                      · intro w'
                                        go_simp
                                        with_reducible rfl
                                      rotate_left
                                      · simp only [Act.put, List.setIfInBounds_toArray, List.set_cons_zero, List.set_cons_succ, i64_w, i32_w]
                                        rfl
                                      refine pure_ (i := 1) (N := some 48) (v := ?_) (a' := ?_) #[true, true, false, false, false, false, false, false, false, false, false, false, false] rfl rfl (any_of HT_.out (by kernel_rfl)) (fun _ _ _ h => h) (Or.inl ⟨by rfl, ?_⟩) ?_ ?_
                                      rotate_left
                                      · intro w'
                                        go_simp
                                        with_reducible rfl
                                      rotate_left
                                      · simp only [Act.put, List.setIfInBounds_toArray, List.set_cons_zero, List.set_cons_succ, i64_w, i32_w]
                                        rfl
                                      refine pure_ (i := 2) (N := some 49) (v := ?_) (a' := ?_) #[true, true, true, false, false, false, false, false, false, false, false, false, false] rfl rfl (any_of HT_.out (by kernel_rfl)) (fun _ _ _ h => h) (Or.inl ⟨by rfl, ?_⟩) ?_ ?_
                                      rotate_left
                                      · intro w'
                                        go_simp
                                        with_reducible rfl
                                      rotate_left
                                      · simp only [Act.put, List.setIfInBounds_toArray, List.set_cons_zero, List.set_cons_succ, i64_w, i32_w]
                                        rfl
                                      refine pure_ (i := 3) (N := some 50) (v := ?_) (a' := ?_) #[true, true, true, true, false, false, false, false, false, false, false, false, false] rfl rfl (any_of HT_.out (by kernel_rfl)) (fun _ _ _ h => h) (Or.inl ⟨by rfl, ?_⟩) ?_ ?_
                                      rotate_left
                                      · intro w'
                                        go_simp
                                        with_reducible rfl
                                      rotate_left
                                      · simp only [Act.put, List.setIfInBounds_toArray, List.set_cons_zero, List.set_cons_succ, i64_w, i32_w]
                                        rfl
                                      refine pure_ (i := 4) (N := some 51) (v := ?_) (a' := ?_) #[true, true, true, true, true, false, false, false, false, false, false, false, false] rfl rfl (any_of HT_.out (by kernel_rfl)) (fun _ _ _ h => h) (Or.inl ⟨by rfl, ?_⟩) ?_ ?_
                                      rotate_left
                                      · intro w'
                                        go_simp
                                        with_reducible rfl
                                      rotate_left
                                      · simp only [Act.put, List.setIfInBounds_toArray, List.set_cons_zero, List.set_cons_succ, i64_w, i32_w]
                                        rfl
                                      refine pure_ (i := 5) (N := some 52) (v := ?_) (a' := ?_) #[true, true, true, true, true, true, false, false, false, false, false, false, false] rfl rfl (any_of HT_.out (by kernel_rfl)) (fun _ _ _ h => h) (Or.inl ⟨by rfl, ?_⟩) ?_ ?_
                                      rotate_left
                                      · intro w'
                                        go_simp
                                        with_reducible rfl
                                      rotate_left
                                      · simp only [Act.put, List.setIfInBounds_toArray, List.set_cons_zero, List.set_cons_succ, i64_w, i32_w]
                                        rfl
                                      refine pure_ (i := 6) (N := some 53) (v := ?_) (a' := ?_) #[true, true, true, true, true, true, true, false, false, false, false, false, false] rfl rfl (any_of HT_.out (by kernel_rfl)) (fun _ _ _ h => h) (Or.inl ⟨by rfl, ?_⟩) ?_ ?_
                                      rotate_left
                                      · intro w'
                                        go_simp
                                        with_reducible rfl
                                      rotate_left
                                      · simp only [Act.put, List.setIfInBounds_toArray, List.set_cons_zero, List.set_cons_succ, i64_w, i32_w]
                                        rfl
                                      refine pure_ (i := 10) (N := some 57) (v := ?_) (a' := ?_) #[true, true, true, true, true, true, true, false, false, false, true, false, false] rfl rfl (any_of HT_.out (by kernel_rfl)) (fun _ _ _ h => h) (Or.inl ⟨by rfl, ?_⟩) ?_ ?_
                                      rotate_left
                                      · intro w'
                                        go_simp
                                        with_reducible rfl
                                      rotate_left
                                      · simp only [Act.put, List.setIfInBounds_toArray, List.set_cons_zero, List.set_cons_succ, i64_w, i32_w]
                                        rfl
                                      refine take_ (i := 7) (N := some 54) (v := ?_) (a' := ?_) #[true, true, true, true, true, true, true, true, false, false, true, false, false] rfl rfl (take_ofW HT_.out HW_.out (by kernel_rfl)) (fun _ _ _ h => h) (Or.inl ⟨by rfl, ?_⟩) hHeld ?_ ?_
                                      rotate_left
                                      · rintro w' ⟨s0, s1, s2, s3, s4, s5, s6, s7⟩
                                        go_simp
                                        with_reducible rfl
                                      rotate_left
                                      · simp only [Act.put, List.setIfInBounds_toArray, List.set_cons_zero, List.set_cons_succ, i64_w, i32_w]
                                        rfl
                                      refine one_ (i := 8) (N := some 55) #[true, true, true, true, true, true, true, true, true, false, true, false, false] rfl rfl (one_of HT_.out (by kernel_rfl)) (by decide) (fun K hK => ?_)
                                      refine value_ (w1 := ?_) (v := ?_) (by rfl) rfl ?_ ?_
                                      rotate_left 2
                                      · go_simp
                                        constructor
                                        · rfl
                                        · rfl
                                      refine hK.out _ _ ⟨(World.cell?_alloc_lt _ _ _ (World.block_lt_of_cell? _ _ (((HB.out.cell (World.block_lt_of_cell? w _ hw185_0)).trans hw185_0)))).trans (((HB.out.cell (World.block_lt_of_cell? w _ hw185_0)).trans hw185_0)), (World.cell?_alloc_lt _ _ _ (World.block_lt_of_cell? _ _ (((HB.out.cell (World.block_lt_of_cell? w _ hw185_1)).trans hw185_1)))).trans (((HB.out.cell (World.block_lt_of_cell? w _ hw185_1)).trans hw185_1)), (World.cell?_alloc_lt _ _ _ (World.block_lt_of_cell? _ _ (((HB.out.cell (World.block_lt_of_cell? w _ hw185_2)).trans hw185_2)))).trans (((HB.out.cell (World.block_lt_of_cell? w _ hw185_2)).trans hw185_2)), (World.cell?_alloc_lt _ _ _ (World.block_lt_of_cell? _ _ (((HB.out.cell (World.block_lt_of_cell? w _ hw185_3)).trans hw185_3)))).trans (((HB.out.cell (World.block_lt_of_cell? w _ hw185_3)).trans hw185_3)), (World.cell?_alloc_lt _ _ _ (World.block_lt_of_cell? _ _ (((HB.out.cell (World.block_lt_of_cell? w _ hw185_4)).trans hw185_4)))).trans (((HB.out.cell (World.block_lt_of_cell? w _ hw185_4)).trans hw185_4)), (World.cell?_alloc_lt _ _ _ (World.block_lt_of_cell? _ _ (((HB.out.cell (World.block_lt_of_cell? w _ hw185_5)).trans hw185_5)))).trans (((HB.out.cell (World.block_lt_of_cell? w _ hw185_5)).trans hw185_5)), (World.cell?_alloc_lt _ _ _ (World.block_lt_of_cell? _ _ (((HB.out.cell (World.block_lt_of_cell? w _ hw185_6)).trans hw185_6)))).trans (((HB.out.cell (World.block_lt_of_cell? w _ hw185_6)).trans hw185_6)), (World.cell?_alloc_lt _ _ _ (World.block_lt_of_cell? _ _ (((HB.out.cell (World.block_lt_of_cell? w _ hw185_7)).trans hw185_7)))).trans (((HB.out.cell (World.block_lt_of_cell? w _ hw185_7)).trans hw185_7))⟩ (fun hHeld => ?_)
                                      clear hK K
                                      refine norm_ (a' := ?_) ?_ ?_
                                      rotate_left
                                      · show Act.put _ (some 55) _ = _
                                        simp only [Act.put, List.setIfInBounds_toArray, List.set_cons_zero, List.set_cons_succ, i64_w, i32_w]
                                        rfl
                                      refine one_ (i := 9) (N := some 56) #[true, true, true, true, true, true, true, true, true, true, true, false, false] rfl rfl (one_of HT_.out (by kernel_rfl)) (by decide) (fun K hK => ?_)
                                      refine Kd.R_append_step Kd.string (w0 := w) w.heap.size (by rfl) (.tmp 49) (.tmp 55) 61 9 (.string ⟨#[]⟩) 16 rfl Try.underlying61 info9 rfl (by decide) (by omega) (.slice (some ad169) y182.length co9) y182 ((rd_T42 l0 x4_1).f4) [.string ((rd_T42 l0 x4_1).f4)] (fun k_ => some k_ ≠ (v180 : Value).ownBlock) (fun _ => False) rfl rfl ?aP (fun _ hk => hk.elim) ?aF ?aO ?aB ?aS ?aL ?_
                                      (case aP => exact rfl)
                                      (case aB => exact (by repeat (first | (with_reducible first | exact HB.out | apply below_alloc | apply pw_below_drewN | apply below_drew1) | exact HB.out)))
                                      (case aF => exact (fun k_ hk => Kd.fresh' (Kd.R_lt (by (with_reducible repeat (first | apply Kd.R_alloc | apply Kd.R_drewN | apply Kd.R_drew)); exact HO181.out)) k_ hk))
                                      (case aO => exact (by (with_reducible repeat (first | apply Kd.R_alloc | apply Kd.R_drewN | apply Kd.R_drew)); exact Kd.R_mono HO184.out (fun _ hk => hk.2)))
                                      (case aS => exact (below_size (by repeat (first | (with_reducible first | exact HB.out | apply below_alloc | apply pw_below_drewN | apply below_drew1) | exact HB.out))))
                                      (case aL => have := LMc23.out; omega)
                                      intro v187 w32 ho hb hg hat
                                      rw [← Ny186.out] at ho
                                      have n0_ := Aside0.mk (Kd.R_after (ok := (fun _ => True)) (by (with_reducible repeat (first | apply Kd.R_alloc | apply Kd.R_drewN | apply Kd.R_drew)); exact Kd.R_mono HO181.out (fun _ hk => ⟨trivial, by first | exact hk | exact fun h_ => hk (h_.trans (own_len _ _ _ _ _))⟩)) hg hat)
                                      have n1_ := Aside0.mk (hb)
                                      have n2_ := Aside0.mk (ho)
                                      clear HO181
                                      clear HB
                                      clear HO184
                                      have HO181 := n0_
                                      have HB := n1_
                                      have HO188 := n2_
                                      clear n0_ n1_ n2_
                                      clear ho hb hg hat
                                      obtain ⟨Ao34, co34, eo34⟩ := Kd.R_slice HO181.out
                                      (first | subst eo34 | (injection eo34 with f1_ f2_ f3_; have f4_ := f1_.symm; have f5_ := f3_.symm; clear f1_ f2_ f3_; subst f4_; subst f5_))
                                      refine hK.out _ _ ⟨((HB.out.cell (World.block_lt_of_cell? w _ hw185_0)).trans hw185_0), ((HB.out.cell (World.block_lt_of_cell? w _ hw185_1)).trans hw185_1), ((HB.out.cell (World.block_lt_of_cell? w _ hw185_2)).trans hw185_2), ((HB.out.cell (World.block_lt_of_cell? w _ hw185_3)).trans hw185_3), ((HB.out.cell (World.block_lt_of_cell? w _ hw185_4)).trans hw185_4), ((HB.out.cell (World.block_lt_of_cell? w _ hw185_5)).trans hw185_5), ((HB.out.cell (World.block_lt_of_cell? w _ hw185_6)).trans hw185_6), ((HB.out.cell (World.block_lt_of_cell? w _ hw185_7)).trans hw185_7)⟩ (fun hHeld => ?_)
                                      clear hK K
                                      refine norm_ (a' := ?_) ?_ ?_
                                      rotate_left
                                      · show Act.put _ (some 56) _ = _
                                        simp only [Act.put, List.setIfInBounds_toArray, List.set_cons_zero, List.set_cons_succ, i64_w, i32_w]
                                        rfl
                                      refine one_ (i := 11) (N := some 58) #[true, true, true, true, true, true, true, true, true, true, true, true, false] rfl rfl (one_of HT_.out (by kernel_rfl)) (by decide) (fun K hK => ?_)
                                      refine Kd.R_append_rows_step Kd.string (w0 := w) w.heap.size (by rfl) (.tmp 56) (.tmp 57) 61 9 (.string ⟨#[]⟩) 16 rfl Try.underlying61 info9 rfl (by decide) (by omega) v187 y186 y179 _ _ _ (fun k_ => some k_ ≠ (.slice Ao34 y179.length co34 : Value).ownBlock) (fun _ => False) rfl rfl ?aO ?aR (fun _ _ h => h) (fun _ h => h.elim) ?aF ?aB ?aS ?aL ?_
                                      (case aR => repeat (first | exact (Kd.R_reads' HO181.out).2.2 | (with_reducible refine Kd.C_alloc ?_ _) | (with_reducible refine Kd.C_drewN ?_ _) | (with_reducible refine Kd.C_drew ?_)))
                                      (case aB => exact (by repeat (first | (with_reducible first | exact HB.out | apply below_alloc | apply pw_below_drewN | apply below_drew1) | exact HB.out)))
                                      (case aF => exact (fun k_ hk => Kd.fresh' (Kd.R_lt (by (with_reducible repeat (first | apply Kd.R_alloc | apply Kd.R_drewN | apply Kd.R_drew)); exact HO181.out)) k_ hk))
                                      (case aO => exact (by (with_reducible repeat (first | apply Kd.R_alloc | apply Kd.R_drewN | apply Kd.R_drew)); exact HO188.out))
                                      (case aS => exact (below_size (by repeat (first | (with_reducible first | exact HB.out | apply below_alloc | apply pw_below_drewN | apply below_drew1) | exact HB.out))))
                                      (case aL => have := LMc24.out; omega)
                                      intro v190 w33 ho hb hg hat
                                      rw [← Ny189.out] at ho
                                      have n0_ := Aside0.mk (Kd.R_after (ok := (fun _ => True)) (by (with_reducible repeat (first | apply Kd.R_alloc | apply Kd.R_drewN | apply Kd.R_drew)); exact HO181.out) hg hat)
                                      have n1_ := Aside0.mk (hb)
                                      have n2_ := Aside0.mk (ho)
                                      clear HO181
                                      clear HB
                                      clear HO188
                                      have HO181 := n0_
                                      have HB := n1_
                                      have HO191 := n2_
                                      clear n0_ n1_ n2_
                                      clear ho hb hg hat
                                      refine hK.out _ _ ⟨((HB.out.cell (World.block_lt_of_cell? w _ hw185_0)).trans hw185_0), ((HB.out.cell (World.block_lt_of_cell? w _ hw185_1)).trans hw185_1), ((HB.out.cell (World.block_lt_of_cell? w _ hw185_2)).trans hw185_2), ((HB.out.cell (World.block_lt_of_cell? w _ hw185_3)).trans hw185_3), ((HB.out.cell (World.block_lt_of_cell? w _ hw185_4)).trans hw185_4), ((HB.out.cell (World.block_lt_of_cell? w _ hw185_5)).trans hw185_5), ((HB.out.cell (World.block_lt_of_cell? w _ hw185_6)).trans hw185_6), ((HB.out.cell (World.block_lt_of_cell? w _ hw185_7)).trans hw185_7)⟩ (fun hHeld => ?_)
                                      clear hK K
                                      refine norm_ (a' := ?_) ?_ ?_
                                      rotate_left
                                      · show Act.put _ (some 58) _ = _
                                        simp only [Act.put, List.setIfInBounds_toArray, List.set_cons_zero, List.set_cons_succ, i64_w, i32_w]
                                        rfl
                                      refine pure_ (i := 12) (N := some 3) (v := ?_) (a' := ?_) #[true, true, true, true, true, true, true, true, true, true, true, true, true] rfl rfl (any_of HT_.out (by kernel_rfl)) (fun _ _ _ h => h) (Or.inl ⟨by rfl, ?_⟩) ?_ ?_
                                      rotate_left
                                      · intro w'
                                        go_simp
                                        with_reducible rfl
                                      rotate_left
                                      · simp only [Act.put, List.setIfInBounds_toArray, List.set_cons_zero, List.set_cons_succ, i64_w, i32_w]
                                        rfl
                                      refine done_ (done_of HT_.out (by kernel_rfl)) ?_
                                      try go_wp2
                                      go_roundg k2
                                      case measure => have := HK1.out; have := HK2.out; omega
                                      case rel => exact ⟨(y189), (wrap64 (x4_1 + 1)), (by first | rfl | (simp; done) | (simp [*]; done)), H', ⟨by have := HK1.out; have := HK2.out; omega⟩, ⟨by (with_reducible repeat (first | apply Kd.R_alloc | apply Kd.R_drewN | apply Kd.R_drew)); exact Kd.R_mono HO191.out (fun _ hk => trivial)⟩, ⟨by repeat (first | (with_reducible first | exact HB.out | apply below_alloc | apply pw_below_drewN | apply below_drew1) | exact HB.out)⟩⟩
                                    · rw [if_neg c24] at H
                                      exact absurd H (by simp)
                                  · rw [if_neg c23] at H
                                    exact absurd H (by simp)
                                · rw [if_neg c21] at H
                                  exact absurd H (by simp)
                              · rw [if_neg c20] at H
                                exact absurd H (by simp)
                            · rw [if_neg c19] at H
                              exact absurd H (by simp)
                        · rw [if_neg c15] at H
                          exact absurd H (by simp)
                      · rw [if_neg c14] at H
                        exact absurd H (by simp)
                    · rw [if_neg c13] at H
                      exact absurd H (by simp)
                  · rw [if_neg c12] at H
                    exact absurd H (by simp)
                · rw [if_neg c10] at H
                  have c10b0 : decide (0 < x5_2) = false := decide_eq_false c10
                  clear c10
                  obtain ⟨y192, hy192⟩ : ∃ y_ : List ByteArray, y_ = (([] : List ByteArray)) := ⟨_, rfl⟩
                  replace H : (if 0 ≤ x5_2 then (if x5_2 ≤ (x3_1.length : Int) then ((some (x3_1.drop (x5_2 : Int).toNat : List ByteArray)).bind fun y195 => (if y192.length + y195.length < 8796093022208 then ((some (y192 ++ y195 : List ByteArray)).bind fun y199 => ((some (x3_1.take (x5_2 : Int).toNat : List ByteArray)).bind fun y202 => (if 0 ≤ x4_1 then (if x4_1 < (l0.length : Int) then (if y202.length < 8796093022208 then ((some (y202 ++ [(rd_T42 l0 x4_1).f4] : List ByteArray)).bind fun y206 => (if y206.length + y199.length < 8796093022208 then (merkhetref09_Hosts.l0 k2 l0 (y206 ++ y199) (wrap64 (x4_1 + 1))) else (none))) else (none)) else (none)) else (none)))) else (none))) else (none)) else (none)) = some r := by first | (rw [hy192]; with_reducible exact H) | (have H2_ := (Option.bind_some _ _).symm.trans H; rw [hy192]; with_reducible exact H2_) | (have H2_ := (Option.bind_some _ _).symm.trans H; with_reducible exact H2_) | with_reducible exact H | (rw [hy192]; exact H) | exact H
                  have Ny192 := Aside0.mk hy192
                  clear hy192
                  by_cases c35 : 0 ≤ x5_2
                  · rw [if_pos c35] at H
                    have c35b0 := eq_true c35
                    have c35b1 : decide (0 ≤ x5_2) = true := decide_eq_true c35
                    clear c35
                    by_cases c36 : x5_2 ≤ (x3_1.length : Int)
                    · rw [if_pos c36] at H
                      have c36b0 := eq_true c36
                      have c36b1 : decide (x5_2 ≤ (x3_1.length : Int)) = true := decide_eq_true c36
                      clear c36
                      obtain ⟨y195, hy195⟩ : ∃ y_ : List ByteArray, y_ = (x3_1.drop (x5_2 : Int).toNat) := ⟨_, rfl⟩
                      replace H : (if y192.length + y195.length < 8796093022208 then ((some (y192 ++ y195 : List ByteArray)).bind fun y199 => ((some (x3_1.take (x5_2 : Int).toNat : List ByteArray)).bind fun y202 => (if 0 ≤ x4_1 then (if x4_1 < (l0.length : Int) then (if y202.length < 8796093022208 then ((some (y202 ++ [(rd_T42 l0 x4_1).f4] : List ByteArray)).bind fun y206 => (if y206.length + y199.length < 8796093022208 then (merkhetref09_Hosts.l0 k2 l0 (y206 ++ y199) (wrap64 (x4_1 + 1))) else (none))) else (none)) else (none)) else (none)))) else (none)) = some r := by first | (rw [hy195]; with_reducible exact H) | (have H2_ := (Option.bind_some _ _).symm.trans H; rw [hy195]; with_reducible exact H2_) | (have H2_ := (Option.bind_some _ _).symm.trans H; with_reducible exact H2_) | with_reducible exact H | (rw [hy195]; exact H) | exact H
                      have Ny195 := Aside0.mk hy195
                      clear hy195
                      by_cases c37 : y192.length + y195.length < 8796093022208
                      · rw [if_pos c37] at H
                        have LMc37 := Aside0.mk c37
                        clear c37
                        obtain ⟨y199, hy199⟩ : ∃ y_ : List ByteArray, y_ = (y192 ++ y195) := ⟨_, rfl⟩
                        replace H : ((some (x3_1.take (x5_2 : Int).toNat : List ByteArray)).bind fun y202 => (if 0 ≤ x4_1 then (if x4_1 < (l0.length : Int) then (if y202.length < 8796093022208 then ((some (y202 ++ [(rd_T42 l0 x4_1).f4] : List ByteArray)).bind fun y206 => (if y206.length + y199.length < 8796093022208 then (merkhetref09_Hosts.l0 k2 l0 (y206 ++ y199) (wrap64 (x4_1 + 1))) else (none))) else (none)) else (none)) else (none))) = some r := by first | (rw [hy199]; with_reducible exact H) | (have H2_ := (Option.bind_some _ _).symm.trans H; rw [hy199]; with_reducible exact H2_) | (have H2_ := (Option.bind_some _ _).symm.trans H; with_reducible exact H2_) | with_reducible exact H | (rw [hy199]; exact H) | exact H
                        have Ny199 := Aside0.mk hy199
                        clear hy199
                        have c38b0 := eq_true (of_decide_eq_true (by first | (with_reducible assumption) | assumption) : x5_2 ≤ (x3_1.length : Int))
                        obtain ⟨y202, hy202⟩ : ∃ y_ : List ByteArray, y_ = (x3_1.take (x5_2 : Int).toNat) := ⟨_, rfl⟩
                        replace H : (if 0 ≤ x4_1 then (if x4_1 < (l0.length : Int) then (if y202.length < 8796093022208 then ((some (y202 ++ [(rd_T42 l0 x4_1).f4] : List ByteArray)).bind fun y206 => (if y206.length + y199.length < 8796093022208 then (merkhetref09_Hosts.l0 k2 l0 (y206 ++ y199) (wrap64 (x4_1 + 1))) else (none))) else (none)) else (none)) else (none)) = some r := by first | (rw [hy202]; with_reducible exact H) | (have H2_ := (Option.bind_some _ _).symm.trans H; rw [hy202]; with_reducible exact H2_) | (have H2_ := (Option.bind_some _ _).symm.trans H; with_reducible exact H2_) | with_reducible exact H | (rw [hy202]; exact H) | exact H
                        have Ny202 := Aside0.mk hy202
                        clear hy202
                        by_cases c39 : 0 ≤ x4_1
                        · rw [if_pos c39] at H
                          have c39b0 : decide (0 ≤ x4_1) = true := decide_eq_true c39
                          clear c39
                          by_cases c40 : x4_1 < (l0.length : Int)
                          · rw [if_pos c40] at H
                            have c40b0 : decide (x4_1 < (l0.length : Int)) = true := decide_eq_true c40
                            clear c40
                            by_cases c41 : y202.length < 8796093022208
                            · rw [if_pos c41] at H
                              have LMc41 := Aside0.mk c41
                              clear c41
                              obtain ⟨y206, hy206⟩ : ∃ y_ : List ByteArray, y_ = (y202 ++ [(rd_T42 l0 x4_1).f4]) := ⟨_, rfl⟩
                              replace H : (if y206.length + y199.length < 8796093022208 then (merkhetref09_Hosts.l0 k2 l0 (y206 ++ y199) (wrap64 (x4_1 + 1))) else (none)) = some r := by first | (rw [hy206]; with_reducible exact H) | (have H2_ := (Option.bind_some _ _).symm.trans H; rw [hy206]; with_reducible exact H2_) | (have H2_ := (Option.bind_some _ _).symm.trans H; with_reducible exact H2_) | with_reducible exact H | (rw [hy206]; exact H) | exact H
                              have Ny206 := Aside0.mk hy206
                              clear hy206
                              by_cases c42 : y206.length + y199.length < 8796093022208
                              · rw [if_pos c42] at H
                                have LMc42 := Aside0.mk c42
                                clear c42
                                obtain ⟨y209, hy209⟩ : ∃ y_ : List ByteArray, y_ = (y206 ++ y199) := ⟨_, rfl⟩
                                replace H : (merkhetref09_Hosts.l0 k2 l0 y209 (wrap64 (x4_1 + 1))) = some r := by first | (rw [hy209]; with_reducible exact H) | (have H2_ := (Option.bind_some _ _).symm.trans H; rw [hy209]; with_reducible exact H2_) | (have H2_ := (Option.bind_some _ _).symm.trans H; with_reducible exact H2_) | with_reducible exact H | (rw [hy209]; exact H) | exact H
                                have Ny209 := Aside0.mk hy209
                                clear hy209
                                have H' := Aside0.mk H
                                clear H
                                try go_wp2
                                have n0_ := Aside0.mk (Kd.R_drew HO_3.out)
                                have n1_ := Aside0.mk (below_drew1 HB.out)
                                clear HO_3
                                clear HB
                                have HO_3 := n0_
                                have HB := n1_
                                clear n0_ n1_
                                refine start_ (n := 16) (S := fun w' => True) (ds := []) #[false, false, false, false, false, false, false, false, false, false, false, false, false, false, false, false] (by kernel_rfl) rfl rfl trivial (fun hHeld => ?_); refine with_tabW merkhetref09_Hosts.tab7 merkhetref09_Hosts.bits7 (fun HT_ HW_ => ?_)
                                generalize wr.drew = w43 at HO_3 HB hHeld ⊢
                                refine pure_ (i := 0) (N := some 24) (v := ?_) (a' := ?_) #[true, false, false, false, false, false, false, false, false, false, false, false, false, false, false, false] rfl rfl (any_of HT_.out (by kernel_rfl)) (fun _ _ _ h => h) (Or.inl ⟨by rfl, ?_⟩) ?_ ?_
                                rotate_left
                                · intro w'
                                  go_simp
                                  with_reducible rfl
                                rotate_left
                                · simp only [Act.put, List.setIfInBounds_toArray, List.set_cons_zero, List.set_cons_succ, i64_w, i32_w]
                                  rfl
                                refine pure_ (i := 1) (N := some 25) (v := ?_) (a' := ?_) #[true, true, false, false, false, false, false, false, false, false, false, false, false, false, false, false] rfl rfl (any_of HT_.out (by kernel_rfl)) (fun _ _ _ h => h) (Or.inl ⟨by rfl, ?_⟩) ?_ ?_
                                rotate_left
                                · intro w'
                                  go_simp
                                  with_reducible rfl
                                rotate_left
                                · simp only [Act.put, List.setIfInBounds_toArray, List.set_cons_zero, List.set_cons_succ, i64_w, i32_w]
                                  rfl
                                refine pure_ (i := 2) (N := some 26) (v := ?_) (a' := ?_) #[true, true, true, false, false, false, false, false, false, false, false, false, false, false, false, false] rfl rfl (any_of HT_.out (by kernel_rfl)) (fun _ _ _ h => h) (Or.inl ⟨by rfl, ?_⟩) ?_ ?_
                                rotate_left
                                · intro w'
                                  go_simp
                                  with_reducible rfl
                                rotate_left
                                · simp only [Act.put, List.setIfInBounds_toArray, List.set_cons_zero, List.set_cons_succ, i64_w, i32_w]
                                  rfl
                                refine pure_ (i := 3) (N := some 27) (v := undef) (a' := ?_) #[true, true, true, true, false, false, false, false, false, false, false, false, false, false, false, false] rfl rfl (any_of HT_.out (by kernel_rfl)) (fun _ _ _ h => h) (Or.inr ⟨by rfl, rfl⟩) ?_ ?_
                                rotate_left
                                · simp only [Act.put, List.setIfInBounds_toArray, List.set_cons_zero, List.set_cons_succ, i64_w, i32_w]
                                  rfl
                                refine pure_ (i := 4) (N := some 28) (v := undef) (a' := ?_) #[true, true, true, true, true, false, false, false, false, false, false, false, false, false, false, false] rfl rfl (any_of HT_.out (by kernel_rfl)) (fun _ _ _ h => h) (Or.inr ⟨by rfl, rfl⟩) ?_ ?_
                                rotate_left
                                · simp only [Act.put, List.setIfInBounds_toArray, List.set_cons_zero, List.set_cons_succ, i64_w, i32_w]
                                  rfl
                                refine pure_ (i := 5) (N := some 29) (v := undef) (a' := ?_) #[true, true, true, true, true, true, false, false, false, false, false, false, false, false, false, false] rfl rfl (any_of HT_.out (by kernel_rfl)) (fun _ _ _ h => h) (Or.inr ⟨by rfl, rfl⟩) ?_ ?_
                                rotate_left
                                · simp only [Act.put, List.setIfInBounds_toArray, List.set_cons_zero, List.set_cons_succ, i64_w, i32_w]
                                  rfl
                                refine pure_ (i := 6) (N := some 30) (v := undef) (a' := ?_) #[true, true, true, true, true, true, true, false, false, false, false, false, false, false, false, false] rfl rfl (any_of HT_.out (by kernel_rfl)) (fun _ _ _ h => h) (Or.inr ⟨by rfl, rfl⟩) ?_ ?_
                                rotate_left
                                · simp only [Act.put, List.setIfInBounds_toArray, List.set_cons_zero, List.set_cons_succ, i64_w, i32_w]
                                  rfl
                                refine pure_ (i := 7) (N := some 31) (v := undef) (a' := ?_) #[true, true, true, true, true, true, true, true, false, false, false, false, false, false, false, false] rfl rfl (any_of HT_.out (by kernel_rfl)) (fun _ _ _ h => h) (Or.inr ⟨by rfl, rfl⟩) ?_ ?_
                                rotate_left
                                · simp only [Act.put, List.setIfInBounds_toArray, List.set_cons_zero, List.set_cons_succ, i64_w, i32_w]
                                  rfl
                                refine pure_ (i := 8) (N := some 32) (v := undef) (a' := ?_) #[true, true, true, true, true, true, true, true, true, false, false, false, false, false, false, false] rfl rfl (any_of HT_.out (by kernel_rfl)) (fun _ _ _ h => h) (Or.inr ⟨by rfl, rfl⟩) ?_ ?_
                                rotate_left
                                · simp only [Act.put, List.setIfInBounds_toArray, List.set_cons_zero, List.set_cons_succ, i64_w, i32_w]
                                  rfl
                                refine pure_ (i := 9) (N := some 33) (v := undef) (a' := ?_) #[true, true, true, true, true, true, true, true, true, true, false, false, false, false, false, false] rfl rfl (any_of HT_.out (by kernel_rfl)) (fun _ _ _ h => h) (Or.inr ⟨by rfl, rfl⟩) ?_ ?_
                                rotate_left
                                · simp only [Act.put, List.setIfInBounds_toArray, List.set_cons_zero, List.set_cons_succ, i64_w, i32_w]
                                  rfl
                                refine pure_ (i := 10) (N := some 34) (v := undef) (a' := ?_) #[true, true, true, true, true, true, true, true, true, true, true, false, false, false, false, false] rfl rfl (any_of HT_.out (by kernel_rfl)) (fun _ _ _ h => h) (Or.inr ⟨by rfl, rfl⟩) ?_ ?_
                                rotate_left
                                · simp only [Act.put, List.setIfInBounds_toArray, List.set_cons_zero, List.set_cons_succ, i64_w, i32_w]
                                  rfl
                                refine pure_ (i := 11) (N := some 35) (v := undef) (a' := ?_) #[true, true, true, true, true, true, true, true, true, true, true, true, false, false, false, false] rfl rfl (any_of HT_.out (by kernel_rfl)) (fun _ _ _ h => h) (Or.inr ⟨by rfl, rfl⟩) ?_ ?_
                                rotate_left
                                · simp only [Act.put, List.setIfInBounds_toArray, List.set_cons_zero, List.set_cons_succ, i64_w, i32_w]
                                  rfl
                                refine pure_ (i := 12) (N := some 36) (v := undef) (a' := ?_) #[true, true, true, true, true, true, true, true, true, true, true, true, true, false, false, false] rfl rfl (any_of HT_.out (by kernel_rfl)) (fun _ _ _ h => h) (Or.inr ⟨by rfl, rfl⟩) ?_ ?_
                                rotate_left
                                · simp only [Act.put, List.setIfInBounds_toArray, List.set_cons_zero, List.set_cons_succ, i64_w, i32_w]
                                  rfl
                                refine pure_ (i := 13) (N := some 37) (v := undef) (a' := ?_) #[true, true, true, true, true, true, true, true, true, true, true, true, true, true, false, false] rfl rfl (any_of HT_.out (by kernel_rfl)) (fun _ _ _ h => h) (Or.inr ⟨by rfl, rfl⟩) ?_ ?_
                                rotate_left
                                · simp only [Act.put, List.setIfInBounds_toArray, List.set_cons_zero, List.set_cons_succ, i64_w, i32_w]
                                  rfl
                                refine pure_ (i := 14) (N := some 38) (v := undef) (a' := ?_) #[true, true, true, true, true, true, true, true, true, true, true, true, true, true, true, false] rfl rfl (any_of HT_.out (by kernel_rfl)) (fun _ _ _ h => h) (Or.inr ⟨by rfl, rfl⟩) ?_ ?_
                                rotate_left
                                · simp only [Act.put, List.setIfInBounds_toArray, List.set_cons_zero, List.set_cons_succ, i64_w, i32_w]
                                  rfl
                                refine pure_ (i := 15) (N := some 39) (v := ?_) (a' := ?_) #[true, true, true, true, true, true, true, true, true, true, true, true, true, true, true, true] rfl rfl (any_of HT_.out (by kernel_rfl)) (fun _ _ _ h => h) (Or.inl ⟨by rfl, ?_⟩) ?_ ?_
                                rotate_left
                                · intro w'
                                  go_simp
                                  with_reducible rfl
                                rotate_left
                                · simp only [Act.put, List.setIfInBounds_toArray, List.set_cons_zero, List.set_cons_succ, i64_w, i32_w]
                                  rfl
                                refine done_ (done_of HT_.out (by kernel_rfl)) ?_
                                try go_wp2_with (first | ((with_reducible refine gate_dst (N := 42) rfl ?_); refine Kd.R_lit Kd.string _ 9 ?hg (N := 42) ?hd (xs := ([] : List ByteArray)) (inner := []) (ok := fun _ => True) (okp := fun _ => True) ?hr ?hp (fun _ hk => hk) trivial (Below.refl _ _) (Nat.le_refl _) (by simp) ?_; (case hd => rfl); (case hg => rfl); (case hr => first | (go_simp; done) | (go_simp; rfl)); (case hp => exact (Reps.none _ _)); intro v193 w44 ho45 hb hg_ hnew_; clear hg_ hnew_; (first | rw [← Ny192.out] at ho45 | (simp only [Int.reduceToNat] at ho45; rw [← Ny192.out] at ho45)); have n0_ := Aside0.mk (Kd.R_elder' (by (with_reducible repeat (first | apply Kd.R_alloc | apply Kd.R_drewN | apply Kd.R_drew)); exact HO_3.out) (Kd.R_base ho45) hb); have n1_ := Aside0.mk (Kd.R_lower (Kd.R_new' ho45 (Kd.R_lt (by (with_reducible repeat (first | apply Kd.R_alloc | apply Kd.R_drewN | apply Kd.R_drew)); exact HO_3.out))) (below_size (by repeat (first | (with_reducible first | exact HB.out | apply below_alloc | apply pw_below_drewN | apply below_drew1) | exact HB.out)))); have n2_ := Aside0.mk (below_step (by repeat (first | (with_reducible first | exact HB.out | apply below_alloc | apply pw_below_drewN | apply below_drew1) | exact HB.out)) hb); clear HO_3; clear HB; have HO_3 := n0_; have HO194 := n1_; have HB := n2_; clear n0_ n1_ n2_; clear hb ho45; have q46 : (x5_2 : Int) ≤ ((x3_1.length : Int) : Int) := of_decide_eq_true (by first | (with_reducible assumption) | assumption); obtain ⟨i046, hi046, _, hsz46, _⟩ := info_parts info9; have hroom46 : x3_1.length ≤ co9 := (Kd.R_reads' HO_3.out).2.1; have hC46 : Kd.C Kd.string _ Ao9 x3_1.length x3_1 := (Kd.R_reads' HO_3.out).2.2; have q046 : (0 : Int) ≤ (x5_2 : Int) := of_decide_eq_true (by first | (with_reducible assumption) | assumption); have hcut46 := cut_from (P := Try.prog) 61 9 .i64 Try.underlying61 hi046 1 hsz46 Ao9 x3_1.length co9 x5_2 q046 q46; have hr46 := Kd.C_drop (m := (x5_2 : Int).toNat) (c := co9) hC46 (by omega) hroom46; obtain ⟨A46, hA46⟩ : ∃ A1, A1 = (if co9 = (x5_2 : Int).toNat then Ao9 else (Ao9 : Option Addr).map (·.add ((x5_2 : Int).toNat * 1))) := ⟨_, rfl⟩; obtain ⟨c46, hc46⟩ : ∃ c1, c1 = co9 - (x5_2 : Int).toNat := ⟨_, rfl⟩; have hy46 : y195.length = x3_1.length - (x5_2 : Int).toNat := (by rw [Ny195.out, List.length_drop] <;> omega); rw [show (x3_1).drop (x5_2 : Int).toNat = y195 from Ny195.out.symm] at hr46; replace hr46 : Kd.C Kd.string _ A46 y195.length y195 := (by rw [hA46]; exact hr46); rw [← hy46, ← hA46, ← hc46] at hcut46; have HR198 := Aside0.mk hr46; have HC198 := Aside0.mk (show y195.length ≤ c46 from by rw [hy46, hc46]; exact Nat.sub_le_sub_right hroom46 _); clear hr46 hC46 hroom46 hi046 hsz46 hc46; have KY46 := Aside0.mk hy46; have KA46 := Aside0.mk hA46; clear hy46 hA46; have KL46 := Aside0.mk (show (x5_2 : Int).toNat ≤ x3_1.length from by omega); replace q46 := eq_true q46) | ((with_reducible refine gate_builtin (b := .append) (xs := #[.tmp 42, .tmp 45]) rfl ?_); at_builtin; refine Kd.R_append_rows Kd.string (w0 := w) w.heap.size rfl (.tmp 42) (.tmp 45) 61 9 (.string ⟨#[]⟩) 16 rfl Try.underlying61 info9 rfl (by decide) (by omega) v193 y192 y195 _ _ _ (fun k_ => some k_ ≠ (.slice Ao9 x3_1.length co9 : Value).ownBlock) (fun _ => False) rfl rfl ?aO ?aR (fun _ _ h => h) (fun _ h => h.elim) ?aF ?aB ?aS ?aL ?_; (case aR => repeat (first | exact (by repeat (first | (with_reducible exact HR198.out) | (with_reducible refine Kd.C_alloc ?_ _) | (with_reducible refine Kd.C_drewN ?_ _) | (with_reducible refine Kd.C_drew ?_) | exact HR198.out)) | (with_reducible refine Kd.C_alloc ?_ _) | (with_reducible refine Kd.C_drewN ?_ _) | (with_reducible refine Kd.C_drew ?_))); (case aB => exact (by repeat (first | (with_reducible first | exact HB.out | apply below_alloc | apply pw_below_drewN | apply below_drew1) | exact HB.out))); (case aF => exact (fun k_ hk => Kd.fresh' (Kd.R_lt (by (with_reducible repeat (first | apply Kd.R_alloc | apply Kd.R_drewN | apply Kd.R_drew)); exact HO_3.out)) k_ hk)); (case aO => exact (by (with_reducible repeat (first | apply Kd.R_alloc | apply Kd.R_drewN | apply Kd.R_drew)); exact Kd.R_mono HO194.out (fun _ hk => hk.2))); (case aS => exact (below_size (by repeat (first | (with_reducible first | exact HB.out | apply below_alloc | apply pw_below_drewN | apply below_drew1) | exact HB.out)))); (case aL => have := LMc37.out; omega); intro v200 w47 ho hb hg hat; rw [← Ny199.out] at ho; have n0_ := Aside0.mk (Kd.R_after (ok := (fun _ => True)) (by (with_reducible repeat (first | apply Kd.R_alloc | apply Kd.R_drewN | apply Kd.R_drew)); exact HO_3.out) hg hat); have n1_ := Aside0.mk (hb); have n2_ := Aside0.mk ((show Kd.C Kd.string w47 A46 y195.length y195 from by rw [Ny195.out, KA46.out]; exact Kd.C_drop (m := (x5_2 : Int).toNat) (c := co9) ((Kd.R_reads' (Kd.R_after (ok := (fun _ => True)) (by (with_reducible repeat (first | apply Kd.R_alloc | apply Kd.R_drewN | apply Kd.R_drew)); exact HO_3.out) hg hat)).2.2) KL46.out ((Kd.R_reads' (Kd.R_after (ok := (fun _ => True)) (by (with_reducible repeat (first | apply Kd.R_alloc | apply Kd.R_drewN | apply Kd.R_drew)); exact HO_3.out) hg hat)).2.1))); have n3_ := Aside0.mk (ho); clear HO_3; clear HB; clear HR198; clear HO194; have HO_3 := n0_; have HB := n1_; have HR198 := n2_; have HO201 := n3_; clear n0_ n1_ n2_ n3_; clear ho hb hg hat))
                                have n0_ := Aside0.mk (Kd.R_drew HO_3.out)
                                have n1_ := Aside0.mk (Kd.R_drew HO201.out)
                                have n2_ := Aside0.mk (Kd.C_drew HR198.out)
                                have n3_ := Aside0.mk (below_drew1 HB.out)
                                clear HO_3
                                clear HO201
                                clear HR198
                                clear HB
                                have HO_3 := n0_
                                have HO201 := n1_
                                have HR198 := n2_
                                have HB := n3_
                                clear n0_ n1_ n2_ n3_
                                have q49 : (x5_2 : Int) ≤ ((x3_1.length : Int) : Int) := of_decide_eq_true (by first | (with_reducible assumption) | assumption)
                                obtain ⟨i049, hi049, _, hsz49, _⟩ := info_parts info9
                                have hcut49 := cut_to (P := Try.prog) 61 9 .i64 Try.underlying61 hi049 Ao9 x3_1.length co9 x5_2 (of_decide_eq_true (by first | (with_reducible assumption) | assumption)) q49 (Kd.R_reads' HO_3.out).2.1
                                have hr49 := Kd.R_take (m := (x5_2 : Int).toNat) HO_3.out (by omega)
                                have hy49 : y202.length = (x5_2 : Int).toNat := (by rw [Ny202.out, List.length_take]; omega)
                                rw [← Ny202.out] at hr49
                                rw [← hy49] at hr49 hcut49
                                clear hy49 hi049 hsz49 HO_3
                                have HO204 := Aside0.mk hr49
                                clear hr49
                                replace q49 := eq_true q49
                                have p205 : 0 ≤ (x4_1 : Int) := of_decide_eq_true (by first | (with_reducible assumption) | assumption)
                                have q205 : x4_1 < (l0.length : Int) := of_decide_eq_true (by first | (with_reducible assumption) | assumption)
                                obtain ⟨ad205, e205, hx205_0, hx205_1, hx205_2, hx205_3, hx205_4, hx205_5, hx205_6, hx205_7⟩ := at_T42 HR0.out x4_1 p205 q205
                                have hw205_7 := hx205_7
                                have hw205_6 := hx205_6
                                have hw205_5 := hx205_5
                                have hw205_4 := hx205_4
                                have hw205_3 := hx205_3
                                have hw205_2 := hx205_2
                                have hw205_1 := hx205_1
                                have hw205_0 := hx205_0
                                obtain rfl : ad167 = ad205 := (by injection e205)
                                replace hx205_0 := (HB.out.cell (World.block_lt_of_cell? w _ hx205_0)).trans hx205_0
                                replace hx205_1 := (HB.out.cell (World.block_lt_of_cell? w _ hx205_1)).trans hx205_1
                                replace hx205_2 := (HB.out.cell (World.block_lt_of_cell? w _ hx205_2)).trans hx205_2
                                replace hx205_3 := (HB.out.cell (World.block_lt_of_cell? w _ hx205_3)).trans hx205_3
                                replace hx205_4 := (HB.out.cell (World.block_lt_of_cell? w _ hx205_4)).trans hx205_4
                                replace hx205_5 := (HB.out.cell (World.block_lt_of_cell? w _ hx205_5)).trans hx205_5
                                replace hx205_6 := (HB.out.cell (World.block_lt_of_cell? w _ hx205_6)).trans hx205_6
                                replace hx205_7 := (HB.out.cell (World.block_lt_of_cell? w _ hx205_7)).trans hx205_7
                                replace p205 := eq_true p205
                                replace q205 := eq_true q205
                                refine start_ (n := 13) (S := fun w' => w'.cell? (ad167.add ((x4_1).toNat * 8)) = some (.int .u64 ((rd_T42 l0 x4_1).f0)) ∧ w'.cell? ⟨(ad167.add ((x4_1).toNat * 8)).block, (ad167.add ((x4_1).toNat * 8)).off + 1, none⟩ = some (.int .u64 ((rd_T42 l0 x4_1).f1)) ∧ w'.cell? ⟨(ad167.add ((x4_1).toNat * 8)).block, (ad167.add ((x4_1).toNat * 8)).off + 2, none⟩ = some (.int .u64 ((rd_T42 l0 x4_1).f2)) ∧ w'.cell? ⟨(ad167.add ((x4_1).toNat * 8)).block, (ad167.add ((x4_1).toNat * 8)).off + 3, none⟩ = some (.int .u8 ((rd_T42 l0 x4_1).f3)) ∧ w'.cell? ⟨(ad167.add ((x4_1).toNat * 8)).block, (ad167.add ((x4_1).toNat * 8)).off + 4, none⟩ = some (.string ((rd_T42 l0 x4_1).f4)) ∧ w'.cell? ⟨(ad167.add ((x4_1).toNat * 8)).block, (ad167.add ((x4_1).toNat * 8)).off + 5, none⟩ = some (.string ((rd_T42 l0 x4_1).f5)) ∧ w'.cell? ⟨(ad167.add ((x4_1).toNat * 8)).block, (ad167.add ((x4_1).toNat * 8)).off + 6, none⟩ = some (.int .i64 ((rd_T42 l0 x4_1).f6)) ∧ w'.cell? ⟨(ad167.add ((x4_1).toNat * 8)).block, (ad167.add ((x4_1).toNat * 8)).off + 7, none⟩ = some (.int .i64 ((rd_T42 l0 x4_1).f7))) (ds := []) #[false, false, false, false, false, false, false, false, false, false, false, false, false] (by kernel_rfl) rfl rfl ⟨((HB.out.cell (World.block_lt_of_cell? w _ hw205_0)).trans hw205_0), ((HB.out.cell (World.block_lt_of_cell? w _ hw205_1)).trans hw205_1), ((HB.out.cell (World.block_lt_of_cell? w _ hw205_2)).trans hw205_2), ((HB.out.cell (World.block_lt_of_cell? w _ hw205_3)).trans hw205_3), ((HB.out.cell (World.block_lt_of_cell? w _ hw205_4)).trans hw205_4), ((HB.out.cell (World.block_lt_of_cell? w _ hw205_5)).trans hw205_5), ((HB.out.cell (World.block_lt_of_cell? w _ hw205_6)).trans hw205_6), ((HB.out.cell (World.block_lt_of_cell? w _ hw205_7)).trans hw205_7)⟩ (fun hHeld => ?_); refine with_tabW merkhetref09_Hosts.tab10 merkhetref09_Hosts.bits10 (fun HT_ HW_ => ?_)
                                generalize w47.drew = w48 at HO_3 HO201 HR198 HB HO204 hx205_0 hx205_1 hx205_2 hx205_3 hx205_4 hx205_5 hx205_6 hx205_7 hHeld ⊢
                                refine pure_ (i := 0) (N := some 47) (v := ?_) (a' := ?_) #[true, false, false, false, false, false, false, false, false, false, false, false, false] rfl rfl (any_of HT_.out (by kernel_rfl)) (fun _ _ _ h => h) (Or.inl ⟨by rfl, ?_⟩) ?_ ?_
                                rotate_left
                                · intro w'
                                  go_simp
                                  with_reducible rfl
                                rotate_left
                                · simp only [Act.put, List.setIfInBounds_toArray, List.set_cons_zero, List.set_cons_succ, i64_w, i32_w]
                                  rfl
                                refine pure_ (i := 1) (N := some 48) (v := ?_) (a' := ?_) #[true, true, false, false, false, false, false, false, false, false, false, false, false] rfl rfl (any_of HT_.out (by kernel_rfl)) (fun _ _ _ h => h) (Or.inl ⟨by rfl, ?_⟩) ?_ ?_
                                rotate_left
                                · intro w'
                                  go_simp
                                  with_reducible rfl
                                rotate_left
                                · simp only [Act.put, List.setIfInBounds_toArray, List.set_cons_zero, List.set_cons_succ, i64_w, i32_w]
                                  rfl
                                refine pure_ (i := 2) (N := some 49) (v := ?_) (a' := ?_) #[true, true, true, false, false, false, false, false, false, false, false, false, false] rfl rfl (any_of HT_.out (by kernel_rfl)) (fun _ _ _ h => h) (Or.inl ⟨by rfl, ?_⟩) ?_ ?_
                                rotate_left
                                · intro w'
                                  go_simp
                                  with_reducible rfl
                                rotate_left
                                · simp only [Act.put, List.setIfInBounds_toArray, List.set_cons_zero, List.set_cons_succ, i64_w, i32_w]
                                  rfl
                                refine pure_ (i := 3) (N := some 50) (v := ?_) (a' := ?_) #[true, true, true, true, false, false, false, false, false, false, false, false, false] rfl rfl (any_of HT_.out (by kernel_rfl)) (fun _ _ _ h => h) (Or.inl ⟨by rfl, ?_⟩) ?_ ?_
                                rotate_left
                                · intro w'
                                  go_simp
                                  with_reducible rfl
                                rotate_left
                                · simp only [Act.put, List.setIfInBounds_toArray, List.set_cons_zero, List.set_cons_succ, i64_w, i32_w]
                                  rfl
                                refine pure_ (i := 4) (N := some 51) (v := ?_) (a' := ?_) #[true, true, true, true, true, false, false, false, false, false, false, false, false] rfl rfl (any_of HT_.out (by kernel_rfl)) (fun _ _ _ h => h) (Or.inl ⟨by rfl, ?_⟩) ?_ ?_
                                rotate_left
                                · intro w'
                                  go_simp
                                  with_reducible rfl
                                rotate_left
                                · simp only [Act.put, List.setIfInBounds_toArray, List.set_cons_zero, List.set_cons_succ, i64_w, i32_w]
                                  rfl
                                refine pure_ (i := 5) (N := some 52) (v := ?_) (a' := ?_) #[true, true, true, true, true, true, false, false, false, false, false, false, false] rfl rfl (any_of HT_.out (by kernel_rfl)) (fun _ _ _ h => h) (Or.inl ⟨by rfl, ?_⟩) ?_ ?_
                                rotate_left
                                · intro w'
                                  go_simp
                                  with_reducible rfl
                                rotate_left
                                · simp only [Act.put, List.setIfInBounds_toArray, List.set_cons_zero, List.set_cons_succ, i64_w, i32_w]
                                  rfl
                                refine pure_ (i := 6) (N := some 53) (v := ?_) (a' := ?_) #[true, true, true, true, true, true, true, false, false, false, false, false, false] rfl rfl (any_of HT_.out (by kernel_rfl)) (fun _ _ _ h => h) (Or.inl ⟨by rfl, ?_⟩) ?_ ?_
                                rotate_left
                                · intro w'
                                  go_simp
                                  with_reducible rfl
                                rotate_left
                                · simp only [Act.put, List.setIfInBounds_toArray, List.set_cons_zero, List.set_cons_succ, i64_w, i32_w]
                                  rfl
                                refine pure_ (i := 10) (N := some 57) (v := ?_) (a' := ?_) #[true, true, true, true, true, true, true, false, false, false, true, false, false] rfl rfl (any_of HT_.out (by kernel_rfl)) (fun _ _ _ h => h) (Or.inl ⟨by rfl, ?_⟩) ?_ ?_
                                rotate_left
                                · intro w'
                                  go_simp
                                  with_reducible rfl
                                rotate_left
                                · simp only [Act.put, List.setIfInBounds_toArray, List.set_cons_zero, List.set_cons_succ, i64_w, i32_w]
                                  rfl
                                refine take_ (i := 7) (N := some 54) (v := ?_) (a' := ?_) #[true, true, true, true, true, true, true, true, false, false, true, false, false] rfl rfl (take_ofW HT_.out HW_.out (by kernel_rfl)) (fun _ _ _ h => h) (Or.inl ⟨by rfl, ?_⟩) hHeld ?_ ?_
                                rotate_left
                                · rintro w' ⟨s0, s1, s2, s3, s4, s5, s6, s7⟩
                                  go_simp
                                  with_reducible rfl
                                rotate_left
                                · simp only [Act.put, List.setIfInBounds_toArray, List.set_cons_zero, List.set_cons_succ, i64_w, i32_w]
                                  rfl
                                refine one_ (i := 8) (N := some 55) #[true, true, true, true, true, true, true, true, true, false, true, false, false] rfl rfl (one_of HT_.out (by kernel_rfl)) (by decide) (fun K hK => ?_)
                                refine value_ (w1 := ?_) (v := ?_) (by rfl) rfl ?_ ?_
                                rotate_left 2
                                · go_simp
                                  constructor
                                  · rfl
                                  · rfl
                                refine hK.out _ _ ⟨(World.cell?_alloc_lt _ _ _ (World.block_lt_of_cell? _ _ (((HB.out.cell (World.block_lt_of_cell? w _ hw205_0)).trans hw205_0)))).trans (((HB.out.cell (World.block_lt_of_cell? w _ hw205_0)).trans hw205_0)), (World.cell?_alloc_lt _ _ _ (World.block_lt_of_cell? _ _ (((HB.out.cell (World.block_lt_of_cell? w _ hw205_1)).trans hw205_1)))).trans (((HB.out.cell (World.block_lt_of_cell? w _ hw205_1)).trans hw205_1)), (World.cell?_alloc_lt _ _ _ (World.block_lt_of_cell? _ _ (((HB.out.cell (World.block_lt_of_cell? w _ hw205_2)).trans hw205_2)))).trans (((HB.out.cell (World.block_lt_of_cell? w _ hw205_2)).trans hw205_2)), (World.cell?_alloc_lt _ _ _ (World.block_lt_of_cell? _ _ (((HB.out.cell (World.block_lt_of_cell? w _ hw205_3)).trans hw205_3)))).trans (((HB.out.cell (World.block_lt_of_cell? w _ hw205_3)).trans hw205_3)), (World.cell?_alloc_lt _ _ _ (World.block_lt_of_cell? _ _ (((HB.out.cell (World.block_lt_of_cell? w _ hw205_4)).trans hw205_4)))).trans (((HB.out.cell (World.block_lt_of_cell? w _ hw205_4)).trans hw205_4)), (World.cell?_alloc_lt _ _ _ (World.block_lt_of_cell? _ _ (((HB.out.cell (World.block_lt_of_cell? w _ hw205_5)).trans hw205_5)))).trans (((HB.out.cell (World.block_lt_of_cell? w _ hw205_5)).trans hw205_5)), (World.cell?_alloc_lt _ _ _ (World.block_lt_of_cell? _ _ (((HB.out.cell (World.block_lt_of_cell? w _ hw205_6)).trans hw205_6)))).trans (((HB.out.cell (World.block_lt_of_cell? w _ hw205_6)).trans hw205_6)), (World.cell?_alloc_lt _ _ _ (World.block_lt_of_cell? _ _ (((HB.out.cell (World.block_lt_of_cell? w _ hw205_7)).trans hw205_7)))).trans (((HB.out.cell (World.block_lt_of_cell? w _ hw205_7)).trans hw205_7))⟩ (fun hHeld => ?_)
                                clear hK K
                                refine norm_ (a' := ?_) ?_ ?_
                                rotate_left
                                · show Act.put _ (some 55) _ = _
                                  simp only [Act.put, List.setIfInBounds_toArray, List.set_cons_zero, List.set_cons_succ, i64_w, i32_w]
                                  rfl
                                refine one_ (i := 9) (N := some 56) #[true, true, true, true, true, true, true, true, true, true, true, false, false] rfl rfl (one_of HT_.out (by kernel_rfl)) (by decide) (fun K hK => ?_)
                                refine Kd.R_append_step Kd.string (w0 := w) w.heap.size (by rfl) (.tmp 49) (.tmp 55) 61 9 (.string ⟨#[]⟩) 16 rfl Try.underlying61 info9 rfl (by decide) (by omega) (.slice Ao9 y202.length co9) y202 ((rd_T42 l0 x4_1).f4) [.string ((rd_T42 l0 x4_1).f4)] (fun k_ => some k_ ≠ (v200 : Value).ownBlock) (fun _ => False) rfl rfl ?aP (fun _ hk => hk.elim) ?aF ?aO ?aB ?aS ?aL ?_
                                (case aP => exact rfl)
                                (case aB => exact (by repeat (first | (with_reducible first | exact HB.out | apply below_alloc | apply pw_below_drewN | apply below_drew1) | exact HB.out)))
                                (case aF => exact (fun k_ hk => Kd.fresh' (Kd.R_lt (by (with_reducible repeat (first | apply Kd.R_alloc | apply Kd.R_drewN | apply Kd.R_drew)); exact HO201.out)) k_ hk))
                                (case aO => exact (by (with_reducible repeat (first | apply Kd.R_alloc | apply Kd.R_drewN | apply Kd.R_drew)); exact Kd.R_mono HO204.out (fun _ hk => hk.2)))
                                (case aS => exact (below_size (by repeat (first | (with_reducible first | exact HB.out | apply below_alloc | apply pw_below_drewN | apply below_drew1) | exact HB.out))))
                                (case aL => have := LMc41.out; omega)
                                intro v207 w50 ho hb hg hat
                                rw [← Ny206.out] at ho
                                have n0_ := Aside0.mk (Kd.R_after (ok := (fun _ => True)) (by (with_reducible repeat (first | apply Kd.R_alloc | apply Kd.R_drewN | apply Kd.R_drew)); exact Kd.R_mono HO201.out (fun _ hk => ⟨trivial, by first | exact hk | exact fun h_ => hk (h_.trans (own_len _ _ _ _ _))⟩)) hg hat)
                                have n1_ := Aside0.mk (hb)
                                have n2_ := Aside0.mk (ho)
                                clear HO201
                                clear HB
                                clear HO204
                                have HO201 := n0_
                                have HB := n1_
                                have HO208 := n2_
                                clear n0_ n1_ n2_
                                clear ho hb hg hat
                                obtain ⟨Ao52, co52, eo52⟩ := Kd.R_slice HO201.out
                                (first | subst eo52 | (injection eo52 with f1_ f2_ f3_; have f4_ := f1_.symm; have f5_ := f3_.symm; clear f1_ f2_ f3_; subst f4_; subst f5_))
                                refine hK.out _ _ ⟨((HB.out.cell (World.block_lt_of_cell? w _ hw205_0)).trans hw205_0), ((HB.out.cell (World.block_lt_of_cell? w _ hw205_1)).trans hw205_1), ((HB.out.cell (World.block_lt_of_cell? w _ hw205_2)).trans hw205_2), ((HB.out.cell (World.block_lt_of_cell? w _ hw205_3)).trans hw205_3), ((HB.out.cell (World.block_lt_of_cell? w _ hw205_4)).trans hw205_4), ((HB.out.cell (World.block_lt_of_cell? w _ hw205_5)).trans hw205_5), ((HB.out.cell (World.block_lt_of_cell? w _ hw205_6)).trans hw205_6), ((HB.out.cell (World.block_lt_of_cell? w _ hw205_7)).trans hw205_7)⟩ (fun hHeld => ?_)
                                clear hK K
                                refine norm_ (a' := ?_) ?_ ?_
                                rotate_left
                                · show Act.put _ (some 56) _ = _
                                  simp only [Act.put, List.setIfInBounds_toArray, List.set_cons_zero, List.set_cons_succ, i64_w, i32_w]
                                  rfl
                                refine one_ (i := 11) (N := some 58) #[true, true, true, true, true, true, true, true, true, true, true, true, false] rfl rfl (one_of HT_.out (by kernel_rfl)) (by decide) (fun K hK => ?_)
                                refine Kd.R_append_rows_step Kd.string (w0 := w) w.heap.size (by rfl) (.tmp 56) (.tmp 57) 61 9 (.string ⟨#[]⟩) 16 rfl Try.underlying61 info9 rfl (by decide) (by omega) v207 y206 y199 _ _ _ (fun k_ => some k_ ≠ (.slice Ao52 y199.length co52 : Value).ownBlock) (fun _ => False) rfl rfl ?aO ?aR (fun _ _ h => h) (fun _ h => h.elim) ?aF ?aB ?aS ?aL ?_
                                (case aR => repeat (first | exact (Kd.R_reads' HO201.out).2.2 | (with_reducible refine Kd.C_alloc ?_ _) | (with_reducible refine Kd.C_drewN ?_ _) | (with_reducible refine Kd.C_drew ?_)))
                                (case aB => exact (by repeat (first | (with_reducible first | exact HB.out | apply below_alloc | apply pw_below_drewN | apply below_drew1) | exact HB.out)))
                                (case aF => exact (fun k_ hk => Kd.fresh' (Kd.R_lt (by (with_reducible repeat (first | apply Kd.R_alloc | apply Kd.R_drewN | apply Kd.R_drew)); exact HO201.out)) k_ hk))
                                (case aO => exact (by (with_reducible repeat (first | apply Kd.R_alloc | apply Kd.R_drewN | apply Kd.R_drew)); exact HO208.out))
                                (case aS => exact (below_size (by repeat (first | (with_reducible first | exact HB.out | apply below_alloc | apply pw_below_drewN | apply below_drew1) | exact HB.out))))
                                (case aL => have := LMc42.out; omega)
                                intro v210 w51 ho hb hg hat
                                rw [← Ny209.out] at ho
                                have n0_ := Aside0.mk (Kd.R_after (ok := (fun _ => True)) (by (with_reducible repeat (first | apply Kd.R_alloc | apply Kd.R_drewN | apply Kd.R_drew)); exact HO201.out) hg hat)
                                have n1_ := Aside0.mk (hb)
                                have n2_ := Aside0.mk (ho)
                                clear HO201
                                clear HB
                                clear HO208
                                have HO201 := n0_
                                have HB := n1_
                                have HO211 := n2_
                                clear n0_ n1_ n2_
                                clear ho hb hg hat
                                refine hK.out _ _ ⟨((HB.out.cell (World.block_lt_of_cell? w _ hw205_0)).trans hw205_0), ((HB.out.cell (World.block_lt_of_cell? w _ hw205_1)).trans hw205_1), ((HB.out.cell (World.block_lt_of_cell? w _ hw205_2)).trans hw205_2), ((HB.out.cell (World.block_lt_of_cell? w _ hw205_3)).trans hw205_3), ((HB.out.cell (World.block_lt_of_cell? w _ hw205_4)).trans hw205_4), ((HB.out.cell (World.block_lt_of_cell? w _ hw205_5)).trans hw205_5), ((HB.out.cell (World.block_lt_of_cell? w _ hw205_6)).trans hw205_6), ((HB.out.cell (World.block_lt_of_cell? w _ hw205_7)).trans hw205_7)⟩ (fun hHeld => ?_)
                                clear hK K
                                refine norm_ (a' := ?_) ?_ ?_
                                rotate_left
                                · show Act.put _ (some 58) _ = _
                                  simp only [Act.put, List.setIfInBounds_toArray, List.set_cons_zero, List.set_cons_succ, i64_w, i32_w]
                                  rfl
                                refine pure_ (i := 12) (N := some 3) (v := ?_) (a' := ?_) #[true, true, true, true, true, true, true, true, true, true, true, true, true] rfl rfl (any_of HT_.out (by kernel_rfl)) (fun _ _ _ h => h) (Or.inl ⟨by rfl, ?_⟩) ?_ ?_
                                rotate_left
                                · intro w'
                                  go_simp
                                  with_reducible rfl
                                rotate_left
                                · simp only [Act.put, List.setIfInBounds_toArray, List.set_cons_zero, List.set_cons_succ, i64_w, i32_w]
                                  rfl
                                refine done_ (done_of HT_.out (by kernel_rfl)) ?_
                                try go_wp2
                                go_roundg k2
                                case measure => have := HK1.out; have := HK2.out; omega
                                case rel => exact ⟨(y209), (wrap64 (x4_1 + 1)), (by first | rfl | (simp; done) | (simp [*]; done)), H', ⟨by have := HK1.out; have := HK2.out; omega⟩, ⟨by (with_reducible repeat (first | apply Kd.R_alloc | apply Kd.R_drewN | apply Kd.R_drew)); exact Kd.R_mono HO211.out (fun _ hk => trivial)⟩, ⟨by repeat (first | (with_reducible first | exact HB.out | apply below_alloc | apply pw_below_drewN | apply below_drew1) | exact HB.out)⟩⟩
                              · rw [if_neg c42] at H
                                exact absurd H (by simp)
                            · rw [if_neg c41] at H
                              exact absurd H (by simp)
                          · rw [if_neg c40] at H
                            exact absurd H (by simp)
                        · rw [if_neg c39] at H
                          exact absurd H (by simp)
                      · rw [if_neg c37] at H
                        exact absurd H (by simp)
                    · rw [if_neg c36] at H
                      exact absurd H (by simp)
                  · rw [if_neg c35] at H
                    exact absurd H (by simp)
        · rw [if_neg c5] at H
          exact absurd H (by simp)
      · rw [if_neg c4] at H
        have c4b0 : decide (x4_1 < (l0.length : Int)) = false := decide_eq_false c4
        clear c4
        obtain rfl := Option.some.inj H
        go_wp2
        go_ret
        exact ⟨_, by first | rfl | (simp [errW_none, errW_some] <;> rfl) | (simp [*, errW_none, errW_some] <;> rfl), by (with_reducible repeat (first | apply Kd.R_alloc | apply Kd.R_drewN | apply Kd.R_drew)); exact HO_3.out, by repeat (first | (with_reducible first | exact HB.out | apply below_alloc | apply pw_below_drewN | apply below_drew1) | exact HB.out)⟩

end Go.Proofs.Ytjgpggjjgimibaa.Q

-- Written by wip/tools/gp.py, a program of this session round the kit's printer. Lean checks it.
namespace Go.Proofs.Ytjgpggjjgimibaa.Q
open Go.RowKit Go.Proofs.YtjgpggjjgimibaaW.PrintWords Go.Proofs.YtjgpggjjgimibaaW.PrintLast Go.Proofs.YtjgpggjjgimibaaW.PrintMore
attribute [local go_sem] max2_int min2_int max_two min_two max_three min_three max_four min_four   -- for this text's walks alone
set_option linter.unusedVariables false
set_option linter.unusedSimpArgs false

/-! ### merkhetref13_Of: function 22 -/
def merkhetref13_Of.l0 : Nat → List (S42) → List ByteArray → List Int → Int → Option (List Int)
  | 0, _, _, _, _ => none
  | k + 1, x0, x3, x4, x5 => if x5 < (x0.length : Int) then (if 0 ≤ x5 then ((merkhetref09_Place.f k x3 ((rd_T42 x0 x5).f4)).bind fun t219 => (if x4.length < 17592186044416 then (merkhetref13_Of.l0 k x0 x3 (x4 ++ [t219]) (wrap64 (x5 + 1))) else (none))) else (none)) else (some x4)
def merkhetref13_Of.f (k : Nat) (l0 : List (S42)) : Option (List Int) := (merkhetref09_Hosts.f k l0).bind fun t212 => (merkhetref13_Of.l0 k l0 t212 (([] : List Int)) 0)
theorem merkhetref13_Of.mono_l : ∀ k, (∀ y0 y1 y2 y3, LeO (merkhetref13_Of.l0 k y0 y1 y2 y3) (merkhetref13_Of.l0 (k + 1) y0 y1 y2 y3))
  | 0 => fun _ _ _ _ r h => by simp [merkhetref13_Of.l0] at h
  | k + 1 => by
    have ih0 := merkhetref13_Of.mono_l k
    · intro y0 y1 y2 y3
      unfold merkhetref13_Of.l0
      repeat' first
      | (with_reducible exact ih0 _ _ _ _)
      | (with_reducible exact merkhetref09_Hosts.mono _ _)
      | (with_reducible exact merkhetref09_Place.mono _ _ _)
      | (with_reducible exact LeO.refl _)
      | (with_reducible exact LeO.none _)
      | (with_reducible refine LeO.ite ?_ ?_)
      | (with_reducible refine LeO.bind ?_ (fun _ => ?_))
      | exact ih0 _ _ _ _
      | exact merkhetref09_Hosts.mono _ _
      | exact merkhetref09_Place.mono _ _ _
      | exact LeO.none _
      | refine LeO.ite ?_ ?_
      | refine LeO.bind ?_ (fun _ => ?_)
theorem merkhetref13_Of.mono : ∀ a0 k, LeO (merkhetref13_Of.f k a0) (merkhetref13_Of.f (k + 1) a0) := by
  intro a0 k
  have ih0 := merkhetref13_Of.mono_l k
  unfold merkhetref13_Of.f
  repeat' first
      | (with_reducible exact ih0 _ _ _ _)
      | (with_reducible exact merkhetref09_Hosts.mono _ _)
      | (with_reducible exact merkhetref09_Place.mono _ _ _)
      | (with_reducible exact LeO.refl _)
      | (with_reducible exact LeO.none _)
      | (with_reducible refine LeO.ite ?_ ?_)
      | (with_reducible refine LeO.bind ?_ (fun _ => ?_))
      | exact ih0 _ _ _ _
      | exact merkhetref09_Hosts.mono _ _
      | exact merkhetref09_Place.mono _ _ _
      | exact LeO.none _
      | refine LeO.ite ?_ ?_
      | refine LeO.bind ?_ (fun _ => ?_)
set_option maxHeartbeats 8000000 in
set_option maxRecDepth 100000 in
theorem merkhetref13_Of.calls (k : Nat) (A0 : Option Addr) (c0 : Nat) (l0 : List (S42)) (r : List Int) (w : World) (hr0 : Kd.C k42 w A0 l0.length l0) (hc0 : l0.length ≤ c0) (h : merkhetref13_Of.f k l0 = some r) :
    Calls Try.prog 22 #[.slice A0 l0.length c0] w fun e w' => ∃ v0_ : Value, e = .returned (v0_) ∧ Kd.R (Kd.int .i64) 3 w' w.heap.size (fun _ => True) v0_ r ∧ Below w.heap.size w w' := by
  have HR0 := Aside0.mk hr0
  have HC0 := Aside0.mk hc0
  clear hr0 hc0
  have HB := Aside0.mk (Below.refl w.heap.size w)
  have H : ((merkhetref09_Hosts.f k l0).bind fun t212 => (merkhetref13_Of.l0 k l0 t212 (([] : List Int)) 0)) = some r := h
  clear h
  replace H := Option.bind_eq_some_iff.mp H
  obtain ⟨t212, A20, H⟩ := H
  replace H : (merkhetref13_Of.l0 k l0 t212 (([] : List Int)) 0) = some r := H
  have A2 := Aside0.mk A20
  clear A20
  obtain ⟨y215, hy215⟩ : ∃ y_ : List Int, y_ = (([] : List Int)) := ⟨_, rfl⟩
  replace H : (merkhetref13_Of.l0 k l0 t212 y215 0) = some r := by first | (rw [hy215]; with_reducible exact H) | (have H2_ := (Option.bind_some _ _).symm.trans H; rw [hy215]; with_reducible exact H2_) | (have H2_ := (Option.bind_some _ _).symm.trans H; with_reducible exact H2_) | with_reducible exact H | (rw [hy215]; exact H) | exact H
  have Ny215 := Aside0.mk hy215
  clear hy215
  have H' := Aside0.mk H
  clear H
  go_enter Try.func22, Try.ntmps22
  go_wp2_with (first | ((with_reducible refine gate_callee (f := 41) rfl ?_); refine goesL_ (some 7) rfl rfl Try.func41 (by kernel_rfl) rfl #[.slice A0 l0.length c0] rfl (by (try simp only [List.map_toArray, List.map_cons, List.map_nil]); first | done | rfl | (simp only [List.length_drop, List.length_take]; rfl)) ?_; (with_reducible refine (merkhetref09_Hosts.calls k _ _ l0 t212 _ ?side1 ?side2 A2.out).mono ?_); (case side1 => repeat (first | exact HR0.out | (with_reducible refine Kd.C_alloc ?_ _) | (with_reducible refine Kd.C_drewN ?_ _) | (with_reducible refine Kd.C_drew ?_))); (case side2 => exact HC0.out); rintro e w3 ⟨v213, rfl, ho0, hb⟩; refine ⟨_, rfl, ?_⟩; have n0_ := Aside0.mk (Kd.R_lower ho0 (below_size (by repeat (first | (with_reducible first | exact HB.out | apply below_alloc | apply pw_below_drewN | apply below_drew1) | exact HB.out)))); have n1_ := Aside0.mk (below_step (by repeat (first | (with_reducible first | exact HB.out | apply below_alloc | apply pw_below_drewN | apply below_drew1) | exact HB.out)) hb); clear HB; have HO214 := n0_; have HB := n1_; clear n0_ n1_; (try clear hb); (try clear hb2); (try clear hk); (try clear hi); (try clear ho0)) | ((with_reducible refine gate_dst (N := 8) rfl ?_); refine Kd.R_lit (Kd.int .i64) _ 3 ?hg (N := 8) ?hd (xs := ([] : List Int)) (inner := []) (ok := fun _ => True) (okp := fun _ => True) ?hr ?hp (fun _ hk => hk) trivial (Below.refl _ _) (Nat.le_refl _) (by simp) ?_; (case hd => rfl); (case hg => rfl); (case hr => first | (go_simp; done) | (go_simp; rfl)); (case hp => exact (Reps.none _ _)); intro v216 w4 ho5 hb hg_ hnew_; clear hg_ hnew_; (first | rw [← Ny215.out] at ho5 | (simp only [Int.reduceToNat] at ho5; rw [← Ny215.out] at ho5)); have n0_ := Aside0.mk (Kd.R_below (by (with_reducible repeat (first | apply Kd.R_alloc | apply Kd.R_drewN | apply Kd.R_drew)); exact HO214.out) hb); have n1_ := Aside0.mk (Kd.R_lower ho5 (below_size (by repeat (first | (with_reducible first | exact HB.out | apply below_alloc | apply pw_below_drewN | apply below_drew1) | exact HB.out)))); have n2_ := Aside0.mk (below_step (by repeat (first | (with_reducible first | exact HB.out | apply below_alloc | apply pw_below_drewN | apply below_drew1) | exact HB.out)) hb); clear HO214; clear HB; have HO214 := n0_; have HO217 := n1_; have HB := n2_; clear n0_ n1_ n2_; clear hb ho5))
  go_loopg [4, 5] k (fun kq v4 v5 w' => ∃ (x4_1 : List Int) (x5_1 : Int), v5 = .int .i64 x5_1 ∧ Aside0 (merkhetref13_Of.l0 kq l0 t212 x4_1 x5_1 = some r) ∧ Aside0 (kq ≤ k) ∧ Aside0 (Kd.R Kd.string 9 w' w.heap.size (fun _ => True) v213 t212) ∧ Aside0 (Kd.R (Kd.int .i64) 3 w' w.heap.size (fun _ => True) v4 x4_1) ∧ Aside0 (Below w.heap.size w w'))
  case atStart => exact ⟨(y215), (0), (by first | rfl | (simp; done) | (simp [*]; done)), H', ⟨Nat.le_refl _⟩, ⟨by (with_reducible repeat (first | apply Kd.R_alloc | apply Kd.R_drewN | apply Kd.R_drew)); exact HO214.out⟩, ⟨by (with_reducible repeat (first | apply Kd.R_alloc | apply Kd.R_drewN | apply Kd.R_drew)); exact HO217.out⟩, ⟨by repeat (first | (with_reducible first | exact HB.out | apply below_alloc | apply pw_below_drewN | apply below_drew1) | exact HB.out)⟩⟩
  case round =>
    clear H'
    (try clear c2); (try clear p2); (try clear c4)
    obtain ⟨x4_1, x5_1, rfl, HA, HK1, HO_3, HO_4, HB⟩ := hrel
    cases gk with
    | zero => exact absurd HA.out (by simp [merkhetref13_Of.l0])
    | succ k1 =>
      have H := HA.out
      clear HA
      simp only [merkhetref13_Of.l0] at H
      by_cases c6 : x5_1 < (l0.length : Int)
      · rw [if_pos c6] at H
        have c6b0 : decide (x5_1 < (l0.length : Int)) = true := decide_eq_true c6
        clear c6
        by_cases c7 : 0 ≤ x5_1
        · rw [if_pos c7] at H
          have c7b0 : decide (0 ≤ x5_1) = true := decide_eq_true c7
          clear c7
          replace H := Option.bind_eq_some_iff.mp H
          obtain ⟨t219, A80, H⟩ := H
          replace H : (if x4_1.length < 17592186044416 then (merkhetref13_Of.l0 k1 l0 t212 (x4_1 ++ [t219]) (wrap64 (x5_1 + 1))) else (none)) = some r := H
          have A8 := Aside0.mk A80
          clear A80
          by_cases c9 : x4_1.length < 17592186044416
          · rw [if_pos c9] at H
            have LMc9 := Aside0.mk c9
            clear c9
            obtain ⟨y220, hy220⟩ : ∃ y_ : List Int, y_ = (x4_1 ++ [t219]) := ⟨_, rfl⟩
            replace H : (merkhetref13_Of.l0 k1 l0 t212 y220 (wrap64 (x5_1 + 1))) = some r := by first | (rw [hy220]; with_reducible exact H) | (have H2_ := (Option.bind_some _ _).symm.trans H; rw [hy220]; with_reducible exact H2_) | (have H2_ := (Option.bind_some _ _).symm.trans H; with_reducible exact H2_) | with_reducible exact H | (rw [hy220]; exact H) | exact H
            have Ny220 := Aside0.mk hy220
            clear hy220
            have H' := Aside0.mk H
            clear H
            have p218 : 0 ≤ (x5_1 : Int) := of_decide_eq_true (by first | (with_reducible assumption) | assumption)
            have q218 : x5_1 < (l0.length : Int) := of_decide_eq_true (by first | (with_reducible assumption) | assumption)
            obtain ⟨ad218, e218, hx218_0, hx218_1, hx218_2, hx218_3, hx218_4, hx218_5, hx218_6, hx218_7⟩ := at_T42 HR0.out x5_1 p218 q218
            cases e218
            replace hx218_0 := (HB.out.cell (World.block_lt_of_cell? w _ hx218_0)).trans hx218_0
            replace hx218_1 := (HB.out.cell (World.block_lt_of_cell? w _ hx218_1)).trans hx218_1
            replace hx218_2 := (HB.out.cell (World.block_lt_of_cell? w _ hx218_2)).trans hx218_2
            replace hx218_3 := (HB.out.cell (World.block_lt_of_cell? w _ hx218_3)).trans hx218_3
            replace hx218_4 := (HB.out.cell (World.block_lt_of_cell? w _ hx218_4)).trans hx218_4
            replace hx218_5 := (HB.out.cell (World.block_lt_of_cell? w _ hx218_5)).trans hx218_5
            replace hx218_6 := (HB.out.cell (World.block_lt_of_cell? w _ hx218_6)).trans hx218_6
            replace hx218_7 := (HB.out.cell (World.block_lt_of_cell? w _ hx218_7)).trans hx218_7
            replace p218 := eq_true p218
            replace q218 := eq_true q218
            obtain ⟨Ao10, co10, eo10⟩ := Kd.R_slice HO_3.out
            subst eo10
            go_wp2_with (first | ((with_reducible refine gate_callee (f := 42) rfl ?_); refine goesL_ (some 22) rfl rfl Try.func42 (by kernel_rfl) rfl #[.slice Ao10 t212.length co10, .string ((rd_T42 l0 x5_1).f4)] rfl (by (try simp only [List.map_toArray, List.map_cons, List.map_nil]); first | done | rfl | (simp only [List.length_drop, List.length_take]; rfl)) ?_; (with_reducible refine (merkhetref09_Place.calls k1 _ _ t212 ((rd_T42 l0 x5_1).f4) t219 _ ?side1 ?side2 A8.out).mono ?_); (case side1 => repeat (first | exact (Kd.R_reads' HO_3.out).2.2 | (with_reducible refine Kd.C_alloc ?_ _) | (with_reducible refine Kd.C_drewN ?_ _) | (with_reducible refine Kd.C_drew ?_))); (case side2 => exact (Kd.R_reads' HO_3.out).2.1); rintro e w' ⟨rfl, ⟨nd, rfl⟩⟩; refine ⟨_, rfl, ?_⟩) | ((with_reducible refine gate_builtin (b := .append) (xs := #[.tmp 15, .tmp 23]) rfl ?_); at_builtin; refine Kd.R_append (Kd.int .i64) (w0 := w) w.heap.size rfl (.tmp 15) (.tmp 23) 27 3 (.int .i64 0) 8 rfl Try.underlying27 info3 rfl (by decide) (by omega) u4 x4_1 t219 [.int .i64 t219] (fun _ => True) (fun _ => False) rfl rfl ?aP (fun _ hk => hk.elim) ?aF ?aO ?aB ?aS ?aL ?_; (case aP => exact rfl); (case aB => exact (by repeat (first | (with_reducible first | exact HB.out | apply below_alloc | apply pw_below_drewN | apply below_drew1) | exact HB.out))); (case aF => exact (fun _ _ => trivial)); (case aO => exact (by (with_reducible repeat (first | apply Kd.R_alloc | apply Kd.R_drewN | apply Kd.R_drew)); exact HO_4.out)); (case aS => exact (below_size (by repeat (first | (with_reducible first | exact HB.out | apply below_alloc | apply pw_below_drewN | apply below_drew1) | exact HB.out)))); (case aL => have := LMc9.out; omega); intro v221 w11 ho hb hg hat; rw [← Ny220.out] at ho; have n0_ := Aside0.mk (Kd.R_over' (by (with_reducible repeat (first | apply Kd.R_alloc | apply Kd.R_drewN | apply Kd.R_drew)); exact HO_3.out) (Kd.R_typed (by (with_reducible repeat (first | apply Kd.R_alloc | apply Kd.R_drewN | apply Kd.R_drew)); exact HO_4.out)) (by decide) hg); have n1_ := Aside0.mk (hb); have n2_ := Aside0.mk (ho); clear HO_3; clear HB; clear HO_4; have HO_3 := n0_; have HB := n1_; have HO222 := n2_; clear n0_ n1_ n2_; clear ho hb hg hat))
            go_roundg k1
            case measure => have := HK1.out; omega
            case rel => exact ⟨(y220), (wrap64 (x5_1 + 1)), (by first | rfl | (simp; done) | (simp [*]; done)), H', ⟨by have := HK1.out; omega⟩, ⟨by (with_reducible repeat (first | apply Kd.R_alloc | apply Kd.R_drewN | apply Kd.R_drew)); exact HO_3.out⟩, ⟨by (with_reducible repeat (first | apply Kd.R_alloc | apply Kd.R_drewN | apply Kd.R_drew)); exact HO222.out⟩, ⟨by repeat (first | (with_reducible first | exact HB.out | apply below_alloc | apply pw_below_drewN | apply below_drew1) | exact HB.out)⟩⟩
          · rw [if_neg c9] at H
            exact absurd H (by simp)
        · rw [if_neg c7] at H
          exact absurd H (by simp)
      · rw [if_neg c6] at H
        have c6b0 : decide (x5_1 < (l0.length : Int)) = false := decide_eq_false c6
        clear c6
        obtain rfl := Option.some.inj H
        go_wp2
        go_ret
        exact ⟨_, by first | rfl | (simp [errW_none, errW_some] <;> rfl) | (simp [*, errW_none, errW_some] <;> rfl), by (with_reducible repeat (first | apply Kd.R_alloc | apply Kd.R_drewN | apply Kd.R_drew)); exact HO_4.out, by repeat (first | (with_reducible first | exact HB.out | apply below_alloc | apply pw_below_drewN | apply below_drew1) | exact HB.out)⟩

/-! ### merkhetref15_Same: function 26 -/
def merkhetref15_Same.l0 : Nat → List Int → List Int → Int → Option (Bool)
  | 0, _, _, _ => none
  | k + 1, x0, x1, x5 => if x5 < (x0.length : Int) then (if 0 ≤ x5 then (if x5 < (x1.length : Int) then (if (rd x0 x5) = (rd x1 x5) then (merkhetref15_Same.l0 k x0 x1 (wrap64 (x5 + 1))) else (some false)) else (none)) else (none)) else (some true)
def merkhetref15_Same.f (k : Nat) (l0 : List Int) (l1 : List Int) : Option (Bool) := if (l0.length : Int) = (l1.length : Int) then (merkhetref15_Same.l0 k l0 l1 0) else (some false)
theorem merkhetref15_Same.mono_l : ∀ k, (∀ y0 y1 y2, LeO (merkhetref15_Same.l0 k y0 y1 y2) (merkhetref15_Same.l0 (k + 1) y0 y1 y2))
  | 0 => fun _ _ _ r h => by simp [merkhetref15_Same.l0] at h
  | k + 1 => by
    have ih0 := merkhetref15_Same.mono_l k
    · intro y0 y1 y2
      unfold merkhetref15_Same.l0
      repeat' first
      | (with_reducible exact ih0 _ _ _)
      | (with_reducible exact LeO.refl _)
      | (with_reducible exact LeO.none _)
      | (with_reducible refine LeO.ite ?_ ?_)
      | (with_reducible refine LeO.bind ?_ (fun _ => ?_))
      | exact ih0 _ _ _
      | exact LeO.none _
      | refine LeO.ite ?_ ?_
      | refine LeO.bind ?_ (fun _ => ?_)
theorem merkhetref15_Same.mono : ∀ a0 a1 k, LeO (merkhetref15_Same.f k a0 a1) (merkhetref15_Same.f (k + 1) a0 a1) := by
  intro a0 a1 k
  have ih0 := merkhetref15_Same.mono_l k
  unfold merkhetref15_Same.f
  repeat' first
      | (with_reducible exact ih0 _ _ _)
      | (with_reducible exact LeO.refl _)
      | (with_reducible exact LeO.none _)
      | (with_reducible refine LeO.ite ?_ ?_)
      | (with_reducible refine LeO.bind ?_ (fun _ => ?_))
      | exact ih0 _ _ _
      | exact LeO.none _
      | refine LeO.ite ?_ ?_
      | refine LeO.bind ?_ (fun _ => ?_)
set_option maxHeartbeats 8000000 in
set_option maxRecDepth 100000 in
theorem merkhetref15_Same.calls (k : Nat) (A0 : Option Addr) (c0 : Nat) (l0 : List Int) (A1 : Option Addr) (c1 : Nat) (l1 : List Int) (r : Bool) (w : World) (hr0 : Kd.C (Kd.int .i64) w A0 l0.length l0) (hc0 : l0.length ≤ c0) (hr1 : Kd.C (Kd.int .i64) w A1 l1.length l1) (hc1 : l1.length ≤ c1) (h : merkhetref15_Same.f k l0 l1 = some r) :
    Calls Try.prog 26 #[.slice A0 l0.length c0, .slice A1 l1.length c1] w fun e w' => e = .returned (.bool r) ∧ Drawn0 w w' := by
  have HR0 := Aside0.mk hr0
  have HC0 := Aside0.mk hc0
  clear hr0 hc0
  have HR1 := Aside0.mk hr1
  have HC1 := Aside0.mk hc1
  clear hr1 hc1
  have H : (if (l0.length : Int) = (l1.length : Int) then (merkhetref15_Same.l0 k l0 l1 0) else (some false)) = some r := h
  clear h
  by_cases c3 : (l0.length : Int) = (l1.length : Int)
  · rw [if_pos c3] at H
    have c3b0 : ((l0.length : Int) == (l1.length : Int)) = true := beq_iff_eq.mpr c3
    have c3b1 : ((l0.length : Int) != (l1.length : Int)) = false := bne_eq_false_iff_eq.mpr c3
    have c3b2 : (l0.length == l1.length) = true := by first | simpa using c3 | (simp at c3 ⊢; omega)
    clear c3
    have H' := Aside0.mk H
    clear H
    go_enter Try.func26, Try.ntmps26
    go_wp2
    repeat (go_quiet (fail); try go_wp2)
    go_loopg [5] k (fun kq v5 w' => ∃ (x5_1 : Int), v5 = .int .i64 x5_1 ∧ Aside0 (merkhetref15_Same.l0 kq l0 l1 x5_1 = some r) ∧ Aside0 (kq ≤ k) ∧ Drawn0 w w')
    case atStart => exact ⟨(0), (by first | rfl | (simp; done) | (simp [*]; done)), H', ⟨Nat.le_refl _⟩, by repeat (first | exact Drawn0.refl _ | apply Drawn0.step)⟩
    case round =>
      clear H'
      (try clear c1); (try clear c2); (try clear p2); (try clear c3); (try clear c3b0); (try clear c3b1); (try clear c3b2)
      obtain ⟨x5_1, rfl, HA, HK1, ⟨m1, rfl⟩⟩ := hrel
      cases gk with
      | zero => exact absurd HA.out (by simp [merkhetref15_Same.l0])
      | succ k1 =>
        have H := HA.out
        clear HA
        simp only [merkhetref15_Same.l0] at H
        by_cases c4 : x5_1 < (l0.length : Int)
        · rw [if_pos c4] at H
          have c4b0 : decide (x5_1 < (l0.length : Int)) = true := decide_eq_true c4
          clear c4
          by_cases c5 : 0 ≤ x5_1
          · rw [if_pos c5] at H
            have c5b0 : decide (0 ≤ x5_1) = true := decide_eq_true c5
            clear c5
            by_cases c6 : x5_1 < (l1.length : Int)
            · rw [if_pos c6] at H
              have c6b0 : decide (x5_1 < (l1.length : Int)) = true := decide_eq_true c6
              clear c6
              by_cases c7 : (rd l0 x5_1) = (rd l1 x5_1)
              · rw [if_pos c7] at H
                have c7b0 : ((rd l0 x5_1) == (rd l1 x5_1)) = true := beq_iff_eq.mpr c7
                have c7b1 : ((rd l0 x5_1) != (rd l1 x5_1)) = false := bne_eq_false_iff_eq.mpr c7
                clear c7
                have H' := Aside0.mk H
                clear H
                have p223 : 0 ≤ (x5_1 : Int) := of_decide_eq_true (by first | (with_reducible assumption) | assumption)
                have q223 : x5_1 < (l0.length : Int) := of_decide_eq_true (by first | (with_reducible assumption) | assumption)
                obtain ⟨ad223, e223, hx223_0⟩ := Kd.at_int HR0.out x5_1 p223 q223
                cases e223
                replace p223 := eq_true p223
                replace q223 := eq_true q223
                have p224 : 0 ≤ (x5_1 : Int) := of_decide_eq_true (by first | (with_reducible assumption) | assumption)
                have q224 : x5_1 < (l1.length : Int) := of_decide_eq_true (by first | (with_reducible assumption) | assumption)
                obtain ⟨ad224, e224, hx224_0⟩ := Kd.at_int HR1.out x5_1 p224 q224
                cases e224
                replace p224 := eq_true p224
                replace q224 := eq_true q224
                go_wp2
                repeat (go_quiet (fail); try go_wp2)
                go_roundg k1
                case measure => have := HK1.out; omega
                case rel => exact ⟨(wrap64 (x5_1 + 1)), (by first | rfl | (simp; done) | (simp [*]; done)), H', ⟨by have := HK1.out; omega⟩, by repeat (first | exact Drawn0.refl _ | apply Drawn0.step)⟩
              · rw [if_neg c7] at H
                have c7b0 : ((rd l0 x5_1) == (rd l1 x5_1)) = false := beq_eq_false_iff_ne.mpr c7
                have c7b1 : ((rd l0 x5_1) != (rd l1 x5_1)) = true := bne_iff_ne.mpr c7
                obtain rfl := Option.some.inj H
                have p223 : 0 ≤ (x5_1 : Int) := of_decide_eq_true (by first | (with_reducible assumption) | assumption)
                have q223 : x5_1 < (l0.length : Int) := of_decide_eq_true (by first | (with_reducible assumption) | assumption)
                obtain ⟨ad223, e223, hx223_0⟩ := Kd.at_int HR0.out x5_1 p223 q223
                cases e223
                replace p223 := eq_true p223
                replace q223 := eq_true q223
                have p224 : 0 ≤ (x5_1 : Int) := of_decide_eq_true (by first | (with_reducible assumption) | assumption)
                have q224 : x5_1 < (l1.length : Int) := of_decide_eq_true (by first | (with_reducible assumption) | assumption)
                obtain ⟨ad224, e224, hx224_0⟩ := Kd.at_int HR1.out x5_1 p224 q224
                cases e224
                replace p224 := eq_true p224
                replace q224 := eq_true q224
                go_wp2
                repeat (go_quiet (fail); try go_wp2)
                go_ret
                exact ⟨by first | rfl | (simp; done) | (simp [*]; done), by repeat (first | exact Drawn0.refl _ | apply Drawn0.step)⟩
            · rw [if_neg c6] at H
              exact absurd H (by simp)
          · rw [if_neg c5] at H
            exact absurd H (by simp)
        · rw [if_neg c4] at H
          have c4b0 : decide (x5_1 < (l0.length : Int)) = false := decide_eq_false c4
          clear c4
          obtain rfl := Option.some.inj H
          go_wp2
          repeat (go_quiet (fail); try go_wp2)
          go_ret
          exact ⟨by first | rfl | (simp; done) | (simp [*]; done), by repeat (first | exact Drawn0.refl _ | apply Drawn0.step)⟩
  · rw [if_neg c3] at H
    have c3b0 : ((l0.length : Int) == (l1.length : Int)) = false := beq_eq_false_iff_ne.mpr c3
    have c3b1 : ((l0.length : Int) != (l1.length : Int)) = true := bne_iff_ne.mpr c3
    have c3b2 : (l0.length == l1.length) = false := by first | simpa using c3 | (simp at c3 ⊢; omega)
    obtain rfl := Option.some.inj H
    go_enter Try.func26, Try.ntmps26
    go_wp2
    repeat (go_quiet (fail); try go_wp2)
    go_ret
    exact ⟨by first | rfl | (simp; done) | (simp [*]; done), by repeat (first | exact Drawn0.refl _ | apply Drawn0.step)⟩

/-! ### merkhetref18_May: function 30 -/
def merkhetref18_May.l0 : Nat → List (S42) → Int → Option (Bool)
  | 0, _, _ => none
  | k + 1, x0, x3 => if x3 < (x0.length : Int) then (if 0 ≤ x3 then ((merkhetref01_May.f k ((rd_T42 x0 x3).f0) ((rd_T42 x0 x3).f1) ((rd_T42 x0 x3).f2) ((rd_T42 x0 x3).f3) ((rd_T42 x0 x3).f4) ((rd_T42 x0 x3).f5) ((rd_T42 x0 x3).f6) ((rd_T42 x0 x3).f7)).bind fun t226 => (if t226 = true then (merkhetref18_May.l0 k x0 (wrap64 (x3 + 1))) else (some false))) else (none)) else (some true)
def merkhetref18_May.f (k : Nat) (l0 : List (S42)) : Option (Bool) := merkhetref18_May.l0 k l0 0
theorem merkhetref18_May.mono_l : ∀ k, (∀ y0 y1, LeO (merkhetref18_May.l0 k y0 y1) (merkhetref18_May.l0 (k + 1) y0 y1))
  | 0 => fun _ _ r h => by simp [merkhetref18_May.l0] at h
  | k + 1 => by
    have ih0 := merkhetref18_May.mono_l k
    · intro y0 y1
      unfold merkhetref18_May.l0
      repeat' first
      | (with_reducible exact ih0 _ _)
      | (with_reducible exact merkhetref01_May.mono _ _ _ _ _ _ _ _ _)
      | (with_reducible exact LeO.refl _)
      | (with_reducible exact LeO.none _)
      | (with_reducible refine LeO.ite ?_ ?_)
      | (with_reducible refine LeO.bind ?_ (fun _ => ?_))
      | exact ih0 _ _
      | exact merkhetref01_May.mono _ _ _ _ _ _ _ _ _
      | exact LeO.none _
      | refine LeO.ite ?_ ?_
      | refine LeO.bind ?_ (fun _ => ?_)
theorem merkhetref18_May.mono : ∀ a0 k, LeO (merkhetref18_May.f k a0) (merkhetref18_May.f (k + 1) a0) := by
  intro a0 k
  have ih0 := merkhetref18_May.mono_l k
  unfold merkhetref18_May.f
  repeat' first
      | (with_reducible exact ih0 _ _)
      | (with_reducible exact merkhetref01_May.mono _ _ _ _ _ _ _ _ _)
      | (with_reducible exact LeO.refl _)
      | (with_reducible exact LeO.none _)
      | (with_reducible refine LeO.ite ?_ ?_)
      | (with_reducible refine LeO.bind ?_ (fun _ => ?_))
      | exact ih0 _ _
      | exact merkhetref01_May.mono _ _ _ _ _ _ _ _ _
      | exact LeO.none _
      | refine LeO.ite ?_ ?_
      | refine LeO.bind ?_ (fun _ => ?_)
set_option maxHeartbeats 8000000 in
set_option maxRecDepth 100000 in
theorem merkhetref18_May.calls (k : Nat) (A0 : Option Addr) (c0 : Nat) (l0 : List (S42)) (r : Bool) (w : World) (hr0 : Kd.C k42 w A0 l0.length l0) (hc0 : l0.length ≤ c0) (h : merkhetref18_May.f k l0 = some r) :
    Calls Try.prog 30 #[.slice A0 l0.length c0] w fun e w' => e = .returned (.bool r) ∧ Below w.heap.size w w' := by
  have hu42 := Try.underlying42
  have HR0 := Aside0.mk hr0
  have HC0 := Aside0.mk hc0
  clear hr0 hc0
  have HB := Aside0.mk (Below.refl w.heap.size w)
  have H : (merkhetref18_May.l0 k l0 0) = some r := h
  clear h
  have H' := Aside0.mk H
  clear H
  go_enter Try.func30, Try.ntmps30
  go_wp2
  go_loopg [3] k (fun kq v3 w' => ∃ (x3_1 : Int), v3 = .int .i64 x3_1 ∧ Aside0 (merkhetref18_May.l0 kq l0 x3_1 = some r) ∧ Aside0 (kq ≤ k) ∧ Aside0 (Below w.heap.size w w'))
  case atStart => exact ⟨(0), (by first | rfl | (simp; done) | (simp [*]; done)), H', ⟨Nat.le_refl _⟩, ⟨by repeat (first | (with_reducible first | exact HB.out | apply below_alloc | apply pw_below_drewN | apply below_drew1) | exact HB.out)⟩⟩
  case round =>
    clear H'
    obtain ⟨x3_1, rfl, HA, HK1, HB⟩ := hrel
    cases gk with
    | zero => exact absurd HA.out (by simp [merkhetref18_May.l0])
    | succ k1 =>
      have H := HA.out
      clear HA
      simp only [merkhetref18_May.l0] at H
      by_cases c2 : x3_1 < (l0.length : Int)
      · rw [if_pos c2] at H
        have c2b0 : decide (x3_1 < (l0.length : Int)) = true := decide_eq_true c2
        clear c2
        by_cases c3 : 0 ≤ x3_1
        · rw [if_pos c3] at H
          have c3b0 : decide (0 ≤ x3_1) = true := decide_eq_true c3
          clear c3
          replace H := Option.bind_eq_some_iff.mp H
          obtain ⟨t226, A40, H⟩ := H
          replace H : (if t226 = true then (merkhetref18_May.l0 k1 l0 (wrap64 (x3_1 + 1))) else (some false)) = some r := H
          have A4 := Aside0.mk A40
          clear A40
          by_cases c5 : t226 = true
          · subst c5
            have H1 : (merkhetref18_May.l0 k1 l0 (wrap64 (x3_1 + 1))) = some r := by rw [if_pos rfl] at H; exact H
            clear H
            have H := H1
            clear H1
            have H' := Aside0.mk H
            clear H
            have p225 : 0 ≤ (x3_1 : Int) := of_decide_eq_true (by first | (with_reducible assumption) | assumption)
            have q225 : x3_1 < (l0.length : Int) := of_decide_eq_true (by first | (with_reducible assumption) | assumption)
            obtain ⟨ad225, e225, hx225_0, hx225_1, hx225_2, hx225_3, hx225_4, hx225_5, hx225_6, hx225_7⟩ := at_T42 HR0.out x3_1 p225 q225
            cases e225
            replace hx225_0 := (HB.out.cell (World.block_lt_of_cell? w _ hx225_0)).trans hx225_0
            replace hx225_1 := (HB.out.cell (World.block_lt_of_cell? w _ hx225_1)).trans hx225_1
            replace hx225_2 := (HB.out.cell (World.block_lt_of_cell? w _ hx225_2)).trans hx225_2
            replace hx225_3 := (HB.out.cell (World.block_lt_of_cell? w _ hx225_3)).trans hx225_3
            replace hx225_4 := (HB.out.cell (World.block_lt_of_cell? w _ hx225_4)).trans hx225_4
            replace hx225_5 := (HB.out.cell (World.block_lt_of_cell? w _ hx225_5)).trans hx225_5
            replace hx225_6 := (HB.out.cell (World.block_lt_of_cell? w _ hx225_6)).trans hx225_6
            replace hx225_7 := (HB.out.cell (World.block_lt_of_cell? w _ hx225_7)).trans hx225_7
            replace p225 := eq_true p225
            replace q225 := eq_true q225
            go_wp2_with (first | ((with_reducible refine gate_callee (f := 32) rfl ?_); refine goesL_ (some 14) rfl rfl Try.func32 (by kernel_rfl) rfl #[.agg #[.int .u64 ((rd_T42 l0 x3_1).f0), .int .u64 ((rd_T42 l0 x3_1).f1), .int .u64 ((rd_T42 l0 x3_1).f2), .int .u8 ((rd_T42 l0 x3_1).f3), .string ((rd_T42 l0 x3_1).f4), .string ((rd_T42 l0 x3_1).f5), .int .i64 ((rd_T42 l0 x3_1).f6), .int .i64 ((rd_T42 l0 x3_1).f7)]] rfl (by (try simp only [List.map_toArray, List.map_cons, List.map_nil]); first | done | rfl | (simp only [List.length_drop, List.length_take]; rfl)) ?_; (with_reducible refine (merkhetref01_May.calls k1 ((rd_T42 l0 x3_1).f0) ((rd_T42 l0 x3_1).f1) ((rd_T42 l0 x3_1).f2) ((rd_T42 l0 x3_1).f3) ((rd_T42 l0 x3_1).f4) ((rd_T42 l0 x3_1).f5) ((rd_T42 l0 x3_1).f6) ((rd_T42 l0 x3_1).f7) true _ A4.out).mono ?_); rintro e w6 ⟨rfl, hb⟩; refine ⟨_, rfl, ?_⟩; have n0_ := Aside0.mk (below_step (by repeat (first | (with_reducible first | exact HB.out | apply below_alloc | apply pw_below_drewN | apply below_drew1) | exact HB.out)) hb); clear HB; have HB := n0_; clear n0_; (try clear hb); (try clear hb2); (try clear hk); (try clear hi)))
            go_roundg k1
            case measure => have := HK1.out; omega
            case rel => exact ⟨(wrap64 (x3_1 + 1)), (by first | rfl | (simp; done) | (simp [*]; done)), H', ⟨by have := HK1.out; omega⟩, ⟨by repeat (first | (with_reducible first | exact HB.out | apply below_alloc | apply pw_below_drewN | apply below_drew1) | exact HB.out)⟩⟩
          · replace c5 := Bool.eq_false_iff.mpr c5
            subst c5
            have H1 : (some false) = some r := by rw [if_neg (show ¬ (false = true) by decide)] at H; exact H
            clear H
            have H := H1
            clear H1
            obtain rfl := Option.some.inj H
            have p225 : 0 ≤ (x3_1 : Int) := of_decide_eq_true (by first | (with_reducible assumption) | assumption)
            have q225 : x3_1 < (l0.length : Int) := of_decide_eq_true (by first | (with_reducible assumption) | assumption)
            obtain ⟨ad225, e225, hx225_0, hx225_1, hx225_2, hx225_3, hx225_4, hx225_5, hx225_6, hx225_7⟩ := at_T42 HR0.out x3_1 p225 q225
            cases e225
            replace hx225_0 := (HB.out.cell (World.block_lt_of_cell? w _ hx225_0)).trans hx225_0
            replace hx225_1 := (HB.out.cell (World.block_lt_of_cell? w _ hx225_1)).trans hx225_1
            replace hx225_2 := (HB.out.cell (World.block_lt_of_cell? w _ hx225_2)).trans hx225_2
            replace hx225_3 := (HB.out.cell (World.block_lt_of_cell? w _ hx225_3)).trans hx225_3
            replace hx225_4 := (HB.out.cell (World.block_lt_of_cell? w _ hx225_4)).trans hx225_4
            replace hx225_5 := (HB.out.cell (World.block_lt_of_cell? w _ hx225_5)).trans hx225_5
            replace hx225_6 := (HB.out.cell (World.block_lt_of_cell? w _ hx225_6)).trans hx225_6
            replace hx225_7 := (HB.out.cell (World.block_lt_of_cell? w _ hx225_7)).trans hx225_7
            replace p225 := eq_true p225
            replace q225 := eq_true q225
            go_wp2_with (first | ((with_reducible refine gate_callee (f := 32) rfl ?_); refine goesL_ (some 14) rfl rfl Try.func32 (by kernel_rfl) rfl #[.agg #[.int .u64 ((rd_T42 l0 x3_1).f0), .int .u64 ((rd_T42 l0 x3_1).f1), .int .u64 ((rd_T42 l0 x3_1).f2), .int .u8 ((rd_T42 l0 x3_1).f3), .string ((rd_T42 l0 x3_1).f4), .string ((rd_T42 l0 x3_1).f5), .int .i64 ((rd_T42 l0 x3_1).f6), .int .i64 ((rd_T42 l0 x3_1).f7)]] rfl (by (try simp only [List.map_toArray, List.map_cons, List.map_nil]); first | done | rfl | (simp only [List.length_drop, List.length_take]; rfl)) ?_; (with_reducible refine (merkhetref01_May.calls k1 ((rd_T42 l0 x3_1).f0) ((rd_T42 l0 x3_1).f1) ((rd_T42 l0 x3_1).f2) ((rd_T42 l0 x3_1).f3) ((rd_T42 l0 x3_1).f4) ((rd_T42 l0 x3_1).f5) ((rd_T42 l0 x3_1).f6) ((rd_T42 l0 x3_1).f7) false _ A4.out).mono ?_); rintro e w7 ⟨rfl, hb⟩; refine ⟨_, rfl, ?_⟩; have n0_ := Aside0.mk (below_step (by repeat (first | (with_reducible first | exact HB.out | apply below_alloc | apply pw_below_drewN | apply below_drew1) | exact HB.out)) hb); clear HB; have HB := n0_; clear n0_; (try clear hb); (try clear hb2); (try clear hk); (try clear hi)))
            go_ret
            exact ⟨by first | rfl | (simp [errW_none, errW_some] <;> rfl) | (simp [*, errW_none, errW_some] <;> rfl), by repeat (first | (with_reducible first | exact HB.out | apply below_alloc | apply pw_below_drewN | apply below_drew1) | exact HB.out)⟩
        · rw [if_neg c3] at H
          exact absurd H (by simp)
      · rw [if_neg c2] at H
        have c2b0 : decide (x3_1 < (l0.length : Int)) = false := decide_eq_false c2
        clear c2
        obtain rfl := Option.some.inj H
        go_wp2
        go_ret
        exact ⟨by first | rfl | (simp [errW_none, errW_some] <;> rfl) | (simp [*, errW_none, errW_some] <;> rfl), by repeat (first | (with_reducible first | exact HB.out | apply below_alloc | apply pw_below_drewN | apply below_drew1) | exact HB.out)⟩

end Go.Proofs.Ytjgpggjjgimibaa.Q

