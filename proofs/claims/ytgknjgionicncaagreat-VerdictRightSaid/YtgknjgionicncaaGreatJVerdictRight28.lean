/- Texts joined by wip/tools/merge.py: Rx2 XOpens VOpens ROpens ParW RlxP SolP FeasP LoopP LoopQ LoopR RefH May18 Ref15 Qx14 RefS ShRP VerP VerQ RefG BndG VerF RigP PureVerdictRight. -/
import Derived.Test.YtgknjgionicncaaGreatJVerdictRight12
import Derived.Test.YtgknjgionicncaaGreatJVerdictRight25
import Derived.Test.YtgknjgionicncaaGreatJVerdictRight27
import Derived.Test.YtgknjgionicncaaGreatJVerdictRight24
import Derived.Test.YtgknjgionicncaaGreatJVerdictRight22
import Derived.KernelRfl
import Derived.Test.YtgknjgionicncaaGreatJVerdictRight26
namespace Go.Proofs.YtgknjgionicncaaGreat.R
open Go.RowKit Go.Proofs.YtgknjgionicncaaGreat.Q Go.Proofs.YtgknjgionicncaaGreat.X Go.Proofs.YtgknjgionicncaaGreat.V Go.Proofs.YtgknjgionicncaaGreatW.PrintWords Go.Proofs.YtgknjgionicncaaGreatW.PrintLast Go.Proofs.YtgknjgionicncaaGreatW.PrintMore
attribute [local go_sem] max2_int min2_int max_two min_two max_three min_three max_four min_four
set_option linter.unusedVariables false
set_option linter.unusedSimpArgs false
mutual
def merkhetlaw20_VerdictRight.j0 : Nat → Int → Bool → Int → List (S36) → List Int → List ByteArray → List Int → List (S72) → Option (Bool)
 | 0, _, _, _, _, _, _, _, _ => none
 | k + 1, x2, x8, x158000, x158001, x158002, x158003, x158004, x158005 => (verdict_Right.f k x158000 x158001 x158002 x158003 x158004 x158005).bind fun t158 => (if (t158 != x8) = true then (some false) else ((some (([] : List Int) : List Int)).bind fun y160 => (if y160.length + x158002.length < 17592186044416 then ((some (y160 ++ x158002 : List Int)).bind fun y163 => (if (y163.length : Int) > 0 then (if (y163.length : Int) = 0 then (none) else (if 0 ≤ (Int.tmod (wrap64 (x2)) (y163.length : Int)) then (if (Int.tmod (wrap64 (x2)) (y163.length : Int)) < (y163.length : Int) then (merkhetlaw20_VerdictRight.j1 k x2 x158000 x158001 x158002 x158003 x158004 x158005 x158000 x158001 (y163.set ((Int.tmod (wrap64 (x2)) (y163.length : Int)) : Int).toNat (wrap64 ((rd y163 (Int.tmod (wrap64 (x2)) (y163.length : Int))) + 1))) x158003 x158004 x158005) else (none)) else (none))) else (merkhetlaw20_VerdictRight.j1 k x2 x158000 x158001 x158002 x158003 x158004 x158005 x158000 x158001 y163 x158003 x158004 x158005))) else (none))))
def merkhetlaw20_VerdictRight.j1 : Nat → Int → Int → List (S36) → List Int → List ByteArray → List Int → List (S72) → Int → List (S36) → List Int → List ByteArray → List Int → List (S72) → Option (Bool)
 | 0, _, _, _, _, _, _, _, _, _, _, _, _, _ => none
 | k + 1, x2, x158000, x158001, x158002, x158003, x158004, x158005, x160000, x160001, x160002, x160003, x160004, x160005 => (some (([(⟨#[122, 122]⟩ : ByteArray)] : List ByteArray) : List ByteArray)).bind fun y170 => (if y170.length + x158003.length < 8796093022208 then ((merkhetlaw20_fixed.f k).bind fun t176 => (if t176 = true then ((verdict_Right.f k x160000 x160001 x160002 x160003 x160004 x160005).bind fun t177 => (if t177 = true then (some false) else ((verdict_Right.f k (wrap64 (x158000 + (wrap64 (1 + (wrap64 (Int.tmod x2 3)))))) x158001 x158002 x158003 x158004 x158005).bind fun t178 => (if t178 = true then (some false) else ((verdict_Right.f k x158000 x158001 x158002 (y170 ++ x158003) x158004 x158005).bind fun t179 => (some (!t179))))))) else (some false))) else (none))
end
def merkhetlaw20_VerdictRight.f (k : Nat) (l0 : List (S36)) (a1 : Int) (a2 : Int) : Option (Bool) := (merkhetlaw04_Great.f k l0).bind fun t139 => (if t139 = true then ((merkhetlaw20_fixed.f k).bind fun t140 => (some t140)) else ((verdict_Of.f k l0 a1).bind fun bt141 => (if bt141.1 = 1 then (merkhetlaw20_VerdictRight.j0 k a2 true bt141.1 bt141.2.1 bt141.2.2.1 bt141.2.2.2.1 bt141.2.2.2.2.1 bt141.2.2.2.2.2) else (merkhetlaw20_VerdictRight.j0 k a2 (bt141.1 == 2) bt141.1 bt141.2.1 bt141.2.2.1 bt141.2.2.2.1 bt141.2.2.2.2.1 bt141.2.2.2.2.2))))
theorem merkhetlaw20_VerdictRight.mono_l : ∀ k, (∀ y0 y1 y2 y3 y4 y5 y6 y7, LeO (merkhetlaw20_VerdictRight.j0 k y0 y1 y2 y3 y4 y5 y6 y7) (merkhetlaw20_VerdictRight.j0 (k + 1) y0 y1 y2 y3 y4 y5 y6 y7)) ∧ (∀ y0 y1 y2 y3 y4 y5 y6 y7 y8 y9 y10 y11 y12, LeO (merkhetlaw20_VerdictRight.j1 k y0 y1 y2 y3 y4 y5 y6 y7 y8 y9 y10 y11 y12) (merkhetlaw20_VerdictRight.j1 (k + 1) y0 y1 y2 y3 y4 y5 y6 y7 y8 y9 y10 y11 y12))
 | 0 => ⟨fun _ _ _ _ _ _ _ _ r h => by simp [merkhetlaw20_VerdictRight.j0] at h, fun _ _ _ _ _ _ _ _ _ _ _ _ _ r h => by simp [merkhetlaw20_VerdictRight.j1] at h⟩
 | k + 1 => by
  obtain ⟨ih0, ih1⟩ := merkhetlaw20_VerdictRight.mono_l k
  refine ⟨?_, ?_⟩
  ·intro y0 y1 y2 y3 y4 y5 y6 y7
   unfold merkhetlaw20_VerdictRight.j0
   have m0 := @merkhetlaw04_Great.mono; have m1 := @merkhetlaw20_fixed.mono; have m2 := @verdict_Of.mono; have m3 := @verdict_Right.mono
   exact zM
  ·intro y0 y1 y2 y3 y4 y5 y6 y7 y8 y9 y10 y11 y12
   unfold merkhetlaw20_VerdictRight.j1
   have m0 := @merkhetlaw04_Great.mono; have m1 := @merkhetlaw20_fixed.mono; have m2 := @verdict_Of.mono; have m3 := @verdict_Right.mono
   exact zM
theorem merkhetlaw20_VerdictRight.mono : ∀ a0 a1 a2 k, LeO (merkhetlaw20_VerdictRight.f k a0 a1 a2) (merkhetlaw20_VerdictRight.f (k + 1) a0 a1 a2) := by
 intro a0 a1 a2 k
 obtain ⟨ih0, ih1⟩ := merkhetlaw20_VerdictRight.mono_l k
 unfold merkhetlaw20_VerdictRight.f
 have m0 := @merkhetlaw04_Great.mono; have m1 := @merkhetlaw20_fixed.mono; have m2 := @verdict_Of.mono; have m3 := @verdict_Right.mono
 exact zM
def merkhetlaw20_VerdictRight.T10 : Bool × List (List Nat × List Nat) := (true, [([], []), ([0], [0]), ([], []), ([2], [2]), ([], []), ([4], [4]), ([5], [5]), ([3, 6], [3, 6]), ([1, 7], [1, 7]), ([8], [8]), ([9], [9]), ([1, 7, 0, 1, 2, 3, 4, 5, 6, 7, 8, 9, 10], [1, 7]), ([11, 10, 0, 1, 2, 3, 4, 5, 6, 7, 8, 9, 10], [10, 11])])
def merkhetlaw20_VerdictRight.B10 : List Nat := [0, 1, 0, 4, 0, 16, 48, 124, 255, 511, 1023, 2047, 4095]
theorem merkhetlaw20_VerdictRight.tab10 : rtab .any (opsOf Tryz.f6 10) = merkhetlaw20_VerdictRight.T10 := by kernel_rfl
theorem merkhetlaw20_VerdictRight.bits10 : waitsOk merkhetlaw20_VerdictRight.T10.2 merkhetlaw20_VerdictRight.B10 = true := by kernel_rfl
set_option maxHeartbeats 8000000 in
set_option maxRecDepth 100000 in
theorem merkhetlaw20_VerdictRight.calls (k : Nat) (A0 : Option Addr) (c0 : Nat) (l0 : List (S36)) (a1 : Int) (a2 : Int) (r : Bool) (w : World) (hr0 : Kd.C k36 w A0 l0.length l0) (hc0 : l0.length ≤ c0) (h : merkhetlaw20_VerdictRight.f k l0 a1 a2 = some true) :
  Calls Tryz.prog 6 #[.slice A0 l0.length c0, .int .u64 a1, .int .u8 a2] w fun e w' => e = .returned (.bool true) ∧ Below w.heap.size w w' := by
 have hu31 := Tryz.underlying31
 have HR0 := Aside0.mk hr0
 have HC0 := Aside0.mk hc0
 clear hr0 hc0
 have HB := Aside0.mk (Below.refl w.heap.size w)
 have H : ((merkhetlaw04_Great.f k l0).bind fun t139 => (if t139 = true then ((merkhetlaw20_fixed.f k).bind fun t140 => (some t140)) else ((verdict_Of.f k l0 a1).bind fun bt141 => (if bt141.1 = 1 then (merkhetlaw20_VerdictRight.j0 k a2 true bt141.1 bt141.2.1 bt141.2.2.1 bt141.2.2.2.1 bt141.2.2.2.2.1 bt141.2.2.2.2.2) else (merkhetlaw20_VerdictRight.j0 k a2 (bt141.1 == 2) bt141.1 bt141.2.1 bt141.2.2.1 bt141.2.2.2.1 bt141.2.2.2.2.1 bt141.2.2.2.2.2))))) = some true := h
 clear h
 replace H := Option.bind_eq_some_iff.mp H
 obtain ⟨t139, A40, H⟩ := H
 have A4 := Aside0.mk A40
 clear A40
 by_cases c5 : t139 = true
 ·subst c5
  rw [if_pos rfl] at H
  replace H := Option.bind_eq_some_iff.mp H
  obtain ⟨t140, A60, H⟩ := H
  have A6 := Aside0.mk A60
  clear A60
  first | (obtain rfl := Option.some.inj H) | (have hr_ := Option.some.inj H; clear H)
  go_enter Tryz.func6, Tryz.ntmps6
  go_wp2_with (first | ((with_reducible refine gate_callee (f := 9) rfl ?_); refine goesL_ (some 13) rfl rfl Tryz.func9 (by kernel_rfl) rfl #[.slice A0 l0.length c0] rfl zL ?_; (with_reducible refine (merkhetlaw04_Great.calls k _ _ l0 true _ ?side1 ?side2 A4.out).mono ?_); (case side1 => exact zC (HR0.out)); (case side2 => exact HC0.out); rintro e w7 ⟨rfl, hb⟩; refine ⟨_, rfl, ?_⟩; replace HB := Aside0.mk (below_step zB hb); (try clear hb); (try clear hb2); (try clear hk); (try clear hi)) | ((with_reducible refine gate_callee (f := 10) rfl ?_); refine goesL_ (some 14) rfl rfl Tryz.func10 (by kernel_rfl) rfl #[] rfl zL ?_; (with_reducible refine (merkhetlaw20_fixed.calls k  true _ A6.out).mono ?_); rintro e w8 ⟨rfl, hb⟩; refine ⟨_, rfl, ?_⟩; replace HB := Aside0.mk (below_step zB hb); (try clear hb); (try clear hb2); (try clear hk); (try clear hi)))
  go_ret
  exact ⟨zV, zB⟩
 ·replace c5 := Bool.eq_false_iff.mpr c5
  subst c5
  rw [if_neg (show ¬ (false = true) by decide)] at H
  replace H := Option.bind_eq_some_iff.mp H
  obtain ⟨⟨t141, t142, t145, t148, t151, t154⟩, A90, H⟩ := H
  dsimp only at H
  have A9 := Aside0.mk A90
  clear A90
  have HC10 := Aside0.mk H
  clear H
  go_enter Tryz.func6, Tryz.ntmps6
  go_upto_region 4 with (first | ((with_reducible refine gate_callee (f := 9) rfl ?_); refine goesL_ (some 13) rfl rfl Tryz.func9 (by kernel_rfl) rfl #[.slice A0 l0.length c0] rfl zL ?_; (with_reducible refine (merkhetlaw04_Great.calls k _ _ l0 false _ ?side1 ?side2 A4.out).mono ?_); (case side1 => exact zC (HR0.out)); (case side2 => exact HC0.out); rintro e w11 ⟨rfl, hb⟩; refine ⟨_, rfl, ?_⟩; replace HB := Aside0.mk (below_step zB hb); (try clear hb); (try clear hb2); (try clear hk); (try clear hi)) | ((with_reducible refine gate_callee (f := 12) rfl ?_); refine goesL_ (some 17) rfl rfl Tryz.func12 (by kernel_rfl) rfl #[.slice A0 l0.length c0, .int .u64 a1] rfl zL ?_; (with_reducible refine (verdict_Of.calls k _ _ l0 a1 t141 t142 t145 t148 t151 t154 _ ?side1 ?side2 A9.out).mono ?_); (case side1 => exact zC ((Kd.C_below HR0.out HB.out))); (case side2 => exact HC0.out); rintro e w12 ⟨v143, v146, v149, v152, v155, rfl, ho0, ho1, ho2, ho3, ho4, hb⟩; refine ⟨_, rfl, ?_⟩; have HO144 := Aside0.mk (Kd.R_lower (Kd.R_mono (ok' := fun k_ => True) ho0 (fun _ hk_ => trivial)) (below_size zB)); have HO147 := Aside0.mk (Kd.R_lower (Kd.R_mono (ok' := fun k_ => True) ho1 (fun _ hk_ => trivial)) (below_size zB)); have HO150 := Aside0.mk (Kd.R_lower (Kd.R_mono (ok' := fun k_ => True) ho2 (fun _ hk_ => trivial)) (below_size zB)); have HO153 := Aside0.mk (Kd.V_lower (Kd.V_mono (ok' := fun k_ => some k_ ≠ (v143 : Value).ownBlock ∧ some k_ ≠ (v146 : Value).ownBlock ∧ some k_ ≠ (v149 : Value).ownBlock ∧ some k_ ≠ (v155 : Value).ownBlock) ho3 (fun k_ hk_ => ⟨hk_.2.1, hk_.2.2.1, hk_.2.2.2.1, hk_.2.2.2.2⟩)) (below_size zB)); have HO156 := Aside0.mk (Kd.R_lower (Kd.R_mono (ok' := fun k_ => True) ho4 (fun _ hk_ => trivial)) (below_size zB)); replace HB := Aside0.mk (below_step zB hb); (try clear hb); (try clear hb2); (try clear hk); (try clear hi); (try clear ho0); (try clear ho1); (try clear ho2); (try clear ho3); (try clear ho4)) | ((with_reducible refine gate_dst (N := 7) rfl ?_); refine zbox (N := 7) (cs := #[.int .i64 0, .slice none 0 0, .slice none 0 0, .slice none 0 0, .slice none 0 0, .slice none 0 0]) (t := 31) ?_; intro gb157 hg w13 hbox hb; replace HO144 := Aside0.mk (Kd.R_below (zR HO144.out) hb); replace HO147 := Aside0.mk (Kd.R_below (zR HO147.out) hb); replace HO150 := Aside0.mk (Kd.R_below (zR HO150.out) hb); replace HO153 := Aside0.mk (Kd.V_below (Kd.V_elderB (zRV HO153.out) gb157 (Nat.le_of_eq hg.symm)) hb); replace HO156 := Aside0.mk (Kd.R_below (zR HO156.out) hb); have BK157 := Aside0.mk (hbox); have GW157 := Aside0.mk ((by rw [hg]; exact (below_size zB) : w.heap.size ≤ gb157)); have GE157 := Aside0.mk ((by rw [hg]; exact (below_size zB) : w.heap.size ≤ gb157)); replace HB := Aside0.mk (below_step zB hb); clear hb hbox hg; obtain ⟨hcz14_0, hcz14_1, hcz14_2, hcz14_3, hcz14_4, hcz14_5, hfz14_0, hfz14_1, hfz14_2, hfz14_3, hfz14_4, hfz14_5⟩ := zb6 BK157.out; obtain ⟨Ao15, co15, eo15⟩ := Kd.R_slice HO144.out; subst eo15; obtain ⟨Ao16, co16, eo16⟩ := Kd.R_slice HO147.out; subst eo16; obtain ⟨Ao17, co17, eo17⟩ := Kd.R_slice HO150.out; subst eo17; obtain ⟨Ao18, co18, eo18⟩ := Kd.V_slice HO153.out; subst eo18; obtain ⟨Ao19, co19, eo19⟩ := Kd.R_slice HO156.out; subst eo19))
  (try simp only [Act.put, List.setIfInBounds_toArray, List.set_cons_zero, List.set_cons_succ])
  go_cut [8] (fun v8 wc => ∃ (kq : Nat) (x8_9 : Bool), v8 = .bool x8_9 ∧ Aside0 (merkhetlaw20_VerdictRight.j0 kq a2 x8_9 t141 t142 t145 t148 t151 t154 = some true) ∧ Aside0 (kq ≤ k) ∧ Aside0 (Kd.R k36 36 wc w.heap.size (fun _ => True) (.slice Ao15 t142.length co15) t142) ∧ Aside0 (Kd.R (Kd.int .i64) 2 wc w.heap.size (fun _ => True) (.slice Ao16 t145.length co16) t145) ∧ Aside0 (Kd.R Kd.string 9 wc w.heap.size (fun _ => True) (.slice Ao17 t148.length co17) t148) ∧ Aside0 (Kd.V (Kd.int .i64) 2 wc w.heap.size (fun k_ => some k_ ≠ ((.slice Ao15 t142.length co15) : Value).ownBlock ∧ some k_ ≠ ((.slice Ao16 t145.length co16) : Value).ownBlock ∧ some k_ ≠ ((.slice Ao17 t148.length co17) : Value).ownBlock ∧ some k_ ≠ ((.slice Ao19 t154.length co19) : Value).ownBlock ∧ k_ ≠ gb157) (.slice Ao18 t151.length co18) t151) ∧ Aside0 (Kd.R k72 72 wc w.heap.size (fun _ => True) (.slice Ao19 t154.length co19) t154) ∧ Aside0 (wc.heap[gb157]? = some (.cells #[.int .i64 t141, (.slice Ao15 t142.length co15), (.slice Ao16 t145.length co16), (.slice Ao17 t148.length co17), (.slice Ao18 t151.length co18), (.slice Ao19 t154.length co19)] 31 (0, 0))) ∧ Aside0 (Below w.heap.size w wc))
  case first =>
   have H := HC10.out
   clear HC10
   by_cases c20 : t141 = 1
   ·rw [if_pos c20] at H
    have c20b0 : (t141 == 1) = true := beq_iff_eq.mpr c20
    have c20b1 : (t141 != 1) = false := bne_eq_false_iff_eq.mpr c20
    clear c20
    (first | rw [c20b0] | (simp only [i64_w, i32_w]; rw [c20b0]) | rw [c20b1] | skip)
    have H' := Aside0.mk H
    clear H
    obtain ⟨hcz21_0, hcz21_1, hcz21_2, hcz21_3, hcz21_4, hcz21_5, hfz21_0, hfz21_1, hfz21_2, hfz21_3, hfz21_4, hfz21_5⟩ := zb6 BK157.out
    go_wp2
    go_meet
    case rel => exact ⟨_, (true), zE, H', ⟨by first | omega | exact Nat.le_refl _⟩, ⟨Kd.R_mono (zW HO144.out BK157.out) (fun _ hk => trivial)⟩, ⟨Kd.R_mono (zW HO147.out BK157.out) (fun _ hk => trivial)⟩, ⟨Kd.R_mono (zW HO150.out BK157.out) (fun _ hk => trivial)⟩, ⟨by (with_reducible repeat (first | apply Kd.V_alloc | apply Kd.V_drewN | apply Kd.V_drew)); exact Kd.V_mono (Kd.V_far (p := ⟨gb157, 5, none⟩) (Kd.V_far (p := ⟨gb157, 4, none⟩) (Kd.V_far (p := ⟨gb157, 3, none⟩) (Kd.V_far (p := ⟨gb157, 2, none⟩) (Kd.V_far (p := ⟨gb157, 1, none⟩) (Kd.V_far (p := ⟨gb157, 0, none⟩) (Kd.V_mono HO153.out (fun k_ hk => (⟨hk, hk.2⟩ : _ ∧ k_ ≠ gb157))) (fun _ hk => hk.2) (.int .i64 t141)) (fun _ hk => hk.2) (.slice Ao15 t142.length co15)) (fun _ hk => hk.2) (.slice Ao16 t145.length co16)) (fun _ hk => hk.2) (.slice Ao17 t148.length co17)) (fun _ hk => hk.2) (.slice Ao18 t151.length co18)) (fun _ hk => hk.2) (.slice Ao19 t154.length co19)) (fun _ hk => ⟨hk.1.1.1, ⟨hk.1.1.2.1, ⟨hk.1.1.2.2.1, ⟨hk.1.1.2.2.2, hk.1.2⟩⟩⟩⟩)⟩, ⟨Kd.R_mono (zW HO156.out BK157.out) (fun _ hk => trivial)⟩, ⟨zP BK157.out⟩, ⟨zG GE157.out⟩⟩
   ·rw [if_neg c20] at H
    have c20b0 : (t141 == 1) = false := beq_eq_false_iff_ne.mpr c20
    have c20b1 : (t141 != 1) = true := bne_iff_ne.mpr c20
    (first | rw [c20b0] | (simp only [i64_w, i32_w]; rw [c20b0]) | rw [c20b1] | skip)
    have H' := Aside0.mk H
    clear H
    obtain ⟨hcz22_0, hcz22_1, hcz22_2, hcz22_3, hcz22_4, hcz22_5, hfz22_0, hfz22_1, hfz22_2, hfz22_3, hfz22_4, hfz22_5⟩ := zb6 BK157.out
    go_wp2
    go_meet
    case rel => exact ⟨_, ((t141 == 2)), zE, H', ⟨by first | omega | exact Nat.le_refl _⟩, ⟨Kd.R_mono (zW HO144.out BK157.out) (fun _ hk => trivial)⟩, ⟨Kd.R_mono (zW HO147.out BK157.out) (fun _ hk => trivial)⟩, ⟨Kd.R_mono (zW HO150.out BK157.out) (fun _ hk => trivial)⟩, ⟨by (with_reducible repeat (first | apply Kd.V_alloc | apply Kd.V_drewN | apply Kd.V_drew)); exact Kd.V_mono (Kd.V_far (p := ⟨gb157, 5, none⟩) (Kd.V_far (p := ⟨gb157, 4, none⟩) (Kd.V_far (p := ⟨gb157, 3, none⟩) (Kd.V_far (p := ⟨gb157, 2, none⟩) (Kd.V_far (p := ⟨gb157, 1, none⟩) (Kd.V_far (p := ⟨gb157, 0, none⟩) (Kd.V_mono HO153.out (fun k_ hk => (⟨hk, hk.2⟩ : _ ∧ k_ ≠ gb157))) (fun _ hk => hk.2) (.int .i64 t141)) (fun _ hk => hk.2) (.slice Ao15 t142.length co15)) (fun _ hk => hk.2) (.slice Ao16 t145.length co16)) (fun _ hk => hk.2) (.slice Ao17 t148.length co17)) (fun _ hk => hk.2) (.slice Ao18 t151.length co18)) (fun _ hk => hk.2) (.slice Ao19 t154.length co19)) (fun _ hk => ⟨hk.1.1.1, ⟨hk.1.1.2.1, ⟨hk.1.1.2.2.1, ⟨hk.1.1.2.2.2, hk.1.2⟩⟩⟩⟩)⟩, ⟨Kd.R_mono (zW HO156.out BK157.out) (fun _ hk => trivial)⟩, ⟨zP BK157.out⟩, ⟨zG GE157.out⟩⟩
  case rest =>
   clear HC10
   (try clear c1); (try clear c2); (try clear p2); (try clear c5); (try clear c6); (try clear c9); (try clear c10); (try clear c12); (try clear c20); (try clear c20b0); (try clear c20b1); (try clear hcz14_0 hcz14_1 hcz14_2 hcz14_3 hcz14_4 hcz14_5); (try clear hcz21_0 hcz21_1 hcz21_2 hcz21_3 hcz21_4 hcz21_5); (try clear hcz22_0 hcz22_1 hcz22_2 hcz22_3 hcz22_4 hcz22_5); (try clear hfz14_0 hfz14_1 hfz14_2 hfz14_3 hfz14_4 hfz14_5); (try clear hfz21_0 hfz21_1 hfz21_2 hfz21_3 hfz21_4 hfz21_5); (try clear hfz22_0 hfz22_1 hfz22_2 hfz22_3 hfz22_4 hfz22_5)
   obtain ⟨kq, x8_9, rfl, HA, HJ9, HO_158001, HO_158002, HO_158003, HO_158004, HO_158005, BK157, HB⟩ := hcut
   cases kq with
   | zero => exact absurd HA.out (by simp [merkhetlaw20_VerdictRight.j0])
   | succ kj9 =>
    have H := HA.out
    clear HA
    simp only [merkhetlaw20_VerdictRight.j0] at H
    replace H := Option.bind_eq_some_iff.mp H
    obtain ⟨t158, A230, H⟩ := H
    have A23 := Aside0.mk A230
    clear A230
    by_cases c24 : (t158 != x8_9) = true
    ·rw [if_pos c24] at H
     have c24b0 : (t158 != x8_9) = true := c24
     (try (have c24b1 : decide (t158 = x8_9) = false := by simpa using c24))
     (try (have c24b2 : (t158 == x8_9) = false := by simpa using c24))
     (try (have c24b3 : ¬ (t158 = x8_9) := by simpa using c24))
     clear c24
     exact absurd H (by simp)
    ·rw [if_neg c24] at H
     have c24b0 : (t158 != x8_9) = false := by simpa using c24
     (try (have c24b1 : decide (t158 = x8_9) = true := by simpa using c24))
     (try (have c24b2 : (t158 == x8_9) = true := by simpa using c24))
     clear c24
     obtain ⟨y160, hy160⟩ : ∃ y_ : List Int, y_ = (([] : List Int)) := ⟨_, rfl⟩
     replace H : (if y160.length + t145.length < 17592186044416 then ((some (y160 ++ t145 : List Int)).bind fun y163 => (if (y163.length : Int) > 0 then (if (y163.length : Int) = 0 then (none) else (if 0 ≤ (Int.tmod (wrap64 (a2)) (y163.length : Int)) then (if (Int.tmod (wrap64 (a2)) (y163.length : Int)) < (y163.length : Int) then (merkhetlaw20_VerdictRight.j1 kj9 a2 t141 t142 t145 t148 t151 t154 t141 t142 (y163.set ((Int.tmod (wrap64 (a2)) (y163.length : Int)) : Int).toNat (wrap64 ((rd y163 (Int.tmod (wrap64 (a2)) (y163.length : Int))) + 1))) t148 t151 t154) else (none)) else (none))) else (merkhetlaw20_VerdictRight.j1 kj9 a2 t141 t142 t145 t148 t151 t154 t141 t142 y163 t148 t151 t154))) else (none)) = some true := by first | (rw [hy160]; with_reducible exact H) | (have H2_ := (Option.bind_some _ _).symm.trans H; rw [hy160]; with_reducible exact H2_) | (have H2_ := (Option.bind_some _ _).symm.trans H; with_reducible exact H2_) | with_reducible exact H | (rw [hy160]; exact H) | exact H
     have Ny160 := Aside0.mk hy160
     clear hy160
     obtain ⟨c27, H⟩ := zj H
     have LMc27 := Aside0.mk c27
     clear c27
     obtain ⟨y163, hy163⟩ : ∃ y_ : List Int, y_ = (y160 ++ t145) := ⟨_, rfl⟩
     first | (replace H := zo H hy163) | rw [← hy163] at H
     have Ny163 := Aside0.mk hy163
     clear hy163
     have HC28 := Aside0.mk H
     clear H
     obtain ⟨hcz29_0, hcz29_1, hcz29_2, hcz29_3, hcz29_4, hcz29_5, hfz29_0, hfz29_1, hfz29_2, hfz29_3, hfz29_4, hfz29_5⟩ := zb6 BK157.out
     go_upto_if 39 with (first | ((with_reducible refine gate_callee (f := 18) rfl ?_); refine goesL_ (some 27) rfl rfl Tryz.func18 (by kernel_rfl) rfl #[.agg #[.int .i64 t141, .slice Ao15 t142.length co15, .slice Ao16 t145.length co16, .slice Ao17 t148.length co17, .slice Ao18 t151.length co18, .slice Ao19 t154.length co19]] rfl zL ?_; (with_reducible refine (verdict_Right.calls kj9 t141 _ _ t142 _ _ t145 _ _ t148 _ _ t151 _ _ t154 t158 _ ?side1 ?side2 ?side3 ?side4 ?side5 ?side6 ?side7 ?side8 ?side9 ?side10 A23.out).mono ?_); (case side1 => exact zC ((Kd.R_reads' HO_158001.out).2.2)); (case side2 => exact (Kd.R_reads' HO_158001.out).2.1); (case side3 => exact zC ((Kd.R_reads' HO_158002.out).2.2)); (case side4 => exact (Kd.R_reads' HO_158002.out).2.1); (case side5 => exact zC ((Kd.R_reads' HO_158003.out).2.2)); (case side6 => exact (Kd.R_reads' HO_158003.out).2.1); (case side7 => exact zC ((Kd.V_reads' HO_158004.out).2.2)); (case side8 => exact (Kd.V_reads' HO_158004.out).2.1); (case side9 => exact zC ((Kd.R_reads' HO_158005.out).2.2)); (case side10 => exact (Kd.R_reads' HO_158005.out).2.1); rintro e w30 ⟨rfl, hb⟩; refine ⟨_, rfl, ?_⟩; replace HO_158001 := Aside0.mk (Kd.R_below (zR HO_158001.out) hb); replace HO_158002 := Aside0.mk (Kd.R_below (zR HO_158002.out) hb); replace HO_158003 := Aside0.mk (Kd.R_below (zR HO_158003.out) hb); replace HO_158004 := Aside0.mk (Kd.V_below (zRV HO_158004.out) hb); replace HO_158005 := Aside0.mk (Kd.R_below (zR HO_158005.out) hb); replace BK157 := Aside0.mk (zKb BK157.out hb); replace HB := Aside0.mk (below_step (zG GE157.out) hb); (try clear hb); (try clear hb2); (try clear hk); (try clear hi); obtain ⟨hcz31_0, hcz31_1, hcz31_2, hcz31_3, hcz31_4, hcz31_5, hfz31_0, hfz31_1, hfz31_2, hfz31_3, hfz31_4, hfz31_5⟩ := zb6 BK157.out) | ((with_reducible refine gate_dst (N := 9) rfl ?_); refine zbox (N := 9) (cs := #[.int .i64 0, .slice none 0 0, .slice none 0 0, .slice none 0 0, .slice none 0 0, .slice none 0 0]) (t := 31) ?_; intro gb159 hg w32 hbox hb; replace HO_158001 := Aside0.mk (Kd.R_below (zR HO_158001.out) hb); replace HO_158002 := Aside0.mk (Kd.R_below (zR HO_158002.out) hb); replace HO_158003 := Aside0.mk (Kd.R_below (zR HO_158003.out) hb); replace HO_158004 := Aside0.mk (Kd.V_below (Kd.V_elderB (zRV HO_158004.out) gb159 (Nat.le_of_eq hg.symm)) hb); replace HO_158005 := Aside0.mk (Kd.R_below (zR HO_158005.out) hb); have BK159 := Aside0.mk (hbox); have GW159 := Aside0.mk ((by rw [hg]; exact (below_size (zG GE157.out)) : w.heap.size ≤ gb159)); have GE159 := Aside0.mk ((by rw [hg]; exact (below_size (zG GE157.out)) : w.heap.size ≤ gb159)); replace HB := Aside0.mk (below_step (zG GE157.out) hb); have NB157_159 := Aside0.mk ((by rw [hg]; exact Nat.ne_of_lt (zKl BK157.out) : gb157 ≠ gb159)); have NB159_157 := Aside0.mk ((by rw [hg]; exact Nat.ne_of_gt (zKl BK157.out) : gb159 ≠ gb157)); replace BK157 := Aside0.mk (zKb BK157.out hb); clear hb hbox hg; have hnb33 := NB159_157.out; have hnc33 := NB157_159.out; obtain ⟨hcz34_0, hcz34_1, hcz34_2, hcz34_3, hcz34_4, hcz34_5, hfz34_0, hfz34_1, hfz34_2, hfz34_3, hfz34_4, hfz34_5⟩ := zb6 BK159.out) | ((with_reducible refine gate_dst (N := 31) rfl ?_); refine Kd.R_lit (Kd.int .i64) _ 2 ?hg (N := 31) ?hd (xs := ([] : List Int)) (inner := []) (ok := fun _ => True) (okp := fun _ => True) ?hr ?hp (fun _ hk => hk) trivial (Below.refl _ _) (Nat.le_refl _) (by simp) ?_; (case hd => rfl); (case hg => rfl); (case hr => first | (go_simp; done) | (go_simp; rfl)); (case hp => exact (Reps.none _ _)); intro v161 w35 ho36 hb hg_ hnew_; clear hg_ hnew_; (first | rw [← Ny160.out] at ho36 | (simp only [Int.reduceToNat] at ho36; rw [← Ny160.out] at ho36)); replace HO_158001 := Aside0.mk (Kd.R_below (zW HO_158001.out BK159.out) hb); replace HO_158003 := Aside0.mk (Kd.R_below (zW HO_158003.out BK159.out) hb); replace HO_158004 := Aside0.mk (Kd.V_elder' (by (with_reducible repeat (first | apply Kd.V_alloc | apply Kd.V_drewN | apply Kd.V_drew)); exact (Kd.V_mono (Kd.V_far (p := ⟨gb159, 5, none⟩) (Kd.V_far (p := ⟨gb159, 4, none⟩) (Kd.V_far (p := ⟨gb159, 3, none⟩) (Kd.V_far (p := ⟨gb159, 2, none⟩) (Kd.V_far (p := ⟨gb159, 1, none⟩) (Kd.V_far (p := ⟨gb159, 0, none⟩) (Kd.V_mono HO_158004.out (fun k_ hk => (⟨hk, hk.2⟩ : _ ∧ k_ ≠ gb159))) (fun _ hk => hk.2) (.int .i64 t141)) (fun _ hk => hk.2) (.slice Ao15 t142.length co15)) (fun _ hk => hk.2) (.slice Ao16 t145.length co16)) (fun _ hk => hk.2) (.slice Ao17 t148.length co17)) (fun _ hk => hk.2) (.slice Ao18 t151.length co18)) (fun _ hk => hk.2) (.slice Ao19 t154.length co19)) (fun _ h_ => h_.1))) (Kd.R_base ho36) hb); replace HO_158005 := Aside0.mk (Kd.R_below (zW HO_158005.out BK159.out) hb); have HO162 := Aside0.mk (Kd.R_lower (Kd.R_new' ho36 (Kd.R_lt (zW HO_158002.out BK159.out))) (below_size (zG2 GE157.out GE159.out))); replace HO_158002 := Aside0.mk (Kd.R_elder' (zW HO_158002.out BK159.out) (Kd.R_base ho36) hb); replace BK157 := Aside0.mk (blk_below (g := gb157) (o := .cells #[.int .i64 t141, .slice Ao15 t142.length co15, .slice Ao16 t145.length co16, .slice Ao17 t148.length co17, .slice Ao18 t151.length co18, .slice Ao19 t154.length co19] 31 (0, 0)) (zF NB157_159.out BK157.out) hb); replace BK159 := Aside0.mk (blk_below (g := gb159) (o := .cells #[.int .i64 t141, .slice Ao15 t142.length co15, .slice Ao16 t145.length co16, .slice Ao17 t148.length co17, .slice Ao18 t151.length co18, .slice Ao19 t154.length co19] 31 (0, 0)) (zP BK159.out) hb); replace HB := Aside0.mk (below_step (zG2 GE157.out GE159.out) hb); clear hb ho36; obtain ⟨hcz37_0, hcz37_1, hcz37_2, hcz37_3, hcz37_4, hcz37_5, hfz37_0, hfz37_1, hfz37_2, hfz37_3, hfz37_4, hfz37_5⟩ := zb6 BK157.out) | ((with_reducible refine gate_builtin (b := .append) (xs := #[.tmp 31, .tmp 33]) rfl ?_); at_builtin; refine Kd.R_append_rows (Kd.int .i64) (w0 := w) w.heap.size rfl (.tmp 31) (.tmp 33) 27 2 (.int .i64 0) 8 rfl Tryz.underlying27 info2 rfl (by decide) (by omega) v161 y160 t145 _ _ _ (fun k_ => some k_ ≠ (.slice Ao16 t145.length co16 : Value).ownBlock) (fun _ => False) rfl rfl ?aO ?aR (fun _ _ h => h) (fun _ h => h.elim) ?aF ?aB ?aS ?aL ?_; (case aR => exact zC ((Kd.R_reads' HO_158002.out).2.2)); (case aB => exact (zG2 GE157.out GE159.out)); (case aF => exact (fun k_ hk => Kd.fresh' (Kd.R_lt (zR HO_158002.out)) k_ hk)); (case aO => exact (zRm HO162.out (fun _ hk => hk.2))); (case aS => exact (below_size (zG2 GE157.out GE159.out))); (case aL => have := LMc27.out; omega); intro v164 w38 ho hb hg hat; rw [← Ny163.out] at ho; replace HO_158001 := Aside0.mk (Kd.R_over' (zR HO_158001.out) (Kd.R_typed (zR HO162.out)) (by decide) hg); replace HO_158002 := Aside0.mk (Kd.R_after (ok := (fun _ => True)) (zR HO_158002.out) hg hat); replace HO_158003 := Aside0.mk (Kd.R_over' (zR HO_158003.out) (Kd.R_typed (zR HO162.out)) (by decide) hg); replace HO_158004 := Aside0.mk (Kd.V_afterv (ok := (fun k_ => some k_ ≠ (.slice Ao15 t142.length co15 : Value).ownBlock ∧ some k_ ≠ (.slice Ao16 t145.length co16 : Value).ownBlock ∧ some k_ ≠ (.slice Ao17 t148.length co17 : Value).ownBlock ∧ some k_ ≠ (.slice Ao19 t154.length co19 : Value).ownBlock ∧ k_ ≠ gb157 ∧ k_ ≠ gb159)) (by (with_reducible repeat (first | apply Kd.V_alloc | apply Kd.V_drewN | apply Kd.V_drew)); exact Kd.V_mono HO_158004.out (fun _ hk => ⟨⟨hk.1.1.1, ⟨hk.1.1.2.1, ⟨hk.1.1.2.2.1, ⟨hk.1.1.2.2.2.1, ⟨hk.1.1.2.2.2.2, hk.1.2⟩⟩⟩⟩⟩, hk.2⟩)) hg hat); replace HO_158005 := Aside0.mk (Kd.R_over' (zR HO_158005.out) (Kd.R_typed (zR HO162.out)) (by decide) hg); replace BK157 := Aside0.mk (blk_grown (g := gb157) (o := .cells #[.int .i64 t141, .slice Ao15 t142.length co15, .slice Ao16 t145.length co16, .slice Ao17 t148.length co17, .slice Ao18 t151.length co18, .slice Ao19 t154.length co19] 31 (0, 0)) (zK BK157.out) hg (Kd.R_ne HO162.out BK157.out (by decide))); replace BK159 := Aside0.mk (blk_grown (g := gb159) (o := .cells #[.int .i64 t141, .slice Ao15 t142.length co15, .slice Ao16 t145.length co16, .slice Ao17 t148.length co17, .slice Ao18 t151.length co18, .slice Ao19 t154.length co19] 31 (0, 0)) (zK BK159.out) hg (Kd.R_ne HO162.out BK159.out (by decide))); replace HB := Aside0.mk (hb); have HO165 := Aside0.mk (ho); clear HO162; clear ho hb hg hat; obtain ⟨Ao39, co39, eo39⟩ := Kd.R_slice HO165.out; subst eo39; obtain ⟨hcz40_0, hcz40_1, hcz40_2, hcz40_3, hcz40_4, hcz40_5, hfz40_0, hfz40_1, hfz40_2, hfz40_3, hfz40_4, hfz40_5⟩ := zb6 BK159.out))
     (try simp only [Act.put, List.setIfInBounds_toArray, List.set_cons_zero, List.set_cons_succ])
     go_cut [] (fun wc => ∃ (kq : Nat) (x158002_27 : List Int) (x158004_27 : List Int) (x160002_27 : List Int) (x160004_27 : List Int) (u158002 : Value) (u158004 : Value) (u160002 : Value) (u160004 : Value), Aside0 (merkhetlaw20_VerdictRight.j1 kq a2 t141 t142 x158002_27 t148 x158004_27 t154 t141 t142 x160002_27 t148 x160004_27 t154 = some true) ∧ Aside0 (kq ≤ kj9) ∧ Aside0 (Kd.R k36 36 wc w.heap.size (fun _ => True) (.slice Ao15 t142.length co15) t142) ∧ Aside0 (Kd.R (Kd.int .i64) 2 wc w.heap.size (fun k_ => some k_ ≠ (u160002 : Value).ownBlock) u158002 x158002_27) ∧ Aside0 (Kd.R Kd.string 9 wc w.heap.size (fun _ => True) (.slice Ao17 t148.length co17) t148) ∧ Aside0 (Kd.V (Kd.int .i64) 2 wc w.heap.size (fun k_ => some k_ ≠ ((.slice Ao15 t142.length co15) : Value).ownBlock ∧ some k_ ≠ (u158002 : Value).ownBlock ∧ some k_ ≠ ((.slice Ao17 t148.length co17) : Value).ownBlock ∧ some k_ ≠ ((.slice Ao19 t154.length co19) : Value).ownBlock ∧ some k_ ≠ ((.slice Ao15 t142.length co15) : Value).ownBlock ∧ some k_ ≠ (u160002 : Value).ownBlock ∧ some k_ ≠ ((.slice Ao17 t148.length co17) : Value).ownBlock ∧ some k_ ≠ ((.slice Ao19 t154.length co19) : Value).ownBlock ∧ k_ ≠ gb157 ∧ k_ ≠ gb159) u158004 x158004_27) ∧ Aside0 (Kd.R k72 72 wc w.heap.size (fun _ => True) (.slice Ao19 t154.length co19) t154) ∧ Aside0 (Kd.R k36 36 wc w.heap.size (fun _ => True) (.slice Ao15 t142.length co15) t142) ∧ Aside0 (Kd.R (Kd.int .i64) 2 wc w.heap.size (fun k_ => some k_ ≠ (u158002 : Value).ownBlock) u160002 x160002_27) ∧ Aside0 (Kd.R Kd.string 9 wc w.heap.size (fun _ => True) (.slice Ao17 t148.length co17) t148) ∧ Aside0 (Kd.V (Kd.int .i64) 2 wc w.heap.size (fun k_ => some k_ ≠ ((.slice Ao15 t142.length co15) : Value).ownBlock ∧ some k_ ≠ (u158002 : Value).ownBlock ∧ some k_ ≠ ((.slice Ao17 t148.length co17) : Value).ownBlock ∧ some k_ ≠ ((.slice Ao19 t154.length co19) : Value).ownBlock ∧ some k_ ≠ ((.slice Ao15 t142.length co15) : Value).ownBlock ∧ some k_ ≠ (u160002 : Value).ownBlock ∧ some k_ ≠ ((.slice Ao17 t148.length co17) : Value).ownBlock ∧ some k_ ≠ ((.slice Ao19 t154.length co19) : Value).ownBlock ∧ k_ ≠ gb157 ∧ k_ ≠ gb159) u160004 x160004_27) ∧ Aside0 (Kd.R k72 72 wc w.heap.size (fun _ => True) (.slice Ao19 t154.length co19) t154) ∧ Aside0 (wc.heap[gb157]? = some (.cells #[.int .i64 t141, (.slice Ao15 t142.length co15), u158002, (.slice Ao17 t148.length co17), u158004, (.slice Ao19 t154.length co19)] 31 (0, 0))) ∧ Aside0 (wc.heap[gb159]? = some (.cells #[.int .i64 t141, (.slice Ao15 t142.length co15), u160002, (.slice Ao17 t148.length co17), u160004, (.slice Ao19 t154.length co19)] 31 (0, 0))) ∧ Aside0 (Below w.heap.size w wc))
     case first =>
      have H := HC28.out
      clear HC28
      by_cases c41 : (y163.length : Int) > 0
      ·rw [if_pos c41] at H
       have c41b0 : decide (0 < (y163.length : Int)) = true := decide_eq_true c41
       have c41b1 : decide (0 < y163.length) = true := decide_eq_true (by omega)
       clear c41
       (first | rw [c41b0] | (simp only [i64_w, i32_w]; rw [c41b0]) | rw [c41b1] | skip)
       obtain ⟨c42, H⟩ := zn H
       have c42b0 : ((y163.length : Int) == 0) = false := beq_eq_false_iff_ne.mpr c42
       have c42b1 : ((y163.length : Int) != 0) = true := bne_iff_ne.mpr c42
       have c42b2 : ¬ (y163 = []) := fun h_ => c42 (by rw [h_]; rfl)
       obtain ⟨ji43, hji43⟩ : ∃ j_ : Int, (Int.tmod (wrap64 (a2)) (y163.length : Int)) = j_ := ⟨_, rfl⟩
       replace H : (if 0 ≤ (ji43) then (if (ji43) < (y163.length : Int) then (merkhetlaw20_VerdictRight.j1 kj9 a2 t141 t142 t145 t148 t151 t154 t141 t142 (y163.set ((ji43) : Int).toNat (wrap64 ((rd y163 (ji43)) + 1))) t148 t151 t154) else (none)) else (none)) = some true := by first | (rw [hji43] at H; exact H) | (simp only [hji43] at H ⊢; exact H)
       obtain ⟨c44b0, H⟩ := zt H
       obtain ⟨c45b0, H⟩ := zt H
       obtain ⟨y167, hy167⟩ : ∃ y_ : List Int, y_ = (y163.set ((ji43) : Int).toNat (wrap64 ((rd y163 (ji43)) + 1))) := ⟨_, rfl⟩
       first | (replace H := zo H hy167) | rw [← hy167] at H
       have Ny167 := Aside0.mk hy167
       clear hy167
       have H' := Aside0.mk H
       clear H
       try go_wp2
       have n0_ : Aside0 (Kd.R k36 36 (w38.setCell ⟨gb159, 2, none⟩ (.slice Ao39 y163.length co39)) w.heap.size (fun _ => True) (.slice Ao15 t142.length co15) t142) := ⟨Kd.R_mono (zW HO_158001.out BK159.out) (fun _ hk => trivial)⟩
       have n1_ : Aside0 (Kd.R (Kd.int .i64) 2 (w38.setCell ⟨gb159, 2, none⟩ (.slice Ao39 y163.length co39)) w.heap.size (fun k_ => some k_ ≠ (.slice Ao39 y163.length co39 : Value).ownBlock) (.slice Ao16 t145.length co16) t145) := ⟨Kd.R_mono (zW HO_158002.out BK159.out) (fun _ hk => hk.2)⟩
       have n2_ : Aside0 (Kd.R Kd.string 9 (w38.setCell ⟨gb159, 2, none⟩ (.slice Ao39 y163.length co39)) w.heap.size (fun _ => True) (.slice Ao17 t148.length co17) t148) := ⟨Kd.R_mono (zW HO_158003.out BK159.out) (fun _ hk => trivial)⟩
       have n3_ : Aside0 (Kd.V (Kd.int .i64) 2 (w38.setCell ⟨gb159, 2, none⟩ (.slice Ao39 y163.length co39)) w.heap.size (fun k_ => some k_ ≠ (.slice Ao15 t142.length co15 : Value).ownBlock ∧ some k_ ≠ (.slice Ao16 t145.length co16 : Value).ownBlock ∧ some k_ ≠ (.slice Ao17 t148.length co17 : Value).ownBlock ∧ some k_ ≠ (.slice Ao19 t154.length co19 : Value).ownBlock ∧ some k_ ≠ (.slice Ao39 y163.length co39 : Value).ownBlock ∧ k_ ≠ gb157 ∧ k_ ≠ gb159) (.slice Ao18 t151.length co18) t151) := ⟨by (with_reducible repeat (first | apply Kd.V_alloc | apply Kd.V_drewN | apply Kd.V_drew)); exact Kd.V_mono (Kd.V_far (p := ⟨gb159, 2, none⟩) (Kd.V_mono HO_158004.out (fun k_ hk => (⟨hk, hk.1.2.2.2.2.2⟩ : _ ∧ k_ ≠ gb159))) (fun _ hk => hk.2) (.slice Ao39 y163.length co39)) (fun _ hk => ⟨hk.1.1.1, ⟨hk.1.1.2.1, ⟨hk.1.1.2.2.1, ⟨hk.1.1.2.2.2.1, ⟨hk.1.2, ⟨hk.1.1.2.2.2.2.1, hk.1.1.2.2.2.2.2⟩⟩⟩⟩⟩⟩)⟩
       have n4_ : Aside0 (Kd.R k72 72 (w38.setCell ⟨gb159, 2, none⟩ (.slice Ao39 y163.length co39)) w.heap.size (fun _ => True) (.slice Ao19 t154.length co19) t154) := ⟨Kd.R_mono (zW HO_158005.out BK159.out) (fun _ hk => trivial)⟩
       have n5_ : Aside0 (Kd.R (Kd.int .i64) 2 (w38.setCell ⟨gb159, 2, none⟩ (.slice Ao39 y163.length co39)) w.heap.size (fun k_ => some k_ ≠ (.slice Ao16 t145.length co16 : Value).ownBlock) (.slice Ao39 y163.length co39) y163) := ⟨Kd.R_mono (zW HO165.out BK159.out) (fun _ hk => hk)⟩
       have n6_ : Aside0 ((w38.setCell ⟨gb159, 2, none⟩ (.slice Ao39 y163.length co39)).heap[gb157]? = some (.cells #[.int .i64 t141, .slice Ao15 t142.length co15, .slice Ao16 t145.length co16, .slice Ao17 t148.length co17, .slice Ao18 t151.length co18, .slice Ao19 t154.length co19] 31 (0, 0))) := ⟨zF NB157_159.out BK157.out⟩
       have n7_ : Aside0 ((w38.setCell ⟨gb159, 2, none⟩ (.slice Ao39 y163.length co39)).heap[gb159]? = some (.cells #[.int .i64 t141, .slice Ao15 t142.length co15, .slice Ao39 y163.length co39, .slice Ao17 t148.length co17, .slice Ao18 t151.length co18, .slice Ao19 t154.length co19] 31 (0, 0))) := ⟨zP BK159.out⟩
       have n8_ : Aside0 (Below w.heap.size w (w38.setCell ⟨gb159, 2, none⟩ (.slice Ao39 y163.length co39))) := ⟨zG2 GE157.out GE159.out⟩
       (try clear HO_158001); (try clear HO_158002); (try clear HO_158003); (try clear HO_158004); (try clear HO_158005); (try clear HO165); (try clear BK157); (try clear BK159); (try clear HB)
       generalize (w38.setCell ⟨gb159, 2, none⟩ (.slice Ao39 y163.length co39)) = w47 at n0_ n1_ n2_ n3_ n4_ n5_ n6_ n7_ n8_ ⊢
       have HO_158001 := n0_
       have HO_158002 := n1_
       have HO_158003 := n2_
       have HO_158004 := n3_
       have HO_158005 := n4_
       have HO165 := n5_
       have BK157 := n6_
       have BK159 := n7_
       have HB := n8_
       clear n0_ n1_ n2_ n3_ n4_ n5_ n6_ n7_ n8_
       replace HO_158001 := Aside0.mk (Kd.R_drew HO_158001.out)
       replace HO_158002 := Aside0.mk (Kd.R_drew HO_158002.out)
       replace HO_158003 := Aside0.mk (Kd.R_drew HO_158003.out)
       replace HO_158004 := Aside0.mk (Kd.V_drew HO_158004.out)
       replace HO_158005 := Aside0.mk (Kd.R_drew HO_158005.out)
       replace HO165 := Aside0.mk (Kd.R_drew HO165.out)
       replace BK157 := Aside0.mk (blk_drew BK157.out)
       replace BK159 := Aside0.mk (blk_drew BK159.out)
       replace HB := Aside0.mk (below_drew1 HB.out)
       have p166 : 0 ≤ ((ji43) : Int) := of_decide_eq_true zA
       have q166 : (ji43) < (y163.length : Int) := of_decide_eq_true zA
       obtain ⟨ad166, e166, hx166_0⟩ := Kd.at_int (Kd.R_reads' HO165.out).2.2 (ji43) p166 q166
       cases e166
       replace p166 := eq_true p166
       replace q166 := eq_true q166
       have p46 : 0 ≤ ((ji43) : Int) := of_decide_eq_true zA
       have q46 : ((ji43) : Int) < ((y163.length : Int) : Int) := of_decide_eq_true zA
       obtain ⟨go46, co46, eo46, gb46, gl46, cl46, HG46⟩ := Kd.R_form HO165.out (by omega)
       (first | cases eo46 | (injection eo46 with ea_ en_ ec_; (first | subst ea_ | (injection ea_ with ea_; subst ea_)); subst ec_; clear en_))
       have GB46 := Aside0.mk gb46
       have GG46 := Aside0.mk HG46
       clear gb46 gl46 HG46
       (first | simp only [add_plain] at hx166_0 | skip)
       obtain ⟨hx46_0, hf46_0⟩ := Kd.R_celln 0 HO165.out ((ji43) : Int) p46 q46
       replace p46 := eq_true p46
       replace q46 := eq_true q46
       have HP49 := Kd.R_putn HO165.out ((ji43) : Int) (wrap64 ((rd y163 (ji43)) + 1))
       rw [← Ny167.out] at HP49
       have HQ49 := Aside0.mk HP49
       clear HP49
       refine start_ (n := 13) (S := fun w' => w'.cell? ⟨gb159, 0, none⟩ = some (.int .i64 t141) ∧ w'.cell? ⟨gb159, 1, none⟩ = some (.slice Ao15 t142.length co15) ∧ w'.cell? ⟨gb159, 2, none⟩ = some (.slice (some ⟨go46, 0, none⟩) y163.length co39) ∧ w'.cell? ⟨gb159, 3, none⟩ = some (.slice Ao17 t148.length co17) ∧ w'.cell? ⟨gb159, 4, none⟩ = some (.slice Ao18 t151.length co18) ∧ w'.cell? ⟨gb159, 5, none⟩ = some (.slice Ao19 t154.length co19) ∧ w'.cell? ⟨go46, ((ji43)).toNat, none⟩ = some (.int .i64 (rd y163 (ji43)))) (ds := [12]) #[false, false, false, false, false, false, false, false, false, false, false, false, false] (by kernel_rfl) rfl rfl ⟨(blk_cell BK159.out 0).trans rfl, (blk_cell BK159.out 1).trans rfl, (blk_cell BK159.out 2).trans rfl, (blk_cell BK159.out 3).trans rfl, (blk_cell BK159.out 4).trans rfl, (blk_cell BK159.out 5).trans rfl, hx166_0⟩ (fun hHeld => ?_); refine with_tabW merkhetlaw20_VerdictRight.tab10 merkhetlaw20_VerdictRight.bits10 (fun HT_ HW_ => ?_)
       generalize w47.drew = w48 at HO_158001 HO_158002 HO_158003 HO_158004 HO_158005 HO165 BK157 BK159 HB GG46 HQ49 hf46_0 hx166_0 hx46_0 hHeld ⊢
       refine zp 0 (some 40) ?_
       refine zp 2 (some 42) ?_
       refine zp 3 (some 43) ?_
       refine zp 4 (some 44) ?_
       refine zt7 1 (some 41) ?_
       refine zt7 5 (some 45) ?_
       refine zp 6 (some 46) ?_
       refine zp 7 (some 47) ?_
       refine zp 8 (some 48) ?_
       refine zt7 9 (some 49) ?_
       refine zp 10 (some 50) ?_
       refine zp 11 (some 51) ?_
       refine z9 12 none (fun K hK => ?_)
       refine skip_ (w1 := ?_) (by rfl) rfl ?_ ?_
       rotate_left
       ·go_simp
        rfl
       refine hK.out _ _ ?_
       clear hK K
       refine done_ (done_of HT_.out (by kernel_rfl)) ?_
       try go_wp2
       go_meet
       case rel => exact ⟨_, (t145), (t151), (y167), (t151), (.slice Ao16 t145.length co16), (.slice Ao18 t151.length co18), (.slice (some ⟨go46, 0, none⟩) y163.length co39), (.slice Ao18 t151.length co18), H', ⟨by have := HJ9.out; first | omega | exact Nat.le_refl _⟩, ⟨by (with_reducible repeat (first | apply Kd.R_alloc | apply Kd.R_drewN | apply Kd.R_drew)); exact Kd.R_mono (Kd.R_far (p := ⟨go46, ((ji43) : Int).toNat, none⟩) (Kd.R_types HO_158001.out GG46.out (by decide)) (fun _ hk => hk.2) (.int .i64 (wrap64 ((rd y163 (ji43)) + 1)))) (fun _ hk => trivial)⟩, ⟨by (with_reducible repeat (first | apply Kd.R_alloc | apply Kd.R_drewN | apply Kd.R_drew)); exact Kd.R_mono (Kd.R_far (p := ⟨go46, ((ji43) : Int).toNat, none⟩) (Kd.R_mono HO_158002.out (fun k_ hk => (⟨hk, fun e_ => hk (by rw [e_]; rfl)⟩ : _ ∧ k_ ≠ go46))) (fun _ hk => hk.2) (.int .i64 (wrap64 ((rd y163 (ji43)) + 1)))) (fun _ hk => hk.1)⟩, ⟨by (with_reducible repeat (first | apply Kd.R_alloc | apply Kd.R_drewN | apply Kd.R_drew)); exact Kd.R_mono (Kd.R_far (p := ⟨go46, ((ji43) : Int).toNat, none⟩) (Kd.R_types HO_158003.out GG46.out (by decide)) (fun _ hk => hk.2) (.int .i64 (wrap64 ((rd y163 (ji43)) + 1)))) (fun _ hk => trivial)⟩, ⟨by (with_reducible repeat (first | apply Kd.V_alloc | apply Kd.V_drewN | apply Kd.V_drew)); exact Kd.V_mono (Kd.V_far (p := ⟨go46, ((ji43) : Int).toNat, none⟩) (Kd.V_mono HO_158004.out (fun k_ hk => (⟨hk, fun e_ => hk.2.2.2.2.1 (by rw [e_]; rfl)⟩ : _ ∧ k_ ≠ go46))) (fun _ hk => hk.2) (.int .i64 (wrap64 ((rd y163 (ji43)) + 1)))) (fun _ hk => ⟨hk.1.1, ⟨hk.1.2.1, ⟨hk.1.2.2.1, ⟨hk.1.2.2.2.1, ⟨hk.1.1, ⟨hk.1.2.2.2.2.1, ⟨hk.1.2.2.1, ⟨hk.1.2.2.2.1, ⟨hk.1.2.2.2.2.2.1, hk.1.2.2.2.2.2.2⟩⟩⟩⟩⟩⟩⟩⟩⟩)⟩, ⟨by (with_reducible repeat (first | apply Kd.R_alloc | apply Kd.R_drewN | apply Kd.R_drew)); exact Kd.R_mono (Kd.R_far (p := ⟨go46, ((ji43) : Int).toNat, none⟩) (Kd.R_types HO_158005.out GG46.out (by decide)) (fun _ hk => hk.2) (.int .i64 (wrap64 ((rd y163 (ji43)) + 1)))) (fun _ hk => trivial)⟩, ⟨by (with_reducible repeat (first | apply Kd.R_alloc | apply Kd.R_drewN | apply Kd.R_drew)); exact Kd.R_mono (Kd.R_far (p := ⟨go46, ((ji43) : Int).toNat, none⟩) (Kd.R_types HO_158001.out GG46.out (by decide)) (fun _ hk => hk.2) (.int .i64 (wrap64 ((rd y163 (ji43)) + 1)))) (fun _ hk => trivial)⟩, ⟨zR HQ49.out⟩, ⟨by (with_reducible repeat (first | apply Kd.R_alloc | apply Kd.R_drewN | apply Kd.R_drew)); exact Kd.R_mono (Kd.R_far (p := ⟨go46, ((ji43) : Int).toNat, none⟩) (Kd.R_types HO_158003.out GG46.out (by decide)) (fun _ hk => hk.2) (.int .i64 (wrap64 ((rd y163 (ji43)) + 1)))) (fun _ hk => trivial)⟩, ⟨by (with_reducible repeat (first | apply Kd.V_alloc | apply Kd.V_drewN | apply Kd.V_drew)); exact Kd.V_mono (Kd.V_far (p := ⟨go46, ((ji43) : Int).toNat, none⟩) (Kd.V_mono HO_158004.out (fun k_ hk => (⟨hk, fun e_ => hk.2.2.2.2.1 (by rw [e_]; rfl)⟩ : _ ∧ k_ ≠ go46))) (fun _ hk => hk.2) (.int .i64 (wrap64 ((rd y163 (ji43)) + 1)))) (fun _ hk => ⟨hk.1.1, ⟨hk.1.2.1, ⟨hk.1.2.2.1, ⟨hk.1.2.2.2.1, ⟨hk.1.1, ⟨hk.1.2.2.2.2.1, ⟨hk.1.2.2.1, ⟨hk.1.2.2.2.1, ⟨hk.1.2.2.2.2.2.1, hk.1.2.2.2.2.2.2⟩⟩⟩⟩⟩⟩⟩⟩⟩)⟩, ⟨by (with_reducible repeat (first | apply Kd.R_alloc | apply Kd.R_drewN | apply Kd.R_drew)); exact Kd.R_mono (Kd.R_far (p := ⟨go46, ((ji43) : Int).toNat, none⟩) (Kd.R_types HO_158005.out GG46.out (by decide)) (fun _ hk => hk.2) (.int .i64 (wrap64 ((rd y163 (ji43)) + 1)))) (fun _ hk => trivial)⟩, ⟨by (with_reducible repeat (first | refine blk_drewN ?_ _ | refine blk_drew ?_ | refine blk_alloc ?_ _)); refine blk_far ?_ (by have h_ := Kd.R_ne HO165.out BK157.out (by decide); intro e_; exact h_ (by rw [e_]; rfl)) _; (with_reducible repeat (first | refine blk_drewN ?_ _ | refine blk_drew ?_ | refine blk_alloc ?_ _)); exact BK157.out⟩, ⟨by (with_reducible repeat (first | refine blk_drewN ?_ _ | refine blk_drew ?_ | refine blk_alloc ?_ _)); refine blk_far ?_ (by have h_ := Kd.R_ne HO165.out BK159.out (by decide); intro e_; exact h_ (by rw [e_]; rfl)) _; (with_reducible repeat (first | refine blk_drewN ?_ _ | refine blk_drew ?_ | refine blk_alloc ?_ _)); exact BK159.out⟩, ⟨by repeat (first | (with_reducible first | exact HB.out | apply below_alloc | apply pw_below_drewN | apply below_drew1 | refine below_set ?_ GB46.out | refine below_set ?_ GE157.out | refine below_set ?_ GE159.out) | exact HB.out)⟩⟩
      ·rw [if_neg c41] at H
       have c41b0 : decide (0 < (y163.length : Int)) = false := decide_eq_false c41
       have c41b1 : decide (0 < y163.length) = false := decide_eq_false (by omega)
       clear c41
       (first | rw [c41b0] | (simp only [i64_w, i32_w]; rw [c41b0]) | rw [c41b1] | skip)
       have H' := Aside0.mk H
       clear H
       go_wp2
       go_meet
       case rel => exact ⟨_, (t145), (t151), (y163), (t151), (.slice Ao16 t145.length co16), (.slice Ao18 t151.length co18), (.slice Ao39 y163.length co39), (.slice Ao18 t151.length co18), H', ⟨by have := HJ9.out; first | omega | exact Nat.le_refl _⟩, ⟨Kd.R_mono (zW HO_158001.out BK159.out) (fun _ hk => trivial)⟩, ⟨Kd.R_mono (zW HO_158002.out BK159.out) (fun _ hk => hk.2)⟩, ⟨Kd.R_mono (zW HO_158003.out BK159.out) (fun _ hk => trivial)⟩, ⟨by (with_reducible repeat (first | apply Kd.V_alloc | apply Kd.V_drewN | apply Kd.V_drew)); exact Kd.V_mono (Kd.V_far (p := ⟨gb159, 2, none⟩) (Kd.V_mono HO_158004.out (fun k_ hk => (⟨hk, hk.1.2.2.2.2.2⟩ : _ ∧ k_ ≠ gb159))) (fun _ hk => hk.2) (.slice Ao39 y163.length co39)) (fun _ hk => ⟨hk.1.1.1, ⟨hk.1.1.2.1, ⟨hk.1.1.2.2.1, ⟨hk.1.1.2.2.2.1, ⟨hk.1.1.1, ⟨hk.1.2, ⟨hk.1.1.2.2.1, ⟨hk.1.1.2.2.2.1, ⟨hk.1.1.2.2.2.2.1, hk.1.1.2.2.2.2.2⟩⟩⟩⟩⟩⟩⟩⟩⟩)⟩, ⟨Kd.R_mono (zW HO_158005.out BK159.out) (fun _ hk => trivial)⟩, ⟨Kd.R_mono (zW HO_158001.out BK159.out) (fun _ hk => trivial)⟩, ⟨Kd.R_mono (zW HO165.out BK159.out) (fun _ hk => hk)⟩, ⟨Kd.R_mono (zW HO_158003.out BK159.out) (fun _ hk => trivial)⟩, ⟨by (with_reducible repeat (first | apply Kd.V_alloc | apply Kd.V_drewN | apply Kd.V_drew)); exact Kd.V_mono (Kd.V_far (p := ⟨gb159, 2, none⟩) (Kd.V_mono HO_158004.out (fun k_ hk => (⟨hk, hk.1.2.2.2.2.2⟩ : _ ∧ k_ ≠ gb159))) (fun _ hk => hk.2) (.slice Ao39 y163.length co39)) (fun _ hk => ⟨hk.1.1.1, ⟨hk.1.1.2.1, ⟨hk.1.1.2.2.1, ⟨hk.1.1.2.2.2.1, ⟨hk.1.1.1, ⟨hk.1.2, ⟨hk.1.1.2.2.1, ⟨hk.1.1.2.2.2.1, ⟨hk.1.1.2.2.2.2.1, hk.1.1.2.2.2.2.2⟩⟩⟩⟩⟩⟩⟩⟩⟩)⟩, ⟨Kd.R_mono (zW HO_158005.out BK159.out) (fun _ hk => trivial)⟩, ⟨zF NB157_159.out BK157.out⟩, ⟨zP BK159.out⟩, ⟨zG2 GE157.out GE159.out⟩⟩
     case rest =>
      clear HC28
      (try clear c1); (try clear p1); (try clear q1); (try clear hx1); (try clear c2); (try clear p2); (try clear c3); (try clear c4); (try clear p4); (try clear q4); (try clear hx4); (try clear hf4); (try clear c5); (try clear c6); (try clear p6); (try clear c9); (try clear c10); (try clear c12); (try clear p16); (try clear q16); (try clear hx16); (try clear c18); (try clear c20); (try clear c20b0); (try clear c20b1); (try clear c24); (try clear c24b0); (try clear c24b1); (try clear c24b2); (try clear c27); (try clear c33); (try clear c41); (try clear c41b0); (try clear c41b1); (try clear c42); (try clear c42b0); (try clear c42b1); (try clear c42b2); (try clear c44); (try clear c44b0); (try clear c45); (try clear c45b0); (try clear p46); (try clear q46); (try clear hx46); (try clear hf46); (try clear hcz14_0 hcz14_1 hcz14_2 hcz14_3 hcz14_4 hcz14_5); (try clear hcz21_0 hcz21_1 hcz21_2 hcz21_3 hcz21_4 hcz21_5); (try clear hcz22_0 hcz22_1 hcz22_2 hcz22_3 hcz22_4 hcz22_5); (try clear hcz25_0 hcz25_1 hcz25_2 hcz25_3 hcz25_4 hcz25_5); (try clear hcz29_0 hcz29_1 hcz29_2 hcz29_3 hcz29_4 hcz29_5); (try clear hcz31_0 hcz31_1 hcz31_2 hcz31_3 hcz31_4 hcz31_5); (try clear hcz34_0 hcz34_1 hcz34_2 hcz34_3 hcz34_4 hcz34_5); (try clear hcz37_0 hcz37_1 hcz37_2 hcz37_3 hcz37_4 hcz37_5); (try clear hcz40_0 hcz40_1 hcz40_2 hcz40_3 hcz40_4 hcz40_5); (try clear hfz14_0 hfz14_1 hfz14_2 hfz14_3 hfz14_4 hfz14_5); (try clear hfz21_0 hfz21_1 hfz21_2 hfz21_3 hfz21_4 hfz21_5); (try clear hfz22_0 hfz22_1 hfz22_2 hfz22_3 hfz22_4 hfz22_5); (try clear hfz25_0 hfz25_1 hfz25_2 hfz25_3 hfz25_4 hfz25_5); (try clear hfz29_0 hfz29_1 hfz29_2 hfz29_3 hfz29_4 hfz29_5); (try clear hfz31_0 hfz31_1 hfz31_2 hfz31_3 hfz31_4 hfz31_5); (try clear hfz34_0 hfz34_1 hfz34_2 hfz34_3 hfz34_4 hfz34_5); (try clear hfz37_0 hfz37_1 hfz37_2 hfz37_3 hfz37_4 hfz37_5); (try clear hfz40_0 hfz40_1 hfz40_2 hfz40_3 hfz40_4 hfz40_5); (try clear hx166_0); (try clear hx46_0); (try clear p166); (try clear p2); (try clear p46); (try clear q166); (try clear q46)
      obtain ⟨kq, x158002_27, x158004_27, x160002_27, x160004_27, u158002, u158004, u160002, u160004, HA, HJ27, HO_158001, HO_158002, HO_158003, HO_158004, HO_158005, HO_160001, HO_160002, HO_160003, HO_160004, HO_160005, BK157, BK159, HB⟩ := hcut
      cases kq with
      | zero => exact absurd HA.out (by simp [merkhetlaw20_VerdictRight.j1])
      | succ kj27 =>
       have H := HA.out
       clear HA
       simp only [merkhetlaw20_VerdictRight.j1] at H
       obtain ⟨y170, hy170⟩ : ∃ y_ : List ByteArray, y_ = (([(⟨#[122, 122]⟩ : ByteArray)] : List ByteArray)) := ⟨_, rfl⟩
       first | (replace H := zo H hy170) | rw [← hy170] at H
       have Ny170 := Aside0.mk hy170
       clear hy170
       obtain ⟨c50, H⟩ := zj H
       have LMc50 := Aside0.mk c50
       clear c50
       obtain ⟨y173, hy173⟩ : ∃ y_ : List ByteArray, y_ = (y170 ++ t148) := ⟨_, rfl⟩
       first | (replace H := zo H hy173) | rw [← hy173] at H
       have Ny173 := Aside0.mk hy173
       clear hy173
       replace H := Option.bind_eq_some_iff.mp H
       obtain ⟨t176, A510, H⟩ := H
       have A51 := Aside0.mk A510
       clear A510
       by_cases c52 : t176 = true
       ·subst c52
        rw [if_pos rfl] at H
        replace H := Option.bind_eq_some_iff.mp H
        obtain ⟨t177, A530, H⟩ := H
        have A53 := Aside0.mk A530
        clear A530
        by_cases c54 : t177 = true
        ·subst c54
         rw [if_pos rfl] at H
         exact absurd H (by simp)
        ·replace c54 := Bool.eq_false_iff.mpr c54
         subst c54
         rw [if_neg (show ¬ (false = true) by decide)] at H
         replace H := Option.bind_eq_some_iff.mp H
         obtain ⟨t178, A800, H⟩ := H
         have A80 := Aside0.mk A800
         clear A800
         by_cases c81 : t178 = true
         ·subst c81
          rw [if_pos rfl] at H
          exact absurd H (by simp)
         ·replace c81 := Bool.eq_false_iff.mpr c81
          subst c81
          rw [if_neg (show ¬ (false = true) by decide)] at H
          replace H := Option.bind_eq_some_iff.mp H
          obtain ⟨t179, A1090, H⟩ := H
          have A109 := Aside0.mk A1090
          clear A1090
          first | (obtain rfl := Option.some.inj H) | (have hr_ := Option.some.inj H; clear H)
          have hnb110 := NB157_159.out
          have hnc110 := NB159_157.out
          obtain ⟨hcz111_0, hcz111_1, hcz111_2, hcz111_3, hcz111_4, hcz111_5, hfz111_0, hfz111_1, hfz111_2, hfz111_3, hfz111_4, hfz111_5⟩ := zb6 BK157.out
          go_wp2_with (first | ((with_reducible refine gate_dst (N := 10) rfl ?_); refine zbox (N := 10) (cs := #[.int .i64 0, .slice none 0 0, .slice none 0 0, .slice none 0 0, .slice none 0 0, .slice none 0 0]) (t := 31) ?_; intro gb168 hg w112 hbox hb; replace HO_158001 := Aside0.mk (Kd.R_below (zR HO_158001.out) hb); replace HO_158002 := Aside0.mk (Kd.R_below (zR HO_158002.out) hb); replace HO_158003 := Aside0.mk (Kd.R_below (zR HO_158003.out) hb); replace HO_158004 := Aside0.mk (Kd.V_below (Kd.V_elderB (zRV HO_158004.out) gb168 (Nat.le_of_eq hg.symm)) hb); replace HO_158005 := Aside0.mk (Kd.R_below (zR HO_158005.out) hb); replace HO_160001 := Aside0.mk (Kd.R_below (zR HO_160001.out) hb); replace HO_160002 := Aside0.mk (Kd.R_below (zR HO_160002.out) hb); replace HO_160003 := Aside0.mk (Kd.R_below (zR HO_160003.out) hb); replace HO_160004 := Aside0.mk (Kd.V_below (Kd.V_elderB (zRV HO_160004.out) gb168 (Nat.le_of_eq hg.symm)) hb); replace HO_160005 := Aside0.mk (Kd.R_below (zR HO_160005.out) hb); have BK168 := Aside0.mk (hbox); have GW168 := Aside0.mk ((by rw [hg]; exact (below_size (zG2 GE157.out GE159.out)) : w.heap.size ≤ gb168)); have GE168 := Aside0.mk ((by rw [hg]; exact (below_size (zG2 GE157.out GE159.out)) : w.heap.size ≤ gb168)); replace HB := Aside0.mk (below_step (zG2 GE157.out GE159.out) hb); have NB157_168 := Aside0.mk ((by rw [hg]; exact Nat.ne_of_lt (zKl BK157.out) : gb157 ≠ gb168)); have NB168_157 := Aside0.mk ((by rw [hg]; exact Nat.ne_of_gt (zKl BK157.out) : gb168 ≠ gb157)); replace BK157 := Aside0.mk (zKb BK157.out hb); have NB159_168 := Aside0.mk ((by rw [hg]; exact Nat.ne_of_lt (zKl BK159.out) : gb159 ≠ gb168)); have NB168_159 := Aside0.mk ((by rw [hg]; exact Nat.ne_of_gt (zKl BK159.out) : gb168 ≠ gb159)); replace BK159 := Aside0.mk (zKb BK159.out hb); clear hb hbox hg; have hnb113 := NB168_157.out; have hnc113 := NB157_168.out; have hnb114 := NB168_159.out; have hnc114 := NB159_168.out; obtain ⟨hcz115_0, hcz115_1, hcz115_2, hcz115_3, hcz115_4, hcz115_5, hfz115_0, hfz115_1, hfz115_2, hfz115_3, hfz115_4, hfz115_5⟩ := zb6 BK168.out; obtain ⟨Ao116, co116, eo116⟩ := Kd.R_slice HO_158002.out; subst eo116; obtain ⟨Ao117, co117, eo117⟩ := Kd.V_slice HO_158004.out; subst eo117; obtain ⟨hcz118_0, hcz118_1, hcz118_2, hcz118_3, hcz118_4, hcz118_5, hfz118_0, hfz118_1, hfz118_2, hfz118_3, hfz118_4, hfz118_5⟩ := zb6 BK157.out) | ((with_reducible refine gate_dst (N := 11) rfl ?_); refine zbox (N := 11) (cs := #[.int .i64 0, .slice none 0 0, .slice none 0 0, .slice none 0 0, .slice none 0 0, .slice none 0 0]) (t := 31) ?_; intro gb169 hg w119 hbox hb; replace HO_158001 := Aside0.mk (Kd.R_below (zW HO_158001.out BK168.out) hb); replace HO_158002 := Aside0.mk (Kd.R_below (zW HO_158002.out BK168.out) hb); replace HO_158003 := Aside0.mk (Kd.R_below (zW HO_158003.out BK168.out) hb); replace HO_158004 := Aside0.mk (Kd.V_below (Kd.V_elderB (by (with_reducible repeat (first | apply Kd.V_alloc | apply Kd.V_drewN | apply Kd.V_drew)); exact (Kd.V_mono (Kd.V_far (p := ⟨gb168, 0, none⟩) (Kd.V_far (p := ⟨gb168, 5, none⟩) (Kd.V_far (p := ⟨gb168, 4, none⟩) (Kd.V_far (p := ⟨gb168, 3, none⟩) (Kd.V_far (p := ⟨gb168, 2, none⟩) (Kd.V_far (p := ⟨gb168, 1, none⟩) (Kd.V_far (p := ⟨gb168, 0, none⟩) (Kd.V_mono HO_158004.out (fun k_ hk => (⟨hk, hk.2⟩ : _ ∧ k_ ≠ gb168))) (fun _ hk => hk.2) (.int .i64 t141)) (fun _ hk => hk.2) (.slice Ao15 t142.length co15)) (fun _ hk => hk.2) (.slice Ao116 x158002_27.length co116)) (fun _ hk => hk.2) (.slice Ao17 t148.length co17)) (fun _ hk => hk.2) (.slice Ao117 x158004_27.length co117)) (fun _ hk => hk.2) (.slice Ao19 t154.length co19)) (fun _ hk => hk.2) (.int .i64 (wrap64 (t141 + (wrap64 (1 + (wrap64 (Int.tmod a2 3)))))))) (fun _ h_ => h_.1))) gb169 (Nat.le_of_eq hg.symm)) hb); replace HO_158005 := Aside0.mk (Kd.R_below (zW HO_158005.out BK168.out) hb); replace HO_160001 := Aside0.mk (Kd.R_below (zW HO_160001.out BK168.out) hb); replace HO_160002 := Aside0.mk (Kd.R_below (zW HO_160002.out BK168.out) hb); replace HO_160003 := Aside0.mk (Kd.R_below (zW HO_160003.out BK168.out) hb); replace HO_160004 := Aside0.mk (Kd.V_below (Kd.V_elderB (by (with_reducible repeat (first | apply Kd.V_alloc | apply Kd.V_drewN | apply Kd.V_drew)); exact (Kd.V_mono (Kd.V_far (p := ⟨gb168, 0, none⟩) (Kd.V_far (p := ⟨gb168, 5, none⟩) (Kd.V_far (p := ⟨gb168, 4, none⟩) (Kd.V_far (p := ⟨gb168, 3, none⟩) (Kd.V_far (p := ⟨gb168, 2, none⟩) (Kd.V_far (p := ⟨gb168, 1, none⟩) (Kd.V_far (p := ⟨gb168, 0, none⟩) (Kd.V_mono HO_160004.out (fun k_ hk => (⟨hk, hk.2⟩ : _ ∧ k_ ≠ gb168))) (fun _ hk => hk.2) (.int .i64 t141)) (fun _ hk => hk.2) (.slice Ao15 t142.length co15)) (fun _ hk => hk.2) (.slice Ao116 x158002_27.length co116)) (fun _ hk => hk.2) (.slice Ao17 t148.length co17)) (fun _ hk => hk.2) (.slice Ao117 x158004_27.length co117)) (fun _ hk => hk.2) (.slice Ao19 t154.length co19)) (fun _ hk => hk.2) (.int .i64 (wrap64 (t141 + (wrap64 (1 + (wrap64 (Int.tmod a2 3)))))))) (fun _ h_ => h_.1))) gb169 (Nat.le_of_eq hg.symm)) hb); replace HO_160005 := Aside0.mk (Kd.R_below (zW HO_160005.out BK168.out) hb); have BK169 := Aside0.mk (hbox); have GW169 := Aside0.mk ((by rw [hg]; exact (below_size (zG3 GE157.out GE159.out GE168.out)) : w.heap.size ≤ gb169)); have GE169 := Aside0.mk ((by rw [hg]; exact (below_size (zG3 GE157.out GE159.out GE168.out)) : w.heap.size ≤ gb169)); replace HB := Aside0.mk (below_step (zG3 GE157.out GE159.out GE168.out) hb); have NB157_169 := Aside0.mk ((by rw [hg]; exact Nat.ne_of_lt (blk_lt (g := gb157) (o := .cells #[.int .i64 t141, .slice Ao15 t142.length co15, .slice Ao116 x158002_27.length co116, .slice Ao17 t148.length co17, .slice Ao117 x158004_27.length co117, .slice Ao19 t154.length co19] 31 (0, 0)) (zF NB157_168.out BK157.out)) : gb157 ≠ gb169)); have NB169_157 := Aside0.mk ((by rw [hg]; exact Nat.ne_of_gt (blk_lt (g := gb157) (o := .cells #[.int .i64 t141, .slice Ao15 t142.length co15, .slice Ao116 x158002_27.length co116, .slice Ao17 t148.length co17, .slice Ao117 x158004_27.length co117, .slice Ao19 t154.length co19] 31 (0, 0)) (zF NB157_168.out BK157.out)) : gb169 ≠ gb157)); replace BK157 := Aside0.mk (blk_below (g := gb157) (o := .cells #[.int .i64 t141, .slice Ao15 t142.length co15, .slice Ao116 x158002_27.length co116, .slice Ao17 t148.length co17, .slice Ao117 x158004_27.length co117, .slice Ao19 t154.length co19] 31 (0, 0)) (zF NB157_168.out BK157.out) hb); have NB159_169 := Aside0.mk ((by rw [hg]; exact Nat.ne_of_lt (blk_lt (g := gb159) (o := .cells #[.int .i64 t141, .slice Ao15 t142.length co15, u160002, .slice Ao17 t148.length co17, u160004, .slice Ao19 t154.length co19] 31 (0, 0)) (zF NB159_168.out BK159.out)) : gb159 ≠ gb169)); have NB169_159 := Aside0.mk ((by rw [hg]; exact Nat.ne_of_gt (blk_lt (g := gb159) (o := .cells #[.int .i64 t141, .slice Ao15 t142.length co15, u160002, .slice Ao17 t148.length co17, u160004, .slice Ao19 t154.length co19] 31 (0, 0)) (zF NB159_168.out BK159.out)) : gb169 ≠ gb159)); replace BK159 := Aside0.mk (blk_below (g := gb159) (o := .cells #[.int .i64 t141, .slice Ao15 t142.length co15, u160002, .slice Ao17 t148.length co17, u160004, .slice Ao19 t154.length co19] 31 (0, 0)) (zF NB159_168.out BK159.out) hb); have NB168_169 := Aside0.mk ((by rw [hg]; exact Nat.ne_of_lt (blk_lt (g := gb168) (o := .cells #[.int .i64 (wrap64 (t141 + (wrap64 (1 + (wrap64 (Int.tmod a2 3)))))), .slice Ao15 t142.length co15, .slice Ao116 x158002_27.length co116, .slice Ao17 t148.length co17, .slice Ao117 x158004_27.length co117, .slice Ao19 t154.length co19] 31 (0, 0)) (zP BK168.out)) : gb168 ≠ gb169)); have NB169_168 := Aside0.mk ((by rw [hg]; exact Nat.ne_of_gt (blk_lt (g := gb168) (o := .cells #[.int .i64 (wrap64 (t141 + (wrap64 (1 + (wrap64 (Int.tmod a2 3)))))), .slice Ao15 t142.length co15, .slice Ao116 x158002_27.length co116, .slice Ao17 t148.length co17, .slice Ao117 x158004_27.length co117, .slice Ao19 t154.length co19] 31 (0, 0)) (zP BK168.out)) : gb169 ≠ gb168)); replace BK168 := Aside0.mk (blk_below (g := gb168) (o := .cells #[.int .i64 (wrap64 (t141 + (wrap64 (1 + (wrap64 (Int.tmod a2 3)))))), .slice Ao15 t142.length co15, .slice Ao116 x158002_27.length co116, .slice Ao17 t148.length co17, .slice Ao117 x158004_27.length co117, .slice Ao19 t154.length co19] 31 (0, 0)) (zP BK168.out) hb); clear hb hbox hg; have hnb120 := NB169_157.out; have hnc120 := NB157_169.out; have hnb121 := NB169_159.out; have hnc121 := NB159_169.out; have hnb122 := NB169_168.out; have hnc122 := NB168_169.out; obtain ⟨hcz123_0, hcz123_1, hcz123_2, hcz123_3, hcz123_4, hcz123_5, hfz123_0, hfz123_1, hfz123_2, hfz123_3, hfz123_4, hfz123_5⟩ := zb6 BK169.out) | ((with_reducible refine gate_dst (N := 62) rfl ?_); refine Kd.R_lit Kd.string _ 9 ?hg (N := 62) ?hd (xs := ([(⟨#[122, 122]⟩ : ByteArray)] : List ByteArray)) (inner := [.string (⟨#[122, 122]⟩ : ByteArray)]) (ok := fun _ => True) (okp := fun _ => True) ?hr ?hp (fun _ hk => hk) trivial (Below.refl _ _) (Nat.le_refl _) (by simp) ?_; (case hd => rfl); (case hg => rfl); (case hr => first | (go_simp; done) | (go_simp; rfl)); (case hp => exact (Reps.one (show Kd.M Kd.string _ _ _ (⟨#[122, 122]⟩ : ByteArray) [.string (⟨#[122, 122]⟩ : ByteArray)] from rfl) (Reps.none _ _))); intro v171 w124 ho125 hb hg_ hnew_; clear hg_ hnew_; (first | rw [← Ny170.out] at ho125 | (simp only [Int.reduceToNat] at ho125; rw [← Ny170.out] at ho125)); replace HO_158001 := Aside0.mk (Kd.R_below (zW HO_158001.out BK169.out) hb); replace HO_158002 := Aside0.mk (Kd.R_below (zW HO_158002.out BK169.out) hb); replace HO_158004 := Aside0.mk (Kd.V_elder' (by (with_reducible repeat (first | apply Kd.V_alloc | apply Kd.V_drewN | apply Kd.V_drew)); exact (Kd.V_mono (Kd.V_far (p := ⟨gb169, 5, none⟩) (Kd.V_far (p := ⟨gb169, 4, none⟩) (Kd.V_far (p := ⟨gb169, 3, none⟩) (Kd.V_far (p := ⟨gb169, 2, none⟩) (Kd.V_far (p := ⟨gb169, 1, none⟩) (Kd.V_far (p := ⟨gb169, 0, none⟩) (Kd.V_mono HO_158004.out (fun k_ hk => (⟨hk, hk.2⟩ : _ ∧ k_ ≠ gb169))) (fun _ hk => hk.2) (.int .i64 t141)) (fun _ hk => hk.2) (.slice Ao15 t142.length co15)) (fun _ hk => hk.2) (.slice Ao116 x158002_27.length co116)) (fun _ hk => hk.2) (.slice Ao17 t148.length co17)) (fun _ hk => hk.2) (.slice Ao117 x158004_27.length co117)) (fun _ hk => hk.2) (.slice Ao19 t154.length co19)) (fun _ h_ => h_.1))) (Kd.R_base ho125) hb); replace HO_158005 := Aside0.mk (Kd.R_below (zW HO_158005.out BK169.out) hb); replace HO_160001 := Aside0.mk (Kd.R_below (zW HO_160001.out BK169.out) hb); replace HO_160002 := Aside0.mk (Kd.R_below (zW HO_160002.out BK169.out) hb); replace HO_160004 := Aside0.mk (Kd.V_elder' (by (with_reducible repeat (first | apply Kd.V_alloc | apply Kd.V_drewN | apply Kd.V_drew)); exact (Kd.V_mono (Kd.V_far (p := ⟨gb169, 5, none⟩) (Kd.V_far (p := ⟨gb169, 4, none⟩) (Kd.V_far (p := ⟨gb169, 3, none⟩) (Kd.V_far (p := ⟨gb169, 2, none⟩) (Kd.V_far (p := ⟨gb169, 1, none⟩) (Kd.V_far (p := ⟨gb169, 0, none⟩) (Kd.V_mono HO_160004.out (fun k_ hk => (⟨hk, hk.2⟩ : _ ∧ k_ ≠ gb169))) (fun _ hk => hk.2) (.int .i64 t141)) (fun _ hk => hk.2) (.slice Ao15 t142.length co15)) (fun _ hk => hk.2) (.slice Ao116 x158002_27.length co116)) (fun _ hk => hk.2) (.slice Ao17 t148.length co17)) (fun _ hk => hk.2) (.slice Ao117 x158004_27.length co117)) (fun _ hk => hk.2) (.slice Ao19 t154.length co19)) (fun _ h_ => h_.1))) (Kd.R_base ho125) hb); replace HO_160005 := Aside0.mk (Kd.R_below (zW HO_160005.out BK169.out) hb); have HO172 := Aside0.mk (Kd.R_lower (Kd.R_new' (Kd.R_new' ho125 (Kd.R_lt (zW HO_158003.out BK169.out))) (Kd.R_lt (zW HO_160003.out BK169.out))) (below_size (zG4 GE157.out GE159.out GE168.out GE169.out))); replace HO_158003 := Aside0.mk (Kd.R_elder' (zW HO_158003.out BK169.out) (Kd.R_base ho125) hb); replace HO_160003 := Aside0.mk (Kd.R_elder' (zW HO_160003.out BK169.out) (Kd.R_base ho125) hb); replace BK157 := Aside0.mk (blk_below (g := gb157) (o := .cells #[.int .i64 t141, .slice Ao15 t142.length co15, .slice Ao116 x158002_27.length co116, .slice Ao17 t148.length co17, .slice Ao117 x158004_27.length co117, .slice Ao19 t154.length co19] 31 (0, 0)) (zF NB157_169.out BK157.out) hb); replace BK159 := Aside0.mk (blk_below (g := gb159) (o := .cells #[.int .i64 t141, .slice Ao15 t142.length co15, u160002, .slice Ao17 t148.length co17, u160004, .slice Ao19 t154.length co19] 31 (0, 0)) (zF NB159_169.out BK159.out) hb); replace BK168 := Aside0.mk (blk_below (g := gb168) (o := .cells #[.int .i64 (wrap64 (t141 + (wrap64 (1 + (wrap64 (Int.tmod a2 3)))))), .slice Ao15 t142.length co15, .slice Ao116 x158002_27.length co116, .slice Ao17 t148.length co17, .slice Ao117 x158004_27.length co117, .slice Ao19 t154.length co19] 31 (0, 0)) (zF NB168_169.out BK168.out) hb); replace BK169 := Aside0.mk (blk_below (g := gb169) (o := .cells #[.int .i64 t141, .slice Ao15 t142.length co15, .slice Ao116 x158002_27.length co116, .slice Ao17 t148.length co17, .slice Ao117 x158004_27.length co117, .slice Ao19 t154.length co19] 31 (0, 0)) (zP BK169.out) hb); replace HB := Aside0.mk (below_step (zG4 GE157.out GE159.out GE168.out GE169.out) hb); clear hb ho125; obtain ⟨hcz126_0, hcz126_1, hcz126_2, hcz126_3, hcz126_4, hcz126_5, hfz126_0, hfz126_1, hfz126_2, hfz126_3, hfz126_4, hfz126_5⟩ := zb6 BK157.out) | ((with_reducible refine gate_builtin (b := .append) (xs := #[.tmp 62, .tmp 64]) rfl ?_); at_builtin; refine Kd.R_append_rows Kd.string (w0 := w) w.heap.size rfl (.tmp 62) (.tmp 64) 28 9 (.string ⟨#[]⟩) 16 rfl Tryz.underlying28 info9 rfl (by decide) (by omega) v171 y170 t148 _ _ _ (fun k_ => some k_ ≠ (.slice Ao17 t148.length co17 : Value).ownBlock ∧ some k_ ≠ (.slice Ao17 t148.length co17 : Value).ownBlock) (fun _ => False) rfl rfl ?aO ?aR (fun _ _ h => h) (fun _ h => h.elim) ?aF ?aB ?aS ?aL ?_; (case aR => exact zC ((Kd.R_reads' HO_158003.out).2.2)); (case aB => exact (zG4 GE157.out GE159.out GE168.out GE169.out)); (case aF => exact (fun k_ hk => ⟨Kd.fresh' (Kd.R_lt (zR HO_158003.out)) k_ hk, Kd.fresh' (Kd.R_lt (zR HO_160003.out)) k_ hk⟩)); (case aO => exact (zRm HO172.out (fun _ hk => ⟨hk.1.2, hk.2⟩))); (case aS => exact (below_size (zG4 GE157.out GE159.out GE168.out GE169.out))); (case aL => have := LMc50.out; omega); intro v174 w127 ho hb hg hat; rw [← Ny173.out] at ho; replace HO_158001 := Aside0.mk (Kd.R_over' (zR HO_158001.out) (Kd.R_typed (zR HO172.out)) (by decide) hg); replace HO_158002 := Aside0.mk (Kd.R_over' (zR HO_158002.out) (Kd.R_typed (zR HO172.out)) (by decide) hg); replace HO_158003 := Aside0.mk (Kd.R_after (ok := (fun _ => True)) (zR HO_158003.out) hg hat); replace HO_158004 := Aside0.mk (Kd.V_afterv (ok := (fun k_ => some k_ ≠ (.slice Ao15 t142.length co15 : Value).ownBlock ∧ some k_ ≠ (.slice Ao116 x158002_27.length co116 : Value).ownBlock ∧ some k_ ≠ (.slice Ao17 t148.length co17 : Value).ownBlock ∧ some k_ ≠ (.slice Ao19 t154.length co19 : Value).ownBlock ∧ some k_ ≠ (.slice Ao15 t142.length co15 : Value).ownBlock ∧ some k_ ≠ (u160002 : Value).ownBlock ∧ some k_ ≠ (.slice Ao17 t148.length co17 : Value).ownBlock ∧ some k_ ≠ (.slice Ao19 t154.length co19 : Value).ownBlock ∧ k_ ≠ gb157 ∧ k_ ≠ gb159 ∧ k_ ≠ gb168 ∧ k_ ≠ gb169)) (by (with_reducible repeat (first | apply Kd.V_alloc | apply Kd.V_drewN | apply Kd.V_drew)); exact Kd.V_mono HO_158004.out (fun _ hk => ⟨⟨hk.1.1.1.1, ⟨hk.1.1.1.2.1, ⟨hk.1.1.1.2.2.1, ⟨hk.1.1.1.2.2.2.1, ⟨hk.1.1.1.2.2.2.2.1, ⟨hk.1.1.1.2.2.2.2.2.1, ⟨hk.1.1.1.2.2.2.2.2.2.1, ⟨hk.1.1.1.2.2.2.2.2.2.2.1, ⟨hk.1.1.1.2.2.2.2.2.2.2.2.1, ⟨hk.1.1.1.2.2.2.2.2.2.2.2.2, ⟨hk.1.1.2, hk.1.2⟩⟩⟩⟩⟩⟩⟩⟩⟩⟩⟩, hk.2⟩)) hg hat); replace HO_158005 := Aside0.mk (Kd.R_over' (zR HO_158005.out) (Kd.R_typed (zR HO172.out)) (by decide) hg); replace HO_160001 := Aside0.mk (Kd.R_over' (zR HO_160001.out) (Kd.R_typed (zR HO172.out)) (by decide) hg); replace HO_160002 := Aside0.mk (Kd.R_over' (zR HO_160002.out) (Kd.R_typed (zR HO172.out)) (by decide) hg); replace HO_160003 := Aside0.mk (Kd.R_after (ok := (fun _ => True)) (zR HO_160003.out) hg hat); replace HO_160004 := Aside0.mk (Kd.V_afterv (ok := (fun k_ => some k_ ≠ (.slice Ao15 t142.length co15 : Value).ownBlock ∧ some k_ ≠ (.slice Ao116 x158002_27.length co116 : Value).ownBlock ∧ some k_ ≠ (.slice Ao17 t148.length co17 : Value).ownBlock ∧ some k_ ≠ (.slice Ao19 t154.length co19 : Value).ownBlock ∧ some k_ ≠ (.slice Ao15 t142.length co15 : Value).ownBlock ∧ some k_ ≠ (u160002 : Value).ownBlock ∧ some k_ ≠ (.slice Ao17 t148.length co17 : Value).ownBlock ∧ some k_ ≠ (.slice Ao19 t154.length co19 : Value).ownBlock ∧ k_ ≠ gb157 ∧ k_ ≠ gb159 ∧ k_ ≠ gb168 ∧ k_ ≠ gb169)) (by (with_reducible repeat (first | apply Kd.V_alloc | apply Kd.V_drewN | apply Kd.V_drew)); exact Kd.V_mono HO_160004.out (fun _ hk => ⟨⟨hk.1.1.1.1, ⟨hk.1.1.1.2.1, ⟨hk.1.1.1.2.2.1, ⟨hk.1.1.1.2.2.2.1, ⟨hk.1.1.1.2.2.2.2.1, ⟨hk.1.1.1.2.2.2.2.2.1, ⟨hk.1.1.1.2.2.2.2.2.2.1, ⟨hk.1.1.1.2.2.2.2.2.2.2.1, ⟨hk.1.1.1.2.2.2.2.2.2.2.2.1, ⟨hk.1.1.1.2.2.2.2.2.2.2.2.2, ⟨hk.1.1.2, hk.1.2⟩⟩⟩⟩⟩⟩⟩⟩⟩⟩⟩, hk.2⟩)) hg hat); replace HO_160005 := Aside0.mk (Kd.R_over' (zR HO_160005.out) (Kd.R_typed (zR HO172.out)) (by decide) hg); replace BK157 := Aside0.mk (blk_grown (g := gb157) (o := .cells #[.int .i64 t141, .slice Ao15 t142.length co15, .slice Ao116 x158002_27.length co116, .slice Ao17 t148.length co17, .slice Ao117 x158004_27.length co117, .slice Ao19 t154.length co19] 31 (0, 0)) (zK BK157.out) hg (Kd.R_ne HO172.out BK157.out (by decide))); replace BK159 := Aside0.mk (blk_grown (g := gb159) (o := .cells #[.int .i64 t141, .slice Ao15 t142.length co15, u160002, .slice Ao17 t148.length co17, u160004, .slice Ao19 t154.length co19] 31 (0, 0)) (zK BK159.out) hg (Kd.R_ne HO172.out BK159.out (by decide))); replace BK168 := Aside0.mk (blk_grown (g := gb168) (o := .cells #[.int .i64 (wrap64 (t141 + (wrap64 (1 + (wrap64 (Int.tmod a2 3)))))), .slice Ao15 t142.length co15, .slice Ao116 x158002_27.length co116, .slice Ao17 t148.length co17, .slice Ao117 x158004_27.length co117, .slice Ao19 t154.length co19] 31 (0, 0)) (zK BK168.out) hg (Kd.R_ne HO172.out BK168.out (by decide))); replace BK169 := Aside0.mk (blk_grown (g := gb169) (o := .cells #[.int .i64 t141, .slice Ao15 t142.length co15, .slice Ao116 x158002_27.length co116, .slice Ao17 t148.length co17, .slice Ao117 x158004_27.length co117, .slice Ao19 t154.length co19] 31 (0, 0)) (zK BK169.out) hg (Kd.R_ne HO172.out BK169.out (by decide))); replace HB := Aside0.mk (hb); have HO175 := Aside0.mk (ho); clear HO172; clear ho hb hg hat; obtain ⟨Ao128, co128, eo128⟩ := Kd.R_slice HO175.out; subst eo128; obtain ⟨hcz129_0, hcz129_1, hcz129_2, hcz129_3, hcz129_4, hcz129_5, hfz129_0, hfz129_1, hfz129_2, hfz129_3, hfz129_4, hfz129_5⟩ := zb6 BK169.out) | ((with_reducible refine gate_callee (f := 10) rfl ?_); refine goesL_ (some 67) rfl rfl Tryz.func10 (by kernel_rfl) rfl #[] rfl zL ?_; (with_reducible refine (merkhetlaw20_fixed.calls kj27  true _ A51.out).mono ?_); rintro e w130 ⟨rfl, hb⟩; refine ⟨_, rfl, ?_⟩; replace HO_158001 := Aside0.mk (Kd.R_below (zW HO_158001.out BK169.out) hb); replace HO_158002 := Aside0.mk (Kd.R_below (zW HO_158002.out BK169.out) hb); replace HO_158003 := Aside0.mk (Kd.R_below (zW HO_158003.out BK169.out) hb); replace HO_158004 := Aside0.mk (Kd.V_below (by (with_reducible repeat (first | apply Kd.V_alloc | apply Kd.V_drewN | apply Kd.V_drew)); exact (Kd.V_mono (Kd.V_far (p := ⟨gb169, 3, none⟩) (Kd.V_mono HO_158004.out (fun k_ hk => (⟨hk, hk.1.2.2.2.2.2.2.2.2.2.2.2⟩ : _ ∧ k_ ≠ gb169))) (fun _ hk => hk.2) (.slice Ao128 y173.length co128)) (fun _ h_ => h_.1))) hb); replace HO_158005 := Aside0.mk (Kd.R_below (zW HO_158005.out BK169.out) hb); replace HO_160001 := Aside0.mk (Kd.R_below (zW HO_160001.out BK169.out) hb); replace HO_160002 := Aside0.mk (Kd.R_below (zW HO_160002.out BK169.out) hb); replace HO_160003 := Aside0.mk (Kd.R_below (zW HO_160003.out BK169.out) hb); replace HO_160004 := Aside0.mk (Kd.V_below (by (with_reducible repeat (first | apply Kd.V_alloc | apply Kd.V_drewN | apply Kd.V_drew)); exact (Kd.V_mono (Kd.V_far (p := ⟨gb169, 3, none⟩) (Kd.V_mono HO_160004.out (fun k_ hk => (⟨hk, hk.1.2.2.2.2.2.2.2.2.2.2.2⟩ : _ ∧ k_ ≠ gb169))) (fun _ hk => hk.2) (.slice Ao128 y173.length co128)) (fun _ h_ => h_.1))) hb); replace HO_160005 := Aside0.mk (Kd.R_below (zW HO_160005.out BK169.out) hb); replace HO175 := Aside0.mk (Kd.R_below (zW HO175.out BK169.out) hb); replace BK157 := Aside0.mk (blk_below (g := gb157) (o := .cells #[.int .i64 t141, .slice Ao15 t142.length co15, .slice Ao116 x158002_27.length co116, .slice Ao17 t148.length co17, .slice Ao117 x158004_27.length co117, .slice Ao19 t154.length co19] 31 (0, 0)) (zF NB157_169.out BK157.out) hb); replace BK159 := Aside0.mk (blk_below (g := gb159) (o := .cells #[.int .i64 t141, .slice Ao15 t142.length co15, u160002, .slice Ao17 t148.length co17, u160004, .slice Ao19 t154.length co19] 31 (0, 0)) (zF NB159_169.out BK159.out) hb); replace BK168 := Aside0.mk (blk_below (g := gb168) (o := .cells #[.int .i64 (wrap64 (t141 + (wrap64 (1 + (wrap64 (Int.tmod a2 3)))))), .slice Ao15 t142.length co15, .slice Ao116 x158002_27.length co116, .slice Ao17 t148.length co17, .slice Ao117 x158004_27.length co117, .slice Ao19 t154.length co19] 31 (0, 0)) (zF NB168_169.out BK168.out) hb); replace BK169 := Aside0.mk (blk_below (g := gb169) (o := .cells #[.int .i64 t141, .slice Ao15 t142.length co15, .slice Ao116 x158002_27.length co116, .slice Ao128 y173.length co128, .slice Ao117 x158004_27.length co117, .slice Ao19 t154.length co19] 31 (0, 0)) (zP BK169.out) hb); replace HB := Aside0.mk (below_step (zG4 GE157.out GE159.out GE168.out GE169.out) hb); (try clear hb); (try clear hb2); (try clear hk); (try clear hi); obtain ⟨hcz131_0, hcz131_1, hcz131_2, hcz131_3, hcz131_4, hcz131_5, hfz131_0, hfz131_1, hfz131_2, hfz131_3, hfz131_4, hfz131_5⟩ := zb6 BK159.out; obtain ⟨Ao132, co132, eo132⟩ := Kd.R_slice HO_160002.out; subst eo132; obtain ⟨Ao133, co133, eo133⟩ := Kd.V_slice HO_160004.out; subst eo133) | (go_at_call 18; (with_reducible refine (verdict_Right.calls kj27 t141 _ _ t142 _ _ x160002_27 _ _ t148 _ _ x160004_27 _ _ t154 false _ ?side1 ?side2 ?side3 ?side4 ?side5 ?side6 ?side7 ?side8 ?side9 ?side10 A53.out).mono ?_); (case side1 => exact zC ((Kd.R_reads' HO_160001.out).2.2)); (case side2 => exact (Kd.R_reads' HO_160001.out).2.1); (case side3 => exact zC ((Kd.R_reads' HO_160002.out).2.2)); (case side4 => exact (Kd.R_reads' HO_160002.out).2.1); (case side5 => exact zC ((Kd.R_reads' HO_160003.out).2.2)); (case side6 => exact (Kd.R_reads' HO_160003.out).2.1); (case side7 => exact zC ((Kd.V_reads' HO_160004.out).2.2)); (case side8 => exact (Kd.V_reads' HO_160004.out).2.1); (case side9 => exact zC ((Kd.R_reads' HO_160005.out).2.2)); (case side10 => exact (Kd.R_reads' HO_160005.out).2.1); rintro e w134 ⟨rfl, hb⟩; replace HO_158001 := Aside0.mk (Kd.R_below (zR HO_158001.out) hb); replace HO_158002 := Aside0.mk (Kd.R_below (zR HO_158002.out) hb); replace HO_158003 := Aside0.mk (Kd.R_below (zR HO_158003.out) hb); replace HO_158004 := Aside0.mk (Kd.V_below (zRV HO_158004.out) hb); replace HO_158005 := Aside0.mk (Kd.R_below (zR HO_158005.out) hb); replace HO_160001 := Aside0.mk (Kd.R_below (zR HO_160001.out) hb); replace HO_160002 := Aside0.mk (Kd.R_below (zR HO_160002.out) hb); replace HO_160003 := Aside0.mk (Kd.R_below (zR HO_160003.out) hb); replace HO_160004 := Aside0.mk (Kd.V_below (zRV HO_160004.out) hb); replace HO_160005 := Aside0.mk (Kd.R_below (zR HO_160005.out) hb); replace HO175 := Aside0.mk (Kd.R_below (zR HO175.out) hb); replace BK157 := Aside0.mk (zKb BK157.out hb); replace BK159 := Aside0.mk (zKb BK159.out hb); replace BK168 := Aside0.mk (zKb BK168.out hb); replace BK169 := Aside0.mk (zKb BK169.out hb); replace HB := Aside0.mk (below_step (zG4 GE157.out GE159.out GE168.out GE169.out) hb); (try clear hb); (try clear hb2); (try clear hk); (try clear hi); obtain ⟨hcz135_0, hcz135_1, hcz135_2, hcz135_3, hcz135_4, hcz135_5, hfz135_0, hfz135_1, hfz135_2, hfz135_3, hfz135_4, hfz135_5⟩ := zb6 BK168.out) | (go_at_call 18; (with_reducible refine (verdict_Right.calls kj27 (wrap64 (t141 + (wrap64 (1 + (wrap64 (Int.tmod a2 3)))))) _ _ t142 _ _ x158002_27 _ _ t148 _ _ x158004_27 _ _ t154 false _ ?side1 ?side2 ?side3 ?side4 ?side5 ?side6 ?side7 ?side8 ?side9 ?side10 A80.out).mono ?_); (case side1 => exact zC ((Kd.R_reads' HO_158001.out).2.2)); (case side2 => exact (Kd.R_reads' HO_158001.out).2.1); (case side3 => exact zC ((Kd.R_reads' HO_158002.out).2.2)); (case side4 => exact (Kd.R_reads' HO_158002.out).2.1); (case side5 => exact zC ((Kd.R_reads' HO_158003.out).2.2)); (case side6 => exact (Kd.R_reads' HO_158003.out).2.1); (case side7 => exact zC ((Kd.V_reads' HO_158004.out).2.2)); (case side8 => exact (Kd.V_reads' HO_158004.out).2.1); (case side9 => exact zC ((Kd.R_reads' HO_158005.out).2.2)); (case side10 => exact (Kd.R_reads' HO_158005.out).2.1); rintro e w136 ⟨rfl, hb⟩; replace HO_158001 := Aside0.mk (Kd.R_below (zR HO_158001.out) hb); replace HO_158002 := Aside0.mk (Kd.R_below (zR HO_158002.out) hb); replace HO_158003 := Aside0.mk (Kd.R_below (zR HO_158003.out) hb); replace HO_158004 := Aside0.mk (Kd.V_below (zRV HO_158004.out) hb); replace HO_158005 := Aside0.mk (Kd.R_below (zR HO_158005.out) hb); replace HO_160001 := Aside0.mk (Kd.R_below (zR HO_160001.out) hb); replace HO_160002 := Aside0.mk (Kd.R_below (zR HO_160002.out) hb); replace HO_160003 := Aside0.mk (Kd.R_below (zR HO_160003.out) hb); replace HO_160004 := Aside0.mk (Kd.V_below (zRV HO_160004.out) hb); replace HO_160005 := Aside0.mk (Kd.R_below (zR HO_160005.out) hb); replace HO175 := Aside0.mk (Kd.R_below (zR HO175.out) hb); replace BK157 := Aside0.mk (zKb BK157.out hb); replace BK159 := Aside0.mk (zKb BK159.out hb); replace BK168 := Aside0.mk (zKb BK168.out hb); replace BK169 := Aside0.mk (zKb BK169.out hb); replace HB := Aside0.mk (below_step (zG4 GE157.out GE159.out GE168.out GE169.out) hb); (try clear hb); (try clear hb2); (try clear hk); (try clear hi); obtain ⟨hcz137_0, hcz137_1, hcz137_2, hcz137_3, hcz137_4, hcz137_5, hfz137_0, hfz137_1, hfz137_2, hfz137_3, hfz137_4, hfz137_5⟩ := zb6 BK169.out) | (go_at_call 18; (with_reducible refine (verdict_Right.calls kj27 t141 _ _ t142 _ _ x158002_27 _ _ y173 _ _ x158004_27 _ _ t154 t179 _ ?side1 ?side2 ?side3 ?side4 ?side5 ?side6 ?side7 ?side8 ?side9 ?side10 A109.out).mono ?_); (case side1 => exact zC ((Kd.R_reads' HO_158001.out).2.2)); (case side2 => exact (Kd.R_reads' HO_158001.out).2.1); (case side3 => exact zC ((Kd.R_reads' HO_158002.out).2.2)); (case side4 => exact (Kd.R_reads' HO_158002.out).2.1); (case side5 => exact zC ((Kd.R_reads' HO175.out).2.2)); (case side6 => exact (Kd.R_reads' HO175.out).2.1); (case side7 => exact zC ((Kd.V_reads' HO_158004.out).2.2)); (case side8 => exact (Kd.V_reads' HO_158004.out).2.1); (case side9 => exact zC ((Kd.R_reads' HO_158005.out).2.2)); (case side10 => exact (Kd.R_reads' HO_158005.out).2.1); rintro e w138 ⟨rfl, hb⟩; replace HO_158001 := Aside0.mk (Kd.R_below (zR HO_158001.out) hb); replace HO_158002 := Aside0.mk (Kd.R_below (zR HO_158002.out) hb); replace HO_158003 := Aside0.mk (Kd.R_below (zR HO_158003.out) hb); replace HO_158004 := Aside0.mk (Kd.V_below (zRV HO_158004.out) hb); replace HO_158005 := Aside0.mk (Kd.R_below (zR HO_158005.out) hb); replace HO_160001 := Aside0.mk (Kd.R_below (zR HO_160001.out) hb); replace HO_160002 := Aside0.mk (Kd.R_below (zR HO_160002.out) hb); replace HO_160003 := Aside0.mk (Kd.R_below (zR HO_160003.out) hb); replace HO_160004 := Aside0.mk (Kd.V_below (zRV HO_160004.out) hb); replace HO_160005 := Aside0.mk (Kd.R_below (zR HO_160005.out) hb); replace HO175 := Aside0.mk (Kd.R_below (zR HO175.out) hb); replace BK157 := Aside0.mk (zKb BK157.out hb); replace BK159 := Aside0.mk (zKb BK159.out hb); replace BK168 := Aside0.mk (zKb BK168.out hb); replace BK169 := Aside0.mk (zKb BK169.out hb); replace HB := Aside0.mk (below_step (zG4 GE157.out GE159.out GE168.out GE169.out) hb); (try clear hb); (try clear hb2); (try clear hk); (try clear hi)))
          go_ret
          exact ⟨zV, zG4 GE157.out GE159.out GE168.out GE169.out⟩
       ·replace c52 := Bool.eq_false_iff.mpr c52
        subst c52
        rw [if_neg (show ¬ (false = true) by decide)] at H
        exact absurd H (by simp)
end Go.Proofs.YtgknjgionicncaaGreat.R
namespace Go.Proofs.YtgknjgionicncaaGreat.X
open Go.RowKit Go.Proofs.YtgknjgionicncaaGreatW.PrintWords Go.Proofs.YtgknjgionicncaaGreatW.Open Go.Proofs.YtgknjgionicncaaGreat.Q
set_option linter.unusedVariables false
end Go.Proofs.YtgknjgionicncaaGreat.X
namespace Go.Proofs.YtgknjgionicncaaGreat.V
open Go.RowKit Go.Proofs.YtgknjgionicncaaGreatW.PrintWords Go.Proofs.YtgknjgionicncaaGreatW.Open Go.Proofs.YtgknjgionicncaaGreat.Q Go.Proofs.YtgknjgionicncaaGreat.X
set_option linter.unusedVariables false
end Go.Proofs.YtgknjgionicncaaGreat.V
namespace Go.Proofs.YtgknjgionicncaaGreat.R
open Go.RowKit Go.Proofs.YtgknjgionicncaaGreatW.PrintWords Go.Proofs.YtgknjgionicncaaGreatW.Open Go.Proofs.YtgknjgionicncaaGreat.Q Go.Proofs.YtgknjgionicncaaGreat.X Go.Proofs.YtgknjgionicncaaGreat.V
set_option linter.unusedVariables false
end Go.Proofs.YtgknjgionicncaaGreat.R
namespace Go.Proofs.YtgknjgionicncaaGreat.L
open Go.RowKit Go.Proofs.YtgknjgionicncaaGreat.Q Go.Proofs.YtgknjgionicncaaGreatW.PrintWords Go.Proofs.YtgknjgionicncaaGreatW.PrintLast Go.Proofs.YtgknjgionicncaaGreatW.PrintMore Go.Proofs.YtgknjgionicncaaGreatW.Lib
set_option linter.unusedVariables false
theorem Walk.of_same {ps qs : List Int} {a : Int} {L : List Int} {b : Int} (h : Walk qs a L b) (hs : ∀ x ∈ L, rd qs x = rd ps x) : Walk ps a L b := by
 induction h with
 | none a => exact .none a
 | step h0 hw ih =>
  rename_i a' L' b'
  have e := hs a' (List.mem_cons_self ..)
  rw [e] at ih
  exact .step h0 (ih fun x hx => hs x (List.mem_cons_of_mem _ hx))
theorem cut_right {ps : List Int} (hp : inR ps.length ps) : rightB (mark (-1) (losers ps) ps) = true := by
 have hlen := mark_len (-1) (losers ps) ps
 have hrd : ∀ x : Int, 0 ≤ x → rd (mark (-1) (losers ps) ps) x = if x ∈ losers ps then -1 else rd ps x := fun x hx => rd_mark (-1) (losers ps) ps (losers_in hp) x hx
 have hq : inR (mark (-1) (losers ps) ps).length (mark (-1) (losers ps) ps) := by
  refine ⟨rfl, fun p hm => ?_⟩
  obtain ⟨j, hj, rfl⟩ := List.mem_iff_getElem.1 hm
  rw [hlen] at hj
  have e := hrd (j : Int) (by omega)
  have e2 : rd (mark (-1) (losers ps) ps) (j : Int) = (mark (-1) (losers ps) ps)[j]'(by rw [hlen]; exact hj) := by simp [rd, List.getD, hlen, hj]
  rw [← e2, e, hlen]
  split
  ·omega
  ·exact inR_rd hp (by omega) (by omega)
 rw [rightB_cyc hq, decide_eq_true_eq]
 generalize hz : (cycZ (mark (-1) (losers ps) ps) (mark (-1) (losers ps) ps).length).2 = z
 cases z with
 | nil => rfl
 | cons b z =>
  exfalso
  obtain ⟨g1, L, hL⟩ := (cal_inv hq _ (Nat.le_refl _)).cyc b (by rw [hz]; exact List.mem_cons_self ..)
  have hin := (hL.len hq g1).1
  have hno : ∀ x ∈ L, x ∉ losers ps ∧ rd (mark (-1) (losers ps) ps) x = rd ps x := by
   intro x hx
   have h1 := hL.next hx
   have h2 := (hL.next h1.2).1
   have e := hrd x h1.1
   by_cases c : x ∈ losers ps
   ·rw [if_pos c] at e
    omega
   ·rw [if_neg c] at e
    exact ⟨c, e⟩
  have hC : Cyc ps L b := ⟨hL.walk.of_same (fun x hx => (hno x hx).2), hL.mem, hL.nd⟩
  rw [hlen] at g1
  obtain ⟨s1, s2⟩ := leastC_spec hp hC g1
  refine (hno _ s1).1 ?_
  have hi := hin _ s1
  rw [hlen] at hi
  refine (lose_iff hp hi.1 hi.2).2 ?_
  obtain ⟨L', hperm, hL'⟩ := hC.rot s1
  rw [Bool.and_eq_true]
  refine ⟨?_, loL_of hC _ s2 _ s1⟩
  have hlen2 := (hL'.len hp hi.2).2
  have hup := hL'.walk.up
  have hpos : 0 < L'.length := List.length_pos_of_mem hL'.mem
  unfold onP
  rw [List.any_eq_true]
  refine ⟨L'.length - 1, List.mem_range.2 (by omega), ?_⟩
  rw [decide_eq_true_eq, upP_upL, show L'.length - 1 + 1 = L'.length by omega]
  exact hup
theorem parL_right (l : List S36) : rightB (parL l) = true := by
 rw [← parL_mark]
 exact cut_right (rawL_inR l)
end Go.Proofs.YtgknjgionicncaaGreat.L
namespace Go.Proofs.YtgknjgionicncaaGreat.L
open Go.RowKit Go.Proofs.YtgknjgionicncaaGreat.Q Go.Proofs.YtgknjgionicncaaGreat.X Go.Proofs.YtgknjgionicncaaGreatW.PrintWords Go.Proofs.YtgknjgionicncaaGreatW.PrintLast Go.Proofs.YtgknjgionicncaaGreatW.PrintMore Go.Proofs.YtgknjgionicncaaGreatW.Lib
set_option linter.unusedVariables false
abbrev Edge := S72
abbrev rdE (l : List Edge) (i : Int) : Edge := rd_T72 l i
theorem rd_set (l : List Int) (i j v : Int) (h0 : 0 ≤ i) (h1 : i < l.length) (hj : 0 ≤ j) : rd (l.set i.toNat v) j = if i = j then v else rd l j := by
 have hi : i.toNat < l.length := by omega
 unfold rd
 by_cases h : i = j
 ·subst h
  rw [if_pos rfl, List.getD_eq_getElem?_getD, List.getElem?_set_self hi]; rfl
 ·rw [if_neg h, List.getD_eq_getElem?_getD, List.getD_eq_getElem?_getD, List.getElem?_set_ne (by omega)]
theorem rd_rep (n : Nat) (v : Int) (i : Int) (h0 : 0 ≤ i) (h1 : i < n) : rd (List.replicate n v) i = v := by
 have hi : i.toNat < n := by omega
 simp [rd, List.getD, hi]
theorem rd_map_range (n : Nat) (f : Nat → Int) (i : Int) (h0 : 0 ≤ i) (h1 : i < n) : rd ((List.range n).map f) i = f i.toNat := by
 have hi : i.toNat < n := by omega
 simp [rd, List.getD, hi]
theorem ext_rd (a b : List Int) (hl : a.length = b.length) (h : ∀ i : Nat, i < a.length → rd a i = rd b i) : a = b := by
 refine List.ext_getElem hl ?_
 intro i h1 h2
 have := h i h1
 simpa [rd, List.getD, h1, h2] using this
def leastL (had : List Int) (es : List Edge) (h : Int) : Nat → Int × Int
 | 0 => (rd had h, -1)
 | m + 1 => if (rdE es m).f1 = h ∧ wrap64 (rd had (rdE es m).f0 + (rdE es m).f2) < (leastL had es h m).1 then (wrap64 (rd had (rdE es m).f0 + (rdE es m).f2), (m : Int)) else leastL had es h m
theorem next_least (had : List Int) (es : List Edge) (hin : inE had.length es) : ∀ m, m ≤ es.length → ∀ h : Int, 0 ≤ h → h < had.length → rd (nextL had es m).1 h = (leastL had es h m).1 ∧ rd (nextL had es m).2 h = (leastL had es h m).2
 | 0, _, h, h0, h1 => ⟨rfl, rd_rep _ _ _ h0 h1⟩
 | m + 1, hm, h, h0, h1 => by
  obtain ⟨i1, i2⟩ := next_least had es hin m (by omega) h h0 h1
  obtain ⟨l1, l2⟩ := nextL_len had es m
  have he : 0 ≤ (rdE es (m : Int)).f0 ∧ (rdE es (m : Int)).f0 < had.length ∧ 0 ≤ (rdE es (m : Int)).f1 ∧ (rdE es (m : Int)).f1 < had.length := hin _ (rdE_mem es m (by omega) (by omega))
  show rd (stepN had (nextL had es m) (m : Int) (rdE es (m : Int))).1 h = _ ∧ rd (stepN had (nextL had es m) (m : Int) (rdE es (m : Int))).2 h = _
  simp only [leastL, stepN]
  generalize rdE es (m : Int) = e at *
  by_cases q : e.f1 = h
  ·subst q
   rw [← i1]
   by_cases c : wrap64 (rd had e.f0 + e.f2) < rd (nextL had es m).1 e.f1
   ·rw [if_pos c, if_pos ⟨rfl, c⟩]
    refine ⟨?_, ?_⟩
    ·show rd (List.set _ _ _) _ = _
     rw [rd_set _ _ _ _ he.2.2.1 (by rw [l1]; exact he.2.2.2) he.2.2.1, if_pos rfl]
    ·show rd (List.set _ _ _) _ = _
     rw [rd_set _ _ _ _ he.2.2.1 (by rw [l2]; exact he.2.2.2) he.2.2.1, if_pos rfl]
   ·rw [if_neg c, if_neg (fun h => c h.2)]
    exact ⟨i1, i2⟩
  ·have hq : ¬ (e.f1 = h ∧ wrap64 (rd had e.f0 + e.f2) < (leastL had es h m).1) := fun h' => q h'.1
   by_cases c : wrap64 (rd had e.f0 + e.f2) < rd (nextL had es m).1 e.f1
   ·rw [if_pos c, if_neg hq]
    refine ⟨?_, ?_⟩
    ·show rd (List.set _ _ _) _ = _
     rw [rd_set _ _ _ _ he.2.2.1 (by rw [l1]; exact he.2.2.2) h0, if_neg q]; exact i1
    ·show rd (List.set _ _ _) _ = _
     rw [rd_set _ _ _ _ he.2.2.1 (by rw [l2]; exact he.2.2.2) h0, if_neg q]; exact i2
   ·rw [if_neg c, if_neg hq]
    exact ⟨i1, i2⟩
theorem nextL_rows (had : List Int) (es : List Edge) (hin : inE had.length es) : (nextL had es es.length).1 = (List.range had.length).map (fun h : Nat => (leastL had es h es.length).1) ∧ (nextL had es es.length).2 = (List.range had.length).map (fun h : Nat => (leastL had es h es.length).2) := by
 obtain ⟨l1, l2⟩ := nextL_len had es es.length
 constructor
 ·refine ext_rd _ _ (by simp [l1]) ?_
  intro i hi
  rw [l1] at hi
  rw [(next_least had es hin es.length (Nat.le_refl _) i (by omega) (by omega)).1, rd_map_range _ _ _ (by omega) (by omega)]
  simp
 ·refine ext_rd _ _ (by simp [l2]) ?_
  intro i hi
  rw [l2] at hi
  rw [(next_least had es hin es.length (Nat.le_refl _) i (by omega) (by omega)).2, rd_map_range _ _ _ (by omega) (by omega)]
  simp
def layL (n : Nat) (es : List Edge) : Nat → List Int × List Int
 | 0 => (List.replicate n 0, List.replicate n (-1))
 | k + 1 => nextL (layL n es k).1 es es.length
theorem layL_len (n : Nat) (es : List Edge) : ∀ k, (layL n es k).1.length = n ∧ (layL n es k).2.length = n
 | 0 => ⟨List.length_replicate, List.length_replicate⟩
 | k + 1 => by
  obtain ⟨h1, h2⟩ := nextL_len (layL n es k).1 es es.length
  have ih := layL_len n es k
  exact ⟨h1.trans ih.1, h2.trans ih.1⟩
theorem inE_of_may {n : Int} {es : List Edge} (h : rmayB n es = true) : 0 ≤ n ∧ n ≤ 32 ∧ inE n.toNat es ∧ ∀ e ∈ es, -4503599627370496 ≤ e.f2 ∧ e.f2 ≤ 4503599627370496 := by
 unfold rmayB at h
 split at h
 ·rename_i hn
  have hb : ∀ e ∈ es, badE n e = false := by
   intro e he
   have h2 : es.any (badE n) = false := by simpa using h
   simpa using List.any_eq_false.1 h2 e he
  have hs : ∀ e ∈ es, 0 ≤ min e.f0 e.f1 ∧ max e.f0 e.f1 < n ∧ e.f2 ≤ 4503599627370496 ∧ -4503599627370496 ≤ e.f2 := by
   intro e he
   have := hb e he
   unfold badE at this
   simp only [Bool.or_eq_false_iff, decide_eq_false_iff_not] at this
   omega
  exact ⟨hn.1, hn.2, fun e he => by have := hs e he; omega, fun e he => by have := hs e he; omega⟩
 ·cases h
def rowsL (n : Nat) (es : List Edge) (k : Nat) : List (List Int) × List (List Int) := ((List.range k).map (fun i => (layL n es i).1), (List.range k).map (fun i => (layL n es i).2))
theorem rowsL_succ (n : Nat) (es : List Edge) (k : Nat) : (rowsL n es k).1 ++ [(layL n es k).1] = (rowsL n es (k + 1)).1 ∧ (rowsL n es k).2 ++ [(layL n es k).2] = (rowsL n es (k + 1)).2 := by
 simp [rowsL, List.range_succ]
theorem rd_rows (n : Nat) (es : List Edge) (k : Nat) (i : Int) (h0 : 0 ≤ i) (h1 : i < k) : rd_L8 (rowsL n es k).1 i = (layL n es i.toNat).1 := by
 have hi : i.toNat < k := by omega
 simp [rd_L8, rowsL, List.getD, hi]
def laysB (n : Int) (es : List Edge) : List (List Int) × List (List Int) := if rmayB n es = true then rowsL n.toNat es (n.toNat + 1) else ([], [])
theorem layers_ev (n : Int) (es : List Edge) (he : es.length ≤ 1000000000) : Ev (fun k => relax_Layers.f k n es) (laysB n es) := by
 unfold relax_Layers.f
 refine Ev.bind (a := rmayB n es) (Ev.const (by unfold relax_May.f; rw [if_pos he])) ?_
 by_cases hm : rmayB n es = true
 rotate_left
 ·refine Ev.neg hm (Ev.cast (Ev.now _) ?_)
  unfold laysB; rw [if_neg hm]
 obtain ⟨h0, h32, hin, _⟩ := inE_of_may hm
 refine Ev.pos hm (Ev.bind (a := List.replicate n.toNat 0) (Ev.const (by unfold relax_row_int64.f; rw [if_pos ⟨h0, by omega⟩])) (Ev.bind (a := List.replicate n.toNat (-1)) (Ev.const (by unfold relax_row_int.f; rw [if_pos ⟨h0, by omega⟩])) ?_))
 have hl : laysB n es = rowsL n.toNat es (n.toNat + 1) := by unfold laysB; rw [if_pos hm]
 rw [hl]
 have key : ∀ (d i : Nat), n.toNat - i = d → i ≤ n.toNat → Ev (fun k => relax_Layers.l0 k es (rowsL n.toNat es (i + 1)).1 (rowsL n.toNat es (i + 1)).2 n (i : Int)) (rowsL n.toNat es (n.toNat + 1)) := by
  intro d
  induction d with
  | zero =>
   intro i hd hi
   refine Ev.succ ?_
   simp only [relax_Layers.l0]
   refine Ev.neg (by omega) (Ev.cast (Ev.now _) ?_)
   rw [show i = n.toNat by omega]
  | succ d ih =>
   intro i hd hi
   have h2 := ih (i + 1) (by omega) (by omega)
   have hr := rd_rows n.toNat es (i + 1) i (by omega) (by omega)
   have hlen : (rowsL n.toNat es (i + 1)).1.length = i + 1 ∧ (rowsL n.toNat es (i + 1)).2.length = i + 1 := by simp [rowsL]
   have hs := rowsL_succ n.toNat es (i + 1)
   refine Ev.succ ?_
   simp only [relax_Layers.l0, hr]
   refine Ev.pos (by omega) (Ev.pos (by omega) (Ev.pos (by omega) (Ev.bind (a := nextL (layL n.toNat es (i : Int).toNat).1 es es.length) (Ev.const ?_) (Ev.pos (by omega) (Ev.pos (by omega) ?_)))))
   ·unfold relax_next.f
    rw [if_pos ⟨by rw [(layL_len _ _ _).1]; omega, he, by rw [(layL_len _ _ _).1]; exact hin⟩]
   ·rw [wrap_id (by omega) (by omega)]
    rw [← hs.1, ← hs.2] at h2
    exact h2
 exact key n.toNat 0 (by omega) (by omega)
def solveB (n : Int) (es : List Edge) : List Int × Bool :=
 if rmayB n es = true ∧ (n > 0 → (layL n.toNat es n.toNat).1 = (layL n.toNat es (n.toNat - 1)).1) then ((layL n.toNat es n.toNat).1, true) else ([], false)
instance (n : Int) (es : List Edge) : Decidable (rmayB n es = true ∧ (n > 0 → (layL n.toNat es n.toNat).1 = (layL n.toNat es (n.toNat - 1)).1)) := inferInstance
theorem equal_ev (a b : List Int) (ha : a.length ≤ 1000000000) : ∃ r, Ev (fun k => slices_Equal_int64_int64.f k a b) r ∧ (r = true ↔ a = b) := by
 unfold slices_Equal_int64_int64.f
 by_cases h : (a.length : Int) = (b.length : Int)
 ·have key : ∀ (d i : Nat), a.length - i = d → i ≤ a.length → ∃ r, Ev (fun k => slices_Equal_int64_int64.l0 k a b (a.length : Int) (i : Int)) r ∧ (r = true ↔ a.drop i = b.drop i) := by
   intro d
   induction d with
   | zero =>
    intro i hd hi
    refine ⟨true, Ev.succ ?_, ?_⟩
    ·simp only [slices_Equal_int64_int64.l0]
     exact Ev.neg (by omega) (Ev.now _)
    ·rw [List.drop_of_length_le (by omega), List.drop_of_length_le (by omega)]
     simp
   | succ d ih =>
    intro i hd hi
    have hil : i < a.length := by omega
    have hib : i < b.length := by omega
    have hr : rd a (i : Int) = a[i] := by simp [rd, List.getD, hil]
    have hr2 : rd b (i : Int) = b[i] := by simp [rd, List.getD, hib]
    obtain ⟨r, h1, h2⟩ := ih (i + 1) (by omega) (by omega)
    have ea := List.drop_eq_getElem_cons hil
    have eb := List.drop_eq_getElem_cons hib
    by_cases e : a[i] = b[i]
    ·refine ⟨r, Ev.succ ?_, ?_⟩
     ·simp only [slices_Equal_int64_int64.l0, hr, hr2]
      refine Ev.pos (by omega) (Ev.pos (by omega) (Ev.pos (by omega) (Ev.pos (by omega) (Ev.pos e ?_))))
      rw [wrap_id (by omega) (by omega)]
      exact h1
     ·rw [h2, ea, eb, List.cons.injEq]
      exact ⟨fun h => ⟨e, h⟩, fun h => h.2⟩
    ·refine ⟨false, Ev.succ ?_, ?_⟩
     ·simp only [slices_Equal_int64_int64.l0, hr, hr2]
      exact Ev.pos (by omega) (Ev.pos (by omega) (Ev.pos (by omega) (Ev.pos (by omega) (Ev.neg e (Ev.now _)))))
     ·rw [ea, eb, List.cons.injEq]
      exact ⟨fun h => absurd h (by simp), fun h => absurd h.1 e⟩
  obtain ⟨r, h1, h2⟩ := key a.length 0 (by omega) (by omega)
  exact ⟨r, Ev.pos h h1, by simpa using h2⟩
 ·refine ⟨false, Ev.neg h (Ev.now _), ⟨by simp, ?_⟩⟩
  rintro rfl
  exact absurd rfl h
theorem solve_ev (n : Int) (es : List Edge) (he : es.length ≤ 1000000000) : Ev (fun k => relax_Solve.f k n es) (solveB n es) := by
 unfold relax_Solve.f
 refine Ev.bind (layers_ev n es he) ?_
 by_cases hm : rmayB n es = true
 rotate_left
 ·have h1 : laysB n es = ([], []) := by unfold laysB; rw [if_neg hm]
  have h2 : solveB n es = ([], false) := by unfold solveB; rw [if_neg (fun h => hm h.1)]
  rw [h1, h2]
  refine Ev.pos rfl (Ev.succ ?_)
  simp only [relax_Solve.j0]
  exact Ev.pos trivial (Ev.now _)
 obtain ⟨h0, h32, hin, _⟩ := inE_of_may hm
 have h1 : laysB n es = rowsL n.toNat es (n.toNat + 1) := by unfold laysB; rw [if_pos hm]
 rw [h1]
 have hlen : (rowsL n.toNat es (n.toNat + 1)).1.length = n.toNat + 1 := by simp [rowsL]
 have hr := rd_rows n.toNat es (n.toNat + 1) n h0 (by omega)
 have yes : solveB n es = ((layL n.toNat es n.toNat).1, true) → Ev (fun k => relax_Solve.j0 k n (rowsL n.toNat es (n.toNat + 1)).1 false) (solveB n es) := by
  intro h
  rw [h]
  refine Ev.succ ?_
  simp only [relax_Solve.j0, hr]
  exact Ev.neg (by simp) (Ev.pos h0 (Ev.pos (by omega) (Ev.now _)))
 refine Ev.neg (by omega) (Ev.ite (fun hp => ?_) (fun hp => ?_))
 ·have hr2 := rd_rows n.toNat es (n.toNat + 1) (n - 1) (by omega) (by omega)
  rw [wrap_id (by omega) (by omega)]
  obtain ⟨r, e1, e2⟩ := equal_ev (layL n.toNat es n.toNat).1 (layL n.toNat es (n.toNat - 1)).1 (by rw [(layL_len _ _ _).1]; omega)
  rw [show (n - 1).toNat = n.toNat - 1 by omega] at hr2
  simp only [hr, hr2]
  refine Ev.pos h0 (Ev.pos (by omega) (Ev.pos (by omega) (Ev.pos (by omega) (Ev.bind e1 ?_))))
  cases r with
  | true =>
   refine yes ?_
   unfold solveB; rw [if_pos ⟨hm, fun _ => e2.1 rfl⟩]
  | false =>
   have h2 : solveB n es = ([], false) := by unfold solveB; rw [if_neg (fun h => by have := e2.2 (h.2 hp); cases this)]
   rw [h2]
   refine Ev.succ ?_
   simp only [relax_Solve.j0]
   exact Ev.pos rfl (Ev.now _)
 ·refine yes ?_
  unfold solveB; rw [if_pos ⟨hm, fun h => absurd h hp⟩]
end Go.Proofs.YtgknjgionicncaaGreat.L
namespace Go.Proofs.YtgknjgionicncaaGreat.L
open Go.RowKit Go.Proofs.YtgknjgionicncaaGreat.Q Go.Proofs.YtgknjgionicncaaGreatW.PrintWords Go.Proofs.YtgknjgionicncaaGreatW.PrintLast Go.Proofs.YtgknjgionicncaaGreatW.PrintMore Go.Proofs.YtgknjgionicncaaGreatW.Lib
set_option linter.unusedVariables false
def smallE (es : List Edge) : Prop := ∀ e ∈ es, -4503599627370496 ≤ e.f2 ∧ e.f2 ≤ 4503599627370496
theorem rdE_in (es : List Edge) (m : Nat) (h : m < es.length) : rdE es (m : Int) ∈ es := rdE_mem es m (by omega) (by omega)
def within (n : Nat) (had : List Int) (lo : Int) : Prop := ∀ j : Int, 0 ≤ j → j < n → lo ≤ rd had j ∧ rd had j ≤ 0
theorem least_within (had : List Int) (es : List Edge) (hin : inE had.length es) (hs : smallE es) (lo : Int) (hlo : -288230376151711744 ≤ lo) (hw : within had.length had lo) (h : Int) (h0 : 0 ≤ h) (h1 : h < had.length) : ∀ m, m ≤ es.length → lo - 4503599627370496 ≤ (leastL had es h m).1 ∧ (leastL had es h m).1 ≤ 0
 | 0, _ => by have := hw h h0 h1; simp only [leastL]; omega
 | m + 1, hm => by
  have ih := least_within had es hin hs lo hlo hw h h0 h1 m (by omega)
  have hi : 0 ≤ (rdE es (m : Int)).f0 ∧ (rdE es (m : Int)).f0 < had.length ∧ 0 ≤ (rdE es (m : Int)).f1 ∧ (rdE es (m : Int)).f1 < had.length := hin _ (rdE_in es m (by omega))
  have hk := hs _ (rdE_in es m (by omega))
  have hf := hw _ hi.1 hi.2.1
  simp only [leastL]
  split
  ·rename_i c
   have hw' := wrap_id (i := rd had (rdE es (m : Int)).f0 + (rdE es (m : Int)).f2) (by omega) (by omega)
   rw [hw'] at c ⊢
   show _ ∧ rd had (rdE es (m : Int)).f0 + (rdE es (m : Int)).f2 ≤ 0
   constructor
   ·show lo - 4503599627370496 ≤ rd had (rdE es (m : Int)).f0 + (rdE es (m : Int)).f2; omega
   ·omega
  ·exact ih
theorem lay_within (n : Nat) (es : List Edge) (hin : inE n es) (hs : smallE es) : ∀ k : Nat, k ≤ 33 → within n (layL n es k).1 (-4503599627370496 * (k : Int))
 | 0, _ => by
  intro j h0 h1
  have h : rd (layL n es 0).1 j = 0 := rd_rep n 0 j h0 h1
  omega
 | k + 1, hk => by
  have ih := lay_within n es hin hs k (by omega)
  obtain ⟨l1, _⟩ := layL_len n es k
  intro j h0 h1
  have hin' : inE (layL n es k).1.length es := by rw [l1]; exact hin
  have h := least_within (layL n es k).1 es hin' hs (-4503599627370496 * (k : Int)) (by omega) (by rw [l1]; exact ih) j h0 (by rw [l1]; exact h1) es.length (Nat.le_refl _)
  show _ ≤ rd (nextL (layL n es k).1 es es.length).1 j ∧ rd (nextL (layL n es k).1 es es.length).1 j ≤ 0
  rw [(next_least _ es hin' es.length (Nat.le_refl _) j h0 (by rw [l1]; exact h1)).1]
  omega
theorem leastL_mono (had : List Int) (es : List Edge) (h : Int) (i : Nat) : ∀ d, (leastL had es h (i + d)).1 ≤ (leastL had es h i).1
 | 0 => Int.le_refl _
 | d + 1 => by
  have ih := leastL_mono had es h i d
  show (leastL had es h (i + d + 1)).1 ≤ _
  simp only [leastL]
  split
  ·rename_i c; exact Int.le_trans (Int.le_of_lt c.2) ih
  ·exact ih
theorem leastL_edge (had : List Int) (es : List Edge) (i m : Nat) (hi : i < m) : (leastL had es (rdE es (i : Int)).f1 m).1 ≤ wrap64 (rd had (rdE es (i : Int)).f0 + (rdE es (i : Int)).f2) := by
 have h1 := leastL_mono had es (rdE es (i : Int)).f1 (i + 1) (m - (i + 1))
 rw [show i + 1 + (m - (i + 1)) = m by omega] at h1
 refine Int.le_trans h1 ?_
 simp only [leastL]
 split
 ·exact Int.le_refl _
 ·rename_i c
  have : ¬ (wrap64 (rd had (rdE es (i : Int)).f0 + (rdE es (i : Int)).f2) < (leastL had es (rdE es (i : Int)).f1 i).1) := fun h => c (by simpa using h)
  omega
theorem mem_rdE {es : List Edge} {e : Edge} (h : e ∈ es) : ∃ i : Nat, i < es.length ∧ rdE es (i : Int) = e := by
 obtain ⟨i, hi, rfl⟩ := List.mem_iff_getElem.1 h
 exact ⟨i, hi, by simp [rd_T72, List.getD, hi]⟩
theorem solved_facts {n : Int} {es : List Edge} {o : List Int} (h : solveB n es = (o, true)) : 0 ≤ n ∧ n ≤ 32 ∧ inE n.toNat es ∧ smallE es ∧ o = (layL n.toNat es n.toNat).1 ∧ (n > 0 → o = (layL n.toNat es (n.toNat - 1)).1) ∧ o.length = n.toNat ∧ within n.toNat o (-144115188075855872) ∧ (∀ e ∈ es, rd o e.f1 ≤ rd o e.f0 + e.f2) := by
 unfold solveB at h
 split at h
 ·rename_i hc
  obtain ⟨h0, h32, hin, hs⟩ := inE_of_may hc.1
  have ho : o = (layL n.toNat es n.toNat).1 := by injection h with h _; exact h.symm
  obtain ⟨l1, _⟩ := layL_len n.toNat es n.toNat
  have hw := lay_within n.toNat es hin hs n.toNat (by omega)
  refine ⟨h0, h32, hin, hs, ho, fun hp => ho.trans (hc.2 hp), by rw [ho, l1], ?_, ?_⟩
  ·intro j j0 j1
   have := hw j j0 j1
   rw [← ho] at this
   omega
  ·intro e he
   have hr := hin e he
   have hp : n > 0 := by omega
   have ho2 := ho.trans (hc.2 hp)
   obtain ⟨i, hi, rfl⟩ := mem_rdE he
   obtain ⟨l2, _⟩ := layL_len n.toNat es (n.toNat - 1)
   have hin' : inE (layL n.toNat es (n.toNat - 1)).1.length es := by rw [l2]; exact hin
   have hlay : layL n.toNat es n.toNat = nextL (layL n.toNat es (n.toNat - 1)).1 es es.length := by
    rw [show n.toNat = (n.toNat - 1) + 1 by omega]; rfl
   have h3 := leastL_edge (layL n.toNat es (n.toNat - 1)).1 es i es.length hi
   rw [← (next_least _ es hin' es.length (Nat.le_refl _) _ hr.2.2.1 (by rw [l2]; exact hr.2.2.2)).1, ← hlay, ← ho, ← ho2] at h3
   have hb := hw _ hr.1 hr.2.1
   rw [← ho] at hb
   have hk := hs _ he
   rw [wrap_id (by omega) (by omega)] at h3
   exact h3
 ·injection h with _ h; cases h
set_option linter.unusedSectionVars false
section
variable {n : Nat} {es : List Edge} (hn : n ≤ 32) (hin : inE n es) (hs : smallE es)
include hn hin hs
variable {x : Int → Int} (hx : ∀ e ∈ es, x e.f1 ≤ x e.f0 + e.f2)
include hx
end
end Go.Proofs.YtgknjgionicncaaGreat.L
namespace Go.Proofs.YtgknjgionicncaaGreat.L
open Go.RowKit Go.Proofs.YtgknjgionicncaaGreat.Q Go.Proofs.YtgknjgionicncaaGreat.X Go.Proofs.YtgknjgionicncaaGreat.V Go.Proofs.YtgknjgionicncaaGreatW.PrintWords Go.Proofs.YtgknjgionicncaaGreatW.PrintLast Go.Proofs.YtgknjgionicncaaGreatW.PrintMore Go.Proofs.YtgknjgionicncaaGreatW.Lib
set_option linter.unusedVariables false
def placeI : List Int → Int → Int
 | [], _ => -1
 | x :: l, v => if v = x then 0 else if placeI l v < 0 then -1 else placeI l v + 1
theorem placeI_ge (v : Int) : ∀ l, -1 ≤ placeI l v ∧ placeI l v < l.length
 | [] => ⟨Int.le_refl _, by simp [placeI]⟩
 | x :: l => by
  have ih := placeI_ge v l
  simp only [placeI, List.length_cons]
  split
  ·omega
  ·split <;> omega
theorem placeI_mem (v : Int) : ∀ l, 0 ≤ placeI l v ↔ v ∈ l
 | [] => by simp [placeI]
 | x :: l => by
  have ih := placeI_mem v l
  have h1 := (placeI_ge v l).1
  simp only [placeI, List.mem_cons]
  split
  ·rename_i h; simp [h]
  ·rename_i h
   split
   ·rename_i h2
    constructor
    ·intro h3; omega
    ·rintro (h3 | h3)
     ·exact absurd h3 h
     ·have := ih.2 h3; omega
   ·exact ⟨fun _ => .inr (ih.1 (by omega)), fun _ => by omega⟩
theorem indexI_ev (l : List Int) (v : Int) (hl : l.length ≤ 1000000000) : Ev (fun k => slices_Index_int_int.f k l v) (placeI l v) := by
 have key : ∀ (d i : Nat), l.length - i = d → i ≤ l.length → Ev (fun k => slices_Index_int_int.l0 k l v (l.length : Int) (i : Int)) (if placeI (l.drop i) v < 0 then -1 else placeI (l.drop i) v + i) := by
  intro d
  induction d with
  | zero =>
   intro i hd hi
   rw [List.drop_of_length_le (by omega)]
   refine Ev.succ ?_
   simp only [slices_Index_int_int.l0]
   exact Ev.neg (by omega) (Ev.now _)
  | succ d ih =>
   intro i hd hi
   have hil : i < l.length := by omega
   have hr : rd l (i : Int) = l[i] := by simp [rd, List.getD, hil]
   refine Ev.succ ?_
   simp only [slices_Index_int_int.l0, hr]
   refine Ev.pos (by omega) (Ev.pos (by omega) (Ev.pos (by omega) ?_))
   rw [List.drop_eq_getElem_cons hil]
   have hp : placeI (l[i] :: l.drop (i + 1)) v = (if v = l[i] then 0 else if placeI (l.drop (i + 1)) v < 0 then -1 else placeI (l.drop (i + 1)) v + 1) := rfl
   have h1 := ih (i + 1) (by omega) (by omega)
   have g1 := (placeI_ge v (l.drop (i + 1))).1
   refine Ev.ite (fun h => ?_) (fun h => ?_)
   ·rw [if_pos h] at hp
    exact Ev.cast (Ev.now _) (by rw [hp]; simp only [Int.lt_irrefl, if_false]; omega)
   ·rw [if_neg h] at hp
    rw [wrap_id (by omega) (by omega)]
    refine Ev.cast h1 ?_
    generalize placeI (l[i] :: l.drop (i + 1)) v = z at *
    generalize placeI (l.drop (i + 1)) v = y at *
    by_cases h3 : y < 0
    ·rw [if_pos h3] at hp
     rw [if_pos h3, if_pos (by omega)]
    ·rw [if_neg h3] at hp
     rw [if_neg h3, if_neg (by omega)]
     omega
 have h := key l.length 0 (by omega) (by omega)
 rw [List.drop_zero] at h
 unfold slices_Index_int_int.f
 refine Ev.cast h ?_
 have := (placeI_ge v l).1
 split <;> omega
theorem containsI_ev (l : List Int) (v : Int) (hl : l.length ≤ 1000000000) : Ev (fun k => slices_Contains_int_int.f k l v) (decide (v ∈ l)) := by
 unfold slices_Contains_int_int.f
 refine Ev.bind (indexI_ev l v hl) (Ev.cast (Ev.now _) ?_)
 have := placeI_mem v l
 by_cases h : v ∈ l
 ·have h1 := this.2 h
  simp only [h, decide_true, decide_eq_true_eq]; omega
 ·have h1 : ¬ 0 ≤ placeI l v := fun h2 => h (this.1 h2)
  simp only [h, decide_false, decide_eq_false_iff_not]; omega
def revAt (l : List Edge) (i : Nat) : List Edge := (List.range l.length).map fun p => if p < i ∨ l.length - i ≤ p then rdE l ((l.length - 1 - p : Nat) : Int) else rdE l (p : Int)
theorem revAt_len (l : List Edge) (i : Nat) : (revAt l i).length = l.length := by simp [revAt]
theorem rdE_get (l : List Edge) (p : Nat) (h : p < l.length) : rdE l (p : Int) = l[p] := by simp [rdE, rd_T72, List.getD, h]
theorem rdE_revAt (l : List Edge) (i p : Nat) (h : p < l.length) : rdE (revAt l i) (p : Int) = if p < i ∨ l.length - i ≤ p then rdE l ((l.length - 1 - p : Nat) : Int) else rdE l (p : Int) := by
 rw [rdE_get _ p (by rw [revAt_len]; exact h)]
 simp [revAt]
theorem revAt_zero (l : List Edge) : revAt l 0 = l := by
 refine List.ext_getElem (revAt_len l 0) fun p h1 h2 => ?_
 rw [← rdE_get _ p h1, rdE_revAt l 0 p h2, if_neg (by omega), rdE_get l p h2]
theorem revAt_end (l : List Edge) (i : Nat) (h : l.length ≤ 2 * i + 1) : revAt l i = l.reverse := by
 refine List.ext_getElem (by rw [revAt_len, List.length_reverse]) fun p h1 h2 => ?_
 have hp : p < l.length := by rw [revAt_len] at h1; exact h1
 rw [← rdE_get _ p h1, rdE_revAt l i p hp, List.getElem_reverse]
 by_cases c : p < i ∨ l.length - i ≤ p
 ·rw [if_pos c, rdE_get l _ (by omega)]
 ·rw [if_neg c, rdE_get l p hp]
  congr 1
  omega
theorem revAt_step0 (l : List Edge) (i : Nat) (h : 2 * i + 1 < l.length) (a b : Edge) (ha : a = rdE l ((l.length - 1 - i : Nat) : Int)) (hb : b = rdE l (i : Int)) : ((revAt l i).set i a).set (l.length - 1 - i) b = revAt l (i + 1) := by
 refine List.ext_getElem (by simp [revAt_len]) fun p h1 h2 => ?_
 have hp : p < l.length := by rw [revAt_len] at h2; exact h2
 rw [← rdE_get _ p h2, rdE_revAt l (i + 1) p hp, List.getElem_set, List.getElem_set]
 by_cases c1 : l.length - 1 - i = p
 ·rw [if_pos c1, if_pos (by omega), hb]
  congr 1; omega
 ·rw [if_neg c1]
  by_cases c2 : i = p
  ·rw [if_pos c2, if_pos (by omega), ha]
   congr 1; omega
  ·rw [if_neg c2, ← rdE_get _ p (by rw [revAt_len]; exact hp), rdE_revAt l i p hp]
   by_cases c3 : p < i ∨ l.length - i ≤ p
   ·rw [if_pos c3, if_pos (by omega)]
   ·rw [if_neg c3, if_neg (by omega)]
theorem revAt_step (l : List Edge) (i : Nat) (h : 2 * i + 1 < l.length) : ((revAt l i).set i (rdE (revAt l i) ((l.length - 1 - i : Nat) : Int))).set (l.length - 1 - i) (rdE (revAt l i) (i : Int)) = revAt l (i + 1) :=
 revAt_step0 l i h _ _ (by rw [rdE_revAt l i _ (by omega), if_neg (by omega)]) (by rw [rdE_revAt l i i (by omega), if_neg (by omega)])
theorem rev_ev (l : List Edge) (hl : l.length ≤ 1000000000) : Ev (fun k => api_Edge_143.f k l) l.reverse := by
 have key : ∀ (d i : Nat), l.length - i = d → i ≤ l.length → Ev (fun k => api_Edge_143.l0 k (revAt l i) (i : Int) ((l.length : Int) - 1 - i)) l.reverse := by
  intro d
  induction d with
  | zero =>
   intro i hd hi
   refine Ev.succ ?_
   simp only [api_Edge_143.l0]
   exact Ev.neg (by omega) (Ev.cast (Ev.now _) (revAt_end l i (by omega)))
  | succ d ih =>
   intro i hd hi
   refine Ev.succ ?_
   simp only [api_Edge_143.l0, revAt_len]
   refine Ev.ite (fun h => ?_) (fun h => Ev.cast (Ev.now _) (revAt_end l i (by omega)))
   refine Ev.pos (by omega) (Ev.pos (by omega) (Ev.pos (by omega) (Ev.pos (by omega) ?_)))
   have h1 := ih (i + 1) (by omega) (by omega)
   rw [wrap_id (by omega) (by omega), wrap_id (by omega) (by omega)]
   have e1 : ((l.length : Int) - 1 - (i : Int)) = ((l.length - 1 - i : Nat) : Int) := by omega
   have e2 := revAt_step l i (by omega)
   rw [e1, Int.toNat_natCast, Int.toNat_natCast]
   rw [← e2] at h1
   rw [show ((i : Int) + 1) = ((i + 1 : Nat) : Int) by omega, show (((l.length - 1 - i : Nat) : Int) - 1) = (l.length : Int) - 1 - ((i + 1 : Nat) : Int) by omega]
   exact h1
 have h := key l.length 0 (by omega) (by omega)
 rw [revAt_zero] at h
 unfold api_Edge_143.f
 rw [wrap_id (by omega) (by omega)]
 simpa using h
theorem take_flat {α : Type} (L : List (List α)) (i : Nat) (h : i < L.length) : (L.take (i + 1)).flatten = (L.take i).flatten ++ L[i] := by
 rw [List.take_add_one, List.flatten_append, List.getElem?_eq_getElem h]
 simp
theorem flatE_le {α : Type} (L : List (List α)) (i : Nat) : (L.take i).flatten.length ≤ L.flatten.length := by
 have h : L.flatten = (L.take i).flatten ++ (L.drop i).flatten := by rw [← List.flatten_append, List.take_append_drop]
 rw [h, List.length_append]; omega
theorem concat_ev (L : List (List Edge)) (h1 : L.length ≤ 1000000) (h2 : L.flatten.length ≤ 1000000) : Ev (fun k => api_Edge_139.f k L) L.flatten := by
 have rdL : ∀ i : Nat, (h : i < L.length) → rd_L11 L (i : Int) = L[i] := fun i h => by simp [rd_L11, List.getD, h]
 have key1 : ∀ (d i : Nat), L.length - i = d → i ≤ L.length → Ev (fun k => api_Edge_139.l1 k (L.take i).flatten L (L.length : Int) (i : Int)) L.flatten := by
  intro d
  induction d with
  | zero =>
   intro i hd hi
   refine Ev.succ ?_
   simp only [api_Edge_139.l1]
   refine Ev.neg (by omega) (Ev.cast (Ev.now _) ?_)
   rw [List.take_of_length_le (by omega)]
  | succ d ih =>
   intro i hd hi
   have hil : i < L.length := by omega
   have hf := take_flat L i hil
   have hle := flatE_le L (i + 1)
   rw [hf, List.length_append] at hle
   refine Ev.succ ?_
   simp only [api_Edge_139.l1, rdL i hil]
   refine Ev.pos (by omega) (Ev.pos (by omega) (Ev.pos (by omega) (Ev.pos (by omega) ?_)))
   have h := ih (i + 1) (by omega) (by omega)
   rw [hf] at h
   rw [wrap_id (by omega) (by omega)]
   exact h
 have key0 : ∀ (d i : Nat), L.length - i = d → i ≤ L.length → Ev (fun k => api_Edge_139.l0 k L ((L.take i).flatten.length : Int) L (L.length : Int) (i : Int)) L.flatten := by
  intro d
  induction d with
  | zero =>
   intro i hd hi
   have hle := flatE_le L i
   refine Ev.succ ?_
   simp only [api_Edge_139.l0]
   refine Ev.neg (by omega) (Ev.bind (a := []) (Ev.const ?_) ?_)
   ·unfold api_Edge_171.f
    rw [if_pos (by omega)]
   ·have h := key1 L.length 0 (by omega) (by omega)
    simpa using h
  | succ d ih =>
   intro i hd hi
   have hil : i < L.length := by omega
   have hf := take_flat L i hil
   have hle := flatE_le L (i + 1)
   have hl2 : (L.take (i + 1)).flatten.length = (L.take i).flatten.length + L[i].length := by rw [hf, List.length_append]
   refine Ev.succ ?_
   simp only [api_Edge_139.l0, rdL i hil]
   have h := ih (i + 1) (by omega) (by omega)
   rw [hl2] at h
   rw [wrap_id (i := ((L.take i).flatten.length : Int) + (L[i].length : Int)) (by omega) (by omega), wrap_id (i := (i : Int) + 1) (by omega) (by omega)]
   refine Ev.pos (by omega) (Ev.pos (by omega) (Ev.pos (by omega) (Ev.neg (by omega) ?_)))
   exact h
 have h := key0 L.length 0 (by omega) (by omega)
 unfold api_Edge_139.f
 simpa using h
def leastN (l : List Edge) : Nat → Nat
 | 0 => 0
 | i + 1 => if (rdE l (i : Int)).f0 < (rdE l (leastN l i : Int)).f0 then i else leastN l i
theorem leastN_le (l : List Edge) : ∀ i, leastN l i ≤ i - 1
 | 0 => Nat.le_refl _
 | i + 1 => by
  have ih := leastN_le l i
  simp only [leastN]
  split <;> omega
def turnL (l : List Edge) : List Edge := l.drop (leastN l l.length) ++ l.take (leastN l l.length)
theorem turn_ev (l : List Edge) (hl : l.length ≤ 1000) : Ev (fun k => loop_turned.f k l) (turnL l) := by
 have key : ∀ (d i : Nat), l.length - i = d → i ≤ l.length → Ev (fun k => loop_turned.l0 k l (leastN l i : Int) l (l.length : Int) (i : Int)) (turnL l) := by
  intro d
  induction d with
  | zero =>
   intro i hd hi
   have e : i = l.length := by omega
   subst e
   have hle := leastN_le l l.length
   refine Ev.succ ?_
   simp only [loop_turned.l0, Int.toNat_natCast]
   refine Ev.neg (by omega) (Ev.pos (by omega) (Ev.pos (by omega) ?_))
   have hc := concat_ev [l.drop (leastN l l.length), l.take (leastN l l.length)] (by simp) (by simp; omega)
   refine Ev.bind hc (Ev.cast (Ev.now _) ?_)
   simp [turnL]
  | succ d ih =>
   intro i hd hi
   have hle := leastN_le l i
   have h := ih (i + 1) (by omega) (by omega)
   refine Ev.succ ?_
   simp only [loop_turned.l0]
   rw [wrap_id (by omega) (by omega)]
   refine Ev.pos (by omega) (Ev.pos (by omega) (Ev.pos (by omega) (Ev.pos (by omega) (Ev.pos (by omega) (Ev.ite (fun c => ?_) (fun c => ?_))))))
   ·have e : leastN l (i + 1) = i := by simp only [leastN]; exact if_pos c
    rw [e] at h
    exact h
   ·have e : leastN l (i + 1) = leastN l i := by simp only [leastN]; exact if_neg c
    rw [e] at h
    exact h
 have h := key l.length 0 (by omega) (by omega)
 unfold loop_turned.f
 exact h
theorem turn_mem {l : List Edge} {e : Edge} (h : e ∈ turnL l) : e ∈ l := by
 rcases List.mem_append.1 h with h | h
 ·exact List.mem_of_mem_drop h
 ·exact List.mem_of_mem_take h
theorem turn_len (l : List Edge) : (turnL l).length = l.length := by
 have := leastN_le l l.length
 simp only [turnL, List.length_append, List.length_drop, List.length_take]
 omega
theorem least_by (had : List Int) (es : List Edge) (h : Int) : ∀ m, -1 ≤ (leastL had es h m).2 ∧ (leastL had es h m).2 < (m : Int)
 | 0 => ⟨Int.le_refl _, by simp [leastL]⟩
 | m + 1 => by
  have ih := least_by had es h m
  simp only [leastL]
  split
  ·exact ⟨by omega, by simp only []; omega⟩
  ·omega
theorem lay_by {n : Nat} {es : List Edge} (hin : inE n es) (k : Nat) (h : Int) (h0 : 0 ≤ h) (h1 : h < n) : -1 ≤ rd (layL n es k).2 h ∧ rd (layL n es k).2 h < es.length := by
 cases k with
 | zero =>
  show -1 ≤ rd (List.replicate n (-1)) h ∧ rd (List.replicate n (-1)) h < es.length
  rw [rd_rep n (-1) h h0 h1]
  omega
 | succ k =>
  have hl := (layL_len n es k).1
  have hin' : inE (layL n es k).1.length es := by rw [hl]; exact hin
  have e := (nextL_rows (layL n es k).1 es hin').2
  show -1 ≤ rd (nextL (layL n es k).1 es es.length).2 h ∧ rd (nextL (layL n es k).1 es es.length).2 h < es.length
  rw [e, hl, rd_map_range n _ h h0 h1]
  exact least_by _ _ _ _
theorem rd_rows2 (n : Nat) (es : List Edge) (k : Nat) (i : Int) (h0 : 0 ≤ i) (h1 : i < k) : rd_L9 (rowsL n es k).2 i = (layL n es i.toNat).2 := by
 have hi : i.toNat < k := by omega
 simp [rd_L9, rowsL, List.getD, hi]
def backL (n : Nat) (es : List Edge) : Nat → Int → List Int → List Edge → Int × List Int × List Edge
 | 0, v, hs, way => (v, hs, way)
 | k + 1, v, hs, way => if v ∈ hs then (v, hs, way) else if rd (layL n es k).2 v < 0 then (v, hs, way) else backL n es k (rdE es (rd (layL n es k).2 v)).f0 (hs ++ [v]) (way ++ [rdE es (rd (layL n es k).2 v)])
def chainOf (r : Int × List Int × List Edge) : List Edge := (r.2.2.drop (max (placeI r.2.1 r.1) 0).toNat).reverse
theorem back_j (v : Int) (hs : List Int) (way : List Edge) (h1 : hs.length ≤ 1000) (h2 : way.length = hs.length) : Ev (fun k => loop_back.j1 k v hs way) (chainOf (v, hs, way)) := by
 have hp := placeI_ge v hs
 refine Ev.succ ?_
 simp only [loop_back.j1]
 refine Ev.bind (indexI_ev hs v (by omega)) ?_
 have hm : mx (placeI hs v) 0 = max (placeI hs v) 0 := by unfold mx; split <;> omega
 rw [hm]
 refine Ev.pos (by omega) (Ev.pos (by omega) (Ev.bind (a := way.drop (max (placeI hs v) 0).toNat) (Ev.const ?_) (Ev.bind (rev_ev _ (by simp; omega)) (Ev.now _))))
 unfold api_Edge_142.f
 rw [if_pos (by simp; omega)]
theorem back_ev {n : Nat} {es : List Edge} (hn : n ≤ 32) (hin : inE n es) (he : es.length ≤ 1000000000) : ∀ (m : Nat) (v : Int) (hs : List Int) (way : List Edge), m ≤ n + 1 → hs.length + m ≤ 100 → way.length = hs.length → 0 ≤ v → v < n →
  Ev (fun k => loop_back.l0 k v (rowsL n es (n + 1)).2 es hs way ((m : Int) - 1)) (chainOf (backL n es m v hs way))
 | 0, v, hs, way, hm, hl, hw, v0, v1 => by
  refine Ev.succ ?_
  simp only [loop_back.l0]
  exact Ev.neg (by omega) (back_j v hs way (by omega) hw)
 | m + 1, v, hs, way, hm, hl, hw, v0, v1 => by
  have hr := rd_rows2 n es (n + 1) (((m + 1 : Nat) : Int) - 1) (by omega) (by omega)
  rw [show (((m + 1 : Nat) : Int) - 1).toNat = m by omega] at hr
  have hb := lay_by hin m v v0 v1
  have hlen : (rowsL n es (n + 1)).2.length = n + 1 := by simp [rowsL]
  have hln := (layL_len n es m).2
  refine Ev.succ ?_
  simp only [loop_back.l0, hr]
  refine Ev.pos (by omega) (Ev.bind (containsI_ev hs v (by omega)) ?_)
  simp only [backL]
  by_cases c : v ∈ hs
  ·rw [if_pos c]
   exact Ev.pos (decide_eq_true c) (back_j v hs way (by omega) hw)
  rw [if_neg c]
  refine Ev.neg (by simp [c]) (Ev.pos (by omega) (Ev.pos (by omega) (Ev.pos v0 (Ev.pos (by omega) ?_))))
  by_cases c2 : rd (layL n es m).2 v < 0
  ·rw [if_pos c2]
   exact Ev.pos c2 (back_j v hs way (by omega) hw)
  rw [if_neg c2]
  have hi : rd (layL n es m).2 v = ((rd (layL n es m).2 v).toNat : Int) := by omega
  have hmem := hin _ (rdE_mem es (rd (layL n es m).2 v) (by omega) (by omega))
  have ih := back_ev hn hin he m (rdE es (rd (layL n es m).2 v)).f0 (hs ++ [v]) (way ++ [rdE es (rd (layL n es m).2 v)]) (by omega) (by simp; omega) (by simp [hw]) hmem.1 hmem.2.1
  refine Ev.neg c2 (Ev.bind (a := [v]) (Ev.now _) (Ev.pos (by simp; omega) (Ev.pos (by omega) (Ev.pos (by omega) (Ev.bind (a := [rdE es (rd (layL n es m).2 v)]) (Ev.now _) (Ev.pos (by simp; omega) ?_))))))
  rw [wrap_id (by omega) (by omega), show (((m + 1 : Nat) : Int) - 1 - 1) = (m : Int) - 1 by omega]
  exact ih
def lowFrom (n : Nat) (es : List Edge) : Nat → Nat → List Edge
 | 0, _ => []
 | d + 1, i => if rd (layL n es n).1 (i : Int) < rd (layL n es (n - 1)).1 (i : Int) then turnL (chainOf (backL n es (n + 1) (i : Int) [] [])) else lowFrom n es d (i + 1)
def loopL (n : Int) (es : List Edge) : List Edge := if rmayB n es = true ∧ 1 ≤ n then lowFrom n.toNat es n.toNat 0 else []
theorem back_all {n : Nat} {es : List Edge} (hin : inE n es) (hne : n ≤ 32) : ∀ (m : Nat) (v : Int) (hs : List Int) (way : List Edge), 0 ≤ v → v < n → (∀ e ∈ way, e ∈ es) → way.length + m ≤ 100 → (∀ e ∈ (backL n es m v hs way).2.2, e ∈ es) ∧ (backL n es m v hs way).2.2.length ≤ 100
 | 0, v, hs, way, _, _, hw, hl => ⟨hw, by simp only [backL]; omega⟩
 | m + 1, v, hs, way, v0, v1, hw, hl => by
  simp only [backL]
  split
  ·exact ⟨hw, by simp only []; omega⟩
  ·split
   ·exact ⟨hw, by simp only []; omega⟩
   ·rename_i c2
    have hb := lay_by hin m v v0 v1
    have hm := rdE_mem es (rd (layL n es m).2 v) (by omega) (by omega)
    have hi := hin _ hm
    refine back_all hin hne m _ _ _ hi.1 hi.2.1 (fun e he => ?_) (by simp; omega)
    rcases List.mem_append.1 he with h | h
    ·exact hw e h
    ·rw [List.mem_singleton.1 h]; exact hm
theorem chain_mem {r : Int × List Int × List Edge} {e : Edge} (h : e ∈ chainOf r) : e ∈ r.2.2 := by
 unfold chainOf at h
 exact List.mem_of_mem_drop (List.mem_reverse.1 h)
theorem chain_len (r : Int × List Int × List Edge) : (chainOf r).length ≤ r.2.2.length := by
 unfold chainOf
 simp
theorem low_all {n : Nat} {es : List Edge} (hin : inE n es) (hne : n ≤ 32) : ∀ (d i : Nat), i + d ≤ n → (∀ e ∈ lowFrom n es d i, e ∈ es) ∧ (lowFrom n es d i).length ≤ 100
 | 0, i, h => ⟨by simp [lowFrom], by simp [lowFrom]⟩
 | d + 1, i, h => by
  simp only [lowFrom]
  split
  ·have hb := back_all hin hne (n + 1) (i : Int) [] [] (by omega) (by omega) (by simp) (by simp; omega)
   refine ⟨fun e he => hb.1 e (chain_mem (turn_mem he)), ?_⟩
   rw [turn_len]
   exact Nat.le_trans (chain_len _) hb.2
  ·exact low_all hin hne d (i + 1) (by omega)
theorem loop_mem {n : Int} {es : List Edge} {e : Edge} (h : e ∈ loopL n es) : e ∈ es := by
 unfold loopL at h
 split at h
 ·rename_i hc
  obtain ⟨h0, h32, hin, _⟩ := inE_of_may hc.1
  exact (low_all hin (by omega) n.toNat 0 (by omega)).1 e h
 ·simp at h
theorem loop_len (n : Int) (es : List Edge) : (loopL n es).length ≤ 100 := by
 unfold loopL
 split
 ·rename_i hc
  obtain ⟨h0, h32, hin, _⟩ := inE_of_may hc.1
  exact (low_all hin (by omega) n.toNat 0 (by omega)).2
 ·simp
theorem loop_ev (n : Int) (es : List Edge) (he : es.length ≤ 1000000000) : Ev (fun k => loop_Of.f k n es) (loopL n es) := by
 unfold loop_Of.f
 refine Ev.bind (layers_ev n es he) ?_
 by_cases hm : rmayB n es = true
 rotate_left
 ·have h1 : laysB n es = ([], []) := by unfold laysB; rw [if_neg hm]
  have h2 : loopL n es = [] := by unfold loopL; rw [if_neg (fun h => hm h.1)]
  rw [h1, h2]
  exact Ev.pos (by simp) (Ev.now _)
 obtain ⟨h0, h32, hin, _⟩ := inE_of_may hm
 have h1 : laysB n es = rowsL n.toNat es (n.toNat + 1) := by unfold laysB; rw [if_pos hm]
 have hlen : (rowsL n.toNat es (n.toNat + 1)).1.length = n.toNat + 1 := by simp [rowsL]
 rw [h1, hlen]
 by_cases c : 1 ≤ n
 rotate_left
 ·have h2 : loopL n es = [] := by unfold loopL; rw [if_neg (fun h => c h.2)]
  rw [h2]
  exact Ev.pos (by omega) (Ev.now _)
 have h2 : loopL n es = lowFrom n.toNat es n.toNat 0 := by unfold loopL; rw [if_pos ⟨hm, c⟩]
 rw [h2]
 refine Ev.neg (by omega) ?_
 have hr := rd_rows n.toNat es (n.toNat + 1) n h0 (by omega)
 have hr2 := rd_rows n.toNat es (n.toNat + 1) (n - 1) (by omega) (by omega)
 rw [show (n - 1).toNat = n.toNat - 1 by omega] at hr2
 have hl1 := (layL_len n.toNat es n.toNat).1
 have hl2 := (layL_len n.toNat es (n.toNat - 1)).1
 have hw : wrap64 (n - 1) = n - 1 := wrap_id (by omega) (by omega)
 have key : ∀ (d i : Nat), n.toNat - i = d → i ≤ n.toNat → Ev (fun k => loop_Of.l0 k n es (rowsL n.toNat es (n.toNat + 1)).1 (rowsL n.toNat es (n.toNat + 1)).2 n (i : Int)) (lowFrom n.toNat es d i) := by
  intro d
  induction d with
  | zero =>
   intro i hd hi
   refine Ev.succ ?_
   simp only [loop_Of.l0]
   exact Ev.neg (by omega) (Ev.now _)
  | succ d ih =>
   intro i hd hi
   refine Ev.succ ?_
   simp only [loop_Of.l0, hr, hw, hr2, hlen]
   simp only [lowFrom]
   refine Ev.pos (by omega) (Ev.pos h0 (Ev.pos (by omega) (Ev.pos (by omega) (Ev.pos (by omega) (Ev.pos (by omega) (Ev.pos (by omega) (Ev.pos (by omega) ?_)))))))
   by_cases q : rd (layL n.toNat es n.toNat).1 (i : Int) < rd (layL n.toNat es (n.toNat - 1)).1 (i : Int)
   ·rw [if_pos q]
    have hb := back_all hin (by omega) (n.toNat + 1) (i : Int) [] [] (by omega) (by omega) (by simp) (by simp; omega)
    have hbk : Ev (fun k => loop_back.f k (i : Int) (rowsL n.toNat es (n.toNat + 1)).2 es) (chainOf (backL n.toNat es (n.toNat + 1) (i : Int) [] [])) := by
     have h := back_ev (by omega) hin he (n.toNat + 1) (i : Int) [] [] (by omega) (by simp; omega) rfl (by omega) (by omega)
     unfold loop_back.f
     have hl3 : (rowsL n.toNat es (n.toNat + 1)).2.length = n.toNat + 1 := by simp [rowsL]
     rw [hl3, wrap_id (by omega) (by omega)]
     exact h
    refine Ev.pos q (Ev.bind hbk (Ev.bind (turn_ev _ (Nat.le_trans (chain_len _) (by omega))) (Ev.now _)))
   ·rw [if_neg q]
    refine Ev.neg q ?_
    rw [wrap_id (by omega) (by omega)]
    exact ih (i + 1) (by omega) (by omega)
 exact key n.toNat 0 (by omega) (by omega)
end Go.Proofs.YtgknjgionicncaaGreat.L
namespace Go.Proofs.YtgknjgionicncaaGreat.L
open Go.RowKit Go.Proofs.YtgknjgionicncaaGreat.Q Go.Proofs.YtgknjgionicncaaGreatW.PrintWords Go.Proofs.YtgknjgionicncaaGreatW.PrintLast Go.Proofs.YtgknjgionicncaaGreatW.PrintMore Go.Proofs.YtgknjgionicncaaGreatW.Lib
set_option linter.unusedVariables false
theorem text_eq {s t : ByteArray} : s.toList = t.toList ↔ s = t := by
 rw [toList_data, toList_data]
 constructor
 ·intro h
  cases s; cases t
  simp_all
 ·rintro rfl; rfl
end Go.Proofs.YtgknjgionicncaaGreat.L
namespace Go.Proofs.YtgknjgionicncaaGreat.Q
open Go.RowKit Go.Proofs.YtgknjgionicncaaGreatW.PrintWords Go.Proofs.YtgknjgionicncaaGreatW.PrintLast Go.Proofs.YtgknjgionicncaaGreatW.PrintMore
attribute [local go_sem] max2_int min2_int max_two min_two max_three min_three max_four min_four
set_option linter.unusedVariables false
set_option linter.unusedSimpArgs false
end Go.Proofs.YtgknjgionicncaaGreat.Q
namespace Go.Proofs.YtgknjgionicncaaGreat.L
open Go.RowKit Go.Proofs.YtgknjgionicncaaGreat.Q Go.Proofs.YtgknjgionicncaaGreatW.PrintWords Go.Proofs.YtgknjgionicncaaGreatW.PrintLast Go.Proofs.YtgknjgionicncaaGreatW.PrintMore Go.Proofs.YtgknjgionicncaaGreatW.Lib
set_option linter.unusedVariables false
end Go.Proofs.YtgknjgionicncaaGreat.L
namespace Go.Proofs.YtgknjgionicncaaGreat.L
open Go.RowKit Go.Proofs.YtgknjgionicncaaGreat.Q Go.Proofs.YtgknjgionicncaaGreat.X Go.Proofs.YtgknjgionicncaaGreatW.PrintWords Go.Proofs.YtgknjgionicncaaGreatW.PrintLast Go.Proofs.YtgknjgionicncaaGreatW.PrintMore Go.Proofs.YtgknjgionicncaaGreatW.Lib
set_option linter.unusedVariables false
abbrev rdSp (l : List S36) (i : Int) : S36 := rd_T36 l i
theorem pairsP_mem {l : List S36} {ps : List Int} {p : S57} (h : p ∈ pairsB l ps) : 0 ≤ p.f0 ∧ p.f0 < l.length ∧ 0 ≤ p.f1 ∧ p.f1 < l.length ∧ mayS (rdSp l p.f0) = true ∧ mayS (rdSp l p.f1) = true := by
 unfold pairsB at h
 split at h
 ·rename_i h1
  obtain ⟨i, hi, hp⟩ := List.mem_flatMap.1 h
  have hi' := List.mem_range.1 hi
  unfold pairAt at hp
  split at hp
  ·rename_i h2
   rw [List.mem_singleton.1 hp]
   have h3 := inP_rd (ps := ps) (by rw [← h1.1]; exact h1.2) i (by omega) (by omega)
   exact ⟨h2.1, by show rd ps i < _; omega, by show (0 : Int) ≤ (i : Int); omega, by show (i : Int) < _; omega, h2.2.2.2.2, h2.2.2.2.1⟩
  ·cases hp
 ·cases h
theorem mayS_le {s : S36} (h : mayS s = true) : 0 ≤ s.f6 ∧ s.f6 < 1125899906842624 ∧ 0 ≤ s.f7 ∧ s.f7 ≤ 1125899906842624 := mayB_le h
theorem gaps_of {l : List S36} {p : S57} (h0 : 0 ≤ p.f0) (h1 : p.f0 < l.length) (h2 : 0 ≤ p.f1) (h3 : p.f1 < l.length) (mx : mayS (rdSp l p.f0) = true) (my : mayS (rdSp l p.f1) = true) :
  gapsB mayS l p.f0 p.f1 = ((rdSp l p.f1).f6 - (rdSp l p.f0).f6, (rdSp l p.f0).f7 - (rdSp l p.f1).f7 - ((rdSp l p.f1).f6 - (rdSp l p.f0).f6), true) := by
 have bx := mayS_le mx
 have bY := mayS_le my
 unfold gapsB findS
 simp only [h0, h1, h2, h3, mx, my, and_self, if_true]
 rw [wrap_id (i := (rdSp l p.f1).f6 - (rdSp l p.f0).f6) (by omega) (by omega), wrap_id (i := (rdSp l p.f0).f7 - (rdSp l p.f1).f7) (by omega) (by omega), wrap_id (by omega) (by omega)]
theorem edges_from {l : List S36} {nums : List Int} {ps : List S57} {e : Edge} (h : e ∈ edgesB mayS l nums ps) (hps : ∀ p ∈ ps, 0 ≤ p.f0 ∧ p.f0 < l.length ∧ 0 ≤ p.f1 ∧ p.f1 < l.length ∧ mayS (rdSp l p.f0) = true ∧ mayS (rdSp l p.f1) = true) :
  ∃ p ∈ ps, e = ⟨rd nums p.f1, rd nums p.f0, (rdSp l p.f1).f6 - (rdSp l p.f0).f6, p, false⟩ ∨ e = ⟨rd nums p.f0, rd nums p.f1, (rdSp l p.f0).f7 - (rdSp l p.f1).f7 - ((rdSp l p.f1).f6 - (rdSp l p.f0).f6), p, true⟩ := by
 obtain ⟨p, hp, he⟩ := List.mem_flatMap.1 h
 obtain ⟨h0, h1, h2, h3, mx, my⟩ := hps p hp
 have hg := gaps_of h0 h1 h2 h3 mx my
 unfold edgesAt at he
 rw [hg] at he
 simp only [if_true, List.mem_cons, List.not_mem_nil, or_false] at he
 exact ⟨p, hp, he⟩
theorem any_beyond {n : Nat} {o : List Int} (hl : o.length = n) (hw : within n o (-144115188075855872)) : o.any beyondB = false := by
 rw [List.any_eq_false]
 intro x hx
 obtain ⟨i, hi, rfl⟩ := List.mem_iff_getElem.1 hx
 have := hw i (by omega) (by omega)
 have hr : rd o (i : Int) = o[i] := by simp [rd, List.getD, hi]
 rw [hr] at this
 unfold beyondB
 simp only [Bool.or_eq_true, decide_eq_true_eq]
 omega
end Go.Proofs.YtgknjgionicncaaGreat.L
namespace Go.Proofs.YtgknjgionicncaaGreat.L
open Go.RowKit Go.Proofs.YtgknjgionicncaaGreat.Q Go.Proofs.YtgknjgionicncaaGreat.X Go.Proofs.YtgknjgionicncaaGreat.V Go.Proofs.YtgknjgionicncaaGreatW.PrintWords Go.Proofs.YtgknjgionicncaaGreatW.PrintLast Go.Proofs.YtgknjgionicncaaGreatW.PrintMore Go.Proofs.YtgknjgionicncaaGreatW.Lib
set_option linter.unusedVariables false
abbrev rdI (l : List Item) (i : Int) : Item := rd_T75 l i
theorem rdI_nat (l : List Item) (i : Nat) (h : i < l.length) : rdI l (i : Int) = l[i] := by simp [rd_T75, List.getD, h]
theorem rdI_mem (l : List Item) (i : Nat) (h : i < l.length) : rdI l (i : Int) ∈ l := by rw [rdI_nat l i h]; exact List.getElem_mem _
def rowedS (row : List Item) (l : List Span) : List Span := row.map fun it => rd_T36 l it.f0
def rowedI (row : List Item) (l : List Int) : List Int := row.map fun it => rd l it.f0
def inRow (row : List Item) (n : Nat) : Prop := row.length ≤ 1000000 ∧ ∀ it ∈ row, 0 ≤ it.f0 ∧ it.f0 < n
theorem take_map_succ {α β : Type} (g : α → β) (l : List α) (i : Nat) (h : i < l.length) : (l.take (i + 1)).map g = (l.take i).map g ++ [g l[i]] := by
 rw [List.take_add_one, List.getElem?_eq_getElem h, List.map_append]
 rfl
theorem rowedS_ev (a : List Span) (b : List ByteArray) (c : List Int) (row : List Item) (e : List Edge) (l : List Span) (hr : inRow row l.length) : Ev (fun k => api_Span_66.f k a b c row e l) (rowedS row l) := by
 have key : ∀ (d i : Nat), row.length - i = d → i ≤ row.length → Ev (fun k => api_Span_66.l0 k l ((row.take i).map fun it => rd_T36 l it.f0) row (row.length : Int) (i : Int)) (rowedS row l) := by
  intro d
  induction d with
  | zero =>
   intro i hd hi
   refine Ev.succ ?_
   simp only [api_Span_66.l0]
   refine Ev.neg (by omega) (Ev.cast (Ev.now _) ?_)
   rw [List.take_of_length_le (by omega)]; rfl
  | succ d ih =>
   intro i hd hi
   have hil : i < row.length := by omega
   have h1 := hr.1
   have h2 := hr.2 _ (rdI_mem row i hil)
   have h := ih (i + 1) (by omega) (by omega)
   have hlt : ((row.take i).map fun it : Item => rd_T36 l it.f0).length = i := by simp; omega
   rw [take_map_succ _ row i hil, ← rdI_nat row i hil] at h
   refine Ev.succ ?_
   simp only [api_Span_66.l0, hlt]
   refine Ev.pos (by omega) (Ev.pos (by omega) (Ev.pos (by omega) (Ev.pos h2.1 (Ev.pos h2.2 (Ev.pos (by omega) ?_)))))
   rw [wrap_id (by omega) (by omega)]
   exact h
 exact key row.length 0 (by omega) (by omega)
theorem rowedI_ev (a : List Span) (b : List ByteArray) (c : List Int) (row : List Item) (e : List Edge) (l : List Int) (hr : inRow row l.length) : Ev (fun k => verdict_rowed_int64.f k a b c row e l) (rowedI row l) := by
 have key : ∀ (d i : Nat), row.length - i = d → i ≤ row.length → Ev (fun k => verdict_rowed_int64.l0 k l ((row.take i).map fun it => rd l it.f0) row (row.length : Int) (i : Int)) (rowedI row l) := by
  intro d
  induction d with
  | zero =>
   intro i hd hi
   refine Ev.succ ?_
   simp only [verdict_rowed_int64.l0]
   refine Ev.neg (by omega) (Ev.cast (Ev.now _) ?_)
   rw [List.take_of_length_le (by omega)]; rfl
  | succ d ih =>
   intro i hd hi
   have hil : i < row.length := by omega
   have h1 := hr.1
   have h2 := hr.2 _ (rdI_mem row i hil)
   have h := ih (i + 1) (by omega) (by omega)
   have hlt : ((row.take i).map fun it : Item => rd l it.f0).length = i := by simp; omega
   rw [take_map_succ _ row i hil, ← rdI_nat row i hil] at h
   refine Ev.succ ?_
   simp only [verdict_rowed_int64.l0, hlt]
   refine Ev.pos (by omega) (Ev.pos (by omega) (Ev.pos (by omega) (Ev.pos h2.1 (Ev.pos h2.2 (Ev.pos (by omega) ?_)))))
   rw [wrap_id (by omega) (by omega)]
   exact h
 exact key row.length 0 (by omega) (by omega)
def clampS (s p : Span) (x : Int) : Int := if s.f7 > p.f7 then x else mx x (mn (wrap64 (wrap64 (s.f6 + x) - p.f6)) (wrap64 (wrap64 (x + p.f7) - s.f7)))
def clampStep (l : List Span) (out : List Int) (it : Item) : List Int :=
 let y := out.set it.f0.toNat (rd_T36 l it.f0).f6
 if it.f2 ≥ 0 then y.set it.f0.toNat (clampS (rd_T36 l it.f0) (rd_T36 l it.f2) (rd y it.f2)) else y
theorem clampStep_len (l : List Span) (out : List Int) (it : Item) : (clampStep l out it).length = out.length := by
 unfold clampStep
 simp only []
 split <;> simp
def clampF (l : List Span) (row : List Item) : List Int := row.foldl (clampStep l) (List.replicate l.length 0)
def clampB (l : List Span) (ps : List Int) : List Int × Bool := if ps.length = l.length ∧ rightB ps = true ∧ mayA l = true then (clampF l (rowL ps), true) else ([], false)
theorem clampF_len (l : List Span) (row : List Item) : (clampF l row).length = l.length := by
 have h : ∀ (row : List Item) (out : List Int), (row.foldl (clampStep l) out).length = out.length := by
  intro row
  induction row with
  | nil => intro out; rfl
  | cons it row ih => intro out; rw [List.foldl_cons, ih, clampStep_len]
 unfold clampF
 rw [h]; simp
theorem cright_some (l : List Span) (ps : List Int) (hl : l.length ≤ 1000000) (hp : ps.length ≤ 1000000) (hf : ∀ s ∈ l, fitS s) : clamp_right.f l ps = some (decide (ps.length = l.length ∧ rightB ps = true ∧ mayA l = true)) := by
 unfold clamp_right.f
 by_cases c1 : (l.length : Int) = (ps.length : Int)
 ·rw [if_pos c1]
  have e1 : parent_Right.f ps = some (rightB ps) := by unfold parent_Right.f; rw [if_pos hp]
  rw [e1, Option.bind_some]
  have e2 : clamp_right_1.f l = some (l.any fun s => !mayS s) := by unfold clamp_right_1.f; rw [if_pos ⟨by omega, hf⟩]
  by_cases c2 : rightB ps = true
  ·rw [if_pos c2, e2, Option.bind_some, not_any]
   congr 1
   have c1' : ps.length = l.length := by omega
   rw [Bool.eq_iff_iff, decide_eq_true_eq]
   exact ⟨fun h => ⟨c1', c2, h⟩, fun h => h.2.2⟩
  ·rw [if_neg c2]
   congr 1
   rw [eq_comm, decide_eq_false_iff_not]
   exact fun h => c2 h.2.1
 ·rw [if_neg c1]
  congr 1
  rw [eq_comm, decide_eq_false_iff_not]
  exact fun h => c1 (by omega)
theorem clamp_ev (l : List Span) (ps : List Int) (hl : l.length ≤ 1000000) (hp : ps.length ≤ 1000000) (hf : ∀ s ∈ l, fitS s) : Ev (fun k => clamp_Starts.f k l ps) (clampB l ps) := by
 unfold clamp_Starts.f clampB
 refine Ev.bind (a := decide (ps.length = l.length ∧ rightB ps = true ∧ mayA l = true)) (Ev.const (cright_some l ps hl hp hf)) ?_
 by_cases c : ps.length = l.length ∧ rightB ps = true ∧ mayA l = true
 rotate_left
 ·rw [if_neg c]
  exact Ev.neg (by simpa using c) (Ev.now _)
 rw [if_pos c]
 refine Ev.pos (decide_eq_true c) (Ev.pos (by omega) (Ev.pos (by omega) (Ev.bind (a := rowL ps) (Ev.const (by unfold forest_Row.f; rw [if_pos hp])) ?_)))
 obtain ⟨c1, c2, c3⟩ := c
 have hrl := rowL_len c2
 have hin : ∀ it ∈ rowL ps, 0 ≤ it.f0 ∧ it.f0 < l.length ∧ it.f2 < l.length := by
  intro it hit
  unfold rowL at hit
  rw [if_pos c2] at hit
  have h := row_in _ _ _ it hit
  have h2 := inR_rd (rightB_in c2) h.1 h.2.1
  rw [h.2.2]
  omega
 have key : ∀ (d i : Nat) (out : List Int), (rowL ps).length - i = d → i ≤ (rowL ps).length → out.length = l.length → Ev (fun k => clamp_Starts.l0 k l out (rowL ps) ((rowL ps).length : Int) (i : Int)) (((rowL ps).drop i).foldl (clampStep l) out, true) := by
  intro d
  induction d with
  | zero =>
   intro i out hd hi ho
   refine Ev.succ ?_
   simp only [clamp_Starts.l0]
   refine Ev.neg (by omega) (Ev.cast (Ev.now _) ?_)
   rw [List.drop_of_length_le (by omega)]; rfl
  | succ d ih =>
   intro i out hd hi ho
   have hil : i < (rowL ps).length := by omega
   have h2 := hin _ (rdI_mem (rowL ps) i hil)
   have h := ih (i + 1) (clampStep l out (rdI (rowL ps) (i : Int))) (by omega) (by omega) (by rw [clampStep_len]; exact ho)
   rw [List.drop_eq_getElem_cons hil, List.foldl_cons, ← rdI_nat _ i hil]
   refine Ev.succ ?_
   simp only [clamp_Starts.l0]
   refine Ev.pos (by omega) (Ev.pos (by omega) (Ev.pos (by omega) (Ev.pos h2.1 (Ev.pos h2.2.1 (Ev.pos (by rw [ho]; exact h2.2.1) (Ev.bind (Ev.now _) ?_))))))
   rw [wrap_id (by omega) (by omega)]
   by_cases c : (rdI (rowL ps) (i : Int)).f2 ≥ 0
   ·have e : clampStep l out (rdI (rowL ps) (i : Int)) = (out.set (rdI (rowL ps) (i : Int)).f0.toNat (rd_T36 l (rdI (rowL ps) (i : Int)).f0).f6).set (rdI (rowL ps) (i : Int)).f0.toNat (clampS (rd_T36 l (rdI (rowL ps) (i : Int)).f0) (rd_T36 l (rdI (rowL ps) (i : Int)).f2) (rd (out.set (rdI (rowL ps) (i : Int)).f0.toNat (rd_T36 l (rdI (rowL ps) (i : Int)).f0).f6) (rdI (rowL ps) (i : Int)).f2)) := by
     unfold clampStep; simp only []; exact if_pos c
    rw [e] at h
    rw [e]
    refine Ev.pos c (Ev.pos c (Ev.pos h2.2.2 (Ev.pos (by rw [ho]; exact h2.2.2) (Ev.bind (Ev.const ?_) h))))
    unfold clamp_start.f clampS
    split
    ·rfl
    ·unfold clamp_between_int64.f; rfl
   ·have e : clampStep l out (rdI (rowL ps) (i : Int)) = out.set (rdI (rowL ps) (i : Int)).f0.toNat (rd_T36 l (rdI (rowL ps) (i : Int)).f0).f6 := by
     unfold clampStep; simp only []; exact if_neg c
    rw [e] at h
    rw [e]
    exact Ev.neg c h
 exact key (rowL ps).length 0 _ (by omega) (by omega) (by simp)
abbrev Ans := Int × List Span × List Int × List ByteArray × List Int × List Edge
def placesL (row : List Item) : Nat → List Int
 | 0 => List.replicate row.length 0
 | k + 1 => (placesL row k).set (rdI row (k : Int)).f0.toNat (k : Int)
theorem placesL_len (row : List Item) : ∀ k, (placesL row k).length = row.length
 | 0 => by simp [placesL]
 | k + 1 => by simp [placesL, placesL_len row k]
def byPlace (pl : List Int) (e : Edge) : Edge := ⟨e.f0, e.f1, e.f2, ⟨rd pl e.f3.f0, rd pl e.f3.f1⟩, e.f4⟩
def halfL (pl : List Int) (ch : List Edge) (i : Nat) : List Edge := (ch.take i).map (byPlace pl) ++ ch.drop i
theorem halfL_len (pl : List Int) (ch : List Edge) (i : Nat) : (halfL pl ch i).length = ch.length := by
 simp only [halfL, List.length_append, List.length_map, List.length_take, List.length_drop]; omega
theorem halfL_rd (pl : List Int) (ch : List Edge) (i : Nat) (h : i < ch.length) : rdE (halfL pl ch i) (i : Int) = ch[i] := by
 rw [rdE_get _ i (by rw [halfL_len]; exact h)]
 have h1 : ((ch.take i).map (byPlace pl)).length = i := by simp; omega
 simp only [halfL]
 rw [List.getElem_append_right (by omega)]
 simp only [h1, Nat.sub_self, List.getElem_drop, Nat.add_zero]
theorem halfL_set (pl : List Int) (ch : List Edge) (i : Nat) (h : i < ch.length) : (halfL pl ch i).set i (byPlace pl ch[i]) = halfL pl ch (i + 1) := by
 have h1 : ((ch.take i).map (byPlace pl)).length = i := by simp; omega
 simp only [halfL]
 rw [List.set_append_right _ _ (by omega), h1, Nat.sub_self, List.drop_eq_getElem_cons h, List.set_cons_zero, take_map_succ _ ch i h, List.append_assoc]
 rfl
theorem chain_ev (a : List Span) (b : List ByteArray) (c : List Int) (row : List Item) (e : List Edge) (ch : List Edge) (hb : ch.length ≤ 1000000) (hr : inRow row a.length) (hrl : row.length = a.length) (hf : ∀ s ∈ a, fitS s) (hal : a.length ≤ 1000000) (hcl : c.length ≤ 1000000) (hcs : (clampB a c).1.length = a.length)
  (hch : ∀ x ∈ ch, 0 ≤ x.f3.f0 ∧ x.f3.f0 < a.length ∧ 0 ≤ x.f3.f1 ∧ x.f3.f1 < a.length) (pl : List Int) (hpl : pl.length = a.length) :
  Ev (fun k => verdict_known_clamped.l1 k pl ch (ch.length : Int) 0 a b c row e) ((2, rowedS row a, rowedI row (clampB a c).1, b, [], ch.map (byPlace pl)) : Ans) := by
 have key : ∀ (d i : Nat), ch.length - i = d → i ≤ ch.length → Ev (fun k => verdict_known_clamped.l1 k pl (halfL pl ch i) (ch.length : Int) (i : Int) a b c row e) ((2, rowedS row a, rowedI row (clampB a c).1, b, [], ch.map (byPlace pl)) : Ans) := by
  intro d
  induction d with
  | zero =>
   intro i hd hi
   refine Ev.succ ?_
   simp only [verdict_known_clamped.l1]
   refine Ev.neg (by omega) (Ev.bind (clamp_ev a c hal hcl hf) (Ev.bind (rowedS_ev a b c row e a hr) (Ev.bind (rowedI_ev a b c row e (clampB a c).1 (by rw [hcs]; exact hr)) (Ev.cast (Ev.now _) ?_))))
   have h1 : halfL pl ch i = ch.map (byPlace pl) := by
    unfold halfL; rw [List.take_of_length_le (by omega), List.drop_of_length_le (by omega), List.append_nil]
   rw [h1]
  | succ d ih =>
   intro i hd hi
   have hil : i < ch.length := by omega
   have h := ih (i + 1) (by omega) (by omega)
   have hx := hch _ (List.getElem_mem hil)
   have hrd : rd_T72 (halfL pl ch i) (i : Int) = ch[i] := halfL_rd pl ch i hil
   have hset := halfL_set pl ch i hil
   refine Ev.succ ?_
   simp only [verdict_known_clamped.l1, hrd, halfL_len]
   refine Ev.pos (by omega) (Ev.pos (by omega) (Ev.pos (by omega) (Ev.pos hx.1 (Ev.pos (by omega) (Ev.pos hx.2.2.1 (Ev.pos (by omega) ?_))))))
   rw [wrap_id (by omega) (by omega), Int.toNat_natCast]
   rw [← hset] at h
   exact h
 have h := key ch.length 0 (by omega) (by omega)
 have h0 : halfL pl ch 0 = ch := by simp [halfL]
 rw [h0] at h
 exact h
theorem clamped_ev (a : List Span) (b : List ByteArray) (c : List Int) (row : List Item) (e : List Edge) (he : e.length ≤ 1000000000) (hr : inRow row a.length) (hrl : row.length = a.length) (hf : ∀ s ∈ a, fitS s) (hal : a.length ≤ 1000000) (hcl : c.length ≤ 1000000) (hcs : (clampB a c).1.length = a.length)
  (hch : ∀ x ∈ e, 0 ≤ x.f3.f0 ∧ x.f3.f0 < a.length ∧ 0 ≤ x.f3.f1 ∧ x.f3.f1 < a.length) :
  Ev (fun k => verdict_known_clamped.f k a b c row e) ((2, rowedS row a, rowedI row (clampB a c).1, b, [], (loopL (b.length : Int) e).map (byPlace (placesL row row.length))) : Ans) := by
 unfold verdict_known_clamped.f
 refine Ev.pos (by omega) (Ev.pos (by omega) ?_)
 have hchl := loop_len (b.length : Int) e
 have key : ∀ (d i : Nat), row.length - i = d → i ≤ row.length → Ev (fun k => verdict_known_clamped.l0 k (placesL row i) row (row.length : Int) (i : Int) a b c row e) ((2, rowedS row a, rowedI row (clampB a c).1, b, [], (loopL (b.length : Int) e).map (byPlace (placesL row row.length))) : Ans) := by
  intro d
  induction d with
  | zero =>
   intro i hd hi
   have ei : i = row.length := by omega
   subst ei
   refine Ev.succ ?_
   simp only [verdict_known_clamped.l0]
   exact Ev.neg (by omega) (Ev.bind (loop_ev _ e he) (chain_ev a b c row e _ (by omega) hr hrl hf hal hcl hcs (fun x hx => hch x (loop_mem hx)) _ (by rw [placesL_len]; exact hrl)))
  | succ d ih =>
   intro i hd hi
   have hil : i < row.length := by omega
   have h := ih (i + 1) (by omega) (by omega)
   have hx := hr.2 _ (rdI_mem row i hil)
   have hl := placesL_len row i
   refine Ev.succ ?_
   simp only [verdict_known_clamped.l0]
   refine Ev.pos (by omega) (Ev.pos (by omega) (Ev.pos (by omega) (Ev.pos hx.1 (Ev.pos (by rw [hl, hrl]; exact hx.2) ?_))))
   rw [wrap_id (by omega) (by omega)]
   exact h
 have h := key row.length 0 (by omega) (by omega)
 rw [show ((row.length : Int)).toNat = row.length by omega]
 exact h
theorem adjusted_ev (a : List Span) (b : List ByteArray) (c : List Int) (row : List Item) (e : List Edge) (he : e.length ≤ 1000000000) (hr : inRow row a.length) (hf : ∀ s ∈ a, fitS s) (hal : a.length ≤ 1000000) (ho : (solveB (b.length : Int) e).1.length ≤ 1000000) (hst : (startsB a (solveB (b.length : Int) e).1).1.length = a.length) :
  Ev (fun k => verdict_known_adjusted.f k a b c row e) ((1, rowedS row a, rowedI row (startsB a (solveB (b.length : Int) e).1).1, b, (solveB (b.length : Int) e).1, []) : Ans) := by
 unfold verdict_known_adjusted.f
 refine Ev.bind (solve_ev _ e he) (Ev.bind (a := startsB a (solveB (b.length : Int) e).1) (Ev.const ?_) (Ev.bind (rowedS_ev a b c row e a hr) (Ev.bind (rowedI_ev a b c row e _ (by rw [hst]; exact hr)) (Ev.now _))))
 unfold shift_Starts.f
 rw [if_pos ⟨hf, by omega, by omega⟩]
def edgesR (r : List Span) : List Edge := edgesB mayS r (numsL r) (pairsB r (parL r))
def rowR (r : List Span) : List Item := rowL (parL r)
def solveR (r : List Span) : List Int × Bool := solveB ((hostsB r).length : Int) (edgesR r)
def ansL (r : List Span) : Ans :=
 if r.length = 0 then (0, [], [], [], [], []) else if greatL r = true then (3, r, r.map (·.f6), [], [], []) else
 if (solveR r).2 = true then (1, rowedS (rowR r) r, rowedI (rowR r) (startsL r (solveR r).1), hostsB r, (solveR r).1, [])
 else (2, rowedS (rowR r) r, rowedI (rowR r) (clampF r (rowR r)), hostsB r, [], (loopL ((hostsB r).length : Int) (edgesR r)).map (byPlace (placesL (rowR r) (rowR r).length)))
theorem large_ev (r : List Span) (hl : r.length ≤ 1000000) : Ev (fun k => verdict_Of.l0 k r [] r (r.length : Int) 0) ((3, r, r.map (·.f6), [], [], []) : Ans) := by
 have key : ∀ (d i : Nat), r.length - i = d → i ≤ r.length → Ev (fun k => verdict_Of.l0 k r ((r.take i).map (·.f6)) r (r.length : Int) (i : Int)) ((3, r, r.map (·.f6), [], [], []) : Ans) := by
  intro d
  induction d with
  | zero =>
   intro i hd hi
   refine Ev.succ ?_
   simp only [verdict_Of.l0]
   refine Ev.neg (by omega) (Ev.cast (Ev.now _) ?_)
   rw [List.take_of_length_le (by omega)]
  | succ d ih =>
   intro i hd hi
   have hil : i < r.length := by omega
   have h := ih (i + 1) (by omega) (by omega)
   have hlt : ((r.take i).map (·.f6)).length = i := by simp; omega
   have hrd : rd_T36 r (i : Int) = r[i] := rdS_nat r i hil
   rw [take_map_succ _ r i hil] at h
   refine Ev.succ ?_
   simp only [verdict_Of.l0, hlt, hrd]
   refine Ev.pos (by omega) (Ev.pos (by omega) (Ev.pos (by omega) (Ev.pos (by omega) ?_)))
   rw [wrap_id (by omega) (by omega)]
   exact h
 have h := key r.length 0 (by omega) (by omega)
 simpa using h
theorem fit_wf {s : Span} (h : wf36 s) : fitR s := by
 refine ⟨⟨h.2.1, h.2.2.2.2.1, h.2.2.2.2.2.1⟩, ?_⟩
 have := h.2.2.2.1
 simp [Lit.wf, IntKind.min, IntKind.max, IntKind.signed, IntKind.bits] at this
 exact this.1
theorem fitP_wf {s : Span} (h : wf36 s) : fitP s := ⟨h.2.1, h.2.2.1⟩
theorem rowR_in (r : List Span) (hl : r.length ≤ 1000000) : inRow (rowR r) r.length ∧ (rowR r).length = r.length := by
 have hR := parL_right r
 have h1 := rowL_len hR
 rw [parL_length] at h1
 refine ⟨⟨by unfold rowR; omega, fun it hit => ?_⟩, h1⟩
 unfold rowR rowL at hit
 rw [if_pos hR] at hit
 have h2 := row_in _ _ _ it hit
 rw [parL_length] at h2
 exact ⟨h2.1, h2.2.1⟩
theorem edgesR_in (r : List Span) : ∀ x ∈ edgesR r, 0 ≤ x.f3.f0 ∧ x.f3.f0 < r.length ∧ 0 ≤ x.f3.f1 ∧ x.f3.f1 < r.length := by
 intro x hx
 obtain ⟨p, hp, h⟩ := edges_from hx (fun p hp => pairsP_mem hp)
 have hm := pairsP_mem hp
 rcases h with h | h <;> (rw [h]; exact ⟨hm.1, hm.2.1, hm.2.2.1, hm.2.2.2.1⟩)
theorem edgesR_len (r : List Span) : (edgesR r).length ≤ 2 * r.length := by
 have h1 := edgesB_length mayS r (numsL r) (pairsB r (parL r))
 have h2 := pairsB_length r (parL r)
 unfold edgesR
 omega
theorem solveR_starts {r : List Span} (hm : mayA r = true) (h : (solveR r).2 = true) : startsB r (solveR r).1 = (startsL r (solveR r).1, true) ∧ (solveR r).1.length = (hostsB r).length := by
 have hs : solveB ((hostsB r).length : Int) (edgesR r) = ((solveR r).1, true) := by rw [← h]; rfl
 obtain ⟨n0, n32, hin, hsm, ho, ho2, hol, hwi, hed⟩ := solved_facts hs
 rw [Int.toNat_natCast] at hol hwi
 refine ⟨?_, hol⟩
 unfold startsB
 rw [if_pos ⟨hm, hol, any_beyond hol hwi⟩]
theorem of_ev (l : List Span) (t : Int) (hl : l.length ≤ 100000) (hw : ∀ x ∈ l, wf36 x) : Ev (fun k => verdict_Of.f k l t) (ansL (ofD l t)) := by
 have hc := ofD_counts l t
 have hrw : ∀ x ∈ ofD l t, wf36 x := fun x hx => hw x (hc.mem x hx).1
 have hrl := ofD_length l t
 have hm : mayA (ofD l t) = true := by
  unfold mayA
  rw [List.all_eq_true]
  intro x hx
  have h := (hc.mem x hx).2
  unfold okS at h
  rw [Bool.and_eq_true] at h
  exact h.2
 generalize hr : ofD l t = r at *
 have hf : ∀ s ∈ r, fitS s := fun s hs => (fit_wf (hrw s hs)).1
 unfold verdict_Of.f
 refine Ev.bind (a := r) (Ev.const (by unfold dedupe_Of.f; rw [if_pos ⟨by omega, fun x hx => (fit_wf (hw x hx)).1⟩, hr])) ?_
 unfold ansL
 by_cases c0 : r.length = 0
 ·rw [if_pos c0]
  exact Ev.pos (by omega) (Ev.now _)
 rw [if_neg c0]
 refine Ev.neg (by omega) (Ev.bind (a := greatL r) (Ev.const (by unfold hosts_Great.f; rw [if_pos ⟨by omega, hf⟩])) ?_)
 by_cases c1 : greatL r = true
 ·rw [if_pos c1]
  exact Ev.pos c1 (large_ev r (by omega))
 rw [if_neg c1]
 have hpl := parL_length r
 obtain ⟨hri, hrr⟩ := rowR_in r (by omega)
 have hel := edgesR_len r
 refine Ev.neg c1 (Ev.bind (a := (r, hostsB r, parL r, rowR r, edgesR r)) (Ev.const ?_) ?_)
 ·unfold verdict_know.f
  have e1 : dedupe_Hosts.f r = some (hostsB r) := by unfold dedupe_Hosts.f; rw [if_pos (by omega)]
  have e2 : parent_Of.f r = some (parL r) := by unfold parent_Of.f; rw [if_pos ⟨by omega, fun x hx => fitP_wf (hrw x hx)⟩]
  have e3 : forest_Row.f (parL r) = some (rowR r) := by unfold forest_Row.f; rw [if_pos (by omega)]; rfl
  have e4 : rpc_Of.f r (parL r) = some (pairsB r (parL r)) := by unfold rpc_Of.f; rw [if_pos ⟨by omega, hf, by omega⟩]
  have h2 := pairsB_length r (parL r)
  have e5 : bound_Of.f r (pairsB r (parL r)) = some (edgesR r) := by unfold bound_Of.f; rw [if_pos ⟨by omega, hf, by omega⟩]; rfl
  rw [e1, Option.bind_some, e2, Option.bind_some, e3, Option.bind_some, e4, Option.bind_some, e5, Option.bind_some]
 ·simp only []
  refine Ev.bind (solve_ev _ (edgesR r) (by omega)) ?_
  by_cases c2 : (solveR r).2 = true
  ·obtain ⟨hs, hol⟩ := solveR_starts hm c2
   have hhl := hostsB_length r
   have hsl : (startsL r (solveR r).1).length = r.length := by simp [startsL]
   rw [if_pos c2]
   refine Ev.pos c2 (Ev.bind (adjusted_ev r (hostsB r) (parL r) (rowR r) (edgesR r) (by omega) hri hf (by omega) ?_ ?_) (Ev.cast (Ev.now _) ?_))
   ·show (solveR r).1.length ≤ 1000000
    omega
   ·show (startsB r (solveR r).1).1.length = r.length
    rw [hs]; exact hsl
   ·show ((1, rowedS (rowR r) r, rowedI (rowR r) (startsB r (solveR r).1).1, hostsB r, (solveR r).1, []) : Ans) = _
    rw [hs]
  ·rw [if_neg c2]
   have hcb : clampB r (parL r) = (clampF r (rowR r), true) := by
    unfold clampB
    rw [if_pos ⟨hpl, parL_right r, hm⟩]; rfl
   refine Ev.neg c2 (Ev.bind (clamped_ev r (hostsB r) (parL r) (rowR r) (edgesR r) (by omega) hri hrr hf (by omega) (by omega) (by rw [hcb]; exact clampF_len _ _) (edgesR_in r)) (Ev.cast (Ev.now _) ?_))
   rw [hcb]
end Go.Proofs.YtgknjgionicncaaGreat.L
namespace Go.Proofs.YtgknjgionicncaaGreat.L
open Go.RowKit Go.Proofs.YtgknjgionicncaaGreat.Q Go.Proofs.YtgknjgionicncaaGreatW.PrintWords Go.Proofs.YtgknjgionicncaaGreatW.PrintLast Go.Proofs.YtgknjgionicncaaGreatW.PrintMore Go.Proofs.YtgknjgionicncaaGreatW.Lib
set_option linter.unusedVariables false
theorem great_ev (l : List Span) : ∃ b, Ev (fun k => merkhetlaw04_Great.f k l) b ∧ (b = false → l.length ≤ 60 ∧ ∀ x ∈ l, x.f4.size ≤ 100 ∧ x.f5.size ≤ 100) := by
 unfold merkhetlaw04_Great.f
 by_cases h : (l.length : Int) > 60
 ·exact ⟨true, Ev.pos h (Ev.now _), by simp⟩
 ·have key : ∀ (d i : Nat), l.length - i = d → i ≤ l.length → ∃ b, Ev (fun k => merkhetlaw04_Great.l0 k l (l.length : Int) (i : Int)) b ∧ (b = false → ∀ x ∈ l.drop i, x.f4.size ≤ 100 ∧ x.f5.size ≤ 100) := by
   intro d
   induction d with
   | zero =>
    intro i hd hi
    refine ⟨false, Ev.succ ?_, fun _ x hx => ?_⟩
    ·simp only [merkhetlaw04_Great.l0]
     exact Ev.neg (by omega) (Ev.now _)
    ·rw [List.drop_of_length_le (by omega)] at hx; cases hx
   | succ d ih =>
    intro i hd hi
    have hil : i < l.length := by omega
    obtain ⟨b, hb, hb2⟩ := ih (i + 1) (by omega) (by omega)
    by_cases h4 : ((l[i].f4.size : Nat) : Int) > 100
    ·refine ⟨true, Ev.succ ?_, by simp⟩
     simp only [merkhetlaw04_Great.l0, rdS_nat l i hil]
     exact Ev.pos (by omega) (Ev.pos (by omega) (Ev.pos (by omega) (Ev.pos h4 (Ev.now _))))
    ·by_cases h5 : ((l[i].f5.size : Nat) : Int) > 100
     ·refine ⟨true, Ev.succ ?_, by simp⟩
      simp only [merkhetlaw04_Great.l0, rdS_nat l i hil]
      exact Ev.pos (by omega) (Ev.pos (by omega) (Ev.pos (by omega) (Ev.neg h4 (Ev.pos h5 (Ev.now _)))))
     ·refine ⟨b, Ev.succ ?_, fun e x hx => ?_⟩
      ·simp only [merkhetlaw04_Great.l0, rdS_nat l i hil]
       refine Ev.pos (by omega) (Ev.pos (by omega) (Ev.pos (by omega) (Ev.neg h4 (Ev.neg h5 ?_))))
       rw [wrap_id (by omega) (by omega)]
       exact hb
      ·rw [List.drop_eq_getElem_cons hil] at hx
       rcases List.mem_cons.1 hx with rfl | hx
       ·omega
       ·exact hb2 e x hx
  obtain ⟨b, hb, hb2⟩ := key l.length 0 (by omega) (by omega)
  refine ⟨b, Ev.neg h hb, fun e => ⟨by omega, fun x hx => hb2 e x (by simpa using hx)⟩⟩
end Go.Proofs.YtgknjgionicncaaGreat.L
namespace Go.Proofs.YtgknjgionicncaaGreat.L
open Go.RowKit Go.Proofs.YtgknjgionicncaaGreat.Q Go.Proofs.YtgknjgionicncaaGreatW.PrintWords Go.Proofs.YtgknjgionicncaaGreatW.PrintLast Go.Proofs.YtgknjgionicncaaGreatW.PrintMore Go.Proofs.YtgknjgionicncaaGreatW.MapB Go.Proofs.YtgknjgionicncaaGreatW.Lib
set_option linter.unusedVariables false
theorem hostsB_fold' (l : List S36) : (l.map (·.f4)).foldl (insH cmpB) [] = hostsB l := by
 obtain ⟨h1, h2, _⟩ := foldH cmpB_is (l.map (·.f4)) [] List.Pairwise.nil
 refine h1.one cmpB_is (hostsB_rise l) fun x => ?_
 rw [h2, hostsB_mem, List.mem_map]
 simp
end Go.Proofs.YtgknjgionicncaaGreat.L
namespace Go.Proofs.YtgknjgionicncaaGreat.L
open Go.RowKit Go.Proofs.YtgknjgionicncaaGreat.Q Go.Proofs.YtgknjgionicncaaGreat.X Go.Proofs.YtgknjgionicncaaGreat.V Go.Proofs.YtgknjgionicncaaGreatW.PrintWords Go.Proofs.YtgknjgionicncaaGreatW.PrintLast Go.Proofs.YtgknjgionicncaaGreatW.PrintMore Go.Proofs.YtgknjgionicncaaGreatW.Lib
set_option linter.unusedVariables false
theorem ansL_len (r : List Span) (hl : r.length ≤ 100000) : (ansL r).2.1.length ≤ 1000000 ∧ (ansL r).2.2.1.length ≤ 1000000 ∧ (ansL r).2.2.2.1.length ≤ 1000000 ∧ (ansL r).2.2.2.2.1.length ≤ 1000000 ∧ (ansL r).2.2.2.2.2.length ≤ 1000000 := by
 have hrow := (rowR_in r (by omega)).2
 have hh := hostsB_length r
 unfold ansL
 split
 ·simp
 ·split
  ·simp only [List.length_map, List.length_nil]; omega
  ·split
   ·rename_i c
    have h0 : (solveR r).1.length ≤ 32 := by
     have hs : solveB ((hostsB r).length : Int) (edgesR r) = ((solveR r).1, true) := by rw [← c]; rfl
     obtain ⟨n0, n32, hin, hsm, ho, ho2, hol, hwi, hed⟩ := solved_facts hs
     omega
    simp only [rowedS, rowedI, List.length_map, List.length_nil]; omega
   ·have hc := loop_len ((hostsB r).length : Int) (edgesR r)
    simp only [rowedS, rowedI, List.length_map, List.length_nil]; omega
def exT : Span := ⟨1, 1, 0, 0, ⟨#[97]⟩, ⟨#[98]⟩, 3, 0⟩
theorem exT_of : ofD [exT] 1 = [exT] := by
 unfold ofD
 rw [sortL_eq]
 kernel_rfl
theorem exT_ans : (ansL [exT]).1 = 1 ∧ (ansL [exT]).2.2.1 = [3] ∧ (ansL [exT]).2.2.2.2.1 = [0] := by
 have hh : hostsB [exT] = [⟨#[97]⟩] := by
  rw [← hostsB_fold']
  kernel_rfl
 have hn : numsL [exT] = [0] := by
  unfold numsL
  rw [hh]
  kernel_rfl
 have hp : parL [exT] = [-1] := by kernel_rfl
 have he : edgesR [exT] = [] := by
  unfold edgesR
  rw [hp]
  have h1 : pairsB [exT] [-1] = [] := by kernel_rfl
  rw [h1]; rfl
 have hs : solveR [exT] = ([0], true) := by
  unfold solveR
  rw [hh, he]
  kernel_rfl
 have hr : rowR [exT] = [⟨0, 0, -1⟩] := by
  unfold rowR
  rw [hp]
  kernel_rfl
 have hst : startsL [exT] [0] = [3] := by
  unfold startsL
  rw [hn]
  kernel_rfl
 have hg : ¬ greatL [exT] = true := by
  unfold greatL
  rw [hh]
  decide
 unfold ansL
 rw [if_neg (by decide), if_neg hg, if_pos (by rw [hs]), hs, hr, hst]
 exact ⟨rfl, rfl, rfl⟩
theorem exN_ans (t : Int) : (ansL (ofD [] t)).1 = 0 := by
 have h := ofD_length [] t
 unfold ansL
 rw [if_pos (by simp at h; simp [h])]
theorem exT_wf : wf36 exT := ⟨by decide, by decide, by decide, by decide, by decide, by decide, by decide, by decide⟩
theorem eq_gen {α : Type} (F : Nat → Int → Option Bool) (a b : List α) (hl : a.length = b.length) (hend : Ev (fun k => F k (a.length : Int)) true)
  (hne : ∀ (i : Nat) (h : i < a.length), a[i] ≠ b[i]'(by omega) → Ev (fun k => F k (i : Int)) false)
  (heq : ∀ (i : Nat) (h : i < a.length) (r : Bool), a[i] = b[i]'(by omega) → Ev (fun k => F k ((i + 1 : Nat) : Int)) r → Ev (fun k => F k (i : Int)) r) :
  ∃ r, Ev (fun k => F k 0) r ∧ (r = true ↔ a = b) := by
 have key : ∀ (d i : Nat), a.length - i = d → i ≤ a.length → ∃ r, Ev (fun k => F k (i : Int)) r ∧ (r = true ↔ a.drop i = b.drop i) := by
  intro d
  induction d with
  | zero =>
   intro i hd hi
   obtain rfl : i = a.length := by omega
   refine ⟨true, hend, ?_⟩
   rw [List.drop_of_length_le (by omega), List.drop_of_length_le (by omega)]
   simp
  | succ d ih =>
   intro i hd hi
   have hil : i < a.length := by omega
   have hib : i < b.length := by omega
   rw [List.drop_eq_getElem_cons hil, List.drop_eq_getElem_cons hib, List.cons.injEq]
   by_cases e : a[i] = b[i]
   ·obtain ⟨r, h1, h2⟩ := ih (i + 1) (by omega) (by omega)
    exact ⟨r, heq i hil r e h1, by rw [h2]; exact ⟨fun h => ⟨e, h⟩, fun h => h.2⟩⟩
   ·exact ⟨false, hne i hil e, by simp [e]⟩
 obtain ⟨r, h1, h2⟩ := key _ 0 rfl (by omega)
 exact ⟨r, h1, by simpa using h2⟩
theorem eqS_ev (a b : List Span) (ha : a.length ≤ 1000000000) : ∃ r, Ev (fun k => api_Span_81.f k a b) r ∧ (r = true ↔ a = b) := by
 unfold api_Span_81.f
 by_cases h : (a.length : Int) = (b.length : Int)
 ·obtain ⟨r, h1, h2⟩ := eq_gen (fun k i => api_Span_81.l0 k a b (a.length : Int) i) a b (by omega) (by
   refine Ev.succ ?_
   simp only [api_Span_81.l0]
   exact Ev.neg (by omega) (Ev.now _)) (by
   intro i hi e
   have hib : i < b.length := by omega
   refine Ev.succ ?_
   simp only [api_Span_81.l0, rdS_nat a i hi, rdS_nat b i hib]
   refine Ev.pos (by omega) (Ev.pos (by omega) (Ev.pos (by omega) (Ev.pos (by omega) (Ev.pos ?_ (Ev.now _)))))
   generalize a[i] = s at *
   generalize b[i] = t at *
   apply Classical.byContradiction
   intro hc
   apply e
   simp only [Bool.not_eq_true, Bool.or_eq_false_iff, Bool.not_eq_false', beq_iff_eq, text_eq] at hc
   obtain ⟨e0, e1, e2, e3, e4, e5, e6, e7⟩ := hc
   cases s; cases t
   simp_all) (by
   intro i hi r e hr
   have hib : i < b.length := by omega
   refine Ev.succ ?_
   simp only [api_Span_81.l0, rdS_nat a i hi, rdS_nat b i hib]
   refine Ev.pos (by omega) (Ev.pos (by omega) (Ev.pos (by omega) (Ev.pos (by omega) (Ev.neg ?_ ?_))))
   ·rw [e]; simp
   ·rw [wrap_id (by omega) (by omega)]; exact hr)
  exact ⟨r, Ev.pos h h1, h2⟩
 ·exact ⟨false, Ev.neg h (Ev.now _), by simp only [Bool.false_eq_true, false_iff]; intro e; exact h (by rw [e])⟩
theorem eqI_ev (a b : List Int) (ha : a.length ≤ 1000000000) : ∃ r, Ev (fun k => slices_Equal_int64_int64.f k a b) r ∧ (r = true ↔ a = b) := by
 unfold slices_Equal_int64_int64.f
 by_cases h : (a.length : Int) = (b.length : Int)
 ·have rdn : ∀ (l : List Int) (i : Nat) (h : i < l.length), rd l (i : Int) = l[i] := fun l i h => by simp [rd, List.getD, h]
  obtain ⟨r, h1, h2⟩ := eq_gen (fun k i => slices_Equal_int64_int64.l0 k a b (a.length : Int) i) a b (by omega) (by
   refine Ev.succ ?_
   simp only [slices_Equal_int64_int64.l0]
   exact Ev.neg (by omega) (Ev.now _)) (by
   intro i hi e
   have hib : i < b.length := by omega
   refine Ev.succ ?_
   simp only [slices_Equal_int64_int64.l0, rdn a i hi, rdn b i hib]
   exact Ev.pos (by omega) (Ev.pos (by omega) (Ev.pos (by omega) (Ev.pos (by omega) (Ev.neg e (Ev.now _)))))) (by
   intro i hi r e hr
   have hib : i < b.length := by omega
   refine Ev.succ ?_
   simp only [slices_Equal_int64_int64.l0, rdn a i hi, rdn b i hib]
   refine Ev.pos (by omega) (Ev.pos (by omega) (Ev.pos (by omega) (Ev.pos (by omega) (Ev.pos e ?_))))
   rw [wrap_id (by omega) (by omega)]; exact hr)
  exact ⟨r, Ev.pos h h1, h2⟩
 ·exact ⟨false, Ev.neg h (Ev.now _), by simp only [Bool.false_eq_true, false_iff]; intro e; exact h (by rw [e])⟩
theorem eqT_ev (a b : List ByteArray) (ha : a.length ≤ 1000000000) : ∃ r, Ev (fun k => slices_Equal_string_string.f k a b) r ∧ (r = true ↔ a = b) := by
 unfold slices_Equal_string_string.f
 by_cases h : (a.length : Int) = (b.length : Int)
 ·have rdn : ∀ (l : List ByteArray) (i : Nat) (h : i < l.length), rdOf ByteArray.empty l (i : Int) = l[i] := fun l i h => by simp [rdOf, List.getD, h]
  obtain ⟨r, h1, h2⟩ := eq_gen (fun k i => slices_Equal_string_string.l0 k a b (a.length : Int) i) a b (by omega) (by
   refine Ev.succ ?_
   simp only [slices_Equal_string_string.l0]
   exact Ev.neg (by omega) (Ev.now _)) (by
   intro i hi e
   have hib : i < b.length := by omega
   refine Ev.succ ?_
   simp only [slices_Equal_string_string.l0, rdn a i hi, rdn b i hib]
   exact Ev.pos (by omega) (Ev.pos (by omega) (Ev.pos (by omega) (Ev.pos (by omega) (Ev.neg (fun h => e (text_eq.1 h)) (Ev.now _)))))) (by
   intro i hi r e hr
   have hib : i < b.length := by omega
   refine Ev.succ ?_
   simp only [slices_Equal_string_string.l0, rdn a i hi, rdn b i hib]
   refine Ev.pos (by omega) (Ev.pos (by omega) (Ev.pos (by omega) (Ev.pos (by omega) (Ev.pos (text_eq.2 e) ?_))))
   rw [wrap_id (by omega) (by omega)]; exact hr)
  exact ⟨r, Ev.pos h h1, h2⟩
 ·exact ⟨false, Ev.neg h (Ev.now _), by simp only [Bool.false_eq_true, false_iff]; intro e; exact h (by rw [e])⟩
theorem eqE_ev (a b : List Edge) (ha : a.length ≤ 1000000000) : ∃ r, Ev (fun k => api_Edge_83.f k a b) r ∧ (r = true ↔ a = b) := by
 unfold api_Edge_83.f
 by_cases h : (a.length : Int) = (b.length : Int)
 ·have rdn : ∀ (l : List Edge) (i : Nat) (h : i < l.length), rd_T72 l (i : Int) = l[i] := fun l i h => rdE_get l i h
  obtain ⟨r, h1, h2⟩ := eq_gen (fun k i => api_Edge_83.l0 k a b (a.length : Int) i) a b (by omega) (by
   refine Ev.succ ?_
   simp only [api_Edge_83.l0]
   exact Ev.neg (by omega) (Ev.now _)) (by
   intro i hi e
   have hib : i < b.length := by omega
   refine Ev.succ ?_
   simp only [api_Edge_83.l0, rdn a i hi, rdn b i hib]
   refine Ev.pos (by omega) (Ev.pos (by omega) (Ev.pos (by omega) (Ev.pos (by omega) (Ev.pos ?_ (Ev.now _)))))
   generalize a[i] = s at *
   generalize b[i] = t at *
   apply Classical.byContradiction
   intro hc
   apply e
   simp only [Bool.not_eq_true, Bool.or_eq_false_iff, Bool.not_eq_false', beq_iff_eq] at hc
   obtain ⟨e0, e1, e2, ⟨e3, e4⟩, e5⟩ := hc
   obtain ⟨s0, s1, s2, ⟨s3, s4⟩, s5⟩ := s
   obtain ⟨t0, t1, t2, ⟨t3, t4⟩, t5⟩ := t
   simp_all) (by
   intro i hi r e hr
   have hib : i < b.length := by omega
   refine Ev.succ ?_
   simp only [api_Edge_83.l0, rdn a i hi, rdn b i hib]
   refine Ev.pos (by omega) (Ev.pos (by omega) (Ev.pos (by omega) (Ev.pos (by omega) (Ev.neg ?_ ?_))))
   ·rw [e]; simp
   ·rw [wrap_id (by omega) (by omega)]; exact hr)
  exact ⟨r, Ev.pos h h1, h2⟩
 ·exact ⟨false, Ev.neg h (Ev.now _), by simp only [Bool.false_eq_true, false_iff]; intro e; exact h (by rw [e])⟩
def smallA (a : Ans) : Prop := a.2.1.length ≤ 1000000000 ∧ a.2.2.1.length ≤ 1000000000 ∧ a.2.2.2.1.length ≤ 1000000000 ∧ a.2.2.2.2.1.length ≤ 1000000000 ∧ a.2.2.2.2.2.length ≤ 1000000000
theorem same_ans (a b : Ans) (h : smallA a) : ∃ r, Ev (fun k => verdict_same.f k a.1 a.2.1 a.2.2.1 a.2.2.2.1 a.2.2.2.2.1 a.2.2.2.2.2 b.1 b.2.1 b.2.2.1 b.2.2.2.1 b.2.2.2.2.1 b.2.2.2.2.2) r ∧ (r = true ↔ a = b) := by
 obtain ⟨a0, a1, a2, a3, a4, a5⟩ := a
 obtain ⟨b0, b1, b2, b3, b4, b5⟩ := b
 obtain ⟨h1, h2, h3, h4, h5⟩ := h
 simp only [Prod.mk.injEq]
 unfold verdict_same.f
 by_cases c0 : a0 = b0
 rotate_left
 ·exact ⟨false, Ev.neg c0 (Ev.now _), by simp [c0]⟩
 obtain ⟨r1, e1, i1⟩ := eqS_ev a1 b1 h1
 cases r1 with
 | false => exact ⟨false, Ev.pos c0 (Ev.bind e1 (Ev.neg (by simp) (Ev.now _))), by simp at i1; simp [i1]⟩
 | true =>
  obtain ⟨r2, e2, i2⟩ := eqI_ev a2 b2 h2
  cases r2 with
  | false => exact ⟨false, Ev.pos c0 (Ev.bind e1 (Ev.pos rfl (Ev.bind e2 (Ev.neg (by simp) (Ev.now _))))), by simp at i2; simp [i2]⟩
  | true =>
   obtain ⟨r3, e3, i3⟩ := eqT_ev a3 b3 h3
   cases r3 with
   | false => exact ⟨false, Ev.pos c0 (Ev.bind e1 (Ev.pos rfl (Ev.bind e2 (Ev.pos rfl (Ev.bind e3 (Ev.neg (by simp) (Ev.now _))))))), by simp at i3; simp [i3]⟩
   | true =>
    obtain ⟨r4, e4, i4⟩ := eqI_ev a4 b4 h4
    cases r4 with
    | false => exact ⟨false, Ev.pos c0 (Ev.bind e1 (Ev.pos rfl (Ev.bind e2 (Ev.pos rfl (Ev.bind e3 (Ev.pos rfl (Ev.bind e4 (Ev.neg (by simp) (Ev.now _))))))))), by simp at i4; simp [i4]⟩
    | true =>
     obtain ⟨r5, e5, i5⟩ := eqE_ev a5 b5 h5
     refine ⟨r5, Ev.pos c0 (Ev.bind e1 (Ev.pos rfl (Ev.bind e2 (Ev.pos rfl (Ev.bind e3 (Ev.pos rfl (Ev.bind e4 (Ev.pos rfl (Ev.bind e5 (Ev.now _)))))))))), ?_⟩
     rw [i5]
     exact ⟨fun h => ⟨c0, i1.1 rfl, i2.1 rfl, i3.1 rfl, i4.1 rfl, h⟩, fun h => h.2.2.2.2.2⟩
theorem right_ev (a : Ans) (h : smallA a) (hl : a.2.1.length ≤ 100000) (hw : ∀ x ∈ a.2.1, wf36 x) : ∃ r, Ev (fun k => verdict_Right.f k a.1 a.2.1 a.2.2.1 a.2.2.2.1 a.2.2.2.2.1 a.2.2.2.2.2) r ∧ (r = true ↔ (a.1 = 1 ∨ a.1 = 2) ∧ a.2.1 ≠ [] ∧ a = ansL (ofD a.2.1 (rd_T36 a.2.1 0).f0)) := by
 have j : ∀ t : Bool, t = (((a.2.1.length : Int)) == 0) → ∃ r, Ev (fun k => verdict_Right.j0 k t a.1 a.2.1 a.2.2.1 a.2.2.2.1 a.2.2.2.2.1 a.2.2.2.2.2) r ∧ (r = true ↔ a.2.1 ≠ [] ∧ a = ansL (ofD a.2.1 (rd_T36 a.2.1 0).f0)) := by
  intro t ht
  by_cases c : a.2.1.length = 0
  ·refine ⟨false, Ev.succ ?_, ?_⟩
   ·simp only [verdict_Right.j0]
    exact Ev.pos (by rw [ht]; simp [c]) (Ev.now _)
   ·simp [List.length_eq_zero_iff.1 c]
  ·obtain ⟨r, e, i⟩ := same_ans a (ansL (ofD a.2.1 (rd_T36 a.2.1 0).f0)) h
   refine ⟨r, Ev.succ ?_, ?_⟩
   ·simp only [verdict_Right.j0]
    exact Ev.neg (by rw [ht]; simpa using c) (Ev.pos (by omega) (Ev.bind (of_ev _ _ hl hw) (Ev.bind e (Ev.now _))))
   ·rw [i]
    exact ⟨fun h => ⟨fun e => c (by rw [e]; rfl), h⟩, fun h => h.2⟩
 unfold verdict_Right.f
 obtain ⟨r, e, i⟩ := j _ rfl
 by_cases c1 : a.1 = 1
 ·exact ⟨r, Ev.pos c1 e, by rw [i]; simp [c1]⟩
 by_cases c2 : a.1 = 2
 ·exact ⟨r, Ev.neg c1 (Ev.pos c2 e), by rw [i]; simp [c2]⟩
 ·refine ⟨false, Ev.neg c1 (Ev.neg c2 (Ev.succ ?_)), by simp [c1, c2]⟩
  simp only [verdict_Right.j0]
  exact Ev.pos trivial (Ev.now _)
theorem ofD_shuffled (l r : List Span) (t : Int) (h : r.Perm (ofD l t)) : ofD r t = ofD l t := by
 have hc := ofD_counts l t
 have hc' : Counts cmpS (·.f1) (okS t) r (ofD l t) := ⟨hc.ids, fun x hx => ⟨h.mem_iff.2 hx, (hc.mem x hx).2⟩, fun y hy _ => ⟨y, h.mem_iff.1 hy, rfl, by
  have := (cmpS_is.zero y y).2 rfl
  omega⟩⟩
 exact (hc'.one cmpS_is (ofD_counts r t) (ofD_sorted l t) (ofD_sorted r t) (fun x => Iff.rfl)).symm
theorem rowedS_perm (r : List Span) : (rowedS (rowR r) r).Perm r := by
 have h := rowL_places (parL_right r)
 rw [parL_length] at h
 have h2 := h.map (fun p => rd_T36 r p)
 rw [List.map_map] at h2
 refine (List.Perm.trans (List.Perm.of_eq rfl) h2).trans ?_
 rw [List.map_map]
 refine List.Perm.of_eq ?_
 refine List.ext_getElem (by simp) fun i h1 h3 => ?_
 simp only [List.getElem_map, List.getElem_range, Function.comp_apply]
 exact rdS_nat r i h3
end Go.Proofs.YtgknjgionicncaaGreat.L
namespace Go.Proofs.YtgknjgionicncaaGreat.Pure
set_option linter.unusedVariables false
open Go.RowKit Go.Proofs.YtgknjgionicncaaGreat.Q Go.Proofs.YtgknjgionicncaaGreat.X Go.Proofs.YtgknjgionicncaaGreat.V Go.Proofs.YtgknjgionicncaaGreat.R Go.Proofs.YtgknjgionicncaaGreatW.PrintWords Go.Proofs.YtgknjgionicncaaGreatW.PrintLast Go.Proofs.YtgknjgionicncaaGreatW.PrintMore Go.Proofs.YtgknjgionicncaaGreatW.Lib Go.Proofs.YtgknjgionicncaaGreat.L
theorem fixed20 : Ev (fun k => merkhetlaw20_fixed.f k) true := by
 unfold merkhetlaw20_fixed.f
 have h1 := of_ev [exT] 1 (by decide) (by intro x hx; rw [List.mem_singleton.1 hx]; exact exT_wf)
 have h2 := of_ev [] 1 (by decide) (by intro x hx; cases hx)
 rw [exT_of] at h1
 obtain ⟨a1, a2, a3⟩ := exT_ans
 refine Ev.bind h1 (Ev.bind h2 (Ev.pos (exN_ans 1) (Ev.pos a1 ?_)))
 rw [a2, a3]
 exact Ev.pos rfl (Ev.pos (by decide) (Ev.pos rfl (Ev.pos rfl (Ev.pos (by decide) (Ev.now _)))))
theorem ansL_kind (r : List Span) : ((ansL r).1 = 0 ∧ (ansL r).2.1 = [] ∧ (ansL r).2.2.1 = []) ∨ (ansL r).1 = 3 ∨ (((ansL r).1 = 1 ∨ (ansL r).1 = 2) ∧ r ≠ [] ∧ (ansL r).2.1 = rowedS (rowR r) r ∧ (ansL r).2.2.1.length = (rowR r).length) := by
 unfold ansL
 split
 ·exact .inl ⟨rfl, rfl, rfl⟩
 ·rename_i h0
  have hne : r ≠ [] := fun e => h0 (by rw [e]; rfl)
  split
  ·exact .inr (.inl rfl)
  ·split
   ·exact .inr (.inr ⟨.inl rfl, hne, rfl, by simp [rowedI]⟩)
   ·exact .inr (.inr ⟨.inr rfl, hne, rfl, by simp [rowedI]⟩)
theorem ansL_spans (r : List Span) : (ansL r).2.1.length ≤ r.length := by
 have hp := (rowedS_perm r).length_eq
 unfold ansL
 split
 ·exact Nat.zero_le _
 ·split
  ·exact Nat.le_refl _
  ·split
   ·exact Nat.le_of_eq hp
   ·exact Nat.le_of_eq hp
theorem VerdictRight (l0 : List (S36)) (a1 : Int) (a2 : Int) (w0 : (l0.length ≤ maxLen ∧ l0.length * 80 ≤ reachBytes ∧ ∀ x ∈ l0, wf36 x)) (w1 : (Lit.int .u64 a1).wf = true) (w2 : (Lit.int .u8 a2).wf = true) : ∃ k, merkhetlaw20_VerdictRight.f k l0 a1 a2 = some true := by
 obtain ⟨_, _, hw⟩ := w0
 have hu := wf_u8 w2
 refine Ev.rounds (g := fun k => merkhetlaw20_VerdictRight.f k l0 a1 a2) ?_
 unfold merkhetlaw20_VerdictRight.f
 obtain ⟨b, hb, hb2⟩ := great_ev l0
 refine Ev.bind hb (Ev.ite (fun h => Ev.bind fixed20 (Ev.now _)) (fun h => ?_))
 obtain ⟨h60, _⟩ := hb2 (by simpa using h)
 have e1 := of_ev l0 a1 (by omega) hw
 have hrl := ofD_length l0 a1
 have hc := ofD_counts l0 a1
 have hlen := ansL_len (ofD l0 a1) (by omega)
 have hkind := ansL_kind (ofD l0 a1)
 have hsl := ansL_spans (ofD l0 a1)
 have hrr := (rowR_in (ofD l0 a1) (by omega)).2
 have hperm := rowedS_perm (ofD l0 a1)
 have hag := ofD_shuffled l0 _ a1 hperm
 have hwr : ∀ x ∈ ofD l0 a1, wf36 x ∧ x.f0 = a1 := fun x hx => ⟨hw x (hc.mem x hx).1, by
  have h := (hc.mem x hx).2
  unfold okS at h
  rw [Bool.and_eq_true, decide_eq_true_eq] at h
  exact h.1⟩
 have spans : ∀ x ∈ (ansL (ofD l0 a1)).2.1, wf36 x ∧ x.f0 = a1 := by
  intro x hx
  unfold ansL at hx
  split at hx
  ·cases hx
  ·split at hx
   ·exact hwr x hx
   ·split at hx
    ·exact hwr x (hperm.mem_iff.1 hx)
    ·exact hwr x (hperm.mem_iff.1 hx)
 have first : (ansL (ofD l0 a1)).2.1 ≠ [] → (rd_T36 (ansL (ofD l0 a1)).2.1 0).f0 = a1 := by
  intro hne
  have hpos : 0 < (ansL (ofD l0 a1)).2.1.length := List.length_pos_iff.2 hne
  have e := rdS_nat (ansL (ofD l0 a1)).2.1 0 hpos
  rw [show ((0 : Nat) : Int) = 0 from rfl] at e
  rw [e]
  exact (spans _ (List.getElem_mem hpos)).2
 have said : ∀ a : Ans, a.2.1 = (ansL (ofD l0 a1)).2.1 → smallA a → ∃ r, Ev (fun k => verdict_Right.f k a.1 a.2.1 a.2.2.1 a.2.2.2.1 a.2.2.2.2.1 a.2.2.2.2.2) r ∧ (r = true → (a.1 = 1 ∨ a.1 = 2) ∧ a.2.1 ≠ [] ∧ a = ansL (ofD a.2.1 a1)) ∧ ((a.1 = 1 ∨ a.1 = 2) ∧ a.2.1 ≠ [] ∧ a = ansL (ofD a.2.1 a1) → r = true) := by
  intro a ha hs
  obtain ⟨r, e, i⟩ := right_ev a hs (by rw [ha]; omega) (fun x hx => (spans x (by rw [← ha]; exact hx)).1)
  have f : a.2.1 ≠ [] → (rd_T36 a.2.1 0).f0 = a1 := by rw [ha]; exact first
  refine ⟨r, e, fun h => ?_, fun h => ?_⟩
  ·obtain ⟨h1, h2, h3⟩ := i.1 h
   rw [f h2] at h3
   exact ⟨h1, h2, h3⟩
  ·refine i.2 ⟨h.1, h.2.1, ?_⟩
   rw [f h.2.1]
   exact h.2.2
 generalize hA : ansL (ofD l0 a1) = A at *
 obtain ⟨v, S, st, H, O, C⟩ := A
 simp only at hlen hkind spans first said
 obtain ⟨g1, g2, g3, g4, g5⟩ := hlen
 have own : ∀ x : Ans, (v = 1 ∨ v = 2) → x = ansL (ofD S a1) → x = (v, S, st, H, O, C) := by
  intro x hv hx
  rcases hkind with h1 | h1 | ⟨_, _, h1, _⟩
  ·omega
  ·omega
  ·rw [h1, hag, hA] at hx
   exact hx
 have goes : Ev (fun k => merkhetlaw20_VerdictRight.j0 k a2 (decide (v = 1 ∨ v = 2)) v S st H O C) true := by
  refine Ev.succ ?_
  simp only [merkhetlaw20_VerdictRight.j0]
  have t1 : Ev (fun k => verdict_Right.f k v S st H O C) (decide (v = 1 ∨ v = 2)) := by
   obtain ⟨r, e, i1, i2⟩ := said (v, S, st, H, O, C) rfl ⟨by simp only; omega, by simp only; omega, by simp only; omega, by simp only; omega, by simp only; omega⟩
   refine Ev.cast e ?_
   rw [Bool.eq_iff_iff, decide_eq_true_eq]
   refine ⟨fun h => (i1 h).1, fun hv => i2 ⟨hv, ?_, ?_⟩⟩
   ·rcases hkind with h1 | h1 | ⟨_, h0, h1, _⟩
    ·omega
    ·omega
    ·simp only
     rw [h1]
     intro e
     have := hperm.length_eq
     rw [e] at this
     exact h0 (List.length_eq_zero_iff.1 this.symm)
   ·rcases hkind with h1 | h1 | ⟨_, h0, h1, _⟩
    ·omega
    ·omega
    ·simp only
     rw [h1, hag, hA, ← h1]
  refine Ev.bind t1 (Ev.neg (by simp) (Ev.bind (Ev.now _) (Ev.pos (by simp; omega) (Ev.bind (Ev.now _) ?_))))
  rw [List.nil_append]
  have bent : ∀ b : List Int, b.length = st.length → ((v = 1 ∨ v = 2) → b ≠ st) → Ev (fun k => merkhetlaw20_VerdictRight.j1 k a2 v S st H O C v S b H O C) true := by
   intro b hbl hbn
   refine Ev.succ ?_
   simp only [merkhetlaw20_VerdictRight.j1]
   have tb : Ev (fun k => verdict_Right.f k v S b H O C) false := by
    obtain ⟨r, e, i1, i2⟩ := said (v, S, b, H, O, C) rfl ⟨by simp only; omega, by simp only; omega, by simp only; omega, by simp only; omega, by simp only; omega⟩
    refine Ev.cast e ?_
    cases r with
    | false => rfl
    | true =>
     obtain ⟨h1, h2, h3⟩ := i1 rfl
     have := own _ h1 h3
     simp only [Prod.mk.injEq] at this
     exact absurd this.2.2.1 (hbn h1)
   have hmod : 0 ≤ Int.tmod a2 3 ∧ Int.tmod a2 3 < 3 := by
    rw [Int.tmod_eq_emod_of_nonneg (by omega)]
    omega
   have hv4 : 0 ≤ v ∧ v ≤ 3 := by rcases hkind with h | h | h <;> omega
   have e1 : wrap64 (Int.tmod a2 3) = Int.tmod a2 3 := wrap_id (by omega) (by omega)
   have e2 : wrap64 (1 + Int.tmod a2 3) = 1 + Int.tmod a2 3 := wrap_id (by omega) (by omega)
   have e3 : wrap64 (v + (1 + Int.tmod a2 3)) = v + (1 + Int.tmod a2 3) := wrap_id (by omega) (by omega)
   have tc : Ev (fun k => verdict_Right.f k (v + (1 + Int.tmod a2 3)) S st H O C) false := by
    obtain ⟨r, e, i1, i2⟩ := said (v + (1 + Int.tmod a2 3), S, st, H, O, C) rfl ⟨by simp only; omega, by simp only; omega, by simp only; omega, by simp only; omega, by simp only; omega⟩
    refine Ev.cast e ?_
    cases r with
    | false => rfl
    | true =>
     obtain ⟨h1, h2, h3⟩ := i1 rfl
     simp only at h1 h2 h3
     rcases hkind with hk | hk | hk
     ·exact absurd hk.2.1 h2
     ·omega
     ·have := own _ hk.1 h3
      simp only [Prod.mk.injEq] at this
      omega
   have td : Ev (fun k => verdict_Right.f k v S st ([(⟨#[122, 122]⟩ : ByteArray)] ++ H) O C) false := by
    obtain ⟨r, e, i1, i2⟩ := said (v, S, st, [(⟨#[122, 122]⟩ : ByteArray)] ++ H, O, C) rfl ⟨by simp only; omega, by simp only; omega, by simp; omega, by simp only; omega, by simp only; omega⟩
    refine Ev.cast e ?_
    cases r with
    | false => rfl
    | true =>
     obtain ⟨h1, h2, h3⟩ := i1 rfl
     have := own _ h1 h3
     simp only [Prod.mk.injEq] at this
     have := congrArg List.length this.2.2.2.1
     simp at this
   rw [e1, e2, e3]
   exact Ev.bind (Ev.now _) (Ev.pos (by simp; omega) (Ev.bind fixed20 (Ev.pos rfl (Ev.bind tb (Ev.neg (by simp) (Ev.bind tc (Ev.neg (by simp) (Ev.bind td (Ev.cast (Ev.now _) rfl)))))))))
  refine Ev.ite (fun hp => ?_) (fun hp => ?_)
  ·have hs0 : 0 < st.length := by omega
   have ew : wrap64 a2 = a2 := wrap_id (by omega) (by omega)
   rw [ew]
   have hmod : 0 ≤ Int.tmod a2 (st.length : Int) ∧ Int.tmod a2 (st.length : Int) < st.length := by
    rw [Int.tmod_eq_emod_of_nonneg (by omega)]
    exact ⟨Int.emod_nonneg _ (by omega), Int.emod_lt_of_pos _ (by omega)⟩
   generalize Int.tmod a2 (st.length : Int) = q at *
   refine Ev.neg (by omega) (Ev.pos hmod.1 (Ev.pos hmod.2 (bent _ (by rw [List.length_set]) (fun _ e => ?_))))
   have h1 := congrArg (fun z => rd z q) e
   rw [rd_set _ _ _ _ hmod.1 hmod.2 hmod.1, if_pos rfl] at h1
   generalize rd st q = y at h1
   unfold wrap64 at h1
   omega
  ·refine bent st rfl (fun hv => ?_)
   exfalso
   rcases hkind with h1 | h1 | ⟨_, h0, _, h2⟩
   ·omega
   ·omega
   ·rw [hrr] at h2
    have : 0 < (ofD l0 a1).length := List.length_pos_iff.2 h0
    omega
 refine Ev.bind e1 ?_
 by_cases c1 : v = 1
 ·refine Ev.pos c1 ?_
  rw [decide_eq_true (.inl c1)] at goes
  exact goes
 ·refine Ev.neg c1 ?_
  have : (v == 2) = decide (v = 1 ∨ v = 2) := by
   rw [Bool.eq_iff_iff, beq_iff_eq, decide_eq_true_eq]
   exact ⟨.inr, fun h => h.resolve_left c1⟩
  show Ev (fun k => merkhetlaw20_VerdictRight.j0 k a2 (v == 2) v S st H O C) true
  rw [this]
  exact goes
end Go.Proofs.YtgknjgionicncaaGreat.Pure
