/- Texts joined by wip/tools/merge.py: Vx10 Vx11 Vx12 Rx1 Vx1 Vx2 Vx15 Vx16. -/
import Derived.Test.YtgknjgionicncaaGreatJVerdictRight12
import Derived.Test.YtgknjgionicncaaGreatJVerdictRight25
import Derived.Test.YtgknjgionicncaaGreatJVerdictRight26
import Derived.Test.YtgknjgionicncaaGreatJVerdictRight24
namespace Go.Proofs.YtgknjgionicncaaGreat.V
open Go.RowKit Go.Proofs.YtgknjgionicncaaGreat.Q Go.Proofs.YtgknjgionicncaaGreat.X Go.Proofs.YtgknjgionicncaaGreatW.PrintWords Go.Proofs.YtgknjgionicncaaGreatW.PrintLast Go.Proofs.YtgknjgionicncaaGreatW.PrintMore
attribute [local go_sem] max2_int min2_int max_two min_two max_three min_three max_four min_four
set_option linter.unusedVariables false
set_option linter.unusedSimpArgs false
def verdict_known_adjusted.f (k : Nat) (l0_0 : List (S36)) (l0_1 : List ByteArray) (l0_2 : List Int) (l0_3 : List (S75)) (l0_4 : List (S72)) : Option (Int × (List (S36)) × List Int × List ByteArray × List Int × (List (S72))) := (relax_Solve.f k (l0_1.length : Int) l0_4).bind fun bt257 => ((shift_Starts.f l0_0 bt257.1).bind fun bt261 => ((api_Span_66.f k l0_0 l0_1 l0_2 l0_3 l0_4 l0_0).bind fun t265 => ((verdict_rowed_int64.f k l0_0 l0_1 l0_2 l0_3 l0_4 bt261.1).bind fun t268 => (some (1, t265, t268, l0_1, bt257.1, ([] : List (S72)))))))
theorem verdict_known_adjusted.mono : ∀ a0 a1 a2 a3 a4 k, LeO (verdict_known_adjusted.f k a0 a1 a2 a3 a4) (verdict_known_adjusted.f (k + 1) a0 a1 a2 a3 a4) := by
 intro a0 a1 a2 a3 a4 k
 unfold verdict_known_adjusted.f
 have m0 := @api_Span_66.mono; have m1 := @relax_Solve.mono; have m2 := @verdict_rowed_int64.mono
 exact zM
def verdict_known_adjusted.T3 : Bool × List (List Nat × List Nat) := (true, [([], []), ([], []), ([1], [1]), ([0, 2], [0, 2]), ([], []), ([], []), ([4, 5, 3], [4, 5]), ([], []), ([7], [7]), ([], []), ([3, 6, 8, 9], [3, 6, 8, 9]), ([10, 6, 0, 1, 2, 3, 4, 5, 6, 7, 8, 9, 10], [10])])
def verdict_known_adjusted.B3 : List Nat := [0, 0, 2, 7, 0, 0, 63, 0, 128, 0, 1023, 2047]
theorem verdict_known_adjusted.tab3 : rtab .any (opsOf Tryz.f33 3) = verdict_known_adjusted.T3 := by kernel_rfl
theorem verdict_known_adjusted.bits3 : waitsOk verdict_known_adjusted.T3.2 verdict_known_adjusted.B3 = true := by kernel_rfl
set_option maxHeartbeats 8000000 in
set_option maxRecDepth 100000 in
theorem verdict_known_adjusted.calls (k : Nat) (A0_0 : Option Addr) (c0_0 : Nat) (l0_0 : List (S36)) (P0_1_ : Nat → Prop) (u9000_ : Value) (l0_1 : List ByteArray) (A0_2 : Option Addr) (c0_2 : Nat) (l0_2 : List Int) (A0_3 : Option Addr) (c0_3 : Nat) (l0_3 : List (S75)) (A0_4 : Option Addr) (c0_4 : Nat) (l0_4 : List (S72)) (r1 : Int) (r2 : List (S36)) (r3 : List Int) (r4 : List ByteArray) (r5 : List Int) (r6 : List (S72)) (w0 w : World) (hB : Below w0.heap.size w0 w) (hr0_0 : ∀ W_, Kept w W_ (fun k_ => P0_1_ k_) → Kd.C k36 W_ A0_0 l0_0.length l0_0) (hc0_0 : l0_0.length ≤ c0_0) (ho0_1 : Kd.R Kd.string 9 w w0.heap.size P0_1_ u9000_ l0_1) (hr0_2 : ∀ W_, Kept w W_ (fun k_ => P0_1_ k_) → Kd.C (Kd.int .i64) W_ A0_2 l0_2.length l0_2) (hc0_2 : l0_2.length ≤ c0_2) (hr0_3 : ∀ W_, Kept w W_ (fun k_ => P0_1_ k_) → Kd.C k75 W_ A0_3 l0_3.length l0_3) (hc0_3 : l0_3.length ≤ c0_3) (hr0_4 : ∀ W_, Kept w W_ (fun k_ => P0_1_ k_) → Kd.C k72 W_ A0_4 l0_4.length l0_4) (hc0_4 : l0_4.length ≤ c0_4) (h : verdict_known_adjusted.f k l0_0 l0_1 l0_2 l0_3 l0_4 = some (r1, r2, r3, r4, r5, r6)) :
  Calls Tryz.prog 33 #[.agg #[.slice A0_0 l0_0.length c0_0, u9000_, .slice A0_2 l0_2.length c0_2, .slice A0_3 l0_3.length c0_3, .slice A0_4 l0_4.length c0_4]] w fun e w' => ∃ v1_ v2_ v3_ v4_ v5_ : Value, e = .returned (.agg #[.int .i64 r1, v1_, v2_, v3_, v4_, v5_]) ∧ Kd.R k36 36 w' w0.heap.size (fun k_ => (P0_1_ k_ ∨ w.heap.size ≤ k_)) v1_ r2 ∧ Kd.R (Kd.int .i64) 2 w' w0.heap.size (fun k_ => (P0_1_ k_ ∨ w.heap.size ≤ k_)) v2_ r3 ∧ Kd.R Kd.string 9 w' w0.heap.size (fun k_ => (P0_1_ k_ ∨ w.heap.size ≤ k_)) v3_ r4 ∧ Kd.V (Kd.int .i64) 2 w' w0.heap.size (fun k_ => (P0_1_ k_ ∨ w.heap.size ≤ k_) ∧ some k_ ≠ (v1_ : Value).ownBlock ∧ some k_ ≠ (v2_ : Value).ownBlock ∧ some k_ ≠ (v3_ : Value).ownBlock ∧ some k_ ≠ (v5_ : Value).ownBlock) v4_ r5 ∧ Kd.R k72 72 w' w0.heap.size (fun k_ => (P0_1_ k_ ∨ w.heap.size ≤ k_)) v5_ r6 ∧ Below w0.heap.size w0 w' ∧ Kept w w' (fun k_ => P0_1_ k_) := by
 have hu62 := Tryz.underlying62
 have hu31 := Tryz.underlying31
 have HR0_0 := Aside0.mk hr0_0
 have HC0_0 := Aside0.mk hc0_0
 clear hr0_0 hc0_0
 have HO0_1 := Aside0.mk (show Kd.R Kd.string 9 w w0.heap.size (fun k_ => (P0_1_ k_ ∨ w.heap.size ≤ k_)) u9000_ l0_1 from Kd.R_mono ho0_1 (fun k_ hk => (.inl hk)))
 have HR0_2 := Aside0.mk hr0_2
 have HC0_2 := Aside0.mk hc0_2
 clear hr0_2 hc0_2
 have HR0_3 := Aside0.mk hr0_3
 have HC0_3 := Aside0.mk hc0_3
 clear hr0_3 hc0_3
 have HR0_4 := Aside0.mk hr0_4
 have HC0_4 := Aside0.mk hc0_4
 clear hr0_4 hc0_4
 have HK := Aside0.mk (Kept.refl w (fun k_ => P0_1_ k_))
 have HW0 := Aside0.mk hB.size
 have HB := Aside0.mk hB
 clear hB
 have H : ((relax_Solve.f k (l0_1.length : Int) l0_4).bind fun bt257 => ((shift_Starts.f l0_0 bt257.1).bind fun bt261 => ((api_Span_66.f k l0_0 l0_1 l0_2 l0_3 l0_4 l0_0).bind fun t265 => ((verdict_rowed_int64.f k l0_0 l0_1 l0_2 l0_3 l0_4 bt261.1).bind fun t268 => (some (1, t265, t268, l0_1, bt257.1, ([] : List (S72)))))))) = some (r1, r2, r3, r4, r5, r6) := h
 clear h
 replace H := Option.bind_eq_some_iff.mp H
 obtain ⟨⟨t257, t260⟩, A20, H⟩ := H
 dsimp only at H
 have A2 := Aside0.mk A20
 clear A20
 replace H := Option.bind_eq_some_iff.mp H
 obtain ⟨⟨t261, t262⟩, A30, H⟩ := H
 dsimp only at H
 have A3 := Aside0.mk A30
 clear A30
 replace H := Option.bind_eq_some_iff.mp H
 obtain ⟨t265, A40, H⟩ := H
 have A4 := Aside0.mk A40
 clear A40
 replace H := Option.bind_eq_some_iff.mp H
 obtain ⟨t268, A50, H⟩ := H
 have A5 := Aside0.mk A50
 clear A50
 simp only [Option.some.injEq, Prod.mk.injEq] at H
 obtain ⟨rfl, rfl, rfl, rfl, rfl, rfl⟩ := H
 obtain ⟨Ao6, co6, eo6⟩ := Kd.R_slice HO0_1.out
 subst eo6
 go_enter Tryz.func33, Tryz.ntmps33
 try go_wp2_with (first | ((with_reducible refine gate_dst (N := 1) rfl ?_); refine zbox (N := 1) (cs := #[.slice A0_0 l0_0.length c0_0, .slice Ao6 l0_1.length co6, .slice A0_2 l0_2.length c0_2, .slice A0_3 l0_3.length c0_3, .slice A0_4 l0_4.length c0_4]) (t := 62) ?_; intro gb255 hg w7 hbox hb; replace HO0_1 := Aside0.mk (Kd.R_below (zR HO0_1.out) hb); have BK255 := Aside0.mk (hbox); have GW255 := Aside0.mk ((by rw [hg]; exact (by first | exact HK.out.1 | exact (show Kept w _ (fun k_ => P0_1_ k_) from zH0).1) : w.heap.size ≤ gb255)); replace HK := Aside0.mk (Kept.below (S := (fun k_ => P0_1_ k_)) zH0 hb); have GE255 := Aside0.mk ((by rw [hg]; exact (below_size zB) : w0.heap.size ≤ gb255)); replace HB := Aside0.mk (below_step zB hb); clear hb hbox hg) | ((with_reducible refine gate_dst (N := 2) rfl ?_); refine zbox (N := 2) (cs := #[.int .i64 0, .slice none 0 0, .slice none 0 0, .slice none 0 0, .slice none 0 0, .slice none 0 0]) (t := 31) ?_; intro gb256 hg w8 hbox hb; replace HO0_1 := Aside0.mk (Kd.R_below (zR HO0_1.out) hb); have BK256 := Aside0.mk (hbox); have GW256 := Aside0.mk ((by rw [hg]; exact (by first | exact HK.out.1 | exact (show Kept w _ (fun k_ => P0_1_ k_) from zH1 GW255.out).1) : w.heap.size ≤ gb256)); replace HK := Aside0.mk (Kept.below (S := (fun k_ => P0_1_ k_)) (zH1 GW255.out) hb); have GE256 := Aside0.mk ((by rw [hg]; exact (below_size (zG GE255.out)) : w0.heap.size ≤ gb256)); replace HB := Aside0.mk (below_step (zG GE255.out) hb); have NB255_256 := Aside0.mk ((by rw [hg]; exact Nat.ne_of_lt (zKl BK255.out) : gb255 ≠ gb256)); have NB256_255 := Aside0.mk ((by rw [hg]; exact Nat.ne_of_gt (zKl BK255.out) : gb256 ≠ gb255)); replace BK255 := Aside0.mk (zKb BK255.out hb); clear hb hbox hg; have hnb9 := NB255_256.out; have hnc9 := NB256_255.out; obtain ⟨hcz10_0, hcz10_1, hcz10_2, hcz10_3, hcz10_4, hfz10_0, hfz10_1, hfz10_2, hfz10_3, hfz10_4⟩ := zb5 BK255.out) | ((with_reducible refine gate_callee (f := 32) rfl ?_); refine goesL_ (some 13) rfl rfl Tryz.func32 (by kernel_rfl) rfl #[.int .i64 (l0_1.length : Int), .slice A0_4 l0_4.length c0_4] rfl zL ?_; (with_reducible refine (relax_Solve.calls k (l0_1.length : Int) _ _ l0_4 t257 t260 _ ?side1 ?side2 A2.out).mono ?_); (case side1 => exact Kd.C_kept_now HR0_4.out (zH2 GW255.out GW256.out)); (case side2 => exact HC0_4.out); rintro e w11 ⟨v258, rfl, ho0, hb⟩; refine ⟨_, rfl, ?_⟩; have HO259 := Aside0.mk (Kd.V_lower (Kd.V_mono (ok' := fun k_ => (P0_1_ k_ ∨ w.heap.size ≤ k_) ∧ some k_ ≠ (.slice Ao6 l0_1.length co6 : Value).ownBlock ∧ k_ ≠ gb255 ∧ k_ ≠ gb256) ho0 (fun k_ hk_ => ⟨(.inr (Nat.le_trans (by first | exact HK.out.1 | exact (show Kept w _ (fun k_ => P0_1_ k_) from zH2 GW255.out GW256.out).1) hk_)), (Kd.fresh' (Kd.R_lt (zR HO0_1.out)) k_ hk_), (Kd.freshB (g := gb255) (o := .cells #[.slice A0_0 l0_0.length c0_0, .slice Ao6 l0_1.length co6, .slice A0_2 l0_2.length c0_2, .slice A0_3 l0_3.length c0_3, .slice A0_4 l0_4.length c0_4] 62 (0, 0)) (zK BK255.out) k_ hk_), (Kd.freshB (g := gb256) (o := .cells #[.int .i64 0, .slice none 0 0, .slice none 0 0, .slice none 0 0, .slice none 0 0, .slice none 0 0] 31 (0, 0)) (zK BK256.out) k_ hk_)⟩)) (below_size (zG2 GE255.out GE256.out))); replace HO0_1 := Aside0.mk (Kd.R_below (zR HO0_1.out) hb); replace BK255 := Aside0.mk (zKb BK255.out hb); replace BK256 := Aside0.mk (zKb BK256.out hb); replace HK := Aside0.mk (Kept.below (S := (fun k_ => P0_1_ k_)) (zH2 GW255.out GW256.out) hb); replace HB := Aside0.mk (below_step (zG2 GE255.out GE256.out) hb); (try clear hb); (try clear hb2); (try clear hk); (try clear hi); (try clear ho0); obtain ⟨hcz12_0, hcz12_1, hcz12_2, hcz12_3, hcz12_4, hfz12_0, hfz12_1, hfz12_2, hfz12_3, hfz12_4⟩ := zb5 BK255.out; obtain ⟨Ao13, co13, eo13⟩ := Kd.V_slice HO259.out; subst eo13) | ((with_reducible refine gate_callee (f := 70) rfl ?_); refine goesL_ (some 20) rfl rfl Tryz.func70 (by kernel_rfl) rfl #[.slice A0_0 l0_0.length c0_0, .slice Ao13 t257.length co13] rfl zL ?_; (with_reducible refine (shift_Starts.calls _ _ l0_0 _ _ t257 t261 t262 _ ?side1 ?side2 ?side3 ?side4 A3.out).mono ?_); (case side1 => exact Kd.C_kept_now HR0_0.out (zH2 GW255.out GW256.out)); (case side2 => exact HC0_0.out); (case side3 => exact zC ((Kd.V_reads' HO259.out).2.2)); (case side4 => exact (Kd.V_reads' HO259.out).2.1); rintro e w14 ⟨v263, rfl, ho0, hb⟩; refine ⟨_, rfl, ?_⟩; replace HO0_1 := Aside0.mk (Kd.R_below (zR HO0_1.out) hb); replace HO259 := Aside0.mk (Kd.V_elder' (zRV HO259.out) (Kd.R_base ho0) hb); have HO264 := Aside0.mk (Kd.R_lower (Kd.R_newM (M := fun k_ => (P0_1_ k_ ∨ w.heap.size ≤ k_)) ho0 (by first | exact HK.out.1 | exact (show Kept w _ (fun k_ => P0_1_ k_) from zH2 GW255.out GW256.out).1) (fun k_ h_ => .inr h_)) (below_size (zG2 GE255.out GE256.out))); replace BK255 := Aside0.mk (zKb BK255.out hb); replace BK256 := Aside0.mk (zKb BK256.out hb); replace HK := Aside0.mk (Kept.below (S := (fun k_ => P0_1_ k_)) (zH2 GW255.out GW256.out) hb); replace HB := Aside0.mk (below_step (zG2 GE255.out GE256.out) hb); (try clear hb); (try clear hb2); (try clear hk); (try clear hi); (try clear ho0)))
 replace HO0_1 := Aside0.mk (Kd.R_drew HO0_1.out)
 replace HO259 := Aside0.mk (Kd.V_drew HO259.out)
 replace HO264 := Aside0.mk (Kd.R_drew HO264.out)
 replace BK255 := Aside0.mk (blk_drew BK255.out)
 replace BK256 := Aside0.mk (blk_drew BK256.out)
 replace HK := Aside0.mk (Kept.drew HK.out)
 replace HB := Aside0.mk (below_drew1 HB.out)
 refine start_ (n := 12) (S := fun w' => w'.cell? ⟨gb255, 0, none⟩ = some (.slice A0_0 l0_0.length c0_0) ∧ w'.cell? ⟨gb255, 1, none⟩ = some (.slice Ao6 l0_1.length co6) ∧ w'.cell? ⟨gb255, 2, none⟩ = some (.slice A0_2 l0_2.length c0_2) ∧ w'.cell? ⟨gb255, 3, none⟩ = some (.slice A0_3 l0_3.length c0_3) ∧ w'.cell? ⟨gb255, 4, none⟩ = some (.slice A0_4 l0_4.length c0_4)) (ds := []) #[false, false, false, false, false, false, false, false, false, false, false, false] (by kernel_rfl) rfl rfl ⟨(blk_cell BK255.out 0).trans rfl, (blk_cell BK255.out 1).trans rfl, (blk_cell BK255.out 2).trans rfl, (blk_cell BK255.out 3).trans rfl, (blk_cell BK255.out 4).trans rfl⟩ (fun hHeld => ?_); refine with_tabW verdict_known_adjusted.tab3 verdict_known_adjusted.bits3 (fun HT_ HW_ => ?_)
 generalize w14.drew = w15 at HO0_1 HO259 HO264 BK255 BK256 HK HB hHeld ⊢
 refine zp 1 (some 24) ?_
 refine zp 5 (some 28) ?_
 refine zp 7 (some 30) ?_
 refine zp 9 (some 32) ?_
 refine zt5 0 (some 23) ?_
 refine zt5 2 (some 25) ?_
 refine zt5 4 (some 27) ?_
 refine zt5 8 (some 31) ?_
 refine z1 3 (some 26) (fun K hK => ?_)
 refine goes_ Tryz.func66 (by kernel_rfl) rfl #[.agg #[.slice A0_0 l0_0.length c0_0, .slice Ao6 l0_1.length co6, .slice A0_2 l0_2.length c0_2, .slice A0_3 l0_3.length c0_3, .slice A0_4 l0_4.length c0_4], .slice A0_0 l0_0.length c0_0] (by rfl) rfl rfl zL ?_
 with_reducible refine (api_Span_66.calls k _ _ l0_0 _ _ l0_1 _ _ l0_2 _ _ l0_3 _ _ l0_4 _ _ l0_0 t265 _ ?side1 ?side2 ?side3 ?side4 ?side5 ?side6 ?side7 ?side8 ?side9 ?side10 ?side11 ?side12 A4.out).mono ?_
 (case side1 => exact Kd.C_kept_now HR0_0.out (zH2 GW255.out GW256.out))
 (case side2 => exact HC0_0.out)
 (case side3 => exact zC ((Kd.R_reads' HO0_1.out).2.2))
 (case side4 => exact (Kd.R_reads' HO0_1.out).2.1)
 (case side5 => exact Kd.C_kept_now HR0_2.out (zH2 GW255.out GW256.out))
 (case side6 => exact HC0_2.out)
 (case side7 => exact Kd.C_kept_now HR0_3.out (zH2 GW255.out GW256.out))
 (case side8 => exact HC0_3.out)
 (case side9 => exact Kd.C_kept_now HR0_4.out (zH2 GW255.out GW256.out))
 (case side10 => exact HC0_4.out)
 (case side11 => exact Kd.C_kept_now HR0_0.out (zH2 GW255.out GW256.out))
 (case side12 => exact HC0_0.out)
 rintro e w16 ⟨v266, rfl, ho0, hb⟩
 refine ⟨_, rfl, ?_⟩
 replace HO0_1 := Aside0.mk (Kd.R_below (zR HO0_1.out) hb)
 replace HO259 := Aside0.mk (Kd.V_elder' (zRV HO259.out) (Kd.R_base ho0) hb)
 replace HO264 := Aside0.mk (Kd.R_below (zR HO264.out) hb)
 have HO267 := Aside0.mk (Kd.R_lower (Kd.R_newM (M := fun k_ => (P0_1_ k_ ∨ w.heap.size ≤ k_)) ho0 (by first | exact HK.out.1 | exact (show Kept w _ (fun k_ => P0_1_ k_) from zH2 GW255.out GW256.out).1) (fun k_ h_ => .inr h_)) (below_size (zG2 GE255.out GE256.out)))
 replace BK255 := Aside0.mk (zKb BK255.out hb)
 replace BK256 := Aside0.mk (zKb BK256.out hb)
 replace HK := Aside0.mk (Kept.below (S := (fun k_ => P0_1_ k_)) (zH2 GW255.out GW256.out) hb)
 replace HB := Aside0.mk (below_step (zG2 GE255.out GE256.out) hb)
 (try clear hb); (try clear hb2); (try clear hk); (try clear hi); (try clear ho0)
 obtain ⟨Ao17, co17, eo17⟩ := Kd.R_slice HO264.out
 (first | subst eo17 | (injection eo17 with f1_ f2_ f3_; have f4_ := f1_.symm; have f5_ := f3_.symm; clear f1_ f2_ f3_; subst f4_; subst f5_))
 refine hK.out _ _ ⟨(blk_cell BK255.out 0).trans rfl, (blk_cell BK255.out 1).trans rfl, (blk_cell BK255.out 2).trans rfl, (blk_cell BK255.out 3).trans rfl, (blk_cell BK255.out 4).trans rfl⟩ (fun hHeld => ?_)
 clear hK K
 refine norm_ (a' := ?_) ?_ ?_
 rotate_left
 ·show Act.put _ (some 26) _ = _
  simp only [Act.put, List.setIfInBounds_toArray, List.set_cons_zero, List.set_cons_succ, i64_w, i32_w]
  rfl
 refine z1 6 (some 29) (fun K hK => ?_)
 refine goes_ Tryz.func67 (by kernel_rfl) rfl #[.agg #[.slice A0_0 l0_0.length c0_0, .slice Ao6 l0_1.length co6, .slice A0_2 l0_2.length c0_2, .slice A0_3 l0_3.length c0_3, .slice A0_4 l0_4.length c0_4], .slice Ao17 t261.length co17] (by rfl) rfl rfl zL ?_
 with_reducible refine (verdict_rowed_int64.calls k _ _ l0_0 _ _ l0_1 _ _ l0_2 _ _ l0_3 _ _ l0_4 _ _ t261 t268 _ ?side1 ?side2 ?side3 ?side4 ?side5 ?side6 ?side7 ?side8 ?side9 ?side10 ?side11 ?side12 A5.out).mono ?_
 (case side1 => exact Kd.C_kept_now HR0_0.out (zH2 GW255.out GW256.out))
 (case side2 => exact HC0_0.out)
 (case side3 => exact zC ((Kd.R_reads' HO0_1.out).2.2))
 (case side4 => exact (Kd.R_reads' HO0_1.out).2.1)
 (case side5 => exact Kd.C_kept_now HR0_2.out (zH2 GW255.out GW256.out))
 (case side6 => exact HC0_2.out)
 (case side7 => exact Kd.C_kept_now HR0_3.out (zH2 GW255.out GW256.out))
 (case side8 => exact HC0_3.out)
 (case side9 => exact Kd.C_kept_now HR0_4.out (zH2 GW255.out GW256.out))
 (case side10 => exact HC0_4.out)
 (case side11 => exact zC ((Kd.R_reads' HO264.out).2.2))
 (case side12 => exact (Kd.R_reads' HO264.out).2.1)
 rintro e w18 ⟨v269, rfl, ho0, hb⟩
 refine ⟨_, rfl, ?_⟩
 replace HO0_1 := Aside0.mk (Kd.R_below (zR HO0_1.out) hb)
 replace HO259 := Aside0.mk (Kd.V_elder' (zRV HO259.out) (Kd.R_base ho0) hb)
 replace HO267 := Aside0.mk (Kd.R_below (zR HO267.out) hb)
 have HO270 := Aside0.mk (Kd.R_lower (Kd.R_new' (Kd.R_newM (M := fun k_ => (P0_1_ k_ ∨ w.heap.size ≤ k_)) ho0 (by first | exact HK.out.1 | exact (show Kept w _ (fun k_ => P0_1_ k_) from zH2 GW255.out GW256.out).1) (fun k_ h_ => .inr h_)) (Kd.R_lt (zR HO264.out))) (below_size (zG2 GE255.out GE256.out)))
 replace HO264 := Aside0.mk (Kd.R_elder' (zR HO264.out) (Kd.R_base ho0) hb)
 replace BK255 := Aside0.mk (zKb BK255.out hb)
 replace BK256 := Aside0.mk (zKb BK256.out hb)
 replace HK := Aside0.mk (Kept.below (S := (fun k_ => P0_1_ k_)) (zH2 GW255.out GW256.out) hb)
 replace HB := Aside0.mk (below_step (zG2 GE255.out GE256.out) hb)
 (try clear hb); (try clear hb2); (try clear hk); (try clear hi); (try clear ho0)
 obtain ⟨Ao19, co19, eo19⟩ := Kd.R_slice HO270.out
 (first | subst eo19 | (injection eo19 with f1_ f2_ f3_; have f4_ := f1_.symm; have f5_ := f3_.symm; clear f1_ f2_ f3_; subst f4_; subst f5_))
 obtain ⟨Ao20, co20, eo20⟩ := Kd.R_slice HO267.out
 (first | subst eo20 | (injection eo20 with f1_ f2_ f3_; have f4_ := f1_.symm; have f5_ := f3_.symm; clear f1_ f2_ f3_; subst f4_; subst f5_))
 refine hK.out _ _ ⟨(blk_cell BK255.out 0).trans rfl, (blk_cell BK255.out 1).trans rfl, (blk_cell BK255.out 2).trans rfl, (blk_cell BK255.out 3).trans rfl, (blk_cell BK255.out 4).trans rfl⟩ (fun hHeld => ?_)
 clear hK K
 refine norm_ (a' := ?_) ?_ ?_
 rotate_left
 ·show Act.put _ (some 29) _ = _
  simp only [Act.put, List.setIfInBounds_toArray, List.set_cons_zero, List.set_cons_succ, i64_w, i32_w]
  rfl
 refine zp 10 (some 33) ?_
 refine z1 11 none (fun K hK => ?_)
 have hs21 : w18.cell? ⟨gb256, 0, none⟩ = some (.int .i64 0) := (blk_cell BK256.out 0).trans rfl
 have hfs21 := blk_frozen BK256.out 0
 have hns21_0 := NB255_256.out
 have hms21_0 := NB256_255.out
 have hs22 : w18.cell? ⟨gb256, 1, none⟩ = some (.slice none 0 0) := (blk_cell BK256.out 1).trans rfl
 have hfs22 := blk_frozen BK256.out 1
 have hns22_0 := NB255_256.out
 have hms22_0 := NB256_255.out
 have hs23 : w18.cell? ⟨gb256, 2, none⟩ = some (.slice none 0 0) := (blk_cell BK256.out 2).trans rfl
 have hfs23 := blk_frozen BK256.out 2
 have hns23_0 := NB255_256.out
 have hms23_0 := NB256_255.out
 have hs24 : w18.cell? ⟨gb256, 3, none⟩ = some (.slice none 0 0) := (blk_cell BK256.out 3).trans rfl
 have hfs24 := blk_frozen BK256.out 3
 have hns24_0 := NB255_256.out
 have hms24_0 := NB256_255.out
 have hs25 : w18.cell? ⟨gb256, 4, none⟩ = some (.slice none 0 0) := (blk_cell BK256.out 4).trans rfl
 have hfs25 := blk_frozen BK256.out 4
 have hns25_0 := NB255_256.out
 have hms25_0 := NB256_255.out
 have hs26 : w18.cell? ⟨gb256, 5, none⟩ = some (.slice none 0 0) := (blk_cell BK256.out 5).trans rfl
 have hfs26 := blk_frozen BK256.out 5
 have hns26_0 := NB255_256.out
 have hms26_0 := NB256_255.out
 refine skip_ (w1 := ?_) (by rfl) rfl ?_ ?_
 rotate_left
 ·go_simp
  rfl
 refine hK.out _ _ ⟨(zX hHeld.1 NB255_256.out), (zX hHeld.2.1 NB255_256.out), (zX hHeld.2.2.1 NB255_256.out), (zX hHeld.2.2.2.1 NB255_256.out), (zX hHeld.2.2.2.2 NB255_256.out)⟩ (fun hHeld => ?_)
 clear hK K
 refine done_ (done_of HT_.out (by kernel_rfl)) ?_
 try go_wp2
 refine bodyPost_ret (results_cell_row rfl _ _ gb256 31 #[.int .i64 1, .slice Ao20 t265.length co20, .slice Ao19 t268.length co19, .slice Ao6 l0_1.length co6, .slice Ao13 t257.length co13, .slice none 0 0] (0, 0) _ rfl (zP BK256.out) Tryz.underlying31 rfl (by kernel_rfl)) rfl ?_
 exact ⟨_, _, _, _, _, by first | rfl | (simp [errW_none, errW_some] <;> rfl) | (simp [*, errW_none, errW_some] <;> rfl), zW1 HO267.out BK256.out, Kd.R_mono (zW HO270.out BK256.out) (fun _ hk => hk.1.1), Kd.R_mono (zW HO0_1.out BK256.out) (fun _ hk => hk), by (with_reducible repeat (first | apply Kd.V_alloc | apply Kd.V_drewN | apply Kd.V_drew)); exact Kd.V_mono (Kd.V_far (p := ⟨gb256, 5, none⟩) (Kd.V_far (p := ⟨gb256, 4, none⟩) (Kd.V_far (p := ⟨gb256, 3, none⟩) (Kd.V_far (p := ⟨gb256, 2, none⟩) (Kd.V_far (p := ⟨gb256, 1, none⟩) (Kd.V_far (p := ⟨gb256, 0, none⟩) (Kd.V_mono HO259.out (fun k_ hk => (⟨hk, hk.1.1.1.2.2.2⟩ : _ ∧ k_ ≠ gb256))) (fun _ hk => hk.2) (.int .i64 1)) (fun _ hk => hk.2) (.slice Ao20 t265.length co20)) (fun _ hk => hk.2) (.slice Ao19 t268.length co19)) (fun _ hk => hk.2) (.slice Ao6 l0_1.length co6)) (fun _ hk => hk.2) (.slice Ao13 t257.length co13)) (fun _ hk => hk.2) (.slice none 0 0)) (fun _ hk => ⟨hk.1.1.1.1.1, ⟨hk.1.1.2, ⟨hk.1.2, ⟨hk.1.1.1.1.2.1, (by simp [Value.ownBlock])⟩⟩⟩⟩), zNil, zG2 GE255.out GE256.out, zH2 GW255.out GW256.out⟩
mutual
def verdict_known_clamped.l0 : Nat → List Int → List (S75) → Int → Int → List (S36) → List ByteArray → List Int → List (S75) → List (S72) → Option (Int × (List (S36)) × List Int × List ByteArray × List Int × (List (S72)))
 | 0, _, _, _, _, _, _, _, _, _ => none
 | k + 1, x3, x16, x17, x18, x272000, x272001, x272002, x272003, x272004 => if x18 < x17 then (if 0 ≤ x18 then (if x18 < (x16.length : Int) then (if 0 ≤ ((rd_T75 x16 x18).f0) then (if ((rd_T75 x16 x18).f0) < (x3.length : Int) then (verdict_known_clamped.l0 k (x3.set (((rd_T75 x16 x18).f0) : Int).toNat x18) x16 x17 (wrap64 (x18 + 1)) x272000 x272001 x272002 x272003 x272004) else (none)) else (none)) else (none)) else (none)) else ((loop_Of.f k (x272001.length : Int) x272004).bind fun t279 => (verdict_known_clamped.l1 k x3 t279 (t279.length : Int) 0 x272000 x272001 x272002 x272003 x272004))
def verdict_known_clamped.l1 : Nat → List Int → List (S72) → Int → Int → List (S36) → List ByteArray → List Int → List (S75) → List (S72) → Option (Int × (List (S36)) × List Int × List ByteArray × List Int × (List (S72)))
 | 0, _, _, _, _, _, _, _, _, _ => none
 | k + 1, x3, x6, x36, x37, x272000, x272001, x272002, x272003, x272004 => if x37 < x36 then (if 0 ≤ x37 then (if x37 < (x6.length : Int) then (if 0 ≤ ((rd_T72 x6 x37).f3.f0) then (if ((rd_T72 x6 x37).f3.f0) < (x3.length : Int) then (if 0 ≤ ((rd_T72 x6 x37).f3.f1) then (if ((rd_T72 x6 x37).f3.f1) < (x3.length : Int) then (verdict_known_clamped.l1 k x3 (x6.set (x37 : Int).toNat (⟨(rd_T72 x6 x37).f0, (rd_T72 x6 x37).f1, (rd_T72 x6 x37).f2, (⟨rd x3 ((rd_T72 x6 x37).f3.f0), rd x3 ((rd_T72 x6 x37).f3.f1)⟩ : S57), (rd_T72 x6 x37).f4⟩ : S72)) x36 (wrap64 (x37 + 1)) x272000 x272001 x272002 x272003 x272004) else (none)) else (none)) else (none)) else (none)) else (none)) else (none)) else ((clamp_Starts.f k x272000 x272002).bind fun bt287 => ((api_Span_66.f k x272000 x272001 x272002 x272003 x272004 x272000).bind fun t291 => ((verdict_rowed_int64.f k x272000 x272001 x272002 x272003 x272004 bt287.1).bind fun t294 => (some (2, t291, t294, x272001, ([] : List Int), x6)))))
end
def verdict_known_clamped.f (k : Nat) (l0_0 : List (S36)) (l0_1 : List ByteArray) (l0_2 : List Int) (l0_3 : List (S75)) (l0_4 : List (S72)) : Option (Int × (List (S36)) × List Int × List ByteArray × List Int × (List (S72))) := if 0 ≤ (l0_3.length : Int) then (if ((l0_3.length : Int) : Int).toNat ≤ 35184372088832 then (verdict_known_clamped.l0 k (List.replicate ((l0_3.length : Int) : Int).toNat 0) l0_3 (l0_3.length : Int) 0 l0_0 l0_1 l0_2 l0_3 l0_4) else (none)) else (none)
theorem verdict_known_clamped.mono_l : ∀ k, (∀ y0 y1 y2 y3 y4 y5 y6 y7 y8, LeO (verdict_known_clamped.l0 k y0 y1 y2 y3 y4 y5 y6 y7 y8) (verdict_known_clamped.l0 (k + 1) y0 y1 y2 y3 y4 y5 y6 y7 y8)) ∧ (∀ y0 y1 y2 y3 y4 y5 y6 y7 y8, LeO (verdict_known_clamped.l1 k y0 y1 y2 y3 y4 y5 y6 y7 y8) (verdict_known_clamped.l1 (k + 1) y0 y1 y2 y3 y4 y5 y6 y7 y8))
 | 0 => ⟨fun _ _ _ _ _ _ _ _ _ r h => by simp [verdict_known_clamped.l0] at h, fun _ _ _ _ _ _ _ _ _ r h => by simp [verdict_known_clamped.l1] at h⟩
 | k + 1 => by
  obtain ⟨ih0, ih1⟩ := verdict_known_clamped.mono_l k
  refine ⟨?_, ?_⟩
  ·intro y0 y1 y2 y3 y4 y5 y6 y7 y8
   unfold verdict_known_clamped.l0
   have m0 := @api_Span_66.mono; have m1 := @clamp_Starts.mono; have m2 := @loop_Of.mono; have m3 := @verdict_rowed_int64.mono
   exact zM
  ·intro y0 y1 y2 y3 y4 y5 y6 y7 y8
   unfold verdict_known_clamped.l1
   have m0 := @api_Span_66.mono; have m1 := @clamp_Starts.mono; have m2 := @loop_Of.mono; have m3 := @verdict_rowed_int64.mono
   exact zM
theorem verdict_known_clamped.mono : ∀ a0 a1 a2 a3 a4 k, LeO (verdict_known_clamped.f k a0 a1 a2 a3 a4) (verdict_known_clamped.f (k + 1) a0 a1 a2 a3 a4) := by
 intro a0 a1 a2 a3 a4 k
 obtain ⟨ih0, ih1⟩ := verdict_known_clamped.mono_l k
 unfold verdict_known_clamped.f
 have m0 := @api_Span_66.mono; have m1 := @clamp_Starts.mono; have m2 := @loop_Of.mono; have m3 := @verdict_rowed_int64.mono
 exact zM
def verdict_known_clamped.T11 : Bool × List (List Nat × List Nat) := (true, [([], []), ([], []), ([], []), ([], []), ([3], [3]), ([4], [4]), ([2, 5], [2, 5]), ([6], [6]), ([], []), ([], []), ([9], [9]), ([10], [10]), ([8, 11], [8, 11]), ([12], [12]), ([7, 13], [7, 13]), ([0, 1, 0, 1, 2, 3, 4, 5, 6, 7, 8, 9, 10, 11, 12, 13, 14], [0, 1]), ([15, 0, 1, 2, 3, 4, 5, 6, 7, 8, 9, 10, 11, 12, 13, 14], [15]), ([16, 14, 0, 1, 2, 3, 4, 5, 6, 7, 8, 9, 10, 11, 12, 13, 14], [14, 16])])
def verdict_known_clamped.B11 : List Nat := [0, 0, 0, 0, 8, 24, 60, 124, 0, 0, 512, 1536, 3840, 7936, 16380, 32767, 65535, 131071]
theorem verdict_known_clamped.tab11 : rtab .any (opsOf Tryz.f31 11) = verdict_known_clamped.T11 := by kernel_rfl
theorem verdict_known_clamped.bits11 : waitsOk verdict_known_clamped.T11.2 verdict_known_clamped.B11 = true := by kernel_rfl
def verdict_known_clamped.T14 : Bool × List (List Nat × List Nat) := (true, [([], []), ([], []), ([1], [1]), ([0, 2], [0, 2]), ([], []), ([], []), ([4, 5, 3], [4, 5]), ([], []), ([7], [7]), ([], []), ([3, 6, 8, 9], [3, 6, 8, 9]), ([10, 6, 0, 1, 2, 3, 4, 5, 6, 7, 8, 9, 10], [10])])
def verdict_known_clamped.B14 : List Nat := [0, 0, 2, 7, 0, 0, 63, 0, 128, 0, 1023, 2047]
theorem verdict_known_clamped.tab14 : rtab .any (opsOf Tryz.f31 14) = verdict_known_clamped.T14 := by kernel_rfl
theorem verdict_known_clamped.bits14 : waitsOk verdict_known_clamped.T14.2 verdict_known_clamped.B14 = true := by kernel_rfl
set_option maxHeartbeats 8000000 in
set_option maxRecDepth 100000 in
theorem verdict_known_clamped.calls (k : Nat) (A0_0 : Option Addr) (c0_0 : Nat) (l0_0 : List (S36)) (P0_1_ : Nat → Prop) (u9000_ : Value) (l0_1 : List ByteArray) (A0_2 : Option Addr) (c0_2 : Nat) (l0_2 : List Int) (A0_3 : Option Addr) (c0_3 : Nat) (l0_3 : List (S75)) (A0_4 : Option Addr) (c0_4 : Nat) (l0_4 : List (S72)) (r1 : Int) (r2 : List (S36)) (r3 : List Int) (r4 : List ByteArray) (r5 : List Int) (r6 : List (S72)) (w0 w : World) (hB : Below w0.heap.size w0 w) (hr0_0 : ∀ W_, Kept w W_ (fun k_ => P0_1_ k_) → Kd.C k36 W_ A0_0 l0_0.length l0_0) (hc0_0 : l0_0.length ≤ c0_0) (ho0_1 : Kd.R Kd.string 9 w w0.heap.size P0_1_ u9000_ l0_1) (hr0_2 : ∀ W_, Kept w W_ (fun k_ => P0_1_ k_) → Kd.C (Kd.int .i64) W_ A0_2 l0_2.length l0_2) (hc0_2 : l0_2.length ≤ c0_2) (hr0_3 : ∀ W_, Kept w W_ (fun k_ => P0_1_ k_) → Kd.C k75 W_ A0_3 l0_3.length l0_3) (hc0_3 : l0_3.length ≤ c0_3) (hr0_4 : ∀ W_, Kept w W_ (fun k_ => P0_1_ k_) → Kd.C k72 W_ A0_4 l0_4.length l0_4) (hc0_4 : l0_4.length ≤ c0_4) (h : verdict_known_clamped.f k l0_0 l0_1 l0_2 l0_3 l0_4 = some (r1, r2, r3, r4, r5, r6)) :
  Calls Tryz.prog 31 #[.agg #[.slice A0_0 l0_0.length c0_0, u9000_, .slice A0_2 l0_2.length c0_2, .slice A0_3 l0_3.length c0_3, .slice A0_4 l0_4.length c0_4]] w fun e w' => ∃ v1_ v2_ v3_ v4_ v5_ : Value, e = .returned (.agg #[.int .i64 r1, v1_, v2_, v3_, v4_, v5_]) ∧ Kd.R k36 36 w' w0.heap.size (fun k_ => (P0_1_ k_ ∨ w.heap.size ≤ k_)) v1_ r2 ∧ Kd.R (Kd.int .i64) 2 w' w0.heap.size (fun k_ => (P0_1_ k_ ∨ w.heap.size ≤ k_) ∧ some k_ ≠ (v4_ : Value).ownBlock) v2_ r3 ∧ Kd.R Kd.string 9 w' w0.heap.size (fun k_ => (P0_1_ k_ ∨ w.heap.size ≤ k_)) v3_ r4 ∧ Kd.R (Kd.int .i64) 2 w' w0.heap.size (fun k_ => (P0_1_ k_ ∨ w.heap.size ≤ k_) ∧ some k_ ≠ (v2_ : Value).ownBlock) v4_ r5 ∧ Kd.R k72 72 w' w0.heap.size (fun k_ => (P0_1_ k_ ∨ w.heap.size ≤ k_)) v5_ r6 ∧ Below w0.heap.size w0 w' ∧ Kept w w' (fun k_ => P0_1_ k_) := by
 have hu62 := Tryz.underlying62
 have hu31 := Tryz.underlying31
 have hu75 := Tryz.underlying75
 have hu72 := Tryz.underlying72
 have hu57 := Tryz.underlying57
 have HR0_0 := Aside0.mk hr0_0
 have HC0_0 := Aside0.mk hc0_0
 clear hr0_0 hc0_0
 have HO0_1 := Aside0.mk (show Kd.R Kd.string 9 w w0.heap.size (fun k_ => (P0_1_ k_ ∨ w.heap.size ≤ k_)) u9000_ l0_1 from Kd.R_mono ho0_1 (fun k_ hk => (.inl hk)))
 have HR0_2 := Aside0.mk hr0_2
 have HC0_2 := Aside0.mk hc0_2
 clear hr0_2 hc0_2
 have HR0_3 := Aside0.mk hr0_3
 have HC0_3 := Aside0.mk hc0_3
 clear hr0_3 hc0_3
 have HR0_4 := Aside0.mk hr0_4
 have HC0_4 := Aside0.mk hc0_4
 clear hr0_4 hc0_4
 have HK := Aside0.mk (Kept.refl w (fun k_ => P0_1_ k_))
 have HW0 := Aside0.mk hB.size
 have HB := Aside0.mk hB
 clear hB
 have H : (if 0 ≤ (l0_3.length : Int) then (if ((l0_3.length : Int) : Int).toNat ≤ 35184372088832 then (verdict_known_clamped.l0 k (List.replicate ((l0_3.length : Int) : Int).toNat 0) l0_3 (l0_3.length : Int) 0 l0_0 l0_1 l0_2 l0_3 l0_4) else (none)) else (none)) = some (r1, r2, r3, r4, r5, r6) := h
 clear h
 obtain ⟨c2, H⟩ := zj H
 have c2b0 := eq_true c2
 have c2b1 : decide (0 ≤ (l0_3.length : Int)) = true := decide_eq_true c2
 clear c2
 obtain ⟨c3, H⟩ := zj H
 have c3b0 := eq_true c3
 have c3b1 : decide (((l0_3.length : Int) : Int).toNat ≤ 35184372088832) = true := decide_eq_true c3
 clear c3
 obtain ⟨y273, hy273⟩ : ∃ y_ : List Int, y_ = (List.replicate ((l0_3.length : Int) : Int).toNat 0) := ⟨_, rfl⟩
 first | (replace H := zo H hy273) | rw [← hy273] at H
 have Ny273 := Aside0.mk hy273
 clear hy273
 have H' := Aside0.mk H
 clear H
 obtain ⟨Ao4, co4, eo4⟩ := Kd.R_slice HO0_1.out
 subst eo4
 go_enter Tryz.func31, Tryz.ntmps31
 go_wp2_with (first | ((with_reducible refine gate_dst (N := 1) rfl ?_); refine zbox (N := 1) (cs := #[.slice A0_0 l0_0.length c0_0, .slice Ao4 l0_1.length co4, .slice A0_2 l0_2.length c0_2, .slice A0_3 l0_3.length c0_3, .slice A0_4 l0_4.length c0_4]) (t := 62) ?_; intro gb271 hg w5 hbox hb; replace HO0_1 := Aside0.mk (Kd.R_below (zR HO0_1.out) hb); have BK271 := Aside0.mk (hbox); have GW271 := Aside0.mk ((by rw [hg]; exact (by first | exact HK.out.1 | exact (show Kept w _ (fun k_ => P0_1_ k_) from zH0).1) : w.heap.size ≤ gb271)); replace HK := Aside0.mk (Kept.below (S := (fun k_ => P0_1_ k_)) zH0 hb); have GE271 := Aside0.mk ((by rw [hg]; exact (below_size zB) : w0.heap.size ≤ gb271)); replace HB := Aside0.mk (below_step zB hb); clear hb hbox hg) | ((with_reducible refine gate_dst (N := 2) rfl ?_); refine zbox (N := 2) (cs := #[.int .i64 0, .slice none 0 0, .slice none 0 0, .slice none 0 0, .slice none 0 0, .slice none 0 0]) (t := 31) ?_; intro gb272 hg w6 hbox hb; replace HO0_1 := Aside0.mk (Kd.R_below (zR HO0_1.out) hb); have BK272 := Aside0.mk (hbox); have GW272 := Aside0.mk ((by rw [hg]; exact (by first | exact HK.out.1 | exact (show Kept w _ (fun k_ => P0_1_ k_) from zH1 GW271.out).1) : w.heap.size ≤ gb272)); replace HK := Aside0.mk (Kept.below (S := (fun k_ => P0_1_ k_)) (zH1 GW271.out) hb); have GE272 := Aside0.mk ((by rw [hg]; exact (below_size (zG GE271.out)) : w0.heap.size ≤ gb272)); replace HB := Aside0.mk (below_step (zG GE271.out) hb); have NB271_272 := Aside0.mk ((by rw [hg]; exact Nat.ne_of_lt (zKl BK271.out) : gb271 ≠ gb272)); have NB272_271 := Aside0.mk ((by rw [hg]; exact Nat.ne_of_gt (zKl BK271.out) : gb272 ≠ gb271)); replace BK271 := Aside0.mk (zKb BK271.out hb); clear hb hbox hg; have hnb7 := NB271_272.out; have hnc7 := NB272_271.out; obtain ⟨hcz8_0, hcz8_1, hcz8_2, hcz8_3, hcz8_4, hfz8_0, hfz8_1, hfz8_2, hfz8_3, hfz8_4⟩ := zb5 BK271.out) | ((with_reducible refine gate_dst (N := 14) rfl ?_); refine Kd.R_make (Kd.int .i64) _ 3 rfl (N := 14) rfl 43 _ _ rfl (l0_3.length : Int) rfl rfl Tryz.underlying43 (.int .i64 0) 8 info3 rfl (by decide) (by omega) 0 (ok := fun _ => True) (okp := fun _ => True) rfl (fun _ hk => hk) trivial (of_decide_eq_true zA) (Nat.le_trans (Nat.mul_le_mul_right _ (of_decide_eq_true zA : (l0_3.length : Int).toNat ≤ 35184372088832)) (by omega)) (Below.refl _ _) (Nat.le_refl _) ?_; intro v274 w9 ho10 hb hg_ hnew_; clear hg_ hnew_; (first | rw [← Ny273.out] at ho10 | (simp only [Int.reduceToNat] at ho10; rw [← Ny273.out] at ho10)); replace HO0_1 := Aside0.mk (Kd.R_below (zR HO0_1.out) hb); have HO275 := Aside0.mk (Kd.R_lower (Kd.R_newM (M := fun k_ => (P0_1_ k_ ∨ w.heap.size ≤ k_)) ho10 (by first | exact HK.out.1 | exact (show Kept w _ (fun k_ => P0_1_ k_) from zH2 GW271.out GW272.out).1) (fun k_ h_ => .inr h_)) (below_size (zG2 GE271.out GE272.out))); replace BK271 := Aside0.mk (zKb BK271.out hb); replace BK272 := Aside0.mk (zKb BK272.out hb); replace HK := Aside0.mk (Kept.below (S := (fun k_ => P0_1_ k_)) (zH2 GW271.out GW272.out) hb); replace HB := Aside0.mk (below_step (zG2 GE271.out GE272.out) hb); clear hb ho10; obtain ⟨hcz11_0, hcz11_1, hcz11_2, hcz11_3, hcz11_4, hfz11_0, hfz11_1, hfz11_2, hfz11_3, hfz11_4⟩ := zb5 BK271.out))
 go_loopg [18] k (fun kq v18 w' => ∃ (x3_1 : List Int) (x18_1 : Int), v18 = .int .i64 x18_1 ∧ Aside0 (verdict_known_clamped.l0 kq x3_1 l0_3 (l0_3.length : Int) x18_1 l0_0 l0_1 l0_2 l0_3 l0_4 = some (r1, r2, r3, r4, r5, r6)) ∧ Aside0 (kq ≤ k) ∧ Aside0 (Kd.R (Kd.int .i64) 3 w' w0.heap.size (fun k_ => (P0_1_ k_ ∨ w.heap.size ≤ k_)) v274 x3_1) ∧ Aside0 (Kd.R Kd.string 9 w' w0.heap.size (fun k_ => (P0_1_ k_ ∨ w.heap.size ≤ k_)) (.slice Ao4 l0_1.length co4) l0_1) ∧ Aside0 (w'.heap[gb271]? = some (.cells #[(.slice A0_0 l0_0.length c0_0), (.slice Ao4 l0_1.length co4), (.slice A0_2 l0_2.length c0_2), (.slice A0_3 l0_3.length c0_3), (.slice A0_4 l0_4.length c0_4)] 62 (0, 0))) ∧ Aside0 (w'.heap[gb272]? = some (.cells #[.int .i64 0, (.slice none 0 0), (.slice none 0 0), (.slice none 0 0), (.slice none 0 0), (.slice none 0 0)] 31 (0, 0))) ∧ Aside0 (Kept w w' (fun k_ => P0_1_ k_)) ∧ Aside0 (Below w0.heap.size w0 w'))
 case atStart => exact ⟨(y273), (0), zE, H', ⟨Nat.le_refl _⟩, ⟨zR1 HO275.out⟩, ⟨zR HO0_1.out⟩, ⟨zK BK271.out⟩, ⟨zK BK272.out⟩, ⟨zH2 GW271.out GW272.out⟩, ⟨zG2 GE271.out GE272.out⟩⟩
 case round =>
  clear H'
  (try clear c2); (try clear c2b0); (try clear c2b1); (try clear p2); (try clear c3); (try clear c3b0); (try clear c3b1); (try clear c7); (try clear hcz11_0 hcz11_1 hcz11_2 hcz11_3 hcz11_4); (try clear hcz8_0 hcz8_1 hcz8_2 hcz8_3 hcz8_4); (try clear hfz11_0 hfz11_1 hfz11_2 hfz11_3 hfz11_4); (try clear hfz8_0 hfz8_1 hfz8_2 hfz8_3 hfz8_4)
  obtain ⟨x3_1, x18_1, rfl, HA, HK1, HO_3, HO_272001, BK271, BK272, HK, HB⟩ := hrel
  cases gk with
  | zero => exact absurd HA.out (by simp [verdict_known_clamped.l0])
  | succ k1 =>
   have H := HA.out
   clear HA
   simp only [verdict_known_clamped.l0] at H
   by_cases c12 : x18_1 < (l0_3.length : Int)
   ·rw [if_pos c12] at H
    have c12b0 := decide_eq_true c12
    clear c12
    obtain ⟨c13b0, H⟩ := zt H
    obtain ⟨c14b0, H⟩ := zt H
    obtain ⟨c15b0, H⟩ := zt H
    obtain ⟨c16b0, H⟩ := zt H
    obtain ⟨y278, hy278⟩ : ∃ y_ : List Int, y_ = (x3_1.set (((rd_T75 l0_3 x18_1).f0) : Int).toNat x18_1) := ⟨_, rfl⟩
    first | (replace H := zo H hy278) | rw [← hy278] at H
    have Ny278 := Aside0.mk hy278
    clear hy278
    have H' := Aside0.mk H
    clear H
    have p276 : 0 ≤ (x18_1 : Int) := of_decide_eq_true zA
    have q276 : x18_1 < (l0_3.length : Int) := of_decide_eq_true zA
    obtain ⟨ad276, e276, hx276_0, hx276_1, hx276_2⟩ := at_T75 (Kd.C_kept_now HR0_3.out HK.out) x18_1 p276 q276
    cases e276
    replace p276 := eq_true p276
    replace q276 := eq_true q276
    go_wp2_with (first | ((with_reducible refine gate_dst (N := 5) rfl ?_); refine zbox (N := 5) (cs := #[.int .i64 0, .int .i64 0, .int .i64 0]) (t := 75) ?_; intro gb277 hg w18 hbox hb; replace HO_3 := Aside0.mk (Kd.R_below (zR HO_3.out) hb); replace HO_272001 := Aside0.mk (Kd.R_below (zR HO_272001.out) hb); have BK277 := Aside0.mk (hbox); have GW277 := Aside0.mk ((by rw [hg]; exact (by first | exact HK.out.1 | exact (show Kept w _ (fun k_ => P0_1_ k_) from zH2 GW271.out GW272.out).1) : w.heap.size ≤ gb277)); replace HK := Aside0.mk (Kept.below (S := (fun k_ => P0_1_ k_)) (zH2 GW271.out GW272.out) hb); have GE277 := Aside0.mk ((by rw [hg]; exact (below_size (zG2 GE271.out GE272.out)) : w0.heap.size ≤ gb277)); replace HB := Aside0.mk (below_step (zG2 GE271.out GE272.out) hb); have NB271_277 := Aside0.mk ((by rw [hg]; exact Nat.ne_of_lt (zKl BK271.out) : gb271 ≠ gb277)); have NB277_271 := Aside0.mk ((by rw [hg]; exact Nat.ne_of_gt (zKl BK271.out) : gb277 ≠ gb271)); replace BK271 := Aside0.mk (zKb BK271.out hb); have NB272_277 := Aside0.mk ((by rw [hg]; exact Nat.ne_of_lt (zKl BK272.out) : gb272 ≠ gb277)); have NB277_272 := Aside0.mk ((by rw [hg]; exact Nat.ne_of_gt (zKl BK272.out) : gb277 ≠ gb272)); replace BK272 := Aside0.mk (zKb BK272.out hb); clear hb hbox hg; have hnb19 := NB277_271.out; have hnc19 := NB271_277.out; have hnb20 := NB277_272.out; have hnc20 := NB272_277.out; obtain ⟨hcz21_0, hcz21_1, hcz21_2, hfz21_0, hfz21_1, hfz21_2⟩ := zb3 BK277.out) | ((with_reducible refine gate_store (t := 75) (p := 5) rfl ?_); refine store_event (t := 75) (p := 5) (v := ?vo_w22) (w1 := (((w18.setCell ⟨gb277, 0, none⟩ (.int .i64 ((rd_T75 l0_3 x18_1).f0))).setCell ⟨gb277, 1, none⟩ (.int .i64 ((rd_T75 l0_3 x18_1).f1))).setCell ⟨gb277, 2, none⟩ (.int .i64 ((rd_T75 l0_3 x18_1).f2)))) ?hg ?ho ?hn ?hr ?_; (case ho => rfl); (case hg => rfl); (case hn => rfl); (case hr => first | (go_simp; done) | (go_simp; rfl)); intro w22 hw; have n0_ : Aside0 (Kd.R (Kd.int .i64) 3 w22 w0.heap.size (fun k_ => (P0_1_ k_ ∨ w.heap.size ≤ k_)) v274 x3_1) := ⟨(by rw [hw]; exact (Kd.R_mono (zW HO_3.out BK277.out) (fun _ hk => hk)))⟩; have n1_ : Aside0 (Kd.R Kd.string 9 w22 w0.heap.size (fun k_ => (P0_1_ k_ ∨ w.heap.size ≤ k_)) (.slice Ao4 l0_1.length co4) l0_1) := ⟨(by rw [hw]; exact (Kd.R_mono (zW HO_272001.out BK277.out) (fun _ hk => hk)))⟩; have n2_ : Aside0 (w22.heap[gb271]? = some (.cells #[.slice A0_0 l0_0.length c0_0, .slice Ao4 l0_1.length co4, .slice A0_2 l0_2.length c0_2, .slice (some ad276) l0_3.length c0_3, .slice A0_4 l0_4.length c0_4] 62 (0, 0))) := ⟨(by rw [hw]; exact (zF NB271_277.out BK271.out))⟩; have n3_ : Aside0 (w22.heap[gb272]? = some (.cells #[.int .i64 0, .slice none 0 0, .slice none 0 0, .slice none 0 0, .slice none 0 0, .slice none 0 0] 31 (0, 0))) := ⟨(by rw [hw]; exact (zF NB272_277.out BK272.out))⟩; have n4_ : Aside0 (w22.heap[gb277]? = some (.cells #[.int .i64 ((rd_T75 l0_3 x18_1).f0), .int .i64 ((rd_T75 l0_3 x18_1).f1), .int .i64 ((rd_T75 l0_3 x18_1).f2)] 75 (0, 0))) := ⟨(by rw [hw]; exact (zP BK277.out))⟩; have n5_ : Aside0 (Kept w w22 (fun k_ => P0_1_ k_)) := ⟨(by rw [hw]; exact (zH3 GW271.out GW272.out GW277.out))⟩; have n6_ : Aside0 (Below w0.heap.size w0 w22) := ⟨(by rw [hw]; exact (zG3 GE271.out GE272.out GE277.out))⟩; clear hw; clear HO_3; clear HO_272001; clear BK271; clear BK272; clear BK277; clear HK; clear HB; have HO_3 := n0_; have HO_272001 := n1_; have BK271 := n2_; have BK272 := n3_; have BK277 := n4_; have HK := n5_; have HB := n6_; clear n0_ n1_ n2_ n3_ n4_ n5_ n6_; obtain ⟨hcz23_0, hcz23_1, hcz23_2, hfz23_0, hfz23_1, hfz23_2⟩ := zb3 BK277.out; have p17 : 0 ≤ (((rd_T75 l0_3 x18_1).f0) : Int) := of_decide_eq_true zA; have q17 : (((rd_T75 l0_3 x18_1).f0) : Int) < ((x3_1.length : Int) : Int) := of_decide_eq_true zA; obtain ⟨go17, co17, eo17, gb17, gl17, cl17, HG17⟩ := Kd.R_form HO_3.out (by omega); (first | cases eo17 | (injection eo17 with ea_ en_ ec_; (first | subst ea_ | (injection ea_ with ea_; subst ea_)); subst ec_; clear en_)); have GB17 := Aside0.mk gb17; have GG17 := Aside0.mk HG17; clear gb17 gl17 HG17; have HMgo17 := Aside0.mk (show (P0_1_ go17 ∨ w.heap.size ≤ go17) from (HO_3.out.1 _ rfl)); obtain ⟨hx17_0, hf17_0⟩ := Kd.R_celln 0 HO_3.out (((rd_T75 l0_3 x18_1).f0) : Int) p17 q17; replace p17 := eq_true p17; replace q17 := eq_true q17; obtain ⟨hy24_, hz24_⟩ := Kd.R_celln 0 HO_3.out (((rd_T75 l0_3 x18_1).f0) : Int) (of_decide_eq_true zA) (of_decide_eq_true zA); have HP24 := Kd.R_putg HO_3.out (((rd_T75 l0_3 x18_1).f0) : Int) x18_1) | ((with_reducible refine gate_store (t := 3) (p := 27) rfl ?_); refine store_event (t := 3) (p := 27) (v := ?vo_w25) (w1 := (w22.setCell ⟨go17, (((rd_T75 l0_3 x18_1).f0) : Int).toNat, none⟩ (.int .i64 x18_1))) ?hg ?ho ?hn ?hr ?_; (case ho => rfl); (case hg => rfl); (case hn => rfl); (case hr => first | (go_simp; done) | (go_simp; rfl)); intro w25 hw; have hg : w22.grownBy w25 (some go17) := (by rw [hw]; exact HP24.2); have hp_ : Kd.R (Kd.int .i64) 3 w25 w0.heap.size (fun k_ => (P0_1_ k_ ∨ w.heap.size ≤ k_)) (.slice (some ⟨go17, 0, none⟩) x3_1.length co17) y278 := (by rw [hw, Ny278.out]; exact HP24.1); clear HP24; replace HO_272001 := Aside0.mk (Kd.R_over' (v := (.slice (some ⟨go17, 0, none⟩) x3_1.length co17)) (zR HO_272001.out) (Kd.R_typed HO_3.out) (by decide) hg); replace BK271 := Aside0.mk (blk_grown (g := gb271) (o := .cells #[.slice A0_0 l0_0.length c0_0, .slice Ao4 l0_1.length co4, .slice A0_2 l0_2.length c0_2, .slice (some ad276) l0_3.length c0_3, .slice A0_4 l0_4.length c0_4] 62 (0, 0)) (zK BK271.out) hg (Kd.R_ne HO_3.out BK271.out (by decide))); replace BK272 := Aside0.mk (blk_grown (g := gb272) (o := .cells #[.int .i64 0, .slice none 0 0, .slice none 0 0, .slice none 0 0, .slice none 0 0, .slice none 0 0] 31 (0, 0)) (zK BK272.out) hg (Kd.R_ne HO_3.out BK272.out (by decide))); replace BK277 := Aside0.mk (blk_grown (g := gb277) (o := .cells #[.int .i64 ((rd_T75 l0_3 x18_1).f0), .int .i64 ((rd_T75 l0_3 x18_1).f1), .int .i64 ((rd_T75 l0_3 x18_1).f2)] 75 (0, 0)) (zK BK277.out) hg (Kd.R_ne HO_3.out BK277.out (by decide))); replace HB := Aside0.mk ((by rw [hw]; exact below_set (HB.out) GB17.out : Below w0.heap.size w0 w25)); replace HK := Aside0.mk (Kept.of_grown (S := (fun k_ => P0_1_ k_)) hg (zH3 GW271.out GW272.out GW277.out) (fun k_ e_ => (HO_3.out.1 k_ e_))); replace HO_3 := Aside0.mk (hp_); clear hg hw hp_))
    go_roundg k1
    case measure => have := HK1.out; omega
    case rel => exact ⟨(y278), (wrap64 (x18_1 + 1)), zE, H', ⟨by have := HK1.out; omega⟩, ⟨zR HO_3.out⟩, ⟨zR HO_272001.out⟩, ⟨zK BK271.out⟩, ⟨zK BK272.out⟩, ⟨zH3 GW271.out GW272.out GW277.out⟩, ⟨zG3 GE271.out GE272.out GE277.out⟩⟩
   ·rw [if_neg c12] at H
    have c12b0 := decide_eq_false c12
    clear c12
    replace H := Option.bind_eq_some_iff.mp H
    obtain ⟨t279, A260, H⟩ := H
    have A26 := Aside0.mk A260
    clear A260
    have H' := Aside0.mk H
    clear H
    have hnb27 := NB271_272.out
    have hnc27 := NB272_271.out
    obtain ⟨hcz28_0, hcz28_1, hcz28_2, hcz28_3, hcz28_4, hfz28_0, hfz28_1, hfz28_2, hfz28_3, hfz28_4⟩ := zb5 BK271.out
    go_wp2_with (first | ((with_reducible refine gate_callee (f := 64) rfl ?_); refine goesL_ (some 34) rfl rfl Tryz.func64 (by kernel_rfl) rfl #[.int .i64 (l0_1.length : Int), .slice A0_4 l0_4.length c0_4] rfl zL ?_; (with_reducible refine (loop_Of.calls k1 (l0_1.length : Int) _ _ l0_4 t279 _ ?side1 ?side2 A26.out).mono ?_); (case side1 => exact Kd.C_kept_now HR0_4.out (zH2 GW271.out GW272.out)); (case side2 => exact HC0_4.out); rintro e w29 ⟨v280, rfl, ho0, hb⟩; refine ⟨_, rfl, ?_⟩; replace HO_3 := Aside0.mk (Kd.R_below (zR HO_3.out) hb); replace HO_272001 := Aside0.mk (Kd.R_below (zR HO_272001.out) hb); have HO281 := Aside0.mk (Kd.R_lower (Kd.R_newM (M := fun k_ => (P0_1_ k_ ∨ w.heap.size ≤ k_)) ho0 (by first | exact HK.out.1 | exact (show Kept w _ (fun k_ => P0_1_ k_) from zH2 GW271.out GW272.out).1) (fun k_ h_ => .inr h_)) (below_size (zG2 GE271.out GE272.out))); replace BK271 := Aside0.mk (zKb BK271.out hb); replace BK272 := Aside0.mk (zKb BK272.out hb); replace HK := Aside0.mk (Kept.below (S := (fun k_ => P0_1_ k_)) (zH2 GW271.out GW272.out) hb); replace HB := Aside0.mk (below_step (zG2 GE271.out GE272.out) hb); (try clear hb); (try clear hb2); (try clear hk); (try clear hi); (try clear ho0); obtain ⟨Ao30, co30, eo30⟩ := Kd.R_slice HO281.out; subst eo30))
    go_loopg [37] k1 (fun kq v37 w' => ∃ (x6_2 : List (S72)) (x37_2 : Int), v37 = .int .i64 x37_2 ∧ Aside0 (verdict_known_clamped.l1 kq x3_1 x6_2 (t279.length : Int) x37_2 l0_0 l0_1 l0_2 l0_3 l0_4 = some (r1, r2, r3, r4, r5, r6)) ∧ Aside0 (kq ≤ k1) ∧ Aside0 (Kd.R (Kd.int .i64) 3 w' w0.heap.size (fun k_ => (P0_1_ k_ ∨ w.heap.size ≤ k_)) v274 x3_1) ∧ Aside0 (Kd.R k72 72 w' w0.heap.size (fun k_ => (P0_1_ k_ ∨ w.heap.size ≤ k_)) (.slice Ao30 t279.length co30) x6_2) ∧ Aside0 (Kd.R Kd.string 9 w' w0.heap.size (fun k_ => (P0_1_ k_ ∨ w.heap.size ≤ k_)) (.slice Ao4 l0_1.length co4) l0_1) ∧ Aside0 (w'.heap[gb271]? = some (.cells #[(.slice A0_0 l0_0.length c0_0), (.slice Ao4 l0_1.length co4), (.slice A0_2 l0_2.length c0_2), (.slice A0_3 l0_3.length c0_3), (.slice A0_4 l0_4.length c0_4)] 62 (0, 0))) ∧ Aside0 (w'.heap[gb272]? = some (.cells #[.int .i64 0, (.slice none 0 0), (.slice none 0 0), (.slice none 0 0), (.slice none 0 0), (.slice none 0 0)] 31 (0, 0))) ∧ Aside0 (Kept w w' (fun k_ => P0_1_ k_)) ∧ Aside0 (Below w0.heap.size w0 w'))
    case atStart => exact ⟨(t279), (0), zE, H', ⟨Nat.le_refl _⟩, ⟨zR HO_3.out⟩, ⟨zR1 HO281.out⟩, ⟨zR HO_272001.out⟩, ⟨zK BK271.out⟩, ⟨zK BK272.out⟩, ⟨zH2 GW271.out GW272.out⟩, ⟨zG2 GE271.out GE272.out⟩⟩
    case round =>
     clear H'
     (try clear c1); (try clear p1); (try clear q1); (try clear hx1); (try clear hf1); (try clear c2); (try clear c2b0); (try clear c2b1); (try clear p2); (try clear q2); (try clear hx2); (try clear c3); (try clear c3b0); (try clear c3b1); (try clear c6); (try clear p6); (try clear c7); (try clear c12); (try clear c12b0); (try clear c13); (try clear c13b0); (try clear c14); (try clear c14b0); (try clear c15); (try clear c15b0); (try clear c16); (try clear c16b0); (try clear p17); (try clear q17); (try clear hx17); (try clear hf17); (try clear c19); (try clear c20); (try clear c27); (try clear p27); (try clear q27); (try clear hx27); (try clear hcz11_0 hcz11_1 hcz11_2 hcz11_3 hcz11_4); (try clear hcz21_0 hcz21_1 hcz21_2); (try clear hcz23_0 hcz23_1 hcz23_2); (try clear hcz28_0 hcz28_1 hcz28_2 hcz28_3 hcz28_4); (try clear hcz8_0 hcz8_1 hcz8_2 hcz8_3 hcz8_4); (try clear hfz11_0 hfz11_1 hfz11_2 hfz11_3 hfz11_4); (try clear hfz21_0 hfz21_1 hfz21_2); (try clear hfz23_0 hfz23_1 hfz23_2); (try clear hfz28_0 hfz28_1 hfz28_2 hfz28_3 hfz28_4); (try clear hfz8_0 hfz8_1 hfz8_2 hfz8_3 hfz8_4); (try clear hx17_0); (try clear hx276_0); (try clear hx276_1); (try clear hx276_2); (try clear p17); (try clear p2); (try clear p276); (try clear q17); (try clear q276)
     obtain ⟨x6_2, x37_2, rfl, HA, HK2, HO_3, HO_6, HO_272001, BK271, BK272, HK, HB⟩ := hrel
     have hl6_2 := (Kd.R_reads' HO_6.out).1
     rw [hl6_2] at HO_6
     (try simp only [hl6_2])
     (try simp only [hl6_2] at BK271)
     (try simp only [hl6_2] at BK272)
     (try simp only [hl6_2] at HO_3)
     (try simp only [hl6_2] at HO_272001)
     cases gk with
     | zero => exact absurd HA.out (by simp [verdict_known_clamped.l1])
     | succ k2 =>
      have H := HA.out
      clear HA
      simp only [verdict_known_clamped.l1] at H
      by_cases c31 : x37_2 < (t279.length : Int)
      ·rw [if_pos c31] at H
       have c31b0 := decide_eq_true c31
       have c31b0z := c31b0
       (try simp only [hl6_2] at c31b0z)
       clear c31
       obtain ⟨c32b0, H⟩ := zt H
       obtain ⟨c33, H⟩ := zj H
       have c33b0 : decide (x37_2 < (x6_2.length : Int)) = true := decide_eq_true c33
       have c33b0z := c33b0
       (try simp only [hl6_2] at c33b0z)
       clear c33
       obtain ⟨c34b0, H⟩ := zt H
       obtain ⟨c35, H⟩ := zj H
       have c35b0 : decide (((rd_T72 x6_2 x37_2).f3.f0) < (x3_1.length : Int)) = true := decide_eq_true c35
       have c35b0z := c35b0
       (try simp only [hl6_2] at c35b0z)
       clear c35
       obtain ⟨c36b0, H⟩ := zt H
       obtain ⟨c37, H⟩ := zj H
       have c37b0 : decide (((rd_T72 x6_2 x37_2).f3.f1) < (x3_1.length : Int)) = true := decide_eq_true c37
       have c37b0z := c37b0
       (try simp only [hl6_2] at c37b0z)
       clear c37
       obtain ⟨y286, hy286⟩ : ∃ y_ : List (S72), y_ = (x6_2.set (x37_2 : Int).toNat (⟨(rd_T72 x6_2 x37_2).f0, (rd_T72 x6_2 x37_2).f1, (rd_T72 x6_2 x37_2).f2, (⟨rd x3_1 ((rd_T72 x6_2 x37_2).f3.f0), rd x3_1 ((rd_T72 x6_2 x37_2).f3.f1)⟩ : S57), (rd_T72 x6_2 x37_2).f4⟩ : S72)) := ⟨_, rfl⟩
       first | (replace H := zo H hy286) | rw [← hy286] at H
       have Ny286 := Aside0.mk hy286
       clear hy286
       have H' := Aside0.mk H
       clear H
       have p282 : 0 ≤ (x37_2 : Int) := of_decide_eq_true zA
       have q282 : x37_2 < (x6_2.length : Int) := of_decide_eq_true zA
       obtain ⟨ad282, e282, hx282_0, hx282_1, hx282_2, hx282_3, hx282_4, hx282_5⟩ := at_T72 (Kd.R_reads' HO_6.out).2.2 x37_2 p282 q282
       cases e282
       replace p282 := eq_true p282
       replace q282 := eq_true q282
       try go_wp2_with (first | ((with_reducible refine gate_dst (N := 8) rfl ?_); refine zbox (N := 8) (cs := #[.int .i64 0, .int .i64 0, .int .i64 0, .int .i64 0, .int .i64 0, .bool false]) (t := 72) ?_; intro gb283 hg w39 hbox hb; replace HO_3 := Aside0.mk (Kd.R_below (zR HO_3.out) hb); replace HO_6 := Aside0.mk (Kd.R_below (Kd.R_elderB (zR HO_6.out) gb283 (Nat.le_of_eq hg.symm)) hb); replace HO_272001 := Aside0.mk (Kd.R_below (zR HO_272001.out) hb); have BK283 := Aside0.mk (hbox); have GW283 := Aside0.mk ((by rw [hg]; exact (by first | exact HK.out.1 | exact (show Kept w _ (fun k_ => P0_1_ k_) from zH2 GW271.out GW272.out).1) : w.heap.size ≤ gb283)); replace HK := Aside0.mk (Kept.below (S := (fun k_ => P0_1_ k_)) (zH2 GW271.out GW272.out) hb); have GE283 := Aside0.mk ((by rw [hg]; exact (below_size (zG2 GE271.out GE272.out)) : w0.heap.size ≤ gb283)); replace HB := Aside0.mk (below_step (zG2 GE271.out GE272.out) hb); have NB271_283 := Aside0.mk ((by rw [hg]; exact Nat.ne_of_lt (zKl BK271.out) : gb271 ≠ gb283)); have NB283_271 := Aside0.mk ((by rw [hg]; exact Nat.ne_of_gt (zKl BK271.out) : gb283 ≠ gb271)); replace BK271 := Aside0.mk (zKb BK271.out hb); have NB272_283 := Aside0.mk ((by rw [hg]; exact Nat.ne_of_lt (zKl BK272.out) : gb272 ≠ gb283)); have NB283_272 := Aside0.mk ((by rw [hg]; exact Nat.ne_of_gt (zKl BK272.out) : gb283 ≠ gb272)); replace BK272 := Aside0.mk (zKb BK272.out hb); clear hb hbox hg; have hnb40 := NB283_271.out; have hnc40 := NB271_283.out; have hnb41 := NB283_272.out; have hnc41 := NB272_283.out; obtain ⟨hcz42_0, hcz42_1, hcz42_2, hcz42_3, hcz42_4, hcz42_5, hfz42_0, hfz42_1, hfz42_2, hfz42_3, hfz42_4, hfz42_5⟩ := zb6 BK283.out))
       have n0_ : Aside0 (Kd.R (Kd.int .i64) 3 ((((((w39.setCell ⟨gb283, 0, none⟩ (.int .i64 ((rd_T72 x6_2 x37_2).f0))).setCell ⟨gb283, 1, none⟩ (.int .i64 ((rd_T72 x6_2 x37_2).f1))).setCell ⟨gb283, 2, none⟩ (.int .i64 ((rd_T72 x6_2 x37_2).f2))).setCell ⟨gb283, 3, none⟩ (.int .i64 ((rd_T72 x6_2 x37_2).f3.f0))).setCell ⟨gb283, 4, none⟩ (.int .i64 ((rd_T72 x6_2 x37_2).f3.f1))).setCell ⟨gb283, 5, none⟩ (.bool ((rd_T72 x6_2 x37_2).f4))) w0.heap.size (fun k_ => (P0_1_ k_ ∨ w.heap.size ≤ k_)) v274 x3_1) := ⟨Kd.R_mono (zW HO_3.out BK283.out) (fun _ hk => hk)⟩
       have n1_ : Aside0 (Kd.R k72 72 ((((((w39.setCell ⟨gb283, 0, none⟩ (.int .i64 ((rd_T72 x6_2 x37_2).f0))).setCell ⟨gb283, 1, none⟩ (.int .i64 ((rd_T72 x6_2 x37_2).f1))).setCell ⟨gb283, 2, none⟩ (.int .i64 ((rd_T72 x6_2 x37_2).f2))).setCell ⟨gb283, 3, none⟩ (.int .i64 ((rd_T72 x6_2 x37_2).f3.f0))).setCell ⟨gb283, 4, none⟩ (.int .i64 ((rd_T72 x6_2 x37_2).f3.f1))).setCell ⟨gb283, 5, none⟩ (.bool ((rd_T72 x6_2 x37_2).f4))) w0.heap.size (fun k_ => (P0_1_ k_ ∨ w.heap.size ≤ k_) ∧ k_ ≠ gb283) (.slice (some ad282) x6_2.length co30) x6_2) := ⟨by (with_reducible repeat (first | apply Kd.R_alloc | apply Kd.R_drewN | apply Kd.R_drew)); exact Kd.R_mono (Kd.R_far (p := ⟨gb283, 5, none⟩) (Kd.R_far (p := ⟨gb283, 4, none⟩) (Kd.R_far (p := ⟨gb283, 3, none⟩) (Kd.R_far (p := ⟨gb283, 2, none⟩) (Kd.R_far (p := ⟨gb283, 1, none⟩) (Kd.R_far (p := ⟨gb283, 0, none⟩) (Kd.R_mono HO_6.out (fun k_ hk => (⟨hk, hk.2⟩ : _ ∧ k_ ≠ gb283))) (fun _ hk => hk.2) (.int .i64 ((rd_T72 x6_2 x37_2).f0))) (fun _ hk => hk.2) (.int .i64 ((rd_T72 x6_2 x37_2).f1))) (fun _ hk => hk.2) (.int .i64 ((rd_T72 x6_2 x37_2).f2))) (fun _ hk => hk.2) (.int .i64 ((rd_T72 x6_2 x37_2).f3.f0))) (fun _ hk => hk.2) (.int .i64 ((rd_T72 x6_2 x37_2).f3.f1))) (fun _ hk => hk.2) (.bool ((rd_T72 x6_2 x37_2).f4))) (fun _ hk => ⟨hk.1.1, hk.1.2⟩)⟩
       have n2_ : Aside0 (Kd.R Kd.string 9 ((((((w39.setCell ⟨gb283, 0, none⟩ (.int .i64 ((rd_T72 x6_2 x37_2).f0))).setCell ⟨gb283, 1, none⟩ (.int .i64 ((rd_T72 x6_2 x37_2).f1))).setCell ⟨gb283, 2, none⟩ (.int .i64 ((rd_T72 x6_2 x37_2).f2))).setCell ⟨gb283, 3, none⟩ (.int .i64 ((rd_T72 x6_2 x37_2).f3.f0))).setCell ⟨gb283, 4, none⟩ (.int .i64 ((rd_T72 x6_2 x37_2).f3.f1))).setCell ⟨gb283, 5, none⟩ (.bool ((rd_T72 x6_2 x37_2).f4))) w0.heap.size (fun k_ => (P0_1_ k_ ∨ w.heap.size ≤ k_)) (.slice Ao4 l0_1.length co4) l0_1) := ⟨Kd.R_mono (zW HO_272001.out BK283.out) (fun _ hk => hk)⟩
       have n3_ : Aside0 (((((((w39.setCell ⟨gb283, 0, none⟩ (.int .i64 ((rd_T72 x6_2 x37_2).f0))).setCell ⟨gb283, 1, none⟩ (.int .i64 ((rd_T72 x6_2 x37_2).f1))).setCell ⟨gb283, 2, none⟩ (.int .i64 ((rd_T72 x6_2 x37_2).f2))).setCell ⟨gb283, 3, none⟩ (.int .i64 ((rd_T72 x6_2 x37_2).f3.f0))).setCell ⟨gb283, 4, none⟩ (.int .i64 ((rd_T72 x6_2 x37_2).f3.f1))).setCell ⟨gb283, 5, none⟩ (.bool ((rd_T72 x6_2 x37_2).f4))).heap[gb271]? = some (.cells #[.slice A0_0 l0_0.length c0_0, .slice Ao4 l0_1.length co4, .slice A0_2 l0_2.length c0_2, .slice A0_3 l0_3.length c0_3, .slice A0_4 l0_4.length c0_4] 62 (0, 0))) := ⟨zF NB271_283.out BK271.out⟩
       have n4_ : Aside0 (((((((w39.setCell ⟨gb283, 0, none⟩ (.int .i64 ((rd_T72 x6_2 x37_2).f0))).setCell ⟨gb283, 1, none⟩ (.int .i64 ((rd_T72 x6_2 x37_2).f1))).setCell ⟨gb283, 2, none⟩ (.int .i64 ((rd_T72 x6_2 x37_2).f2))).setCell ⟨gb283, 3, none⟩ (.int .i64 ((rd_T72 x6_2 x37_2).f3.f0))).setCell ⟨gb283, 4, none⟩ (.int .i64 ((rd_T72 x6_2 x37_2).f3.f1))).setCell ⟨gb283, 5, none⟩ (.bool ((rd_T72 x6_2 x37_2).f4))).heap[gb272]? = some (.cells #[.int .i64 0, .slice none 0 0, .slice none 0 0, .slice none 0 0, .slice none 0 0, .slice none 0 0] 31 (0, 0))) := ⟨zF NB272_283.out BK272.out⟩
       have n5_ : Aside0 (((((((w39.setCell ⟨gb283, 0, none⟩ (.int .i64 ((rd_T72 x6_2 x37_2).f0))).setCell ⟨gb283, 1, none⟩ (.int .i64 ((rd_T72 x6_2 x37_2).f1))).setCell ⟨gb283, 2, none⟩ (.int .i64 ((rd_T72 x6_2 x37_2).f2))).setCell ⟨gb283, 3, none⟩ (.int .i64 ((rd_T72 x6_2 x37_2).f3.f0))).setCell ⟨gb283, 4, none⟩ (.int .i64 ((rd_T72 x6_2 x37_2).f3.f1))).setCell ⟨gb283, 5, none⟩ (.bool ((rd_T72 x6_2 x37_2).f4))).heap[gb283]? = some (.cells #[.int .i64 ((rd_T72 x6_2 x37_2).f0), .int .i64 ((rd_T72 x6_2 x37_2).f1), .int .i64 ((rd_T72 x6_2 x37_2).f2), .int .i64 ((rd_T72 x6_2 x37_2).f3.f0), .int .i64 ((rd_T72 x6_2 x37_2).f3.f1), .bool ((rd_T72 x6_2 x37_2).f4)] 72 (0, 0))) := ⟨zP BK283.out⟩
       have n6_ : Aside0 (Kept w ((((((w39.setCell ⟨gb283, 0, none⟩ (.int .i64 ((rd_T72 x6_2 x37_2).f0))).setCell ⟨gb283, 1, none⟩ (.int .i64 ((rd_T72 x6_2 x37_2).f1))).setCell ⟨gb283, 2, none⟩ (.int .i64 ((rd_T72 x6_2 x37_2).f2))).setCell ⟨gb283, 3, none⟩ (.int .i64 ((rd_T72 x6_2 x37_2).f3.f0))).setCell ⟨gb283, 4, none⟩ (.int .i64 ((rd_T72 x6_2 x37_2).f3.f1))).setCell ⟨gb283, 5, none⟩ (.bool ((rd_T72 x6_2 x37_2).f4))) (fun k_ => P0_1_ k_)) := ⟨zH3 GW271.out GW272.out GW283.out⟩
       have n7_ : Aside0 (Below w0.heap.size w0 ((((((w39.setCell ⟨gb283, 0, none⟩ (.int .i64 ((rd_T72 x6_2 x37_2).f0))).setCell ⟨gb283, 1, none⟩ (.int .i64 ((rd_T72 x6_2 x37_2).f1))).setCell ⟨gb283, 2, none⟩ (.int .i64 ((rd_T72 x6_2 x37_2).f2))).setCell ⟨gb283, 3, none⟩ (.int .i64 ((rd_T72 x6_2 x37_2).f3.f0))).setCell ⟨gb283, 4, none⟩ (.int .i64 ((rd_T72 x6_2 x37_2).f3.f1))).setCell ⟨gb283, 5, none⟩ (.bool ((rd_T72 x6_2 x37_2).f4)))) := ⟨zG3 GE271.out GE272.out GE283.out⟩
       (try clear HO_3); (try clear HO_6); (try clear HO_272001); (try clear BK271); (try clear BK272); (try clear BK283); (try clear HK); (try clear HB)
       generalize ((((((w39.setCell ⟨gb283, 0, none⟩ (.int .i64 ((rd_T72 x6_2 x37_2).f0))).setCell ⟨gb283, 1, none⟩ (.int .i64 ((rd_T72 x6_2 x37_2).f1))).setCell ⟨gb283, 2, none⟩ (.int .i64 ((rd_T72 x6_2 x37_2).f2))).setCell ⟨gb283, 3, none⟩ (.int .i64 ((rd_T72 x6_2 x37_2).f3.f0))).setCell ⟨gb283, 4, none⟩ (.int .i64 ((rd_T72 x6_2 x37_2).f3.f1))).setCell ⟨gb283, 5, none⟩ (.bool ((rd_T72 x6_2 x37_2).f4))) = w43 at n0_ n1_ n2_ n3_ n4_ n5_ n6_ n7_ ⊢
       have HO_3 := n0_
       have HO_6 := n1_
       have HO_272001 := n2_
       have BK271 := n3_
       have BK272 := n4_
       have BK283 := n5_
       have HK := n6_
       have HB := n7_
       clear n0_ n1_ n2_ n3_ n4_ n5_ n6_ n7_
       replace HO_3 := Aside0.mk (Kd.R_drew HO_3.out)
       replace HO_6 := Aside0.mk (Kd.R_drew HO_6.out)
       replace HO_272001 := Aside0.mk (Kd.R_drew HO_272001.out)
       replace BK271 := Aside0.mk (blk_drew BK271.out)
       replace BK272 := Aside0.mk (blk_drew BK272.out)
       replace BK283 := Aside0.mk (blk_drew BK283.out)
       replace HK := Aside0.mk (Kept.drew HK.out)
       replace HB := Aside0.mk (below_drew1 HB.out)
       obtain ⟨Ao45, co45, eo45⟩ := Kd.R_slice HO_3.out
       (first | subst eo45 | (injection eo45 with f1_ f2_ f3_; have f4_ := f1_.symm; have f5_ := f3_.symm; clear f1_ f2_ f3_; subst f4_; subst f5_))
       have p284 : 0 ≤ (((rd_T72 x6_2 x37_2).f3.f0) : Int) := of_decide_eq_true zA
       have q284 : ((rd_T72 x6_2 x37_2).f3.f0) < (x3_1.length : Int) := of_decide_eq_true zA
       obtain ⟨ad284, e284, hx284_0⟩ := Kd.at_int (Kd.R_reads' HO_3.out).2.2 ((rd_T72 x6_2 x37_2).f3.f0) p284 q284
       cases e284
       replace p284 := eq_true p284
       replace q284 := eq_true q284
       have p285 : 0 ≤ (((rd_T72 x6_2 x37_2).f3.f1) : Int) := of_decide_eq_true zA
       have q285 : ((rd_T72 x6_2 x37_2).f3.f1) < (x3_1.length : Int) := of_decide_eq_true zA
       obtain ⟨ad285, e285, hx285_0⟩ := Kd.at_int (Kd.R_reads' HO_3.out).2.2 ((rd_T72 x6_2 x37_2).f3.f1) p285 q285
       obtain rfl : ad284 = ad285 := (by injection e285)
       replace p285 := eq_true p285
       replace q285 := eq_true q285
       have p38 : 0 ≤ (x37_2 : Int) := of_decide_eq_true zA
       have q38 : (x37_2 : Int) < ((x6_2.length : Int) : Int) := of_decide_eq_true zA
       obtain ⟨go38, co38, eo38, gb38, gl38, cl38, HG38⟩ := Kd.R_form HO_6.out (by omega)
       (first | cases eo38 | (injection eo38 with ea_ en_ ec_; (first | subst ea_ | (injection ea_ with ea_; subst ea_)); subst ec_; clear en_))
       have GB38 := Aside0.mk gb38
       have GG38 := Aside0.mk HG38
       clear gb38 gl38 HG38
       have HMgo38 := Aside0.mk (show (P0_1_ go38 ∨ w.heap.size ≤ go38) from (HO_6.out.1 _ rfl).1)
       (first | simp only [add_plain] at hx282_0 | skip)
       (first | simp only [add_plain] at hx282_1 | skip)
       (first | simp only [add_plain] at hx282_2 | skip)
       (first | simp only [add_plain] at hx282_3 | skip)
       (first | simp only [add_plain] at hx282_4 | skip)
       (first | simp only [add_plain] at hx282_5 | skip)
       obtain ⟨ce38, hcl38, hM38, hcc38, hfr38⟩ := Kd.R_elem HO_6.out z72 (x37_2 : Int) p38 q38
       obtain rfl := k72_openM hM38
       have hx38_0 : World.cell? _ ⟨go38, (x37_2 : Int).toNat * 6, none⟩ = some (.int .i64 ((rd_T72 x6_2 x37_2).f0)) := hcc38 0 _ rfl
       have hx38_1 : World.cell? _ ⟨go38, (x37_2 : Int).toNat * 6 + 1, none⟩ = some (.int .i64 ((rd_T72 x6_2 x37_2).f1)) := hcc38 1 _ rfl
       have hx38_2 : World.cell? _ ⟨go38, (x37_2 : Int).toNat * 6 + 2, none⟩ = some (.int .i64 ((rd_T72 x6_2 x37_2).f2)) := hcc38 2 _ rfl
       have hx38_3 : World.cell? _ ⟨go38, (x37_2 : Int).toNat * 6 + 3, none⟩ = some (.int .i64 ((rd_T72 x6_2 x37_2).f3.f0)) := hcc38 3 _ rfl
       have hx38_4 : World.cell? _ ⟨go38, (x37_2 : Int).toNat * 6 + 4, none⟩ = some (.int .i64 ((rd_T72 x6_2 x37_2).f3.f1)) := hcc38 4 _ rfl
       have hx38_5 : World.cell? _ ⟨go38, (x37_2 : Int).toNat * 6 + 5, none⟩ = some (.bool ((rd_T72 x6_2 x37_2).f4)) := hcc38 5 _ rfl
       have hf38_0 : World.frozen? _ ⟨go38, (x37_2 : Int).toNat * 6, none⟩ = false := hfr38 0
       have hf38_1 : World.frozen? _ ⟨go38, (x37_2 : Int).toNat * 6 + 1, none⟩ = false := hfr38 1
       have hf38_2 : World.frozen? _ ⟨go38, (x37_2 : Int).toNat * 6 + 2, none⟩ = false := hfr38 2
       have hf38_3 : World.frozen? _ ⟨go38, (x37_2 : Int).toNat * 6 + 3, none⟩ = false := hfr38 3
       have hf38_4 : World.frozen? _ ⟨go38, (x37_2 : Int).toNat * 6 + 4, none⟩ = false := hfr38 4
       have hf38_5 : World.frozen? _ ⟨go38, (x37_2 : Int).toNat * 6 + 5, none⟩ = false := hfr38 5
       clear hcl38 hcc38 hfr38 hM38
       replace p38 := eq_true p38
       replace q38 := eq_true q38
       obtain ⟨ce46, hcl46, hM46, hcc46, hfr46⟩ := Kd.R_elem HO_6.out z72 (x37_2 : Int) (of_decide_eq_true zA) (by have h_ : (x37_2 : Int) < ((x6_2.length : Int) : Int) := of_decide_eq_true zA; first | exact h_ | (have e_ := (Kd.R_reads' HO_6.out).1; omega) | simpa using h_)
       obtain rfl := k72_openM hM46
       have HP46 := (Kd.R_seg HO_6.out (x37_2 : Int) (of_decide_eq_true zA) (by have h_ : (x37_2 : Int) < ((x6_2.length : Int) : Int) := of_decide_eq_true zA; first | exact h_ | (have e_ := (Kd.R_reads' HO_6.out).1; omega) | simpa using h_) (seg := [.int .i64 (rd x3_1 ((rd_T72 x6_2 x37_2).f3.f0)), .int .i64 (rd x3_1 ((rd_T72 x6_2 x37_2).f3.f1))]) (j := 3) hcl46 hcc46 (show 5 ≤ 6 from by decide) (x' := (⟨(rd_T72 x6_2 x37_2).f0, (rd_T72 x6_2 x37_2).f1, (rd_T72 x6_2 x37_2).f2, (⟨rd x3_1 ((rd_T72 x6_2 x37_2).f3.f0), rd x3_1 ((rd_T72 x6_2 x37_2).f3.f1)⟩ : S57), (rd_T72 x6_2 x37_2).f4⟩ : S72)) (k72_mkM _ _ _ (⟨(rd_T72 x6_2 x37_2).f0, (rd_T72 x6_2 x37_2).f1, (rd_T72 x6_2 x37_2).f2, (⟨rd x3_1 ((rd_T72 x6_2 x37_2).f3.f0), rd x3_1 ((rd_T72 x6_2 x37_2).f3.f1)⟩ : S57), (rd_T72 x6_2 x37_2).f4⟩ : S72) ) (fun _ hk => hk)).1
       rw [← Ny286.out] at HP46
       have HQ46 := Aside0.mk HP46
       clear hcl46 hcc46 hfr46 hM46 HP46
       refine start_ (n := 18) (S := fun w' => w'.cell? ⟨gb283, 0, none⟩ = some (.int .i64 ((rd_T72 x6_2 x37_2).f0)) ∧ w'.cell? ⟨gb283, 1, none⟩ = some (.int .i64 ((rd_T72 x6_2 x37_2).f1)) ∧ w'.cell? ⟨gb283, 2, none⟩ = some (.int .i64 ((rd_T72 x6_2 x37_2).f2)) ∧ w'.cell? ⟨gb283, 3, none⟩ = some (.int .i64 ((rd_T72 x6_2 x37_2).f3.f0)) ∧ w'.cell? ⟨gb283, 4, none⟩ = some (.int .i64 ((rd_T72 x6_2 x37_2).f3.f1)) ∧ w'.cell? ⟨gb283, 5, none⟩ = some (.bool ((rd_T72 x6_2 x37_2).f4)) ∧ w'.cell? (ad284.add (((rd_T72 x6_2 x37_2).f3.f0)).toNat) = some (.int .i64 (rd x3_1 ((rd_T72 x6_2 x37_2).f3.f0))) ∧ w'.cell? (ad284.add (((rd_T72 x6_2 x37_2).f3.f1)).toNat) = some (.int .i64 (rd x3_1 ((rd_T72 x6_2 x37_2).f3.f1)))) (ds := [17]) #[false, false, false, false, false, false, false, false, false, false, false, false, false, false, false, false, false, false] (by kernel_rfl) rfl rfl ⟨(blk_cell BK283.out 0).trans rfl, (blk_cell BK283.out 1).trans rfl, (blk_cell BK283.out 2).trans rfl, (blk_cell BK283.out 3).trans rfl, (blk_cell BK283.out 4).trans rfl, (blk_cell BK283.out 5).trans rfl, hx284_0, hx285_0⟩ (fun hHeld => ?_); refine with_tabW verdict_known_clamped.tab11 verdict_known_clamped.bits11 (fun HT_ HW_ => ?_)
       generalize w43.drew = w44 at HO_3 HO_6 HO_272001 BK271 BK272 BK283 HK HB GG38 HQ46 hf38_0 hf38_1 hf38_2 hf38_3 hf38_4 hf38_5 hx282_0 hx282_1 hx282_2 hx282_3 hx282_4 hx282_5 hx284_0 hx285_0 hx38_0 hx38_1 hx38_2 hx38_3 hx38_4 hx38_5 hHeld ⊢
       refine zp 0 (some 42) ?_
       refine zp 1 (some 43) ?_
       refine zp 2 (some 44) ?_
       refine zp 3 (some 45) ?_
       refine zp 4 (some 46) ?_
       refine zp 8 (some 50) ?_
       refine zp 9 (some 51) ?_
       refine zp 10 (some 52) ?_
       refine zt8 5 (some 47) ?_
       refine zp 6 (some 48) ?_
       refine zt8 7 (some 49) ?_
       refine zt8 11 (some 53) ?_
       refine zp 12 (some 54) ?_
       refine zt8 13 (some 55) ?_
       refine zp 14 (some 56) ?_
       refine zp 15 (some 57) ?_
       refine zp 16 (some 58) ?_
       refine z9 17 none (fun K hK => ?_)
       refine skip_ (w1 := ?_) (by rfl) rfl ?_ ?_
       rotate_left
       ·go_simp
        rfl
       refine hK.out _ _ ?_
       clear hK K
       refine done_ (done_of HT_.out (by kernel_rfl)) ?_
       try go_wp2
       (try simp only [← hl6_2])
       go_roundg k2
       case measure => have := HK1.out; have := HK2.out; omega
       case rel => exact ⟨(y286), (wrap64 (x37_2 + 1)), zE, H', ⟨by have := HK1.out; have := HK2.out; omega⟩, ⟨by (try simp only [hl6_2]); (with_reducible repeat (first | apply Kd.R_alloc | apply Kd.R_drewN | apply Kd.R_drew)); exact Kd.R_mono (Kd.R_far (p := ⟨go38, (x37_2 : Int).toNat * 6 + 4, none⟩) (Kd.R_far (p := ⟨go38, (x37_2 : Int).toNat * 6 + 3, none⟩) (Kd.R_types HO_3.out GG38.out (by decide)) (fun _ hk => hk.2) (.int .i64 (rd x3_1 ((rd_T72 x6_2 x37_2).f3.f0)))) (fun _ hk => hk.2) (.int .i64 (rd x3_1 ((rd_T72 x6_2 x37_2).f3.f1)))) (fun _ hk => hk.1)⟩, ⟨by (try simp only [hl6_2]); (with_reducible repeat (first | apply Kd.R_alloc | apply Kd.R_drewN | apply Kd.R_drew)); exact Kd.R_mono HQ46.out (fun _ hk => hk.1)⟩, ⟨by (try simp only [hl6_2]); (with_reducible repeat (first | apply Kd.R_alloc | apply Kd.R_drewN | apply Kd.R_drew)); exact Kd.R_mono (Kd.R_far (p := ⟨go38, (x37_2 : Int).toNat * 6 + 4, none⟩) (Kd.R_far (p := ⟨go38, (x37_2 : Int).toNat * 6 + 3, none⟩) (Kd.R_types HO_272001.out GG38.out (by decide)) (fun _ hk => hk.2) (.int .i64 (rd x3_1 ((rd_T72 x6_2 x37_2).f3.f0)))) (fun _ hk => hk.2) (.int .i64 (rd x3_1 ((rd_T72 x6_2 x37_2).f3.f1)))) (fun _ hk => hk.1)⟩, ⟨by (try simp only [hl6_2]); (with_reducible repeat (first | refine blk_drewN ?_ _ | refine blk_drew ?_ | refine blk_alloc ?_ _)); refine blk_far ?_ (by have h_ := Kd.R_ne HO_6.out BK271.out (by decide); intro e_; exact h_ (by rw [e_]; rfl)) _; (with_reducible repeat (first | refine blk_drewN ?_ _ | refine blk_drew ?_ | refine blk_alloc ?_ _)); refine blk_far ?_ (by have h_ := Kd.R_ne HO_6.out BK271.out (by decide); intro e_; exact h_ (by rw [e_]; rfl)) _; (with_reducible repeat (first | refine blk_drewN ?_ _ | refine blk_drew ?_ | refine blk_alloc ?_ _)); exact BK271.out⟩, ⟨by (try simp only [hl6_2]); (with_reducible repeat (first | refine blk_drewN ?_ _ | refine blk_drew ?_ | refine blk_alloc ?_ _)); refine blk_far ?_ (by have h_ := Kd.R_ne HO_6.out BK272.out (by decide); intro e_; exact h_ (by rw [e_]; rfl)) _; (with_reducible repeat (first | refine blk_drewN ?_ _ | refine blk_drew ?_ | refine blk_alloc ?_ _)); refine blk_far ?_ (by have h_ := Kd.R_ne HO_6.out BK272.out (by decide); intro e_; exact h_ (by rw [e_]; rfl)) _; (with_reducible repeat (first | refine blk_drewN ?_ _ | refine blk_drew ?_ | refine blk_alloc ?_ _)); exact BK272.out⟩, ⟨by repeat (first | (with_reducible first | exact HK.out | apply Kept.alloc | apply Kept.drewN | apply Kept.drew | refine Kept.setCell ?_ HMgo38.out _ | refine Kept.setCell ?_ HMgo38.out _ | refine Kept.setCell ?_ (.inr GW271.out) _ | refine Kept.setCell ?_ (.inr GW272.out) _ | refine Kept.setCell ?_ (.inr GW283.out) _) | exact HK.out)⟩, ⟨by repeat (first | (with_reducible first | exact HB.out | apply below_alloc | apply pw_below_drewN | apply below_drew1 | refine below_set ?_ GB38.out | refine below_set ?_ GB38.out | refine below_set ?_ GE271.out | refine below_set ?_ GE272.out | refine below_set ?_ GE283.out) | exact HB.out)⟩⟩
      ·rw [if_neg c31] at H
       have c31b0 := decide_eq_false c31
       have c31b0z := c31b0
       (try simp only [hl6_2] at c31b0z)
       clear c31
       replace H := Option.bind_eq_some_iff.mp H
       obtain ⟨⟨t287, t288⟩, A470, H⟩ := H
       dsimp only at H
       have A47 := Aside0.mk A470
       clear A470
       replace H := Option.bind_eq_some_iff.mp H
       obtain ⟨t291, A480, H⟩ := H
       have A48 := Aside0.mk A480
       clear A480
       replace H := Option.bind_eq_some_iff.mp H
       obtain ⟨t294, A490, H⟩ := H
       have A49 := Aside0.mk A490
       clear A490
       simp only [Option.some.injEq, Prod.mk.injEq] at H
       obtain ⟨rfl, rfl, rfl, rfl, rfl, rfl⟩ := H
       have hnb50 := NB271_272.out
       have hnc50 := NB272_271.out
       obtain ⟨hcz51_0, hcz51_1, hcz51_2, hcz51_3, hcz51_4, hfz51_0, hfz51_1, hfz51_2, hfz51_3, hfz51_4⟩ := zb5 BK271.out
       try go_wp2_with (first | ((with_reducible refine gate_callee (f := 65) rfl ?_); refine goesL_ (some 65) rfl rfl Tryz.func65 (by kernel_rfl) rfl #[.slice A0_0 l0_0.length c0_0, .slice A0_2 l0_2.length c0_2] rfl zL ?_; (with_reducible refine (clamp_Starts.calls k2 _ _ l0_0 _ _ l0_2 t287 t288 _ ?side1 ?side2 ?side3 ?side4 A47.out).mono ?_); (case side1 => exact Kd.C_kept_now HR0_0.out (zH2 GW271.out GW272.out)); (case side2 => exact HC0_0.out); (case side3 => exact Kd.C_kept_now HR0_2.out (zH2 GW271.out GW272.out)); (case side4 => exact HC0_2.out); rintro e w52 ⟨v289, rfl, ho0, hb⟩; refine ⟨_, rfl, ?_⟩; replace HO_3 := Aside0.mk (Kd.R_below (zR HO_3.out) hb); replace HO_6 := Aside0.mk (Kd.R_below (zR HO_6.out) hb); replace HO_272001 := Aside0.mk (Kd.R_below (zR HO_272001.out) hb); have HO290 := Aside0.mk (Kd.R_lower (Kd.R_newM (M := fun k_ => (P0_1_ k_ ∨ w.heap.size ≤ k_)) ho0 (by first | exact HK.out.1 | exact (show Kept w _ (fun k_ => P0_1_ k_) from zH2 GW271.out GW272.out).1) (fun k_ h_ => .inr h_)) (below_size (zG2 GE271.out GE272.out))); replace BK271 := Aside0.mk (zKb BK271.out hb); replace BK272 := Aside0.mk (zKb BK272.out hb); replace HK := Aside0.mk (Kept.below (S := (fun k_ => P0_1_ k_)) (zH2 GW271.out GW272.out) hb); replace HB := Aside0.mk (below_step (zG2 GE271.out GE272.out) hb); (try clear hb); (try clear hb2); (try clear hk); (try clear hi); (try clear ho0)))
       replace HO_3 := Aside0.mk (Kd.R_drew HO_3.out)
       replace HO_6 := Aside0.mk (Kd.R_drew HO_6.out)
       replace HO_272001 := Aside0.mk (Kd.R_drew HO_272001.out)
       replace HO290 := Aside0.mk (Kd.R_drew HO290.out)
       replace BK271 := Aside0.mk (blk_drew BK271.out)
       replace BK272 := Aside0.mk (blk_drew BK272.out)
       replace HK := Aside0.mk (Kept.drew HK.out)
       replace HB := Aside0.mk (below_drew1 HB.out)
       refine start_ (n := 12) (S := fun w' => w'.cell? ⟨gb271, 0, none⟩ = some (.slice A0_0 l0_0.length c0_0) ∧ w'.cell? ⟨gb271, 1, none⟩ = some (.slice Ao4 l0_1.length co4) ∧ w'.cell? ⟨gb271, 2, none⟩ = some (.slice A0_2 l0_2.length c0_2) ∧ w'.cell? ⟨gb271, 3, none⟩ = some (.slice A0_3 l0_3.length c0_3) ∧ w'.cell? ⟨gb271, 4, none⟩ = some (.slice A0_4 l0_4.length c0_4)) (ds := []) #[false, false, false, false, false, false, false, false, false, false, false, false] (by kernel_rfl) rfl rfl ⟨(blk_cell BK271.out 0).trans rfl, (blk_cell BK271.out 1).trans rfl, (blk_cell BK271.out 2).trans rfl, (blk_cell BK271.out 3).trans rfl, (blk_cell BK271.out 4).trans rfl⟩ (fun hHeld => ?_); refine with_tabW verdict_known_clamped.tab14 verdict_known_clamped.bits14 (fun HT_ HW_ => ?_)
       generalize w52.drew = w53 at HO_3 HO_6 HO_272001 HO290 BK271 BK272 HK HB hHeld ⊢
       refine zp 1 (some 69) ?_
       refine zp 5 (some 73) ?_
       refine zp 7 (some 75) ?_
       refine zp 9 (some 77) ?_
       refine zt5 0 (some 68) ?_
       refine zt5 2 (some 70) ?_
       refine zt5 4 (some 72) ?_
       refine zt5 8 (some 76) ?_
       refine z1 3 (some 71) (fun K hK => ?_)
       refine goes_ Tryz.func66 (by kernel_rfl) rfl #[.agg #[.slice A0_0 l0_0.length c0_0, .slice Ao4 l0_1.length co4, .slice A0_2 l0_2.length c0_2, .slice A0_3 l0_3.length c0_3, .slice A0_4 l0_4.length c0_4], .slice A0_0 l0_0.length c0_0] (by rfl) rfl rfl zL ?_
       with_reducible refine (api_Span_66.calls k2 _ _ l0_0 _ _ l0_1 _ _ l0_2 _ _ l0_3 _ _ l0_4 _ _ l0_0 t291 _ ?side1 ?side2 ?side3 ?side4 ?side5 ?side6 ?side7 ?side8 ?side9 ?side10 ?side11 ?side12 A48.out).mono ?_
       (case side1 => exact Kd.C_kept_now HR0_0.out (zH2 GW271.out GW272.out))
       (case side2 => exact HC0_0.out)
       (case side3 => exact zC ((Kd.R_reads' HO_272001.out).2.2))
       (case side4 => exact (Kd.R_reads' HO_272001.out).2.1)
       (case side5 => exact Kd.C_kept_now HR0_2.out (zH2 GW271.out GW272.out))
       (case side6 => exact HC0_2.out)
       (case side7 => exact Kd.C_kept_now HR0_3.out (zH2 GW271.out GW272.out))
       (case side8 => exact HC0_3.out)
       (case side9 => exact Kd.C_kept_now HR0_4.out (zH2 GW271.out GW272.out))
       (case side10 => exact HC0_4.out)
       (case side11 => exact Kd.C_kept_now HR0_0.out (zH2 GW271.out GW272.out))
       (case side12 => exact HC0_0.out)
       rintro e w54 ⟨v292, rfl, ho0, hb⟩
       refine ⟨_, rfl, ?_⟩
       replace HO_3 := Aside0.mk (Kd.R_below (zR HO_3.out) hb)
       replace HO_6 := Aside0.mk (Kd.R_below (zR HO_6.out) hb)
       replace HO_272001 := Aside0.mk (Kd.R_below (zR HO_272001.out) hb)
       replace HO290 := Aside0.mk (Kd.R_below (zR HO290.out) hb)
       have HO293 := Aside0.mk (Kd.R_lower (Kd.R_newM (M := fun k_ => (P0_1_ k_ ∨ w.heap.size ≤ k_)) ho0 (by first | exact HK.out.1 | exact (show Kept w _ (fun k_ => P0_1_ k_) from zH2 GW271.out GW272.out).1) (fun k_ h_ => .inr h_)) (below_size (zG2 GE271.out GE272.out)))
       replace BK271 := Aside0.mk (zKb BK271.out hb)
       replace BK272 := Aside0.mk (zKb BK272.out hb)
       replace HK := Aside0.mk (Kept.below (S := (fun k_ => P0_1_ k_)) (zH2 GW271.out GW272.out) hb)
       replace HB := Aside0.mk (below_step (zG2 GE271.out GE272.out) hb)
       (try clear hb); (try clear hb2); (try clear hk); (try clear hi); (try clear ho0)
       obtain ⟨Ao55, co55, eo55⟩ := Kd.R_slice HO290.out
       (first | subst eo55 | (injection eo55 with f1_ f2_ f3_; have f4_ := f1_.symm; have f5_ := f3_.symm; clear f1_ f2_ f3_; subst f4_; subst f5_))
       refine hK.out _ _ ⟨(blk_cell BK271.out 0).trans rfl, (blk_cell BK271.out 1).trans rfl, (blk_cell BK271.out 2).trans rfl, (blk_cell BK271.out 3).trans rfl, (blk_cell BK271.out 4).trans rfl⟩ (fun hHeld => ?_)
       clear hK K
       refine norm_ (a' := ?_) ?_ ?_
       rotate_left
       ·show Act.put _ (some 71) _ = _
        simp only [Act.put, List.setIfInBounds_toArray, List.set_cons_zero, List.set_cons_succ, i64_w, i32_w]
        rfl
       refine z1 6 (some 74) (fun K hK => ?_)
       refine goes_ Tryz.func67 (by kernel_rfl) rfl #[.agg #[.slice A0_0 l0_0.length c0_0, .slice Ao4 l0_1.length co4, .slice A0_2 l0_2.length c0_2, .slice A0_3 l0_3.length c0_3, .slice A0_4 l0_4.length c0_4], .slice Ao55 t287.length co55] (by rfl) rfl rfl zL ?_
       with_reducible refine (verdict_rowed_int64.calls k2 _ _ l0_0 _ _ l0_1 _ _ l0_2 _ _ l0_3 _ _ l0_4 _ _ t287 t294 _ ?side1 ?side2 ?side3 ?side4 ?side5 ?side6 ?side7 ?side8 ?side9 ?side10 ?side11 ?side12 A49.out).mono ?_
       (case side1 => exact Kd.C_kept_now HR0_0.out (zH2 GW271.out GW272.out))
       (case side2 => exact HC0_0.out)
       (case side3 => exact zC ((Kd.R_reads' HO_272001.out).2.2))
       (case side4 => exact (Kd.R_reads' HO_272001.out).2.1)
       (case side5 => exact Kd.C_kept_now HR0_2.out (zH2 GW271.out GW272.out))
       (case side6 => exact HC0_2.out)
       (case side7 => exact Kd.C_kept_now HR0_3.out (zH2 GW271.out GW272.out))
       (case side8 => exact HC0_3.out)
       (case side9 => exact Kd.C_kept_now HR0_4.out (zH2 GW271.out GW272.out))
       (case side10 => exact HC0_4.out)
       (case side11 => exact zC ((Kd.R_reads' HO290.out).2.2))
       (case side12 => exact (Kd.R_reads' HO290.out).2.1)
       rintro e w56 ⟨v295, rfl, ho0, hb⟩
       refine ⟨_, rfl, ?_⟩
       replace HO_3 := Aside0.mk (Kd.R_below (zR HO_3.out) hb)
       replace HO_6 := Aside0.mk (Kd.R_below (zR HO_6.out) hb)
       replace HO_272001 := Aside0.mk (Kd.R_below (zR HO_272001.out) hb)
       replace HO293 := Aside0.mk (Kd.R_below (zR HO293.out) hb)
       have HO296 := Aside0.mk (Kd.R_lower (Kd.R_new' (Kd.R_newM (M := fun k_ => (P0_1_ k_ ∨ w.heap.size ≤ k_)) ho0 (by first | exact HK.out.1 | exact (show Kept w _ (fun k_ => P0_1_ k_) from zH2 GW271.out GW272.out).1) (fun k_ h_ => .inr h_)) (Kd.R_lt (zR HO290.out))) (below_size (zG2 GE271.out GE272.out)))
       replace HO290 := Aside0.mk (Kd.R_elder' (zR HO290.out) (Kd.R_base ho0) hb)
       replace BK271 := Aside0.mk (zKb BK271.out hb)
       replace BK272 := Aside0.mk (zKb BK272.out hb)
       replace HK := Aside0.mk (Kept.below (S := (fun k_ => P0_1_ k_)) (zH2 GW271.out GW272.out) hb)
       replace HB := Aside0.mk (below_step (zG2 GE271.out GE272.out) hb)
       (try clear hb); (try clear hb2); (try clear hk); (try clear hi); (try clear ho0)
       obtain ⟨Ao57, co57, eo57⟩ := Kd.R_slice HO296.out
       (first | subst eo57 | (injection eo57 with f1_ f2_ f3_; have f4_ := f1_.symm; have f5_ := f3_.symm; clear f1_ f2_ f3_; subst f4_; subst f5_))
       obtain ⟨Ao58, co58, eo58⟩ := Kd.R_slice HO293.out
       (first | subst eo58 | (injection eo58 with f1_ f2_ f3_; have f4_ := f1_.symm; have f5_ := f3_.symm; clear f1_ f2_ f3_; subst f4_; subst f5_))
       refine hK.out _ _ ⟨(blk_cell BK271.out 0).trans rfl, (blk_cell BK271.out 1).trans rfl, (blk_cell BK271.out 2).trans rfl, (blk_cell BK271.out 3).trans rfl, (blk_cell BK271.out 4).trans rfl⟩ (fun hHeld => ?_)
       clear hK K
       refine norm_ (a' := ?_) ?_ ?_
       rotate_left
       ·show Act.put _ (some 74) _ = _
        simp only [Act.put, List.setIfInBounds_toArray, List.set_cons_zero, List.set_cons_succ, i64_w, i32_w]
        rfl
       refine zp 10 (some 78) ?_
       refine z1 11 none (fun K hK => ?_)
       have hs59 : w56.cell? ⟨gb272, 0, none⟩ = some (.int .i64 0) := (blk_cell BK272.out 0).trans rfl
       have hfs59 := blk_frozen BK272.out 0
       have hns59_0 := NB271_272.out
       have hms59_0 := NB272_271.out
       have hs60 : w56.cell? ⟨gb272, 1, none⟩ = some (.slice none 0 0) := (blk_cell BK272.out 1).trans rfl
       have hfs60 := blk_frozen BK272.out 1
       have hns60_0 := NB271_272.out
       have hms60_0 := NB272_271.out
       have hs61 : w56.cell? ⟨gb272, 2, none⟩ = some (.slice none 0 0) := (blk_cell BK272.out 2).trans rfl
       have hfs61 := blk_frozen BK272.out 2
       have hns61_0 := NB271_272.out
       have hms61_0 := NB272_271.out
       have hs62 : w56.cell? ⟨gb272, 3, none⟩ = some (.slice none 0 0) := (blk_cell BK272.out 3).trans rfl
       have hfs62 := blk_frozen BK272.out 3
       have hns62_0 := NB271_272.out
       have hms62_0 := NB272_271.out
       have hs63 : w56.cell? ⟨gb272, 4, none⟩ = some (.slice none 0 0) := (blk_cell BK272.out 4).trans rfl
       have hfs63 := blk_frozen BK272.out 4
       have hns63_0 := NB271_272.out
       have hms63_0 := NB272_271.out
       have hs64 : w56.cell? ⟨gb272, 5, none⟩ = some (.slice none 0 0) := (blk_cell BK272.out 5).trans rfl
       have hfs64 := blk_frozen BK272.out 5
       have hns64_0 := NB271_272.out
       have hms64_0 := NB272_271.out
       refine skip_ (w1 := ?_) (by rfl) rfl ?_ ?_
       rotate_left
       ·go_simp
        rfl
       refine hK.out _ _ ⟨(zX hHeld.1 NB271_272.out), (zX hHeld.2.1 NB271_272.out), (zX hHeld.2.2.1 NB271_272.out), (zX hHeld.2.2.2.1 NB271_272.out), (zX hHeld.2.2.2.2 NB271_272.out)⟩ (fun hHeld => ?_)
       clear hK K
       refine done_ (done_of HT_.out (by kernel_rfl)) ?_
       try go_wp2
       refine bodyPost_ret (results_cell_row rfl _ _ gb272 31 #[.int .i64 2, .slice Ao58 t291.length co58, .slice Ao57 t294.length co57, .slice Ao4 l0_1.length co4, .slice none 0 0, .slice Ao30 x6_2.length co30] (0, 0) _ rfl (zP BK272.out) Tryz.underlying31 rfl (by kernel_rfl)) rfl ?_
       exact ⟨_, _, _, _, _, by first | rfl | (simp [errW_none, errW_some] <;> rfl) | (simp [*, errW_none, errW_some] <;> rfl), zW1 HO293.out BK272.out, Kd.R_mono (zW HO296.out BK272.out) (fun _ hk => ⟨hk.1.1, (by simp [Value.ownBlock])⟩), Kd.R_mono (zW HO_272001.out BK272.out) (fun _ hk => hk), zNil, Kd.R_mono (zW HO_6.out BK272.out) (fun _ hk => hk), zG2 GE271.out GE272.out, zH2 GW271.out GW272.out⟩
end Go.Proofs.YtgknjgionicncaaGreat.V
namespace Go.Proofs.YtgknjgionicncaaGreat.V
open Go.RowKit Go.Proofs.YtgknjgionicncaaGreat.Q Go.Proofs.YtgknjgionicncaaGreat.X Go.Proofs.YtgknjgionicncaaGreatW.PrintWords Go.Proofs.YtgknjgionicncaaGreatW.PrintLast Go.Proofs.YtgknjgionicncaaGreatW.PrintMore
attribute [local go_sem] max2_int min2_int max_two min_two max_three min_three max_four min_four
set_option linter.unusedVariables false
set_option linter.unusedSimpArgs false
def dedupe_Of.f (l0 : List S36) (a1 : Int) : Option (List S36) := if l0.length ≤ 1759218604441 ∧ (∀ x ∈ l0, L.fitS x) then some (L.ofD l0 a1) else none
theorem dedupe_Of.calls (A0 : Option Addr) (c0 : Nat) (l0 : List (S36)) (a1 : Int) (r : List (S36)) (w : World) (hr0 : Kd.C k36 w A0 l0.length l0) (hc0 : l0.length ≤ c0) (h : dedupe_Of.f l0 a1 = some r) :
  Calls Tryz.prog 28 #[.slice A0 l0.length c0, .int .u64 a1] w fun e w' => ∃ v0_ : Value, e = .returned (v0_) ∧ Kd.R k36 36 w' w.heap.size (fun _ => True) v0_ r ∧ Below w.heap.size w w' := by
 unfold dedupe_Of.f at h
 split at h
 ·rename_i hl
  obtain rfl := Option.some.inj h
  exact L.of_calls l0 a1 hl.1 hl.2 A0 c0 w hr0 hc0
 ·exact absurd h (by simp)
def hosts_Great.f (l0 : List S36) : Option Bool := if l0.length ≤ 1759218604441 ∧ (∀ x ∈ l0, L.fitS x) then some (L.greatL l0) else none
theorem hosts_Great.calls (A0 : Option Addr) (c0 : Nat) (l0 : List (S36)) (r : Bool) (w : World) (hr0 : Kd.C k36 w A0 l0.length l0) (hc0 : l0.length ≤ c0) (h : hosts_Great.f l0 = some r) :
  Calls Tryz.prog 29 #[.slice A0 l0.length c0] w fun e w' => e = .returned (.bool r) ∧ Below w.heap.size w w' := by
 unfold hosts_Great.f at h
 split at h
 ·rename_i hl
  obtain rfl := Option.some.inj h
  exact L.great_calls l0 hl.1 hl.2 A0 c0 w hr0 hc0
 ·exact absurd h (by simp)
def verdict_Of.l0 : Nat → List (S36) → List Int → List (S36) → Int → Int → Option (Int × (List (S36)) × List Int × List ByteArray × List Int × (List (S72)))
 | 0, _, _, _, _, _ => none
 | k + 1, x5, x6, x24, x25, x26 => if x26 < x25 then (if 0 ≤ x26 then (if x26 < (x24.length : Int) then (if x6.length < 17592186044416 then (verdict_Of.l0 k x5 (x6 ++ [(rd_T36 x24 x26).f6]) x24 x25 (wrap64 (x26 + 1))) else (none)) else (none)) else (none)) else (some (3, x5, x6, ([] : List ByteArray), ([] : List Int), ([] : List (S72))))
def verdict_Of.f (k : Nat) (l0 : List (S36)) (a1 : Int) : Option (Int × (List (S36)) × List Int × List ByteArray × List Int × (List (S72))) := (dedupe_Of.f l0 a1).bind fun t298 => (if (t298.length : Int) = 0 then (some (0, ([] : List (S36)), ([] : List Int), ([] : List ByteArray), ([] : List Int), ([] : List (S72)))) else ((hosts_Great.f t298).bind fun t301 => (if t301 = true then (verdict_Of.l0 k t298 ([] : List Int) t298 (t298.length : Int) 0) else ((verdict_know.f t298).bind fun bt307 => ((relax_Solve.f k (bt307.2.1.length : Int) bt307.2.2.2.2).bind fun bt323 => (if bt323.2 = true then ((verdict_known_adjusted.f k bt307.1 bt307.2.1 bt307.2.2.1 bt307.2.2.2.1 bt307.2.2.2.2).bind fun bt327 => (some (bt327.1, bt327.2.1, bt327.2.2.1, bt327.2.2.2.1, bt327.2.2.2.2.1, bt327.2.2.2.2.2))) else ((verdict_known_clamped.f k bt307.1 bt307.2.1 bt307.2.2.1 bt307.2.2.2.1 bt307.2.2.2.2).bind fun bt343 => (some (bt343.1, bt343.2.1, bt343.2.2.1, bt343.2.2.2.1, bt343.2.2.2.2.1, bt343.2.2.2.2.2)))))))))
theorem verdict_Of.mono_l : ∀ k, (∀ y0 y1 y2 y3 y4, LeO (verdict_Of.l0 k y0 y1 y2 y3 y4) (verdict_Of.l0 (k + 1) y0 y1 y2 y3 y4))
 | 0 => fun _ _ _ _ _ r h => by simp [verdict_Of.l0] at h
 | k + 1 => by
  have ih0 := verdict_Of.mono_l k
  ·intro y0 y1 y2 y3 y4
   unfold verdict_Of.l0
   have m0 := @relax_Solve.mono; have m1 := @verdict_known_adjusted.mono; have m2 := @verdict_known_clamped.mono
   exact zM
theorem verdict_Of.mono : ∀ a0 a1 k, LeO (verdict_Of.f k a0 a1) (verdict_Of.f (k + 1) a0 a1) := by
 intro a0 a1 k
 have ih0 := verdict_Of.mono_l k
 unfold verdict_Of.f
 have m0 := @relax_Solve.mono; have m1 := @verdict_known_adjusted.mono; have m2 := @verdict_known_clamped.mono
 exact zM
set_option maxHeartbeats 8000000 in
set_option maxRecDepth 100000 in
theorem verdict_Of.calls (k : Nat) (A0 : Option Addr) (c0 : Nat) (l0 : List (S36)) (a1 : Int) (r1 : Int) (r2 : List (S36)) (r3 : List Int) (r4 : List ByteArray) (r5 : List Int) (r6 : List (S72)) (w : World) (hr0 : Kd.C k36 w A0 l0.length l0) (hc0 : l0.length ≤ c0) (h : verdict_Of.f k l0 a1 = some (r1, r2, r3, r4, r5, r6)) :
  Calls Tryz.prog 12 #[.slice A0 l0.length c0, .int .u64 a1] w fun e w' => ∃ v1_ v2_ v3_ v4_ v5_ : Value, e = .returned (.agg #[.int .i64 r1, v1_, v2_, v3_, v4_, v5_]) ∧ Kd.R k36 36 w' w.heap.size (fun k_ => (w.heap.size ≤ k_)) v1_ r2 ∧ Kd.R (Kd.int .i64) 2 w' w.heap.size (fun k_ => (w.heap.size ≤ k_)) v2_ r3 ∧ Kd.R Kd.string 9 w' w.heap.size (fun k_ => (w.heap.size ≤ k_)) v3_ r4 ∧ Kd.V (Kd.int .i64) 2 w' w.heap.size (fun k_ => (w.heap.size ≤ k_) ∧ some k_ ≠ (v1_ : Value).ownBlock ∧ some k_ ≠ (v2_ : Value).ownBlock ∧ some k_ ≠ (v3_ : Value).ownBlock ∧ some k_ ≠ (v5_ : Value).ownBlock) v4_ r5 ∧ Kd.R k72 72 w' w.heap.size (fun k_ => (w.heap.size ≤ k_)) v5_ r6 ∧ Below w.heap.size w w' := by
 have hu31 := Tryz.underlying31
 have hu36 := Tryz.underlying36
 have hu62 := Tryz.underlying62
 have HR0 := Aside0.mk hr0
 have HC0 := Aside0.mk hc0
 clear hr0 hc0
 have HB := Aside0.mk (Below.refl w.heap.size w)
 have H : ((dedupe_Of.f l0 a1).bind fun t298 => (if (t298.length : Int) = 0 then (some (0, ([] : List (S36)), ([] : List Int), ([] : List ByteArray), ([] : List Int), ([] : List (S72)))) else ((hosts_Great.f t298).bind fun t301 => (if t301 = true then (verdict_Of.l0 k t298 ([] : List Int) t298 (t298.length : Int) 0) else ((verdict_know.f t298).bind fun bt307 => ((relax_Solve.f k (bt307.2.1.length : Int) bt307.2.2.2.2).bind fun bt323 => (if bt323.2 = true then ((verdict_known_adjusted.f k bt307.1 bt307.2.1 bt307.2.2.1 bt307.2.2.2.1 bt307.2.2.2.2).bind fun bt327 => (some (bt327.1, bt327.2.1, bt327.2.2.1, bt327.2.2.2.1, bt327.2.2.2.2.1, bt327.2.2.2.2.2))) else ((verdict_known_clamped.f k bt307.1 bt307.2.1 bt307.2.2.1 bt307.2.2.2.1 bt307.2.2.2.2).bind fun bt343 => (some (bt343.1, bt343.2.1, bt343.2.2.1, bt343.2.2.2.1, bt343.2.2.2.2.1, bt343.2.2.2.2.2)))))))))) = some (r1, r2, r3, r4, r5, r6) := h
 clear h
 replace H := Option.bind_eq_some_iff.mp H
 obtain ⟨t298, A30, H⟩ := H
 have A3 := Aside0.mk A30
 clear A30
 by_cases c4 : (t298.length : Int) = 0
 ·rw [if_pos c4] at H
  have c4b0 : ((t298.length : Int) == 0) = true := beq_iff_eq.mpr c4
  have c4b1 : ((t298.length : Int) != 0) = false := bne_eq_false_iff_eq.mpr c4
  clear c4
  simp only [Option.some.injEq, Prod.mk.injEq] at H
  obtain ⟨rfl, rfl, rfl, rfl, rfl, rfl⟩ := H
  go_enter Tryz.func12, Tryz.ntmps12
  go_wp2_with (first | ((with_reducible refine gate_dst (N := 4) rfl ?_); refine zbox (N := 4) (cs := #[.int .i64 0, .slice none 0 0, .slice none 0 0, .slice none 0 0, .slice none 0 0, .slice none 0 0]) (t := 31) ?_; intro gb297 hg w5 hbox hb; have BK297 := Aside0.mk (hbox); have GW297 := Aside0.mk ((by rw [hg]; exact (below_size zB) : w.heap.size ≤ gb297)); have GE297 := Aside0.mk ((by rw [hg]; exact (below_size zB) : w.heap.size ≤ gb297)); replace HB := Aside0.mk (below_step zB hb); clear hb hbox hg) | ((with_reducible refine gate_callee (f := 28) rfl ?_); refine goesL_ (some 15) rfl rfl Tryz.func28 (by kernel_rfl) rfl #[.slice A0 l0.length c0, .int .u64 a1] rfl zL ?_; (with_reducible refine (dedupe_Of.calls _ _ l0 a1 t298 _ ?side1 ?side2 A3.out).mono ?_); (case side1 => exact zC ((Kd.C_below HR0.out HB.out))); (case side2 => exact HC0.out); rintro e w6 ⟨v299, rfl, ho0, hb⟩; refine ⟨_, rfl, ?_⟩; have HO300 := Aside0.mk (Kd.R_lower (Kd.R_newM (M := fun k_ => (w.heap.size ≤ k_)) ho0 (below_size (zG GE297.out)) (fun k_ h_ => h_)) (below_size (zG GE297.out))); replace BK297 := Aside0.mk (zKb BK297.out hb); replace HB := Aside0.mk (below_step (zG GE297.out) hb); (try clear hb); (try clear hb2); (try clear hk); (try clear hi); (try clear ho0); obtain ⟨Ao7, co7, eo7⟩ := Kd.R_slice HO300.out; subst eo7; obtain ⟨hcz8_0, hcz8_1, hcz8_2, hcz8_3, hcz8_4, hcz8_5, hfz8_0, hfz8_1, hfz8_2, hfz8_3, hfz8_4, hfz8_5⟩ := zb6 BK297.out))
  refine bodyPost_ret (results_cell_row rfl _ _ gb297 31 #[.int .i64 0, .slice none 0 0, .slice none 0 0, .slice none 0 0, .slice none 0 0, .slice none 0 0] (0, 0) _ rfl (zP BK297.out) Tryz.underlying31 rfl (by kernel_rfl)) rfl ?_
  exact ⟨_, _, _, _, _, by first | rfl | (simp [errW_none, errW_some] <;> rfl) | (simp [*, errW_none, errW_some] <;> rfl), zNil, zNil, zNil, Kd.R_V (base := 0) zNil, zNil, zG GE297.out⟩
 ·rw [if_neg c4] at H
  have c4b0 : ((t298.length : Int) == 0) = false := beq_eq_false_iff_ne.mpr c4
  have c4b1 : ((t298.length : Int) != 0) = true := bne_iff_ne.mpr c4
  have c4b2 : ¬ (t298 = []) := fun h_ => c4 (by rw [h_]; rfl)
  replace H := Option.bind_eq_some_iff.mp H
  obtain ⟨t301, A90, H⟩ := H
  have A9 := Aside0.mk A90
  clear A90
  by_cases c10 : t301 = true
  ·subst c10
   rw [if_pos rfl] at H
   have H' := Aside0.mk H
   clear H
   go_enter Tryz.func12, Tryz.ntmps12
   go_wp2_with (first | ((with_reducible refine gate_dst (N := 4) rfl ?_); refine zbox (N := 4) (cs := #[.int .i64 0, .slice none 0 0, .slice none 0 0, .slice none 0 0, .slice none 0 0, .slice none 0 0]) (t := 31) ?_; intro gb297 hg w11 hbox hb; have BK297 := Aside0.mk (hbox); have GW297 := Aside0.mk ((by rw [hg]; exact (below_size zB) : w.heap.size ≤ gb297)); have GE297 := Aside0.mk ((by rw [hg]; exact (below_size zB) : w.heap.size ≤ gb297)); replace HB := Aside0.mk (below_step zB hb); clear hb hbox hg) | ((with_reducible refine gate_callee (f := 28) rfl ?_); refine goesL_ (some 15) rfl rfl Tryz.func28 (by kernel_rfl) rfl #[.slice A0 l0.length c0, .int .u64 a1] rfl zL ?_; (with_reducible refine (dedupe_Of.calls _ _ l0 a1 t298 _ ?side1 ?side2 A3.out).mono ?_); (case side1 => exact zC ((Kd.C_below HR0.out HB.out))); (case side2 => exact HC0.out); rintro e w12 ⟨v299, rfl, ho0, hb⟩; refine ⟨_, rfl, ?_⟩; have HO300 := Aside0.mk (Kd.R_lower (Kd.R_newM (M := fun k_ => (w.heap.size ≤ k_)) ho0 (below_size (zG GE297.out)) (fun k_ h_ => h_)) (below_size (zG GE297.out))); replace BK297 := Aside0.mk (zKb BK297.out hb); replace HB := Aside0.mk (below_step (zG GE297.out) hb); (try clear hb); (try clear hb2); (try clear hk); (try clear hi); (try clear ho0); obtain ⟨Ao13, co13, eo13⟩ := Kd.R_slice HO300.out; subst eo13) | ((with_reducible refine gate_callee (f := 29) rfl ?_); refine goesL_ (some 23) rfl rfl Tryz.func29 (by kernel_rfl) rfl #[.slice Ao13 t298.length co13] rfl zL ?_; (with_reducible refine (hosts_Great.calls _ _ t298 true _ ?side1 ?side2 A9.out).mono ?_); (case side1 => exact zC ((Kd.R_reads' HO300.out).2.2)); (case side2 => exact (Kd.R_reads' HO300.out).2.1); rintro e w14 ⟨rfl, hb⟩; refine ⟨_, rfl, ?_⟩; replace HO300 := Aside0.mk (Kd.R_below (zR HO300.out) hb); replace BK297 := Aside0.mk (zKb BK297.out hb); replace HB := Aside0.mk (below_step (zG GE297.out) hb); (try clear hb); (try clear hb2); (try clear hk); (try clear hi)))
   go_loopg [6, 26] k (fun kq v6 v26 w' => ∃ (x6_1 : List Int) (x26_1 : Int), v26 = .int .i64 x26_1 ∧ Aside0 (verdict_Of.l0 kq t298 x6_1 t298 (t298.length : Int) x26_1 = some (r1, r2, r3, r4, r5, r6)) ∧ Aside0 (kq ≤ k) ∧ Aside0 (Kd.R k36 36 w' w.heap.size (fun k_ => (w.heap.size ≤ k_)) (.slice Ao13 t298.length co13) t298) ∧ Aside0 (Kd.R (Kd.int .i64) 2 w' w.heap.size (fun k_ => (w.heap.size ≤ k_)) v6 x6_1) ∧ Aside0 (Kd.R k36 36 w' w.heap.size (fun k_ => (w.heap.size ≤ k_)) (.slice Ao13 t298.length co13) t298) ∧ Aside0 (w'.heap[gb297]? = some (.cells #[.int .i64 0, (.slice none 0 0), (.slice none 0 0), (.slice none 0 0), (.slice none 0 0), (.slice none 0 0)] 31 (0, 0))) ∧ Aside0 (Below w.heap.size w w'))
   case atStart => exact ⟨(([] : List Int)), (0), zE, H', ⟨Nat.le_refl _⟩, ⟨zR1 HO300.out⟩, ⟨zNil⟩, ⟨zR1 HO300.out⟩, ⟨zK BK297.out⟩, ⟨zG GE297.out⟩⟩
   case round =>
    clear H'
    (try clear c1); (try clear c2); (try clear p2); (try clear c4); (try clear c4b0); (try clear c4b1); (try clear c4b2); (try clear c10); (try clear c12); (try clear hcz8_0 hcz8_1 hcz8_2 hcz8_3 hcz8_4 hcz8_5); (try clear hfz8_0 hfz8_1 hfz8_2 hfz8_3 hfz8_4 hfz8_5)
    obtain ⟨x6_1, x26_1, rfl, HA, HK1, HO_5, HO_6, HO_24, BK297, HB⟩ := hrel
    cases gk with
    | zero => exact absurd HA.out (by simp [verdict_Of.l0])
    | succ k1 =>
     have H := HA.out
     clear HA
     simp only [verdict_Of.l0] at H
     by_cases c15 : x26_1 < (t298.length : Int)
     ·rw [if_pos c15] at H
      have c15b0 := decide_eq_true c15
      clear c15
      obtain ⟨c16b0, H⟩ := zt H
      obtain ⟨c17b0, H⟩ := zt H
      obtain ⟨c18, H⟩ := zj H
      have LMc18 := Aside0.mk c18
      clear c18
      obtain ⟨y304, hy304⟩ : ∃ y_ : List Int, y_ = (x6_1 ++ [(rd_T36 t298 x26_1).f6]) := ⟨_, rfl⟩
      first | (replace H := zo H hy304) | rw [← hy304] at H
      have Ny304 := Aside0.mk hy304
      clear hy304
      have H' := Aside0.mk H
      clear H
      have p302 : 0 ≤ (x26_1 : Int) := of_decide_eq_true zA
      have q302 : x26_1 < (t298.length : Int) := of_decide_eq_true zA
      obtain ⟨ad302, e302, hx302_0, hx302_1, hx302_2, hx302_3, hx302_4, hx302_5, hx302_6, hx302_7⟩ := at_T36 (Kd.R_reads' HO_24.out).2.2 x26_1 p302 q302
      cases e302
      replace p302 := eq_true p302
      replace q302 := eq_true q302
      go_wp2_with (first | ((with_reducible refine gate_dst (N := 8) rfl ?_); refine zbox (N := 8) (cs := #[.int .u64 0, .int .u64 0, .int .u64 0, .int .u8 0, .string (⟨#[]⟩ : ByteArray), .string (⟨#[]⟩ : ByteArray), .int .i64 0, .int .i64 0]) (t := 36) ?_; intro gb303 hg w19 hbox hb; replace HO_5 := Aside0.mk (Kd.R_below (Kd.R_elderB (zR HO_5.out) gb303 (Nat.le_of_eq hg.symm)) hb); replace HO_6 := Aside0.mk (Kd.R_below (zR HO_6.out) hb); replace HO_24 := Aside0.mk (Kd.R_below (Kd.R_elderB (zR HO_24.out) gb303 (Nat.le_of_eq hg.symm)) hb); have BK303 := Aside0.mk (hbox); have GW303 := Aside0.mk ((by rw [hg]; exact (below_size (zG GE297.out)) : w.heap.size ≤ gb303)); have GE303 := Aside0.mk ((by rw [hg]; exact (below_size (zG GE297.out)) : w.heap.size ≤ gb303)); replace HB := Aside0.mk (below_step (zG GE297.out) hb); have NB297_303 := Aside0.mk ((by rw [hg]; exact Nat.ne_of_lt (zKl BK297.out) : gb297 ≠ gb303)); have NB303_297 := Aside0.mk ((by rw [hg]; exact Nat.ne_of_gt (zKl BK297.out) : gb303 ≠ gb297)); replace BK297 := Aside0.mk (zKb BK297.out hb); clear hb hbox hg; have hnb20 := NB303_297.out; have hnc20 := NB297_303.out; obtain ⟨hcz21_0, hcz21_1, hcz21_2, hcz21_3, hcz21_4, hcz21_5, hcz21_6, hcz21_7, hfz21_0, hfz21_1, hfz21_2, hfz21_3, hfz21_4, hfz21_5, hfz21_6, hfz21_7⟩ := zb8 BK303.out) | ((with_reducible refine gate_builtin (b := .append) (xs := #[.tmp 30, .tmp 33]) rfl ?_); at_builtin; refine Kd.R_append (Kd.int .i64) (w0 := w) w.heap.size rfl (.tmp 30) (.tmp 33) 27 2 (.int .i64 0) 8 rfl Tryz.underlying27 info2 rfl (by decide) (by omega) u6 x6_1 ((rd_T36 t298 x26_1).f6) [.int .i64 ((rd_T36 t298 x26_1).f6)] (fun k_ => (w.heap.size ≤ k_)) (fun _ => False) rfl (by first | (go_simp; done) | (go_simp; rfl)) ?aP (fun _ hk => hk.elim) ?aF ?aO ?aB ?aS ?aL ?_; (case aP => exact rfl); (case aB => exact (zG2 GE297.out GE303.out)); (case aF => exact (fun k_ hk => (Nat.le_trans (below_size (zG2 GE297.out GE303.out)) hk))); (case aO => exact (Kd.R_mono (zW HO_6.out BK303.out) (fun _ hk => hk))); (case aS => exact (below_size (zG2 GE297.out GE303.out))); (case aL => have := LMc18.out; omega); intro v305 w22 ho hb hg hat; rw [← Ny304.out] at ho; replace HO_5 := Aside0.mk (Kd.R_over' (by (with_reducible repeat (first | apply Kd.R_alloc | apply Kd.R_drewN | apply Kd.R_drew)); exact (Kd.R_mono (Kd.R_far (p := ⟨gb303, 7, none⟩) (Kd.R_far (p := ⟨gb303, 6, none⟩) (Kd.R_far (p := ⟨gb303, 5, none⟩) (Kd.R_far (p := ⟨gb303, 4, none⟩) (Kd.R_far (p := ⟨gb303, 3, none⟩) (Kd.R_far (p := ⟨gb303, 2, none⟩) (Kd.R_far (p := ⟨gb303, 1, none⟩) (Kd.R_far (p := ⟨gb303, 0, none⟩) (Kd.R_mono HO_5.out (fun k_ hk => (⟨hk, hk.2⟩ : _ ∧ k_ ≠ gb303))) (fun _ hk => hk.2) (.int .u64 ((rd_T36 t298 x26_1).f0))) (fun _ hk => hk.2) (.int .u64 ((rd_T36 t298 x26_1).f1))) (fun _ hk => hk.2) (.int .u64 ((rd_T36 t298 x26_1).f2))) (fun _ hk => hk.2) (.int .u8 ((rd_T36 t298 x26_1).f3))) (fun _ hk => hk.2) (.string ((rd_T36 t298 x26_1).f4))) (fun _ hk => hk.2) (.string ((rd_T36 t298 x26_1).f5))) (fun _ hk => hk.2) (.int .i64 ((rd_T36 t298 x26_1).f6))) (fun _ hk => hk.2) (.int .i64 ((rd_T36 t298 x26_1).f7))) (fun _ h_ => h_.1))) (Kd.R_typed (zW HO_6.out BK303.out)) (by decide) hg); replace HO_24 := Aside0.mk (Kd.R_over' (by (with_reducible repeat (first | apply Kd.R_alloc | apply Kd.R_drewN | apply Kd.R_drew)); exact (Kd.R_mono (Kd.R_far (p := ⟨gb303, 7, none⟩) (Kd.R_far (p := ⟨gb303, 6, none⟩) (Kd.R_far (p := ⟨gb303, 5, none⟩) (Kd.R_far (p := ⟨gb303, 4, none⟩) (Kd.R_far (p := ⟨gb303, 3, none⟩) (Kd.R_far (p := ⟨gb303, 2, none⟩) (Kd.R_far (p := ⟨gb303, 1, none⟩) (Kd.R_far (p := ⟨gb303, 0, none⟩) (Kd.R_mono HO_24.out (fun k_ hk => (⟨hk, hk.2⟩ : _ ∧ k_ ≠ gb303))) (fun _ hk => hk.2) (.int .u64 ((rd_T36 t298 x26_1).f0))) (fun _ hk => hk.2) (.int .u64 ((rd_T36 t298 x26_1).f1))) (fun _ hk => hk.2) (.int .u64 ((rd_T36 t298 x26_1).f2))) (fun _ hk => hk.2) (.int .u8 ((rd_T36 t298 x26_1).f3))) (fun _ hk => hk.2) (.string ((rd_T36 t298 x26_1).f4))) (fun _ hk => hk.2) (.string ((rd_T36 t298 x26_1).f5))) (fun _ hk => hk.2) (.int .i64 ((rd_T36 t298 x26_1).f6))) (fun _ hk => hk.2) (.int .i64 ((rd_T36 t298 x26_1).f7))) (fun _ h_ => h_.1))) (Kd.R_typed (zW HO_6.out BK303.out)) (by decide) hg); replace BK297 := Aside0.mk (blk_grown (g := gb297) (o := .cells #[.int .i64 0, .slice none 0 0, .slice none 0 0, .slice none 0 0, .slice none 0 0, .slice none 0 0] 31 (0, 0)) (zF NB297_303.out BK297.out) hg (Kd.R_ne HO_6.out BK297.out (by decide))); replace BK303 := Aside0.mk (blk_grown (g := gb303) (o := .cells #[.int .u64 ((rd_T36 t298 x26_1).f0), .int .u64 ((rd_T36 t298 x26_1).f1), .int .u64 ((rd_T36 t298 x26_1).f2), .int .u8 ((rd_T36 t298 x26_1).f3), .string ((rd_T36 t298 x26_1).f4), .string ((rd_T36 t298 x26_1).f5), .int .i64 ((rd_T36 t298 x26_1).f6), .int .i64 ((rd_T36 t298 x26_1).f7)] 36 (0, 0)) (zP BK303.out) hg (Kd.R_ne HO_6.out BK303.out (by decide))); replace HB := Aside0.mk (hb); have HO306 := Aside0.mk (ho); clear HO_6; clear ho hb hg hat))
      go_roundg k1
      case measure => have := HK1.out; omega
      case rel => exact ⟨(y304), (wrap64 (x26_1 + 1)), zE, H', ⟨by have := HK1.out; omega⟩, ⟨zR1 HO_5.out⟩, ⟨zR HO306.out⟩, ⟨zR1 HO_24.out⟩, ⟨zK BK297.out⟩, ⟨zG2 GE297.out GE303.out⟩⟩
     ·rw [if_neg c15] at H
      have c15b0 := decide_eq_false c15
      clear c15
      simp only [Option.some.injEq, Prod.mk.injEq] at H
      obtain ⟨rfl, rfl, rfl, rfl, rfl, rfl⟩ := H
      obtain ⟨Ao23, co23, eo23⟩ := Kd.R_slice HO_6.out
      subst eo23
      obtain ⟨hcz24_0, hcz24_1, hcz24_2, hcz24_3, hcz24_4, hcz24_5, hfz24_0, hfz24_1, hfz24_2, hfz24_3, hfz24_4, hfz24_5⟩ := zb6 BK297.out
      go_wp2
      refine bodyPost_ret (results_cell_row rfl _ _ gb297 31 #[.int .i64 3, .slice Ao13 t298.length co13, .slice Ao23 x6_1.length co23, .slice none 0 0, .slice none 0 0, .slice none 0 0] (0, 0) _ rfl (zP BK297.out) Tryz.underlying31 rfl (by kernel_rfl)) rfl ?_
      exact ⟨_, _, _, _, _, by first | rfl | (simp [errW_none, errW_some] <;> rfl) | (simp [*, errW_none, errW_some] <;> rfl), Kd.R_mono (zW HO_5.out BK297.out) (fun _ hk => hk), Kd.R_mono (zW HO_6.out BK297.out) (fun _ hk => hk), zNil, Kd.R_V (base := 0) zNil, zNil, zG GE297.out⟩
  ·replace c10 := Bool.eq_false_iff.mpr c10
   subst c10
   rw [if_neg (show ¬ (false = true) by decide)] at H
   replace H := Option.bind_eq_some_iff.mp H
   obtain ⟨⟨t307, t310, t313, t316, t319⟩, A250, H⟩ := H
   dsimp only at H
   have A25 := Aside0.mk A250
   clear A250
   replace H := Option.bind_eq_some_iff.mp H
   obtain ⟨⟨t323, t326⟩, A260, H⟩ := H
   dsimp only at H
   have A26 := Aside0.mk A260
   clear A260
   by_cases c27 : t326 = true
   ·subst c27
    rw [if_pos rfl] at H
    replace H := Option.bind_eq_some_iff.mp H
    obtain ⟨⟨t327, t328, t331, t334, t337, t340⟩, A280, H⟩ := H
    dsimp only at H
    have A28 := Aside0.mk A280
    clear A280
    simp only [Option.some.injEq, Prod.mk.injEq] at H
    obtain ⟨rfl, rfl, rfl, rfl, rfl, rfl⟩ := H
    go_enter Tryz.func12, Tryz.ntmps12
    go_wp2_with (first | ((with_reducible refine gate_dst (N := 4) rfl ?_); refine zbox (N := 4) (cs := #[.int .i64 0, .slice none 0 0, .slice none 0 0, .slice none 0 0, .slice none 0 0, .slice none 0 0]) (t := 31) ?_; intro gb297 hg w29 hbox hb; have BK297 := Aside0.mk (hbox); have GW297 := Aside0.mk ((by rw [hg]; exact (below_size zB) : w.heap.size ≤ gb297)); have GE297 := Aside0.mk ((by rw [hg]; exact (below_size zB) : w.heap.size ≤ gb297)); replace HB := Aside0.mk (below_step zB hb); clear hb hbox hg) | ((with_reducible refine gate_callee (f := 28) rfl ?_); refine goesL_ (some 15) rfl rfl Tryz.func28 (by kernel_rfl) rfl #[.slice A0 l0.length c0, .int .u64 a1] rfl zL ?_; (with_reducible refine (dedupe_Of.calls _ _ l0 a1 t298 _ ?side1 ?side2 A3.out).mono ?_); (case side1 => exact zC ((Kd.C_below HR0.out HB.out))); (case side2 => exact HC0.out); rintro e w30 ⟨v299, rfl, ho0, hb⟩; refine ⟨_, rfl, ?_⟩; have HO300 := Aside0.mk (Kd.R_lower (Kd.R_newM (M := fun k_ => (w.heap.size ≤ k_)) ho0 (below_size (zG GE297.out)) (fun k_ h_ => h_)) (below_size (zG GE297.out))); replace BK297 := Aside0.mk (zKb BK297.out hb); replace HB := Aside0.mk (below_step (zG GE297.out) hb); (try clear hb); (try clear hb2); (try clear hk); (try clear hi); (try clear ho0); obtain ⟨Ao31, co31, eo31⟩ := Kd.R_slice HO300.out; subst eo31) | ((with_reducible refine gate_callee (f := 29) rfl ?_); refine goesL_ (some 23) rfl rfl Tryz.func29 (by kernel_rfl) rfl #[.slice Ao31 t298.length co31] rfl zL ?_; (with_reducible refine (hosts_Great.calls _ _ t298 false _ ?side1 ?side2 A9.out).mono ?_); (case side1 => exact zC ((Kd.R_reads' HO300.out).2.2)); (case side2 => exact (Kd.R_reads' HO300.out).2.1); rintro e w32 ⟨rfl, hb⟩; refine ⟨_, rfl, ?_⟩; replace HO300 := Aside0.mk (Kd.R_below (zR HO300.out) hb); replace BK297 := Aside0.mk (zKb BK297.out hb); replace HB := Aside0.mk (below_step (zG GE297.out) hb); (try clear hb); (try clear hb2); (try clear hk); (try clear hi)) | ((with_reducible refine gate_callee (f := 30) rfl ?_); refine goesL_ (some 40) rfl rfl Tryz.func30 (by kernel_rfl) rfl #[.slice Ao31 t298.length co31] rfl zL ?_; (with_reducible refine (verdict_know.calls (fun k_ => some k_ = (.slice Ao31 t298.length co31 : Value).ownBlock) (.slice Ao31 t298.length co31) t298 t307 t310 t313 t316 t319 w _ ?side1 ?side2 A25.out).mono ?_); (case side1 => repeat (first | (with_reducible first | exact HB.out | apply below_alloc | apply pw_below_drewN | apply below_drew1 | refine below_set ?_ GE297.out) | exact HB.out)); (case side2 => exact Kd.R_tight rfl HO300.out); rintro e w33 ⟨v308, v311, v314, v317, v320, rfl, ho0, ho1, ho2, ho3, ho4, hb, hkp⟩; refine ⟨_, rfl, ?_⟩; replace BK297 := Aside0.mk (blk_kept (zK BK297.out) hkp (fun hs_ => (fun e_ => (Kd.R_ne HO300.out BK297.out (by decide)) e_) hs_)); have HO309 := Aside0.mk (Kd.R_mono (ok' := fun k_ => (w.heap.size ≤ k_)) ho0 (fun k_ hk_ => Or.elim hk_ (fun hs_ => (HO300.out.1 k_ (hs_).symm).1) (fun hn_ => (Nat.le_trans (below_size (zG GE297.out)) hn_)))); have HO312 := Aside0.mk (Kd.R_mono (ok' := fun k_ => (w.heap.size ≤ k_)) ho1 (fun k_ hk_ => Or.elim hk_ (fun hs_ => (HO300.out.1 k_ (hs_).symm).1) (fun hn_ => (Nat.le_trans (below_size (zG GE297.out)) hn_)))); have HO315 := Aside0.mk (Kd.R_mono (ok' := fun k_ => (w.heap.size ≤ k_)) ho2 (fun k_ hk_ => Or.elim hk_ (fun hs_ => (HO300.out.1 k_ (hs_).symm).1) (fun hn_ => (Nat.le_trans (below_size (zG GE297.out)) hn_)))); have HO318 := Aside0.mk (Kd.R_mono (ok' := fun k_ => (w.heap.size ≤ k_)) ho3 (fun k_ hk_ => Or.elim hk_ (fun hs_ => (HO300.out.1 k_ (hs_).symm).1) (fun hn_ => (Nat.le_trans (below_size (zG GE297.out)) hn_)))); have HO321 := Aside0.mk (Kd.R_mono (ok' := fun k_ => (w.heap.size ≤ k_)) ho4 (fun k_ hk_ => Or.elim hk_ (fun hs_ => (HO300.out.1 k_ (hs_).symm).1) (fun hn_ => (Nat.le_trans (below_size (zG GE297.out)) hn_)))); replace HB := Aside0.mk (hb); clear HO300; (try clear hb); (try clear hkp); (try clear ho0); (try clear ho1); (try clear ho2); (try clear ho3); (try clear ho4)) | ((with_reducible refine gate_dst (N := 9) rfl ?_); refine zbox (N := 9) (cs := #[.slice none 0 0, .slice none 0 0, .slice none 0 0, .slice none 0 0, .slice none 0 0]) (t := 62) ?_; intro gb322 hg w34 hbox hb; replace HO309 := Aside0.mk (Kd.R_below (zR HO309.out) hb); replace HO312 := Aside0.mk (Kd.R_below (zR HO312.out) hb); replace HO315 := Aside0.mk (Kd.R_below (zR HO315.out) hb); replace HO318 := Aside0.mk (Kd.R_below (zR HO318.out) hb); replace HO321 := Aside0.mk (Kd.R_below (zR HO321.out) hb); have BK322 := Aside0.mk (hbox); have GW322 := Aside0.mk ((by rw [hg]; exact (below_size (zG GE297.out)) : w.heap.size ≤ gb322)); have GE322 := Aside0.mk ((by rw [hg]; exact (below_size (zG GE297.out)) : w.heap.size ≤ gb322)); replace HB := Aside0.mk (below_step (zG GE297.out) hb); have NB297_322 := Aside0.mk ((by rw [hg]; exact Nat.ne_of_lt (zKl BK297.out) : gb297 ≠ gb322)); have NB322_297 := Aside0.mk ((by rw [hg]; exact Nat.ne_of_gt (zKl BK297.out) : gb322 ≠ gb297)); replace BK297 := Aside0.mk (zKb BK297.out hb); clear hb hbox hg; obtain ⟨Ao35, co35, eo35⟩ := Kd.R_slice HO309.out; subst eo35; have hnb36 := NB322_297.out; have hnc36 := NB297_322.out; obtain ⟨hcz37_0, hcz37_1, hcz37_2, hcz37_3, hcz37_4, hfz37_0, hfz37_1, hfz37_2, hfz37_3, hfz37_4⟩ := zb5 BK322.out; obtain ⟨Ao38, co38, eo38⟩ := Kd.R_slice HO312.out; subst eo38; obtain ⟨Ao39, co39, eo39⟩ := Kd.R_slice HO315.out; subst eo39; obtain ⟨Ao40, co40, eo40⟩ := Kd.R_slice HO318.out; subst eo40; obtain ⟨Ao41, co41, eo41⟩ := Kd.R_slice HO321.out; subst eo41) | ((with_reducible refine gate_callee (f := 32) rfl ?_); refine goesL_ (some 49) rfl rfl Tryz.func32 (by kernel_rfl) rfl #[.int .i64 (t310.length : Int), .slice Ao41 t319.length co41] rfl zL ?_; (with_reducible refine (relax_Solve.calls k (t310.length : Int) _ _ t319 t323 true _ ?side1 ?side2 A26.out).mono ?_); (case side1 => refine (Kd.R_reads' (e := 72) (base := w.heap.size) (ok := fun k_ => (w.heap.size ≤ k_)) (n := t319.length) (c := co41) ?_).2.2; exact (zW HO321.out BK322.out)); (case side2 => exact (Kd.R_reads' HO321.out).2.1); rintro e w42 ⟨v324, rfl, ho0, hb⟩; refine ⟨_, rfl, ?_⟩; have HO325 := Aside0.mk (Kd.V_lower (Kd.V_mono (ok' := fun k_ => (w.heap.size ≤ k_) ∧ some k_ ≠ (.slice Ao35 t307.length co35 : Value).ownBlock ∧ some k_ ≠ (.slice Ao38 t310.length co38 : Value).ownBlock ∧ some k_ ≠ (.slice Ao39 t313.length co39 : Value).ownBlock ∧ some k_ ≠ (.slice Ao40 t316.length co40 : Value).ownBlock ∧ some k_ ≠ (.slice Ao41 t319.length co41 : Value).ownBlock ∧ k_ ≠ gb297 ∧ k_ ≠ gb322) ho0 (fun k_ hk_ => ⟨(Nat.le_trans (below_size (zG2 GE297.out GE322.out)) hk_), (Kd.fresh' (Kd.R_lt (zW HO309.out BK322.out)) k_ hk_), (Kd.fresh' (Kd.R_lt (zW HO312.out BK322.out)) k_ hk_), (Kd.fresh' (Kd.R_lt (zW HO315.out BK322.out)) k_ hk_), (Kd.fresh' (Kd.R_lt (zW HO318.out BK322.out)) k_ hk_), (Kd.fresh' (Kd.R_lt (zW HO321.out BK322.out)) k_ hk_), (Kd.freshB (g := gb297) (o := .cells #[.int .i64 0, .slice none 0 0, .slice none 0 0, .slice none 0 0, .slice none 0 0, .slice none 0 0] 31 (0, 0)) (zF NB297_322.out BK297.out) k_ hk_), (Kd.freshB (g := gb322) (o := .cells #[.slice Ao35 t307.length co35, .slice Ao38 t310.length co38, .slice Ao39 t313.length co39, .slice Ao40 t316.length co40, .slice Ao41 t319.length co41] 62 (0, 0)) (zP BK322.out) k_ hk_)⟩)) (below_size (zG2 GE297.out GE322.out))); replace HO309 := Aside0.mk (Kd.R_below (zW HO309.out BK322.out) hb); replace HO312 := Aside0.mk (Kd.R_below (zW HO312.out BK322.out) hb); replace HO315 := Aside0.mk (Kd.R_below (zW HO315.out BK322.out) hb); replace HO318 := Aside0.mk (Kd.R_below (zW HO318.out BK322.out) hb); replace HO321 := Aside0.mk (Kd.R_below (zW HO321.out BK322.out) hb); replace BK297 := Aside0.mk (blk_below (g := gb297) (o := .cells #[.int .i64 0, .slice none 0 0, .slice none 0 0, .slice none 0 0, .slice none 0 0, .slice none 0 0] 31 (0, 0)) (zF NB297_322.out BK297.out) hb); replace BK322 := Aside0.mk (blk_below (g := gb322) (o := .cells #[.slice Ao35 t307.length co35, .slice Ao38 t310.length co38, .slice Ao39 t313.length co39, .slice Ao40 t316.length co40, .slice Ao41 t319.length co41] 62 (0, 0)) (zP BK322.out) hb); replace HB := Aside0.mk (below_step (zG2 GE297.out GE322.out) hb); (try clear hb); (try clear hb2); (try clear hk); (try clear hi); (try clear ho0); obtain ⟨hcz43_0, hcz43_1, hcz43_2, hcz43_3, hcz43_4, hfz43_0, hfz43_1, hfz43_2, hfz43_3, hfz43_4⟩ := zb5 BK322.out) | ((with_reducible refine Go.Proofs.YtgknjgionicncaaGreatW.BndV.gate_tmp 55 rfl ?_); refine Go.Proofs.YtgknjgionicncaaGreatW.BndV.goesB_ (some 56) rfl rfl Tryz.func33 (by kernel_rfl) rfl #[.agg #[.slice Ao35 t307.length co35, .slice Ao38 t310.length co38, .slice Ao39 t313.length co39, .slice Ao40 t316.length co40, .slice Ao41 t319.length co41]] rfl rfl zL ?_; (with_reducible refine (verdict_known_adjusted.calls k _ _ t307 (fun k_ => some k_ = (.slice Ao38 t310.length co38 : Value).ownBlock) (.slice Ao38 t310.length co38) t310 _ _ t313 _ _ t316 _ _ t319 t327 t328 t331 t334 t337 t340 w _ ?side1 ?side2 ?side3 ?side4 ?side5 ?side6 ?side7 ?side8 ?side9 ?side10 A28.out).mono ?_); (case side1 => repeat (first | (with_reducible first | exact HB.out | apply below_alloc | apply pw_below_drewN | apply below_drew1 | refine below_set ?_ GE297.out | refine below_set ?_ GE322.out) | exact HB.out)); (case side2 => exact Kd.C_kept_own ((Kd.R_apart' HO309.out (Kd.R_typed HO312.out) (by decide))) (fun k_ hk_ hs_ => (hk_.2) hs_)); (case side3 => exact (Kd.R_reads' HO309.out).2.1); (case side4 => exact Kd.R_tight rfl HO312.out); (case side5 => exact Kd.C_kept_own ((Kd.R_apart' HO315.out (Kd.R_typed HO312.out) (by decide))) (fun k_ hk_ hs_ => (hk_.2) hs_)); (case side6 => exact (Kd.R_reads' HO315.out).2.1); (case side7 => exact Kd.C_kept_own ((Kd.R_apart' HO318.out (Kd.R_typed HO312.out) (by decide))) (fun k_ hk_ hs_ => (hk_.2) hs_)); (case side8 => exact (Kd.R_reads' HO318.out).2.1); (case side9 => exact Kd.C_kept_own ((Kd.R_apart' HO321.out (Kd.R_typed HO312.out) (by decide))) (fun k_ hk_ hs_ => (hk_.2) hs_)); (case side10 => exact (Kd.R_reads' HO321.out).2.1); rintro e w44 ⟨v329, v332, v335, v338, v341, rfl, ho0, ho1, ho2, ho3, ho4, hb, hkp⟩; refine ⟨_, rfl, ?_⟩; replace HO325 := Aside0.mk (Kd.V_mono (ok' := fun k_ => (w.heap.size ≤ k_) ∧ some k_ ≠ (.slice Ao35 t307.length co35 : Value).ownBlock ∧ some k_ ≠ (.slice Ao39 t313.length co39 : Value).ownBlock ∧ some k_ ≠ (.slice Ao40 t316.length co40 : Value).ownBlock ∧ some k_ ≠ (.slice Ao41 t319.length co41 : Value).ownBlock ∧ k_ ≠ gb297 ∧ k_ ≠ gb322 ∧ some k_ ≠ (v329 : Value).ownBlock ∧ some k_ ≠ (v332 : Value).ownBlock ∧ some k_ ≠ (v335 : Value).ownBlock ∧ some k_ ≠ (v341 : Value).ownBlock) (Kd.V_keptB (HO325.out) hkp (fun k_ hk_ hs_ => (hk_.2.2.1) hs_)) (fun k_ hk_ => ⟨hk_.1.1, hk_.1.2.1, hk_.1.2.2.2.1, hk_.1.2.2.2.2.1, hk_.1.2.2.2.2.2.1, hk_.1.2.2.2.2.2.2.1, hk_.1.2.2.2.2.2.2.2, fun e_ => Or.elim (ho0.1 k_ e_.symm) (fun hs_ => hk_.2.1 hs_) (fun hn_ => Nat.not_le.2 hk_.2.2 hn_), fun e_ => Or.elim (ho1.1 k_ e_.symm) (fun hs_ => hk_.2.1 hs_) (fun hn_ => Nat.not_le.2 hk_.2.2 hn_), fun e_ => Or.elim (ho2.1 k_ e_.symm) (fun hs_ => hk_.2.1 hs_) (fun hn_ => Nat.not_le.2 hk_.2.2 hn_), fun e_ => Or.elim (ho4.1 k_ e_.symm) (fun hs_ => hk_.2.1 hs_) (fun hn_ => Nat.not_le.2 hk_.2.2 hn_)⟩)); have HO330 := Aside0.mk (Kd.R_mono (ok' := fun k_ => (w.heap.size ≤ k_) ∧ some k_ ≠ (.slice Ao35 t307.length co35 : Value).ownBlock) ho0 (fun k_ hk_ => ⟨Or.elim hk_ (fun hs_ => (HO312.out.1 k_ (hs_).symm)) (fun hn_ => (Nat.le_trans (below_size (zG2 GE297.out GE322.out)) hn_)), Or.elim hk_ (fun hs_ => fun e_ => ((((Kd.R_apart' HO309.out (Kd.R_typed HO312.out) (by decide))).1 k_ e_.symm).2) hs_) (fun hn_ => (Kd.fresh' (Kd.R_lt (zR HO309.out)) k_ hn_))⟩)); have HO333 := Aside0.mk (Kd.R_mono (ok' := fun k_ => (w.heap.size ≤ k_)) ho1 (fun k_ hk_ => Or.elim hk_ (fun hs_ => (HO312.out.1 k_ (hs_).symm)) (fun hn_ => (Nat.le_trans (below_size (zG2 GE297.out GE322.out)) hn_)))); have HO336 := Aside0.mk (Kd.R_mono (ok' := fun k_ => (w.heap.size ≤ k_)) ho2 (fun k_ hk_ => Or.elim hk_ (fun hs_ => (HO312.out.1 k_ (hs_).symm)) (fun hn_ => (Nat.le_trans (below_size (zG2 GE297.out GE322.out)) hn_)))); have HO339 := Aside0.mk (Kd.V_mono (ok' := fun k_ => (w.heap.size ≤ k_) ∧ some k_ ≠ (v329 : Value).ownBlock ∧ some k_ ≠ (v332 : Value).ownBlock ∧ some k_ ≠ (v335 : Value).ownBlock ∧ some k_ ≠ (v341 : Value).ownBlock ∧ some k_ ≠ (.slice Ao35 t307.length co35 : Value).ownBlock ∧ some k_ ≠ (.slice Ao39 t313.length co39 : Value).ownBlock ∧ some k_ ≠ (.slice Ao40 t316.length co40 : Value).ownBlock ∧ some k_ ≠ (.slice Ao41 t319.length co41 : Value).ownBlock ∧ k_ ≠ gb297 ∧ k_ ≠ gb322) ho3 (fun k_ hk_ => ⟨Or.elim hk_.1 (fun hs_ => (HO312.out.1 k_ (hs_).symm)) (fun hn_ => (Nat.le_trans (below_size (zG2 GE297.out GE322.out)) hn_)), hk_.2.1, hk_.2.2.1, hk_.2.2.2.1, hk_.2.2.2.2, Or.elim hk_.1 (fun hs_ => fun e_ => ((((Kd.R_apart' HO309.out (Kd.R_typed HO312.out) (by decide))).1 k_ e_.symm).2) hs_) (fun hn_ => (Kd.fresh' (Kd.R_lt (zR HO309.out)) k_ hn_)), Or.elim hk_.1 (fun hs_ => fun e_ => ((((Kd.R_apart' HO315.out (Kd.R_typed HO312.out) (by decide))).1 k_ e_.symm).2) hs_) (fun hn_ => (Kd.fresh' (Kd.R_lt (zR HO315.out)) k_ hn_)), Or.elim hk_.1 (fun hs_ => fun e_ => ((((Kd.R_apart' HO318.out (Kd.R_typed HO312.out) (by decide))).1 k_ e_.symm).2) hs_) (fun hn_ => (Kd.fresh' (Kd.R_lt (zR HO318.out)) k_ hn_)), Or.elim hk_.1 (fun hs_ => fun e_ => ((((Kd.R_apart' HO321.out (Kd.R_typed HO312.out) (by decide))).1 k_ e_.symm).2) hs_) (fun hn_ => (Kd.fresh' (Kd.R_lt (zR HO321.out)) k_ hn_)), Or.elim hk_.1 (fun hs_ => fun e_ => (Kd.R_ne HO312.out BK297.out (by decide)) (by rw [← e_]; exact hs_)) (fun hn_ => (Kd.freshB (g := gb297) (o := .cells #[.int .i64 0, .slice none 0 0, .slice none 0 0, .slice none 0 0, .slice none 0 0, .slice none 0 0] 31 (0, 0)) (zK BK297.out) k_ hn_)), Or.elim hk_.1 (fun hs_ => fun e_ => (Kd.R_ne HO312.out BK322.out (by decide)) (by rw [← e_]; exact hs_)) (fun hn_ => (Kd.freshB (g := gb322) (o := .cells #[.slice Ao35 t307.length co35, .slice Ao38 t310.length co38, .slice Ao39 t313.length co39, .slice Ao40 t316.length co40, .slice Ao41 t319.length co41] 62 (0, 0)) (zK BK322.out) k_ hn_))⟩)); replace BK297 := Aside0.mk (blk_kept (zK BK297.out) hkp (fun hs_ => (fun e_ => (Kd.R_ne HO312.out BK297.out (by decide)) e_) hs_)); replace HO309 := Aside0.mk (Kd.R_mono (ok' := fun k_ => (w.heap.size ≤ k_) ∧ some k_ ≠ (v329 : Value).ownBlock) (Kd.R_keptB ((Kd.R_apart' HO309.out (Kd.R_typed HO312.out) (by decide))) hkp (fun k_ hk_ hs_ => (hk_.2) hs_)) (fun k_ hk_ => ⟨hk_.1.1, fun e_ => Or.elim (ho0.1 k_ e_.symm) (fun hs_ => hk_.2.1 hs_) (fun hn_ => Nat.not_le.2 hk_.2.2 hn_)⟩)); replace HO315 := Aside0.mk (Kd.R_mono (ok' := fun k_ => (w.heap.size ≤ k_)) (Kd.R_keptB ((Kd.R_apart' HO315.out (Kd.R_typed HO312.out) (by decide))) hkp (fun k_ hk_ hs_ => (hk_.2) hs_)) (fun k_ hk_ => hk_.1.1)); replace HO318 := Aside0.mk (Kd.R_mono (ok' := fun k_ => (w.heap.size ≤ k_)) (Kd.R_keptB ((Kd.R_apart' HO318.out (Kd.R_typed HO312.out) (by decide))) hkp (fun k_ hk_ hs_ => (hk_.2) hs_)) (fun k_ hk_ => hk_.1.1)); replace BK322 := Aside0.mk (blk_kept (zK BK322.out) hkp (fun hs_ => (fun e_ => (Kd.R_ne HO312.out BK322.out (by decide)) e_) hs_)); have HO342 := Aside0.mk (Kd.R_mono (ok' := fun k_ => (w.heap.size ≤ k_) ∧ some k_ ≠ (.slice Ao41 t319.length co41 : Value).ownBlock) ho4 (fun k_ hk_ => ⟨Or.elim hk_ (fun hs_ => (HO312.out.1 k_ (hs_).symm)) (fun hn_ => (Nat.le_trans (below_size (zG2 GE297.out GE322.out)) hn_)), Or.elim hk_ (fun hs_ => fun e_ => ((((Kd.R_apart' HO321.out (Kd.R_typed HO312.out) (by decide))).1 k_ e_.symm).2) hs_) (fun hn_ => (Kd.fresh' (Kd.R_lt (zR HO321.out)) k_ hn_))⟩)); replace HO321 := Aside0.mk (Kd.R_mono (ok' := fun k_ => (w.heap.size ≤ k_) ∧ some k_ ≠ (v341 : Value).ownBlock) (Kd.R_keptB ((Kd.R_apart' HO321.out (Kd.R_typed HO312.out) (by decide))) hkp (fun k_ hk_ hs_ => (hk_.2) hs_)) (fun k_ hk_ => ⟨hk_.1.1, fun e_ => Or.elim (ho4.1 k_ e_.symm) (fun hs_ => hk_.2.1 hs_) (fun hn_ => Nat.not_le.2 hk_.2.2 hn_)⟩)); replace HB := Aside0.mk (hb); clear HO312; (try clear hb); (try clear hkp); (try clear ho0); (try clear ho1); (try clear ho2); (try clear ho3); (try clear ho4); obtain ⟨hcz45_0, hcz45_1, hcz45_2, hcz45_3, hcz45_4, hcz45_5, hfz45_0, hfz45_1, hfz45_2, hfz45_3, hfz45_4, hfz45_5⟩ := zb6 BK297.out; obtain ⟨Ao46, co46, eo46⟩ := Kd.R_slice HO330.out; subst eo46; obtain ⟨Ao47, co47, eo47⟩ := Kd.R_slice HO333.out; subst eo47; obtain ⟨Ao48, co48, eo48⟩ := Kd.R_slice HO336.out; subst eo48; obtain ⟨Ao49, co49, eo49⟩ := Kd.V_slice HO339.out; subst eo49; obtain ⟨Ao50, co50, eo50⟩ := Kd.R_slice HO342.out; subst eo50))
    refine bodyPost_ret (results_cell_row rfl _ _ gb297 31 #[.int .i64 t327, .slice Ao46 t328.length co46, .slice Ao47 t331.length co47, .slice Ao48 t334.length co48, .slice Ao49 t337.length co49, .slice Ao50 t340.length co50] (0, 0) _ rfl (zP BK297.out) Tryz.underlying31 rfl (by kernel_rfl)) rfl ?_
    exact ⟨_, _, _, _, _, by first | rfl | (simp [errW_none, errW_some] <;> rfl) | (simp [*, errW_none, errW_some] <;> rfl), zW1 HO330.out BK297.out, Kd.R_mono (zW HO333.out BK297.out) (fun _ hk => hk), Kd.R_mono (zW HO336.out BK297.out) (fun _ hk => hk), by (with_reducible repeat (first | apply Kd.V_alloc | apply Kd.V_drewN | apply Kd.V_drew)); exact Kd.V_mono (Kd.V_far (p := ⟨gb297, 5, none⟩) (Kd.V_far (p := ⟨gb297, 4, none⟩) (Kd.V_far (p := ⟨gb297, 3, none⟩) (Kd.V_far (p := ⟨gb297, 2, none⟩) (Kd.V_far (p := ⟨gb297, 1, none⟩) (Kd.V_far (p := ⟨gb297, 0, none⟩) (Kd.V_mono HO339.out (fun k_ hk => (⟨hk, hk.2.2.2.2.2.2.2.2.2.1⟩ : _ ∧ k_ ≠ gb297))) (fun _ hk => hk.2) (.int .i64 t327)) (fun _ hk => hk.2) (.slice Ao46 t328.length co46)) (fun _ hk => hk.2) (.slice Ao47 t331.length co47)) (fun _ hk => hk.2) (.slice Ao48 t334.length co48)) (fun _ hk => hk.2) (.slice Ao49 t337.length co49)) (fun _ hk => hk.2) (.slice Ao50 t340.length co50)) (fun _ hk => ⟨hk.1.1, ⟨hk.1.2.1, ⟨hk.1.2.2.1, ⟨hk.1.2.2.2.1, hk.1.2.2.2.2.1⟩⟩⟩⟩), zW1 HO342.out BK297.out, zG2 GE297.out GE322.out⟩
   ·replace c27 := Bool.eq_false_iff.mpr c27
    subst c27
    rw [if_neg (show ¬ (false = true) by decide)] at H
    replace H := Option.bind_eq_some_iff.mp H
    obtain ⟨⟨t343, t344, t347, t350, t353, t356⟩, A510, H⟩ := H
    dsimp only at H
    have A51 := Aside0.mk A510
    clear A510
    simp only [Option.some.injEq, Prod.mk.injEq] at H
    obtain ⟨rfl, rfl, rfl, rfl, rfl, rfl⟩ := H
    go_enter Tryz.func12, Tryz.ntmps12
    go_wp2_with (first | ((with_reducible refine gate_dst (N := 4) rfl ?_); refine zbox (N := 4) (cs := #[.int .i64 0, .slice none 0 0, .slice none 0 0, .slice none 0 0, .slice none 0 0, .slice none 0 0]) (t := 31) ?_; intro gb297 hg w52 hbox hb; have BK297 := Aside0.mk (hbox); have GW297 := Aside0.mk ((by rw [hg]; exact (below_size zB) : w.heap.size ≤ gb297)); have GE297 := Aside0.mk ((by rw [hg]; exact (below_size zB) : w.heap.size ≤ gb297)); replace HB := Aside0.mk (below_step zB hb); clear hb hbox hg) | ((with_reducible refine gate_callee (f := 28) rfl ?_); refine goesL_ (some 15) rfl rfl Tryz.func28 (by kernel_rfl) rfl #[.slice A0 l0.length c0, .int .u64 a1] rfl zL ?_; (with_reducible refine (dedupe_Of.calls _ _ l0 a1 t298 _ ?side1 ?side2 A3.out).mono ?_); (case side1 => exact zC ((Kd.C_below HR0.out HB.out))); (case side2 => exact HC0.out); rintro e w53 ⟨v299, rfl, ho0, hb⟩; refine ⟨_, rfl, ?_⟩; have HO300 := Aside0.mk (Kd.R_lower (Kd.R_newM (M := fun k_ => (w.heap.size ≤ k_)) ho0 (below_size (zG GE297.out)) (fun k_ h_ => h_)) (below_size (zG GE297.out))); replace BK297 := Aside0.mk (zKb BK297.out hb); replace HB := Aside0.mk (below_step (zG GE297.out) hb); (try clear hb); (try clear hb2); (try clear hk); (try clear hi); (try clear ho0); obtain ⟨Ao54, co54, eo54⟩ := Kd.R_slice HO300.out; subst eo54) | ((with_reducible refine gate_callee (f := 29) rfl ?_); refine goesL_ (some 23) rfl rfl Tryz.func29 (by kernel_rfl) rfl #[.slice Ao54 t298.length co54] rfl zL ?_; (with_reducible refine (hosts_Great.calls _ _ t298 false _ ?side1 ?side2 A9.out).mono ?_); (case side1 => exact zC ((Kd.R_reads' HO300.out).2.2)); (case side2 => exact (Kd.R_reads' HO300.out).2.1); rintro e w55 ⟨rfl, hb⟩; refine ⟨_, rfl, ?_⟩; replace HO300 := Aside0.mk (Kd.R_below (zR HO300.out) hb); replace BK297 := Aside0.mk (zKb BK297.out hb); replace HB := Aside0.mk (below_step (zG GE297.out) hb); (try clear hb); (try clear hb2); (try clear hk); (try clear hi)) | ((with_reducible refine gate_callee (f := 30) rfl ?_); refine goesL_ (some 40) rfl rfl Tryz.func30 (by kernel_rfl) rfl #[.slice Ao54 t298.length co54] rfl zL ?_; (with_reducible refine (verdict_know.calls (fun k_ => some k_ = (.slice Ao54 t298.length co54 : Value).ownBlock) (.slice Ao54 t298.length co54) t298 t307 t310 t313 t316 t319 w _ ?side1 ?side2 A25.out).mono ?_); (case side1 => repeat (first | (with_reducible first | exact HB.out | apply below_alloc | apply pw_below_drewN | apply below_drew1 | refine below_set ?_ GE297.out) | exact HB.out)); (case side2 => exact Kd.R_tight rfl HO300.out); rintro e w56 ⟨v308, v311, v314, v317, v320, rfl, ho0, ho1, ho2, ho3, ho4, hb, hkp⟩; refine ⟨_, rfl, ?_⟩; replace BK297 := Aside0.mk (blk_kept (zK BK297.out) hkp (fun hs_ => (fun e_ => (Kd.R_ne HO300.out BK297.out (by decide)) e_) hs_)); have HO309 := Aside0.mk (Kd.R_mono (ok' := fun k_ => (w.heap.size ≤ k_)) ho0 (fun k_ hk_ => Or.elim hk_ (fun hs_ => (HO300.out.1 k_ (hs_).symm).1) (fun hn_ => (Nat.le_trans (below_size (zG GE297.out)) hn_)))); have HO312 := Aside0.mk (Kd.R_mono (ok' := fun k_ => (w.heap.size ≤ k_)) ho1 (fun k_ hk_ => Or.elim hk_ (fun hs_ => (HO300.out.1 k_ (hs_).symm).1) (fun hn_ => (Nat.le_trans (below_size (zG GE297.out)) hn_)))); have HO315 := Aside0.mk (Kd.R_mono (ok' := fun k_ => (w.heap.size ≤ k_)) ho2 (fun k_ hk_ => Or.elim hk_ (fun hs_ => (HO300.out.1 k_ (hs_).symm).1) (fun hn_ => (Nat.le_trans (below_size (zG GE297.out)) hn_)))); have HO318 := Aside0.mk (Kd.R_mono (ok' := fun k_ => (w.heap.size ≤ k_)) ho3 (fun k_ hk_ => Or.elim hk_ (fun hs_ => (HO300.out.1 k_ (hs_).symm).1) (fun hn_ => (Nat.le_trans (below_size (zG GE297.out)) hn_)))); have HO321 := Aside0.mk (Kd.R_mono (ok' := fun k_ => (w.heap.size ≤ k_)) ho4 (fun k_ hk_ => Or.elim hk_ (fun hs_ => (HO300.out.1 k_ (hs_).symm).1) (fun hn_ => (Nat.le_trans (below_size (zG GE297.out)) hn_)))); replace HB := Aside0.mk (hb); clear HO300; (try clear hb); (try clear hkp); (try clear ho0); (try clear ho1); (try clear ho2); (try clear ho3); (try clear ho4)) | ((with_reducible refine gate_dst (N := 9) rfl ?_); refine zbox (N := 9) (cs := #[.slice none 0 0, .slice none 0 0, .slice none 0 0, .slice none 0 0, .slice none 0 0]) (t := 62) ?_; intro gb322 hg w57 hbox hb; replace HO309 := Aside0.mk (Kd.R_below (zR HO309.out) hb); replace HO312 := Aside0.mk (Kd.R_below (zR HO312.out) hb); replace HO315 := Aside0.mk (Kd.R_below (zR HO315.out) hb); replace HO318 := Aside0.mk (Kd.R_below (zR HO318.out) hb); replace HO321 := Aside0.mk (Kd.R_below (zR HO321.out) hb); have BK322 := Aside0.mk (hbox); have GW322 := Aside0.mk ((by rw [hg]; exact (below_size (zG GE297.out)) : w.heap.size ≤ gb322)); have GE322 := Aside0.mk ((by rw [hg]; exact (below_size (zG GE297.out)) : w.heap.size ≤ gb322)); replace HB := Aside0.mk (below_step (zG GE297.out) hb); have NB297_322 := Aside0.mk ((by rw [hg]; exact Nat.ne_of_lt (zKl BK297.out) : gb297 ≠ gb322)); have NB322_297 := Aside0.mk ((by rw [hg]; exact Nat.ne_of_gt (zKl BK297.out) : gb322 ≠ gb297)); replace BK297 := Aside0.mk (zKb BK297.out hb); clear hb hbox hg; obtain ⟨Ao58, co58, eo58⟩ := Kd.R_slice HO309.out; subst eo58; have hnb59 := NB322_297.out; have hnc59 := NB297_322.out; obtain ⟨hcz60_0, hcz60_1, hcz60_2, hcz60_3, hcz60_4, hfz60_0, hfz60_1, hfz60_2, hfz60_3, hfz60_4⟩ := zb5 BK322.out; obtain ⟨Ao61, co61, eo61⟩ := Kd.R_slice HO312.out; subst eo61; obtain ⟨Ao62, co62, eo62⟩ := Kd.R_slice HO315.out; subst eo62; obtain ⟨Ao63, co63, eo63⟩ := Kd.R_slice HO318.out; subst eo63; obtain ⟨Ao64, co64, eo64⟩ := Kd.R_slice HO321.out; subst eo64) | ((with_reducible refine gate_callee (f := 32) rfl ?_); refine goesL_ (some 49) rfl rfl Tryz.func32 (by kernel_rfl) rfl #[.int .i64 (t310.length : Int), .slice Ao64 t319.length co64] rfl zL ?_; (with_reducible refine (relax_Solve.calls k (t310.length : Int) _ _ t319 t323 false _ ?side1 ?side2 A26.out).mono ?_); (case side1 => refine (Kd.R_reads' (e := 72) (base := w.heap.size) (ok := fun k_ => (w.heap.size ≤ k_)) (n := t319.length) (c := co64) ?_).2.2; exact (zW HO321.out BK322.out)); (case side2 => exact (Kd.R_reads' HO321.out).2.1); rintro e w65 ⟨v324, rfl, ho0, hb⟩; refine ⟨_, rfl, ?_⟩; have HO325 := Aside0.mk (Kd.V_lower (Kd.V_mono (ok' := fun k_ => (w.heap.size ≤ k_) ∧ some k_ ≠ (.slice Ao58 t307.length co58 : Value).ownBlock ∧ some k_ ≠ (.slice Ao61 t310.length co61 : Value).ownBlock ∧ some k_ ≠ (.slice Ao62 t313.length co62 : Value).ownBlock ∧ some k_ ≠ (.slice Ao63 t316.length co63 : Value).ownBlock ∧ some k_ ≠ (.slice Ao64 t319.length co64 : Value).ownBlock ∧ k_ ≠ gb297 ∧ k_ ≠ gb322) ho0 (fun k_ hk_ => ⟨(Nat.le_trans (below_size (zG2 GE297.out GE322.out)) hk_), (Kd.fresh' (Kd.R_lt (zW HO309.out BK322.out)) k_ hk_), (Kd.fresh' (Kd.R_lt (zW HO312.out BK322.out)) k_ hk_), (Kd.fresh' (Kd.R_lt (zW HO315.out BK322.out)) k_ hk_), (Kd.fresh' (Kd.R_lt (zW HO318.out BK322.out)) k_ hk_), (Kd.fresh' (Kd.R_lt (zW HO321.out BK322.out)) k_ hk_), (Kd.freshB (g := gb297) (o := .cells #[.int .i64 0, .slice none 0 0, .slice none 0 0, .slice none 0 0, .slice none 0 0, .slice none 0 0] 31 (0, 0)) (zF NB297_322.out BK297.out) k_ hk_), (Kd.freshB (g := gb322) (o := .cells #[.slice Ao58 t307.length co58, .slice Ao61 t310.length co61, .slice Ao62 t313.length co62, .slice Ao63 t316.length co63, .slice Ao64 t319.length co64] 62 (0, 0)) (zP BK322.out) k_ hk_)⟩)) (below_size (zG2 GE297.out GE322.out))); replace HO309 := Aside0.mk (Kd.R_below (zW HO309.out BK322.out) hb); replace HO312 := Aside0.mk (Kd.R_below (zW HO312.out BK322.out) hb); replace HO315 := Aside0.mk (Kd.R_below (zW HO315.out BK322.out) hb); replace HO318 := Aside0.mk (Kd.R_below (zW HO318.out BK322.out) hb); replace HO321 := Aside0.mk (Kd.R_below (zW HO321.out BK322.out) hb); replace BK297 := Aside0.mk (blk_below (g := gb297) (o := .cells #[.int .i64 0, .slice none 0 0, .slice none 0 0, .slice none 0 0, .slice none 0 0, .slice none 0 0] 31 (0, 0)) (zF NB297_322.out BK297.out) hb); replace BK322 := Aside0.mk (blk_below (g := gb322) (o := .cells #[.slice Ao58 t307.length co58, .slice Ao61 t310.length co61, .slice Ao62 t313.length co62, .slice Ao63 t316.length co63, .slice Ao64 t319.length co64] 62 (0, 0)) (zP BK322.out) hb); replace HB := Aside0.mk (below_step (zG2 GE297.out GE322.out) hb); (try clear hb); (try clear hb2); (try clear hk); (try clear hi); (try clear ho0)) | ((with_reducible refine Go.Proofs.YtgknjgionicncaaGreatW.BndV.gate_tmp 55 rfl ?_); refine Go.Proofs.YtgknjgionicncaaGreatW.BndV.goesB_ (some 56) rfl rfl Tryz.func31 (by kernel_rfl) rfl #[.agg #[.slice Ao58 t307.length co58, .slice Ao61 t310.length co61, .slice Ao62 t313.length co62, .slice Ao63 t316.length co63, .slice Ao64 t319.length co64]] rfl rfl zL ?_; (with_reducible refine (verdict_known_clamped.calls k _ _ t307 (fun k_ => some k_ = (.slice Ao61 t310.length co61 : Value).ownBlock) (.slice Ao61 t310.length co61) t310 _ _ t313 _ _ t316 _ _ t319 t343 t344 t347 t350 t353 t356 w _ ?side1 ?side2 ?side3 ?side4 ?side5 ?side6 ?side7 ?side8 ?side9 ?side10 A51.out).mono ?_); (case side1 => repeat (first | (with_reducible first | exact HB.out | apply below_alloc | apply pw_below_drewN | apply below_drew1 | refine below_set ?_ GE297.out | refine below_set ?_ GE322.out) | exact HB.out)); (case side2 => exact Kd.C_kept_own ((Kd.R_apart' HO309.out (Kd.R_typed HO312.out) (by decide))) (fun k_ hk_ hs_ => (hk_.2) hs_)); (case side3 => exact (Kd.R_reads' HO309.out).2.1); (case side4 => exact Kd.R_tight rfl HO312.out); (case side5 => exact Kd.C_kept_own ((Kd.R_apart' HO315.out (Kd.R_typed HO312.out) (by decide))) (fun k_ hk_ hs_ => (hk_.2) hs_)); (case side6 => exact (Kd.R_reads' HO315.out).2.1); (case side7 => exact Kd.C_kept_own ((Kd.R_apart' HO318.out (Kd.R_typed HO312.out) (by decide))) (fun k_ hk_ hs_ => (hk_.2) hs_)); (case side8 => exact (Kd.R_reads' HO318.out).2.1); (case side9 => exact Kd.C_kept_own ((Kd.R_apart' HO321.out (Kd.R_typed HO312.out) (by decide))) (fun k_ hk_ hs_ => (hk_.2) hs_)); (case side10 => exact (Kd.R_reads' HO321.out).2.1); rintro e w66 ⟨v345, v348, v351, v354, v357, rfl, ho0, ho1, ho2, ho3, ho4, hb, hkp⟩; refine ⟨_, rfl, ?_⟩; replace BK297 := Aside0.mk (blk_kept (zK BK297.out) hkp (fun hs_ => (fun e_ => (Kd.R_ne HO312.out BK297.out (by decide)) e_) hs_)); replace HO315 := Aside0.mk (Kd.R_mono (ok' := fun k_ => (w.heap.size ≤ k_)) (Kd.R_keptB ((Kd.R_apart' HO315.out (Kd.R_typed HO312.out) (by decide))) hkp (fun k_ hk_ hs_ => (hk_.2) hs_)) (fun k_ hk_ => hk_.1.1)); replace HO318 := Aside0.mk (Kd.R_mono (ok' := fun k_ => (w.heap.size ≤ k_)) (Kd.R_keptB ((Kd.R_apart' HO318.out (Kd.R_typed HO312.out) (by decide))) hkp (fun k_ hk_ hs_ => (hk_.2) hs_)) (fun k_ hk_ => hk_.1.1)); replace BK322 := Aside0.mk (blk_kept (zK BK322.out) hkp (fun hs_ => (fun e_ => (Kd.R_ne HO312.out BK322.out (by decide)) e_) hs_)); replace HO325 := Aside0.mk (Kd.V_mono (ok' := fun k_ => (w.heap.size ≤ k_) ∧ some k_ ≠ (.slice Ao58 t307.length co58 : Value).ownBlock ∧ some k_ ≠ (.slice Ao62 t313.length co62 : Value).ownBlock ∧ some k_ ≠ (.slice Ao63 t316.length co63 : Value).ownBlock ∧ some k_ ≠ (.slice Ao64 t319.length co64 : Value).ownBlock ∧ k_ ≠ gb297 ∧ k_ ≠ gb322 ∧ some k_ ≠ (v345 : Value).ownBlock ∧ some k_ ≠ (v348 : Value).ownBlock ∧ some k_ ≠ (v351 : Value).ownBlock ∧ some k_ ≠ (v354 : Value).ownBlock ∧ some k_ ≠ (v357 : Value).ownBlock) (Kd.V_keptB (HO325.out) hkp (fun k_ hk_ hs_ => (hk_.2.2.1) hs_)) (fun k_ hk_ => ⟨hk_.1.1, hk_.1.2.1, hk_.1.2.2.2.1, hk_.1.2.2.2.2.1, hk_.1.2.2.2.2.2.1, hk_.1.2.2.2.2.2.2.1, hk_.1.2.2.2.2.2.2.2, fun e_ => Or.elim (ho0.1 k_ e_.symm) (fun hs_ => hk_.2.1 hs_) (fun hn_ => Nat.not_le.2 hk_.2.2 hn_), fun e_ => Or.elim (ho1.1 k_ e_.symm).1 (fun hs_ => hk_.2.1 hs_) (fun hn_ => Nat.not_le.2 hk_.2.2 hn_), fun e_ => Or.elim (ho2.1 k_ e_.symm) (fun hs_ => hk_.2.1 hs_) (fun hn_ => Nat.not_le.2 hk_.2.2 hn_), fun e_ => Or.elim (ho3.1 k_ e_.symm).1 (fun hs_ => hk_.2.1 hs_) (fun hn_ => Nat.not_le.2 hk_.2.2 hn_), fun e_ => Or.elim (ho4.1 k_ e_.symm) (fun hs_ => hk_.2.1 hs_) (fun hn_ => Nat.not_le.2 hk_.2.2 hn_)⟩)); have HO346 := Aside0.mk (Kd.R_mono (ok' := fun k_ => (w.heap.size ≤ k_) ∧ some k_ ≠ (.slice Ao58 t307.length co58 : Value).ownBlock) ho0 (fun k_ hk_ => ⟨Or.elim hk_ (fun hs_ => (HO312.out.1 k_ (hs_).symm)) (fun hn_ => (Nat.le_trans (below_size (zG2 GE297.out GE322.out)) hn_)), Or.elim hk_ (fun hs_ => fun e_ => ((((Kd.R_apart' HO309.out (Kd.R_typed HO312.out) (by decide))).1 k_ e_.symm).2) hs_) (fun hn_ => (Kd.fresh' (Kd.R_lt (zR HO309.out)) k_ hn_))⟩)); replace HO309 := Aside0.mk (Kd.R_mono (ok' := fun k_ => (w.heap.size ≤ k_) ∧ some k_ ≠ (v345 : Value).ownBlock) (Kd.R_keptB ((Kd.R_apart' HO309.out (Kd.R_typed HO312.out) (by decide))) hkp (fun k_ hk_ hs_ => (hk_.2) hs_)) (fun k_ hk_ => ⟨hk_.1.1, fun e_ => Or.elim (ho0.1 k_ e_.symm) (fun hs_ => hk_.2.1 hs_) (fun hn_ => Nat.not_le.2 hk_.2.2 hn_)⟩)); have HO349 := Aside0.mk (Kd.R_mono (ok' := fun k_ => (w.heap.size ≤ k_) ∧ some k_ ≠ (v354 : Value).ownBlock) ho1 (fun k_ hk_ => ⟨Or.elim hk_.1 (fun hs_ => (HO312.out.1 k_ (hs_).symm)) (fun hn_ => (Nat.le_trans (below_size (zG2 GE297.out GE322.out)) hn_)), hk_.2⟩)); have HO352 := Aside0.mk (Kd.R_mono (ok' := fun k_ => (w.heap.size ≤ k_)) ho2 (fun k_ hk_ => Or.elim hk_ (fun hs_ => (HO312.out.1 k_ (hs_).symm)) (fun hn_ => (Nat.le_trans (below_size (zG2 GE297.out GE322.out)) hn_)))); have HO355 := Aside0.mk (Kd.R_mono (ok' := fun k_ => (w.heap.size ≤ k_) ∧ some k_ ≠ (v348 : Value).ownBlock) ho3 (fun k_ hk_ => ⟨Or.elim hk_.1 (fun hs_ => (HO312.out.1 k_ (hs_).symm)) (fun hn_ => (Nat.le_trans (below_size (zG2 GE297.out GE322.out)) hn_)), hk_.2⟩)); have HO358 := Aside0.mk (Kd.R_mono (ok' := fun k_ => (w.heap.size ≤ k_) ∧ some k_ ≠ (.slice Ao64 t319.length co64 : Value).ownBlock) ho4 (fun k_ hk_ => ⟨Or.elim hk_ (fun hs_ => (HO312.out.1 k_ (hs_).symm)) (fun hn_ => (Nat.le_trans (below_size (zG2 GE297.out GE322.out)) hn_)), Or.elim hk_ (fun hs_ => fun e_ => ((((Kd.R_apart' HO321.out (Kd.R_typed HO312.out) (by decide))).1 k_ e_.symm).2) hs_) (fun hn_ => (Kd.fresh' (Kd.R_lt (zR HO321.out)) k_ hn_))⟩)); replace HO321 := Aside0.mk (Kd.R_mono (ok' := fun k_ => (w.heap.size ≤ k_) ∧ some k_ ≠ (v357 : Value).ownBlock) (Kd.R_keptB ((Kd.R_apart' HO321.out (Kd.R_typed HO312.out) (by decide))) hkp (fun k_ hk_ hs_ => (hk_.2) hs_)) (fun k_ hk_ => ⟨hk_.1.1, fun e_ => Or.elim (ho4.1 k_ e_.symm) (fun hs_ => hk_.2.1 hs_) (fun hn_ => Nat.not_le.2 hk_.2.2 hn_)⟩)); replace HB := Aside0.mk (hb); clear HO312; (try clear hb); (try clear hkp); (try clear ho0); (try clear ho1); (try clear ho2); (try clear ho3); (try clear ho4); obtain ⟨hcz67_0, hcz67_1, hcz67_2, hcz67_3, hcz67_4, hcz67_5, hfz67_0, hfz67_1, hfz67_2, hfz67_3, hfz67_4, hfz67_5⟩ := zb6 BK297.out; obtain ⟨Ao68, co68, eo68⟩ := Kd.R_slice HO346.out; subst eo68; obtain ⟨Ao69, co69, eo69⟩ := Kd.R_slice HO349.out; subst eo69; obtain ⟨Ao70, co70, eo70⟩ := Kd.R_slice HO352.out; subst eo70; obtain ⟨Ao71, co71, eo71⟩ := Kd.R_slice HO355.out; subst eo71; obtain ⟨Ao72, co72, eo72⟩ := Kd.R_slice HO358.out; subst eo72))
    refine bodyPost_ret (results_cell_row rfl _ _ gb297 31 #[.int .i64 t343, .slice Ao68 t344.length co68, .slice Ao69 t347.length co69, .slice Ao70 t350.length co70, .slice Ao71 t353.length co71, .slice Ao72 t356.length co72] (0, 0) _ rfl (zP BK297.out) Tryz.underlying31 rfl (by kernel_rfl)) rfl ?_
    exact ⟨_, _, _, _, _, by first | rfl | (simp [errW_none, errW_some] <;> rfl) | (simp [*, errW_none, errW_some] <;> rfl), zW1 HO346.out BK297.out, zW1 HO349.out BK297.out, Kd.R_mono (zW HO352.out BK297.out) (fun _ hk => hk), Kd.R_V (by (with_reducible repeat (first | apply Kd.R_alloc | apply Kd.R_drewN | apply Kd.R_drew)); exact Kd.R_mono (Kd.R_far (p := ⟨gb297, 5, none⟩) (Kd.R_far (p := ⟨gb297, 4, none⟩) (Kd.R_far (p := ⟨gb297, 3, none⟩) (Kd.R_far (p := ⟨gb297, 2, none⟩) (Kd.R_far (p := ⟨gb297, 1, none⟩) (Kd.R_far (p := ⟨gb297, 0, none⟩) (Kd.R_types (Kd.R_apart' (Kd.R_apart' (Kd.R_apart' HO355.out (Kd.R_typed HO346.out) (by decide)) (Kd.R_typed HO352.out) (by decide)) (Kd.R_typed HO358.out) (by decide)) BK297.out (by decide)) (fun _ hk => hk.2) (.int .i64 t343)) (fun _ hk => hk.2) (.slice Ao68 t344.length co68)) (fun _ hk => hk.2) (.slice Ao69 t347.length co69)) (fun _ hk => hk.2) (.slice Ao70 t350.length co70)) (fun _ hk => hk.2) (.slice Ao71 t353.length co71)) (fun _ hk => hk.2) (.slice Ao72 t356.length co72)) (fun _ hk => ⟨hk.1.1.1.1.1, ⟨hk.1.1.1.2, ⟨hk.1.1.1.1.2, ⟨hk.1.1.2, hk.1.2⟩⟩⟩⟩)), zW1 HO358.out BK297.out, zG2 GE297.out GE322.out⟩
end Go.Proofs.YtgknjgionicncaaGreat.V
namespace Go.Proofs.YtgknjgionicncaaGreat.R
open Go.RowKit Go.Proofs.YtgknjgionicncaaGreat.Q Go.Proofs.YtgknjgionicncaaGreat.X Go.Proofs.YtgknjgionicncaaGreat.V Go.Proofs.YtgknjgionicncaaGreatW.PrintWords Go.Proofs.YtgknjgionicncaaGreatW.PrintLast Go.Proofs.YtgknjgionicncaaGreatW.PrintMore
attribute [local go_sem] max2_int min2_int max_two min_two max_three min_three max_four min_four
set_option linter.unusedVariables false
set_option linter.unusedSimpArgs false
def merkhetlaw20_fixed.f (k : Nat)  : Option (Bool) := (verdict_Of.f k (([(⟨1, 1, 0, 0, (⟨#[97]⟩ : ByteArray), (⟨#[98]⟩ : ByteArray), 3, 0⟩ : S36)] : List (S36))) 1).bind fun bt104 => ((verdict_Of.f k ([] : List (S36)) 1).bind fun bt121 => (if bt121.1 = 0 then (if bt104.1 = 1 then (if (bt104.2.2.2.2.1.length : Int) = 1 then (if 0 < (bt104.2.2.2.2.1.length : Int) then (if (rd bt104.2.2.2.2.1 0) = 0 then (if (bt104.2.2.1.length : Int) = 1 then (if 0 < (bt104.2.2.1.length : Int) then (some ((rd bt104.2.2.1 0) == 3)) else (none)) else (some false)) else (some false)) else (none)) else (some false)) else (some false)) else (some false)))
theorem merkhetlaw20_fixed.mono : ∀ k, LeO (merkhetlaw20_fixed.f k ) (merkhetlaw20_fixed.f (k + 1) ) := by
 intro  k
 unfold merkhetlaw20_fixed.f
 have m0 := @verdict_Of.mono
 exact zM
set_option maxHeartbeats 8000000 in
set_option maxRecDepth 100000 in
theorem merkhetlaw20_fixed.calls (k : Nat)  (r : Bool) (w : World) (h : merkhetlaw20_fixed.f k  = some true) :
  Calls Tryz.prog 10 #[] w fun e w' => e = .returned (.bool true) ∧ Below w.heap.size w w' := by
 have hfv31_0 := Go.Proofs.YtgknjgionicncaaGreatW.FldV.fld31_0
 have hu36 := Tryz.underlying36
 have hu31 := Tryz.underlying31
 have HB := Aside0.mk (Below.refl w.heap.size w)
 have H : ((verdict_Of.f k (([(⟨1, 1, 0, 0, (⟨#[97]⟩ : ByteArray), (⟨#[98]⟩ : ByteArray), 3, 0⟩ : S36)] : List (S36))) 1).bind fun bt104 => ((verdict_Of.f k ([] : List (S36)) 1).bind fun bt121 => (if bt121.1 = 0 then (if bt104.1 = 1 then (if (bt104.2.2.2.2.1.length : Int) = 1 then (if 0 < (bt104.2.2.2.2.1.length : Int) then (if (rd bt104.2.2.2.2.1 0) = 0 then (if (bt104.2.2.1.length : Int) = 1 then (if 0 < (bt104.2.2.1.length : Int) then (some ((rd bt104.2.2.1 0) == 3)) else (none)) else (some false)) else (some false)) else (none)) else (some false)) else (some false)) else (some false)))) = some true := h
 clear h
 obtain ⟨y101, hy101⟩ : ∃ y_ : List (S36), y_ = (([(⟨1, 1, 0, 0, (⟨#[97]⟩ : ByteArray), (⟨#[98]⟩ : ByteArray), 3, 0⟩ : S36)] : List (S36))) := ⟨_, rfl⟩
 first | (replace H := zo H hy101) | rw [← hy101] at H
 have Ny101 := Aside0.mk hy101
 clear hy101
 replace H := Option.bind_eq_some_iff.mp H
 obtain ⟨⟨t104, t105, t108, t111, t114, t117⟩, A10, H⟩ := H
 dsimp only at H
 have A1 := Aside0.mk A10
 clear A10
 replace H := Option.bind_eq_some_iff.mp H
 obtain ⟨⟨t121, t122, t125, t128, t131, t134⟩, A20, H⟩ := H
 dsimp only at H
 have A2 := Aside0.mk A20
 clear A20
 by_cases c3 : t121 = 0
 ·rw [if_pos c3] at H
  have c3b0 : (t121 == 0) = true := beq_iff_eq.mpr c3
  have c3b1 : (t121 != 0) = false := bne_eq_false_iff_eq.mpr c3
  clear c3
  by_cases c4 : t104 = 1
  ·rw [if_pos c4] at H
   have c4b0 : (t104 == 1) = true := beq_iff_eq.mpr c4
   have c4b1 : (t104 != 1) = false := bne_eq_false_iff_eq.mpr c4
   clear c4
   by_cases c5 : (t114.length : Int) = 1
   ·rw [if_pos c5] at H
    have c5b0 : ((t114.length : Int) == 1) = true := beq_iff_eq.mpr c5
    have c5b1 : ((t114.length : Int) != 1) = false := bne_eq_false_iff_eq.mpr c5
    clear c5
    obtain ⟨c6, H⟩ := zj H
    have c6b0 : decide (0 < (t114.length : Int)) = true := decide_eq_true c6
    have c6b1 : decide (0 < t114.length) = true := decide_eq_true (by omega)
    clear c6
    by_cases c7 : (rd t114 0) = 0
    ·rw [if_pos c7] at H
     have c7b0 : ((rd t114 0) == 0) = true := beq_iff_eq.mpr c7
     have c7b1 : ((rd t114 0) != 0) = false := bne_eq_false_iff_eq.mpr c7
     clear c7
     by_cases c8 : (t108.length : Int) = 1
     ·rw [if_pos c8] at H
      have c8b0 : ((t108.length : Int) == 1) = true := beq_iff_eq.mpr c8
      have c8b1 : ((t108.length : Int) != 1) = false := bne_eq_false_iff_eq.mpr c8
      clear c8
      obtain ⟨c9, H⟩ := zj H
      have c9b0 : decide (0 < (t108.length : Int)) = true := decide_eq_true c9
      have c9b1 : decide (0 < t108.length) = true := decide_eq_true (by omega)
      clear c9
      first | (obtain rfl := Option.some.inj H) | (have hr_ := Option.some.inj H; clear H)
      go_enter Tryz.func10, Tryz.ntmps10
      go_wp2_with (first | ((with_reducible refine gate_dst (N := 3) rfl ?_); (try (refine gate_guard (by rfl) ?_; dsimp only)); refine Kd.R_lit k36 _ 36 ?hg (N := 3) ?hd (xs := ([(⟨1, 1, 0, 0, (⟨#[97]⟩ : ByteArray), (⟨#[98]⟩ : ByteArray), 3, 0⟩ : S36)] : List (S36))) (inner := [.int .u64 1, .int .u64 1, .int .u64 0, .int .u8 0, .string (⟨#[97]⟩ : ByteArray), .string (⟨#[98]⟩ : ByteArray), .int .i64 3, .int .i64 0]) (ok := fun _ => True) (okp := fun _ => True) ?hr ?hp (fun _ hk => hk) trivial (Below.refl _ _) (Nat.le_refl _) (by simp) ?_; (case hd => rfl); (case hg => rfl); (case hr => first | (go_simp; done) | (go_simp; rfl)); (case hp => exact (Reps.c8 (show Kd.M k36 _ _ _ (⟨1, 1, 0, 0, (⟨#[97]⟩ : ByteArray), (⟨#[98]⟩ : ByteArray), 3, 0⟩ : S36) [.int .u64 1, .int .u64 1, .int .u64 0, .int .u8 0, .string (⟨#[97]⟩ : ByteArray), .string (⟨#[98]⟩ : ByteArray), .int .i64 3, .int .i64 0] from (k36_mkM _ _ _ (⟨1, 1, 0, 0, (⟨#[97]⟩ : ByteArray), (⟨#[98]⟩ : ByteArray), 3, 0⟩ : S36) )) (Reps.none _ _))); intro v102 w10 ho11 hb hg_ hnew_; clear hg_ hnew_; (first | rw [← Ny101.out] at ho11 | (simp only [Int.reduceToNat] at ho11; rw [← Ny101.out] at ho11)); have HO103 := Aside0.mk (Kd.R_lower ho11 (below_size zB)); replace HB := Aside0.mk (below_step zB hb); clear hb ho11; obtain ⟨Ao12, co12, eo12⟩ := Kd.R_slice HO103.out; subst eo12) | ((with_reducible refine gate_callee (f := 12) rfl ?_); refine goesL_ (some 4) rfl rfl Tryz.func12 (by kernel_rfl) rfl #[.slice Ao12 y101.length co12, .int .u64 1] rfl zL ?_; (with_reducible refine (verdict_Of.calls k _ _ y101 1 t104 t105 t108 t111 t114 t117 _ ?side1 ?side2 A1.out).mono ?_); (case side1 => exact zC ((Kd.R_reads' HO103.out).2.2)); (case side2 => exact (Kd.R_reads' HO103.out).2.1); rintro e w13 ⟨v106, v109, v112, v115, v118, rfl, ho0, ho1, ho2, ho3, ho4, hb⟩; refine ⟨_, rfl, ?_⟩; have HO107 := Aside0.mk (Kd.R_lower (Kd.R_new' (Kd.R_mono (ok' := fun k_ => True) ho0 (fun _ hk_ => trivial)) (Kd.R_lt (zR HO103.out))) (below_size zB)); have HO110 := Aside0.mk (Kd.R_lower (Kd.R_mono (ok' := fun k_ => True) ho1 (fun _ hk_ => trivial)) (below_size zB)); have HO113 := Aside0.mk (Kd.R_lower (Kd.R_mono (ok' := fun k_ => True) ho2 (fun _ hk_ => trivial)) (below_size zB)); have HO116 := Aside0.mk (Kd.V_lower (Kd.V_mono (ok' := fun k_ => some k_ ≠ (v106 : Value).ownBlock ∧ some k_ ≠ (v109 : Value).ownBlock ∧ some k_ ≠ (v112 : Value).ownBlock ∧ some k_ ≠ (v118 : Value).ownBlock ∧ some k_ ≠ (.slice Ao12 y101.length co12 : Value).ownBlock) ho3 (fun k_ hk_ => ⟨hk_.2.1, hk_.2.2.1, hk_.2.2.2.1, hk_.2.2.2.2, (Kd.fresh' (Kd.R_lt (zR HO103.out)) k_ hk_.1)⟩)) (below_size zB)); replace HO103 := Aside0.mk (Kd.R_elder' (zR HO103.out) (Kd.R_base ho0) hb); have HO119 := Aside0.mk (Kd.R_lower (Kd.R_mono (ok' := fun k_ => True) ho4 (fun _ hk_ => trivial)) (below_size zB)); replace HB := Aside0.mk (below_step zB hb); (try clear hb); (try clear hb2); (try clear hk); (try clear hi); (try clear ho0); (try clear ho1); (try clear ho2); (try clear ho3); (try clear ho4)) | ((with_reducible refine gate_dst (N := 1) rfl ?_); (try (refine gate_guard (by rfl) ?_; dsimp only)); refine zbox (N := 1) (cs := #[.int .i64 0, .slice none 0 0, .slice none 0 0, .slice none 0 0, .slice none 0 0, .slice none 0 0]) (t := 31) ?_; intro gb120 hg w14 hbox hb; replace HO103 := Aside0.mk (Kd.R_below (zR HO103.out) hb); replace HO107 := Aside0.mk (Kd.R_below (zR HO107.out) hb); replace HO110 := Aside0.mk (Kd.R_below (zR HO110.out) hb); replace HO113 := Aside0.mk (Kd.R_below (zR HO113.out) hb); replace HO116 := Aside0.mk (Kd.V_below (Kd.V_elderB (zRV HO116.out) gb120 (Nat.le_of_eq hg.symm)) hb); replace HO119 := Aside0.mk (Kd.R_below (zR HO119.out) hb); have BK120 := Aside0.mk (hbox); have GW120 := Aside0.mk ((by rw [hg]; exact (below_size zB) : w.heap.size ≤ gb120)); have GE120 := Aside0.mk ((by rw [hg]; exact (below_size zB) : w.heap.size ≤ gb120)); replace HB := Aside0.mk (below_step zB hb); clear hb hbox hg; obtain ⟨hcz15_0, hcz15_1, hcz15_2, hcz15_3, hcz15_4, hcz15_5, hfz15_0, hfz15_1, hfz15_2, hfz15_3, hfz15_4, hfz15_5⟩ := zb6 BK120.out; obtain ⟨Ao16, co16, eo16⟩ := Kd.R_slice HO107.out; subst eo16; obtain ⟨Ao17, co17, eo17⟩ := Kd.R_slice HO110.out; subst eo17; obtain ⟨Ao18, co18, eo18⟩ := Kd.R_slice HO113.out; subst eo18; obtain ⟨Ao19, co19, eo19⟩ := Kd.V_slice HO116.out; subst eo19; obtain ⟨Ao20, co20, eo20⟩ := Kd.R_slice HO119.out; subst eo20) | ((with_reducible refine gate_callee (f := 12) rfl ?_); refine goesL_ (some 5) rfl rfl Tryz.func12 (by kernel_rfl) rfl #[.slice none 0 0, .int .u64 1] rfl zL ?_; (refine (verdict_Of.calls k _ _ ([] : List (S36)) 1 t121 t122 t125 t128 t131 t134 _ ?side1 ?side2 A2.out).mono ?_); (case side1 => exact Kd.C_nil _ _); (case side2 => exact Nat.le_refl _); rintro e w21 ⟨v123, v126, v129, v132, v135, rfl, ho0, ho1, ho2, ho3, ho4, hb⟩; refine ⟨_, rfl, ?_⟩; replace HO116 := Aside0.mk (Kd.V_mono (Kd.V_told (Kd.V_told (Kd.V_told (Kd.V_told (Kd.V_old (by (with_reducible repeat (first | apply Kd.V_alloc | apply Kd.V_drewN | apply Kd.V_drew)); exact (Kd.V_mono (Kd.V_far (p := ⟨gb120, 5, none⟩) (Kd.V_far (p := ⟨gb120, 4, none⟩) (Kd.V_far (p := ⟨gb120, 3, none⟩) (Kd.V_far (p := ⟨gb120, 2, none⟩) (Kd.V_far (p := ⟨gb120, 1, none⟩) (Kd.V_far (p := ⟨gb120, 0, none⟩) (Kd.V_mono HO116.out (fun k_ hk => (⟨hk, hk.2⟩ : _ ∧ k_ ≠ gb120))) (fun _ hk => hk.2) (.int .i64 t104)) (fun _ hk => hk.2) (.slice Ao16 t105.length co16)) (fun _ hk => hk.2) (.slice Ao17 t108.length co17)) (fun _ hk => hk.2) (.slice Ao18 t111.length co18)) (fun _ hk => hk.2) (.slice Ao19 t114.length co19)) (fun _ hk => hk.2) (.slice Ao20 t117.length co20)) (fun _ h_ => h_.1))) hb) (Kd.R_base ho0)) (Kd.R_base ho1)) (Kd.R_base ho2)) (Kd.R_base ho4)) (fun _ h_ => h_.1)); have HO124 := Aside0.mk (Kd.R_lower (Kd.R_new' (Kd.R_new' (Kd.R_mono (ok' := fun k_ => True) ho0 (fun _ hk_ => trivial)) (Kd.R_lt (zW HO103.out BK120.out))) (Kd.R_lt (zW HO107.out BK120.out))) (below_size (zG GE120.out))); have HO127 := Aside0.mk (Kd.R_lower (Kd.R_new' (Kd.R_mono (ok' := fun k_ => True) ho1 (fun _ hk_ => trivial)) (Kd.R_lt (zW HO110.out BK120.out))) (below_size (zG GE120.out))); have HO130 := Aside0.mk (Kd.R_lower (Kd.R_new' (Kd.R_mono (ok' := fun k_ => True) ho2 (fun _ hk_ => trivial)) (Kd.R_lt (zW HO113.out BK120.out))) (below_size (zG GE120.out))); have HO133 := Aside0.mk (Kd.V_lower (Kd.V_mono (ok' := fun k_ => some k_ ≠ (v123 : Value).ownBlock ∧ some k_ ≠ (v126 : Value).ownBlock ∧ some k_ ≠ (v129 : Value).ownBlock ∧ some k_ ≠ (v135 : Value).ownBlock ∧ some k_ ≠ (.slice Ao12 y101.length co12 : Value).ownBlock ∧ some k_ ≠ (.slice Ao16 t105.length co16 : Value).ownBlock ∧ some k_ ≠ (.slice Ao17 t108.length co17 : Value).ownBlock ∧ some k_ ≠ (.slice Ao18 t111.length co18 : Value).ownBlock ∧ some k_ ≠ (.slice Ao20 t117.length co20 : Value).ownBlock ∧ k_ ≠ gb120) ho3 (fun k_ hk_ => ⟨hk_.2.1, hk_.2.2.1, hk_.2.2.2.1, hk_.2.2.2.2, (Kd.fresh' (Kd.R_lt (zW HO103.out BK120.out)) k_ hk_.1), (Kd.fresh' (Kd.R_lt (zW HO107.out BK120.out)) k_ hk_.1), (Kd.fresh' (Kd.R_lt (zW HO110.out BK120.out)) k_ hk_.1), (Kd.fresh' (Kd.R_lt (zW HO113.out BK120.out)) k_ hk_.1), (Kd.fresh' (Kd.R_lt (zW HO119.out BK120.out)) k_ hk_.1), (Kd.freshB (g := gb120) (o := .cells #[.int .i64 t104, .slice Ao16 t105.length co16, .slice Ao17 t108.length co17, .slice Ao18 t111.length co18, .slice Ao19 t114.length co19, .slice Ao20 t117.length co20] 31 (0, 0)) (zP BK120.out) k_ hk_.1)⟩)) (below_size (zG GE120.out))); replace HO103 := Aside0.mk (Kd.R_elder' (zW HO103.out BK120.out) (Kd.R_base ho0) hb); replace HO107 := Aside0.mk (Kd.R_elder' (zW HO107.out BK120.out) (Kd.R_base ho0) hb); replace HO110 := Aside0.mk (Kd.R_elder' (zW HO110.out BK120.out) (Kd.R_base ho1) hb); replace HO113 := Aside0.mk (Kd.R_elder' (zW HO113.out BK120.out) (Kd.R_base ho2) hb); have HO136 := Aside0.mk (Kd.R_lower (Kd.R_new' (Kd.R_mono (ok' := fun k_ => True) ho4 (fun _ hk_ => trivial)) (Kd.R_lt (zW HO119.out BK120.out))) (below_size (zG GE120.out))); replace HO119 := Aside0.mk (Kd.R_elder' (zW HO119.out BK120.out) (Kd.R_base ho4) hb); replace BK120 := Aside0.mk (blk_below (g := gb120) (o := .cells #[.int .i64 t104, .slice Ao16 t105.length co16, .slice Ao17 t108.length co17, .slice Ao18 t111.length co18, .slice Ao19 t114.length co19, .slice Ao20 t117.length co20] 31 (0, 0)) (zP BK120.out) hb); replace HB := Aside0.mk (below_step (zG GE120.out) hb); (try clear hb); (try clear hb2); (try clear hk); (try clear hi); (try clear ho0); (try clear ho1); (try clear ho2); (try clear ho3); (try clear ho4); obtain ⟨hcz22_0, hcz22_1, hcz22_2, hcz22_3, hcz22_4, hcz22_5, hfz22_0, hfz22_1, hfz22_2, hfz22_3, hfz22_4, hfz22_5⟩ := zb6 BK120.out; have p137 : 0 ≤ (0 : Int) := (by omega); have q137 : 0 < (t114.length : Int) := of_decide_eq_true zA; obtain ⟨ad137, e137, hx137_0⟩ := Kd.at_int (Kd.V_reads' HO116.out).2.2 0 p137 q137; cases e137; have qi137 : (0 < t114.length) = True := eq_true (by omega); (try rw [show ((0 : Int)).toNat = 0 from rfl] at hx137_0); (try rw [Addr.add_zero'] at hx137_0); replace p137 := eq_true p137; replace q137 := eq_true q137; have p138 : 0 ≤ (0 : Int) := (by omega); have q138 : 0 < (t108.length : Int) := of_decide_eq_true zA; obtain ⟨ad138, e138, hx138_0⟩ := Kd.at_int (Kd.R_reads' HO110.out).2.2 0 p138 q138; cases e138; have qi138 : (0 < t108.length) = True := eq_true (by omega); (try rw [show ((0 : Int)).toNat = 0 from rfl] at hx138_0); (try rw [Addr.add_zero'] at hx138_0); replace p138 := eq_true p138; replace q138 := eq_true q138))
      go_ret
      exact ⟨zV, zG GE120.out⟩
     ·rw [if_neg c8] at H
      have c8b0 : ((t108.length : Int) == 1) = false := beq_eq_false_iff_ne.mpr c8
      have c8b1 : ((t108.length : Int) != 1) = true := bne_iff_ne.mpr c8
      exact absurd H (by simp)
    ·rw [if_neg c7] at H
     have c7b0 : ((rd t114 0) == 0) = false := beq_eq_false_iff_ne.mpr c7
     have c7b1 : ((rd t114 0) != 0) = true := bne_iff_ne.mpr c7
     exact absurd H (by simp)
   ·rw [if_neg c5] at H
    have c5b0 : ((t114.length : Int) == 1) = false := beq_eq_false_iff_ne.mpr c5
    have c5b1 : ((t114.length : Int) != 1) = true := bne_iff_ne.mpr c5
    exact absurd H (by simp)
  ·rw [if_neg c4] at H
   have c4b0 : (t104 == 1) = false := beq_eq_false_iff_ne.mpr c4
   have c4b1 : (t104 != 1) = true := bne_iff_ne.mpr c4
   exact absurd H (by simp)
 ·rw [if_neg c3] at H
  have c3b0 : (t121 == 0) = false := beq_eq_false_iff_ne.mpr c3
  have c3b1 : (t121 != 0) = true := bne_iff_ne.mpr c3
  exact absurd H (by simp)
end Go.Proofs.YtgknjgionicncaaGreat.R
namespace Go.Proofs.YtgknjgionicncaaGreat.V
open Go.RowKit Go.Proofs.YtgknjgionicncaaGreat.Q Go.Proofs.YtgknjgionicncaaGreat.X Go.Proofs.YtgknjgionicncaaGreatW.PrintWords Go.Proofs.YtgknjgionicncaaGreatW.PrintLast Go.Proofs.YtgknjgionicncaaGreatW.PrintMore
attribute [local go_sem] max2_int min2_int max_two min_two max_three min_three max_four min_four
set_option linter.unusedVariables false
set_option linter.unusedSimpArgs false
theorem eqA36 (d : Nat) (w : World) (x0 y0 : Int) (x1 y1 : Int) (x2 y2 : Int) (x3 y3 : Int) (x4 y4 : ByteArray) (x5 y5 : ByteArray) (x6 y6 : Int) (x7 y7 : Int) :
  (Op.equalIn (d + 2) 36 (.agg #[.int .u64 x0, .int .u64 x1, .int .u64 x2, .int .u8 x3, .string x4, .string x5, .int .i64 x6, .int .i64 x7]) (.agg #[.int .u64 y0, .int .u64 y1, .int .u64 y2, .int .u8 y3, .string y4, .string y5, .int .i64 y6, .int .i64 y7])).run Tryz.prog w = .ok (x0 == y0 && (x1 == y1 && (x2 == y2 && (x3 == y3 && (x4.toList == y4.toList && (x5.toList == y5.toList && (x6 == y6 && (x7 == y7)))))))) w := by
 refine eqA_of Tryz.underlying36 (by kernel_rfl) ?_
 refine eqf_cons (by rfl) (by go_simp; rfl) (by go_simp; rfl) (by go_simp) ?_
 refine eqf_cons (by rfl) (by go_simp; rfl) (by go_simp; rfl) (by go_simp) ?_
 refine eqf_cons (by rfl) (by go_simp; rfl) (by go_simp; rfl) (by go_simp) ?_
 refine eqf_cons (by rfl) (by go_simp; rfl) (by go_simp; rfl) (by go_simp) ?_
 refine eqf_cons (by rfl) (by go_simp; rfl) (by go_simp; rfl) (by go_simp) ?_
 refine eqf_cons (by rfl) (by go_simp; rfl) (by go_simp; rfl) (by go_simp) ?_
 refine eqf_cons (by rfl) (by go_simp; rfl) (by go_simp; rfl) (by go_simp) ?_
 exact eqf_last (by rfl) (by go_simp; rfl) (by go_simp; rfl) (by go_simp)
theorem eqA57 (d : Nat) (w : World) (x0 y0 : Int) (x1 y1 : Int) :
  (Op.equalIn (d + 2) 57 (.agg #[.int .i64 x0, .int .i64 x1]) (.agg #[.int .i64 y0, .int .i64 y1])).run Tryz.prog w = .ok (x0 == y0 && (x1 == y1)) w := by
 refine eqA_of Tryz.underlying57 (by kernel_rfl) ?_
 refine eqf_cons (by rfl) (by go_simp; rfl) (by go_simp; rfl) (by go_simp) ?_
 exact eqf_last (by rfl) (by go_simp; rfl) (by go_simp; rfl) (by go_simp)
theorem eqA72 (d : Nat) (w : World) (x0 y0 : Int) (x1 y1 : Int) (x2 y2 : Int) (x3 y3 : Int) (x4 y4 : Int) (x5 y5 : Bool) :
  (Op.equalIn (d + 3) 72 (.agg #[.int .i64 x0, .int .i64 x1, .int .i64 x2, .int .i64 x3, .int .i64 x4, .bool x5]) (.agg #[.int .i64 y0, .int .i64 y1, .int .i64 y2, .int .i64 y3, .int .i64 y4, .bool y5])).run Tryz.prog w = .ok (x0 == y0 && (x1 == y1 && (x2 == y2 && ((x3 == y3 && (x4 == y4)) && (x5 == y5))))) w := by
 refine eqA_of Tryz.underlying72 (by kernel_rfl) ?_
 refine eqf_cons (by rfl) (by go_simp; rfl) (by go_simp; rfl) (by go_simp) ?_
 refine eqf_cons (by rfl) (by go_simp; rfl) (by go_simp; rfl) (by go_simp) ?_
 refine eqf_cons (by rfl) (by go_simp; rfl) (by go_simp; rfl) (by go_simp) ?_
 refine eqf_cons (by rfl) (by go_simp) (by go_simp) (eqA57 (d + 0) w _ _ _ _) ?_
 exact eqf_last (by rfl) (by go_simp; rfl) (by go_simp; rfl) (by go_simp)
attribute [local go_sem high] eqA36 eqA72
def api_Span_81.l0 : Nat → List (S36) → List (S36) → Int → Int → Option (Bool)
 | 0, _, _, _, _ => none
 | k + 1, x0, x1, x12, x13 => if x13 < x12 then (if 0 ≤ x13 then (if x13 < (x0.length : Int) then (if x13 < (x1.length : Int) then (if (!(((rd_T36 x0 x13).f0) == ((rd_T36 x1 x13).f0)) || (!(((rd_T36 x0 x13).f1) == ((rd_T36 x1 x13).f1)) || (!(((rd_T36 x0 x13).f2) == ((rd_T36 x1 x13).f2)) || (!(((rd_T36 x0 x13).f3) == ((rd_T36 x1 x13).f3)) || (!((((rd_T36 x0 x13).f4).toList) == (((rd_T36 x1 x13).f4).toList)) || (!((((rd_T36 x0 x13).f5).toList) == (((rd_T36 x1 x13).f5).toList)) || (!(((rd_T36 x0 x13).f6) == ((rd_T36 x1 x13).f6)) || (!(((rd_T36 x0 x13).f7) == ((rd_T36 x1 x13).f7)))))))))) = true then (some false) else (api_Span_81.l0 k x0 x1 x12 (wrap64 (x13 + 1)))) else (none)) else (none)) else (none)) else (some true)
def api_Span_81.f (k : Nat) (l0 : List (S36)) (l1 : List (S36)) : Option (Bool) := if (l0.length : Int) = (l1.length : Int) then (api_Span_81.l0 k l0 l1 (l0.length : Int) 0) else (some false)
theorem api_Span_81.mono_l : ∀ k, (∀ y0 y1 y2 y3, LeO (api_Span_81.l0 k y0 y1 y2 y3) (api_Span_81.l0 (k + 1) y0 y1 y2 y3))
 | 0 => fun _ _ _ _ r h => by simp [api_Span_81.l0] at h
 | k + 1 => by
  have ih0 := api_Span_81.mono_l k
  ·intro y0 y1 y2 y3
   unfold api_Span_81.l0
   exact zM
theorem api_Span_81.mono : ∀ a0 a1 k, LeO (api_Span_81.f k a0 a1) (api_Span_81.f (k + 1) a0 a1) := by
 intro a0 a1 k
 have ih0 := api_Span_81.mono_l k
 unfold api_Span_81.f
 exact zM
set_option maxHeartbeats 8000000 in
set_option maxRecDepth 100000 in
theorem api_Span_81.calls (k : Nat) (A0 : Option Addr) (c0 : Nat) (l0 : List (S36)) (A1 : Option Addr) (c1 : Nat) (l1 : List (S36)) (r : Bool) (w : World) (hr0 : Kd.C k36 w A0 l0.length l0) (hc0 : l0.length ≤ c0) (hr1 : Kd.C k36 w A1 l1.length l1) (hc1 : l1.length ≤ c1) (h : api_Span_81.f k l0 l1 = some r) :
  Calls Tryz.prog 81 #[.slice A0 l0.length c0, .slice A1 l1.length c1] w fun e w' => e = .returned (.bool r) ∧ Drawn0 w w' := by
 have hu36 := Tryz.underlying36
 have HR0 := Aside0.mk hr0
 have HC0 := Aside0.mk hc0
 clear hr0 hc0
 have HR1 := Aside0.mk hr1
 have HC1 := Aside0.mk hc1
 clear hr1 hc1
 have H : (if (l0.length : Int) = (l1.length : Int) then (api_Span_81.l0 k l0 l1 (l0.length : Int) 0) else (some false)) = some r := h
 clear h
 by_cases c3 : (l0.length : Int) = (l1.length : Int)
 ·rw [if_pos c3] at H
  have c3b0 : ((l0.length : Int) == (l1.length : Int)) = true := beq_iff_eq.mpr c3
  have c3b1 : ((l0.length : Int) != (l1.length : Int)) = false := bne_eq_false_iff_eq.mpr c3
  have c3b2 : (l0.length == l1.length) = true := by first | simpa using c3 | (simp at c3 ⊢; omega)
  clear c3
  have H' := Aside0.mk H
  clear H
  go_enter Tryz.func81, Tryz.ntmps81
  go_wp2
  repeat (go_quiet (fail); try go_wp2)
  go_loopg [13] k (fun kq v13 w' => ∃ (x13_1 : Int), v13 = .int .i64 x13_1 ∧ Aside0 (api_Span_81.l0 kq l0 l1 (l0.length : Int) x13_1 = some r) ∧ Aside0 (kq ≤ k) ∧ Drawn0 w w')
  case atStart => exact ⟨(0), zE, H', ⟨Nat.le_refl _⟩, zD0⟩
  case round =>
   clear H'
   (try clear c1); (try clear p2); (try clear c3); (try clear c3b0); (try clear c3b1); (try clear c3b2)
   obtain ⟨x13_1, rfl, HA, HK1, ⟨m1, rfl⟩⟩ := hrel
   cases gk with
   | zero => exact absurd HA.out (by simp [api_Span_81.l0])
   | succ k1 =>
    have H := HA.out
    clear HA
    simp only [api_Span_81.l0] at H
    by_cases c4 : x13_1 < (l0.length : Int)
    ·rw [if_pos c4] at H
     have c4b0 := decide_eq_true c4
     clear c4
     obtain ⟨c5b0, H⟩ := zt H
     obtain ⟨c6b0, H⟩ := zt H
     obtain ⟨c7b0, H⟩ := zt H
     by_cases c8 : (!(((rd_T36 l0 x13_1).f0) == ((rd_T36 l1 x13_1).f0)) || (!(((rd_T36 l0 x13_1).f1) == ((rd_T36 l1 x13_1).f1)) || (!(((rd_T36 l0 x13_1).f2) == ((rd_T36 l1 x13_1).f2)) || (!(((rd_T36 l0 x13_1).f3) == ((rd_T36 l1 x13_1).f3)) || (!((((rd_T36 l0 x13_1).f4).toList) == (((rd_T36 l1 x13_1).f4).toList)) || (!((((rd_T36 l0 x13_1).f5).toList) == (((rd_T36 l1 x13_1).f5).toList)) || (!(((rd_T36 l0 x13_1).f6) == ((rd_T36 l1 x13_1).f6)) || (!(((rd_T36 l0 x13_1).f7) == ((rd_T36 l1 x13_1).f7)))))))))) = true
     ·rw [if_pos c8] at H
      have c8b0 : (!(((rd_T36 l0 x13_1).f0) == ((rd_T36 l1 x13_1).f0)) || (!(((rd_T36 l0 x13_1).f1) == ((rd_T36 l1 x13_1).f1)) || (!(((rd_T36 l0 x13_1).f2) == ((rd_T36 l1 x13_1).f2)) || (!(((rd_T36 l0 x13_1).f3) == ((rd_T36 l1 x13_1).f3)) || (!((((rd_T36 l0 x13_1).f4).toList) == (((rd_T36 l1 x13_1).f4).toList)) || (!((((rd_T36 l0 x13_1).f5).toList) == (((rd_T36 l1 x13_1).f5).toList)) || (!(((rd_T36 l0 x13_1).f6) == ((rd_T36 l1 x13_1).f6)) || (!(((rd_T36 l0 x13_1).f7) == ((rd_T36 l1 x13_1).f7)))))))))) = true := c8
      clear c8
      obtain rfl := Option.some.inj H
      have p433 : 0 ≤ (x13_1 : Int) := of_decide_eq_true zA
      have q433 : x13_1 < (l0.length : Int) := of_decide_eq_true zA
      obtain ⟨ad433, e433, hx433_0, hx433_1, hx433_2, hx433_3, hx433_4, hx433_5, hx433_6, hx433_7⟩ := at_T36 HR0.out x13_1 p433 q433
      cases e433
      replace p433 := eq_true p433
      replace q433 := eq_true q433
      have p434 : 0 ≤ (x13_1 : Int) := of_decide_eq_true zA
      have q434 : x13_1 < (l1.length : Int) := of_decide_eq_true zA
      obtain ⟨ad434, e434, hx434_0, hx434_1, hx434_2, hx434_3, hx434_4, hx434_5, hx434_6, hx434_7⟩ := at_T36 HR1.out x13_1 p434 q434
      cases e434
      replace p434 := eq_true p434
      replace q434 := eq_true q434
      go_wp2
      repeat (go_quiet (fail); try go_wp2)
      go_ret
      exact ⟨zE, zD0⟩
     ·rw [if_neg c8] at H
      have c8b0 : (!(((rd_T36 l0 x13_1).f0) == ((rd_T36 l1 x13_1).f0)) || (!(((rd_T36 l0 x13_1).f1) == ((rd_T36 l1 x13_1).f1)) || (!(((rd_T36 l0 x13_1).f2) == ((rd_T36 l1 x13_1).f2)) || (!(((rd_T36 l0 x13_1).f3) == ((rd_T36 l1 x13_1).f3)) || (!((((rd_T36 l0 x13_1).f4).toList) == (((rd_T36 l1 x13_1).f4).toList)) || (!((((rd_T36 l0 x13_1).f5).toList) == (((rd_T36 l1 x13_1).f5).toList)) || (!(((rd_T36 l0 x13_1).f6) == ((rd_T36 l1 x13_1).f6)) || (!(((rd_T36 l0 x13_1).f7) == ((rd_T36 l1 x13_1).f7)))))))))) = false := by simpa using c8
      clear c8
      have H' := Aside0.mk H
      clear H
      have p433 : 0 ≤ (x13_1 : Int) := of_decide_eq_true zA
      have q433 : x13_1 < (l0.length : Int) := of_decide_eq_true zA
      obtain ⟨ad433, e433, hx433_0, hx433_1, hx433_2, hx433_3, hx433_4, hx433_5, hx433_6, hx433_7⟩ := at_T36 HR0.out x13_1 p433 q433
      cases e433
      replace p433 := eq_true p433
      replace q433 := eq_true q433
      have p434 : 0 ≤ (x13_1 : Int) := of_decide_eq_true zA
      have q434 : x13_1 < (l1.length : Int) := of_decide_eq_true zA
      obtain ⟨ad434, e434, hx434_0, hx434_1, hx434_2, hx434_3, hx434_4, hx434_5, hx434_6, hx434_7⟩ := at_T36 HR1.out x13_1 p434 q434
      cases e434
      replace p434 := eq_true p434
      replace q434 := eq_true q434
      go_wp2
      repeat (go_quiet (fail); try go_wp2)
      go_roundg k1
      case measure => have := HK1.out; omega
      case rel => exact ⟨(wrap64 (x13_1 + 1)), zE, H', ⟨by have := HK1.out; omega⟩, zD0⟩
    ·rw [if_neg c4] at H
     have c4b0 := decide_eq_false c4
     clear c4
     obtain rfl := Option.some.inj H
     go_wp2
     repeat (go_quiet (fail); try go_wp2)
     go_ret
     exact ⟨zE, zD0⟩
 ·rw [if_neg c3] at H
  have c3b0 : ((l0.length : Int) == (l1.length : Int)) = false := beq_eq_false_iff_ne.mpr c3
  have c3b1 : ((l0.length : Int) != (l1.length : Int)) = true := bne_iff_ne.mpr c3
  have c3b2 : (l0.length == l1.length) = false := by first | simpa using c3 | (simp at c3 ⊢; omega)
  obtain rfl := Option.some.inj H
  go_enter Tryz.func81, Tryz.ntmps81
  go_wp2
  repeat (go_quiet (fail); try go_wp2)
  go_ret
  exact ⟨zE, zD0⟩
def slices_Equal_string_string.l0 : Nat → List ByteArray → List ByteArray → Int → Int → Option (Bool)
 | 0, _, _, _, _ => none
 | k + 1, x0, x1, x12, x13 => if x13 < x12 then (if 0 ≤ x13 then (if x13 < (x0.length : Int) then (if x13 < (x1.length : Int) then (if (rdOf ByteArray.empty x0 x13).toList = (rdOf ByteArray.empty x1 x13).toList then (slices_Equal_string_string.l0 k x0 x1 x12 (wrap64 (x13 + 1))) else (some false)) else (none)) else (none)) else (none)) else (some true)
def slices_Equal_string_string.f (k : Nat) (l0 : List ByteArray) (l1 : List ByteArray) : Option (Bool) := if (l0.length : Int) = (l1.length : Int) then (slices_Equal_string_string.l0 k l0 l1 (l0.length : Int) 0) else (some false)
theorem slices_Equal_string_string.mono_l : ∀ k, (∀ y0 y1 y2 y3, LeO (slices_Equal_string_string.l0 k y0 y1 y2 y3) (slices_Equal_string_string.l0 (k + 1) y0 y1 y2 y3))
 | 0 => fun _ _ _ _ r h => by simp [slices_Equal_string_string.l0] at h
 | k + 1 => by
  have ih0 := slices_Equal_string_string.mono_l k
  ·intro y0 y1 y2 y3
   unfold slices_Equal_string_string.l0
   exact zM
theorem slices_Equal_string_string.mono : ∀ a0 a1 k, LeO (slices_Equal_string_string.f k a0 a1) (slices_Equal_string_string.f (k + 1) a0 a1) := by
 intro a0 a1 k
 have ih0 := slices_Equal_string_string.mono_l k
 unfold slices_Equal_string_string.f
 exact zM
set_option maxHeartbeats 8000000 in
set_option maxRecDepth 100000 in
theorem slices_Equal_string_string.calls (k : Nat) (A0 : Option Addr) (c0 : Nat) (l0 : List ByteArray) (A1 : Option Addr) (c1 : Nat) (l1 : List ByteArray) (r : Bool) (w : World) (hr0 : Kd.C Kd.string w A0 l0.length l0) (hc0 : l0.length ≤ c0) (hr1 : Kd.C Kd.string w A1 l1.length l1) (hc1 : l1.length ≤ c1) (h : slices_Equal_string_string.f k l0 l1 = some r) :
  Calls Tryz.prog 82 #[.slice A0 l0.length c0, .slice A1 l1.length c1] w fun e w' => e = .returned (.bool r) ∧ Drawn0 w w' := by
 have HR0 := Aside0.mk hr0
 have HC0 := Aside0.mk hc0
 clear hr0 hc0
 have HR1 := Aside0.mk hr1
 have HC1 := Aside0.mk hc1
 clear hr1 hc1
 have H : (if (l0.length : Int) = (l1.length : Int) then (slices_Equal_string_string.l0 k l0 l1 (l0.length : Int) 0) else (some false)) = some r := h
 clear h
 by_cases c3 : (l0.length : Int) = (l1.length : Int)
 ·rw [if_pos c3] at H
  have c3b0 : ((l0.length : Int) == (l1.length : Int)) = true := beq_iff_eq.mpr c3
  have c3b1 : ((l0.length : Int) != (l1.length : Int)) = false := bne_eq_false_iff_eq.mpr c3
  have c3b2 : (l0.length == l1.length) = true := by first | simpa using c3 | (simp at c3 ⊢; omega)
  clear c3
  have H' := Aside0.mk H
  clear H
  go_enter Tryz.func82, Tryz.ntmps82
  go_wp2
  repeat (go_quiet (fail); try go_wp2)
  go_loopg [13] k (fun kq v13 w' => ∃ (x13_1 : Int), v13 = .int .i64 x13_1 ∧ Aside0 (slices_Equal_string_string.l0 kq l0 l1 (l0.length : Int) x13_1 = some r) ∧ Aside0 (kq ≤ k) ∧ Drawn0 w w')
  case atStart => exact ⟨(0), zE, H', ⟨Nat.le_refl _⟩, zD0⟩
  case round =>
   clear H'
   (try clear c1); (try clear p2); (try clear c3); (try clear c3b0); (try clear c3b1); (try clear c3b2)
   obtain ⟨x13_1, rfl, HA, HK1, ⟨m1, rfl⟩⟩ := hrel
   cases gk with
   | zero => exact absurd HA.out (by simp [slices_Equal_string_string.l0])
   | succ k1 =>
    have H := HA.out
    clear HA
    simp only [slices_Equal_string_string.l0] at H
    by_cases c4 : x13_1 < (l0.length : Int)
    ·rw [if_pos c4] at H
     have c4b0 := decide_eq_true c4
     clear c4
     obtain ⟨c5b0, H⟩ := zt H
     obtain ⟨c6b0, H⟩ := zt H
     obtain ⟨c7b0, H⟩ := zt H
     by_cases c8 : (rdOf ByteArray.empty l0 x13_1).toList = (rdOf ByteArray.empty l1 x13_1).toList
     ·rw [if_pos c8] at H
      have c8b0 : ((rdOf ByteArray.empty l0 x13_1).toList == (rdOf ByteArray.empty l1 x13_1).toList) = true := beq_iff_eq.mpr c8
      have c8b1 : ((rdOf ByteArray.empty l0 x13_1).toList != (rdOf ByteArray.empty l1 x13_1).toList) = false := bne_eq_false_iff_eq.mpr c8
      clear c8
      have H' := Aside0.mk H
      clear H
      have p435 : 0 ≤ (x13_1 : Int) := of_decide_eq_true zA
      have q435 : x13_1 < (l0.length : Int) := of_decide_eq_true zA
      obtain ⟨ad435, e435, hx435_0⟩ := Kd.at_string HR0.out x13_1 p435 q435
      cases e435
      replace p435 := eq_true p435
      replace q435 := eq_true q435
      have p436 : 0 ≤ (x13_1 : Int) := of_decide_eq_true zA
      have q436 : x13_1 < (l1.length : Int) := of_decide_eq_true zA
      obtain ⟨ad436, e436, hx436_0⟩ := Kd.at_string HR1.out x13_1 p436 q436
      cases e436
      replace p436 := eq_true p436
      replace q436 := eq_true q436
      go_wp2
      repeat (go_quiet (fail); try go_wp2)
      go_roundg k1
      case measure => have := HK1.out; omega
      case rel => exact ⟨(wrap64 (x13_1 + 1)), zE, H', ⟨by have := HK1.out; omega⟩, zD0⟩
     ·rw [if_neg c8] at H
      have c8b0 : ((rdOf ByteArray.empty l0 x13_1).toList == (rdOf ByteArray.empty l1 x13_1).toList) = false := beq_eq_false_iff_ne.mpr c8
      have c8b1 : ((rdOf ByteArray.empty l0 x13_1).toList != (rdOf ByteArray.empty l1 x13_1).toList) = true := bne_iff_ne.mpr c8
      obtain rfl := Option.some.inj H
      have p435 : 0 ≤ (x13_1 : Int) := of_decide_eq_true zA
      have q435 : x13_1 < (l0.length : Int) := of_decide_eq_true zA
      obtain ⟨ad435, e435, hx435_0⟩ := Kd.at_string HR0.out x13_1 p435 q435
      cases e435
      replace p435 := eq_true p435
      replace q435 := eq_true q435
      have p436 : 0 ≤ (x13_1 : Int) := of_decide_eq_true zA
      have q436 : x13_1 < (l1.length : Int) := of_decide_eq_true zA
      obtain ⟨ad436, e436, hx436_0⟩ := Kd.at_string HR1.out x13_1 p436 q436
      cases e436
      replace p436 := eq_true p436
      replace q436 := eq_true q436
      go_wp2
      repeat (go_quiet (fail); try go_wp2)
      go_ret
      exact ⟨zE, zD0⟩
    ·rw [if_neg c4] at H
     have c4b0 := decide_eq_false c4
     clear c4
     obtain rfl := Option.some.inj H
     go_wp2
     repeat (go_quiet (fail); try go_wp2)
     go_ret
     exact ⟨zE, zD0⟩
 ·rw [if_neg c3] at H
  have c3b0 : ((l0.length : Int) == (l1.length : Int)) = false := beq_eq_false_iff_ne.mpr c3
  have c3b1 : ((l0.length : Int) != (l1.length : Int)) = true := bne_iff_ne.mpr c3
  have c3b2 : (l0.length == l1.length) = false := by first | simpa using c3 | (simp at c3 ⊢; omega)
  obtain rfl := Option.some.inj H
  go_enter Tryz.func82, Tryz.ntmps82
  go_wp2
  repeat (go_quiet (fail); try go_wp2)
  go_ret
  exact ⟨zE, zD0⟩
def api_Edge_83.l0 : Nat → List (S72) → List (S72) → Int → Int → Option (Bool)
 | 0, _, _, _, _ => none
 | k + 1, x0, x1, x12, x13 => if x13 < x12 then (if 0 ≤ x13 then (if x13 < (x0.length : Int) then (if x13 < (x1.length : Int) then (if (!(((rd_T72 x0 x13).f0) == ((rd_T72 x1 x13).f0)) || (!(((rd_T72 x0 x13).f1) == ((rd_T72 x1 x13).f1)) || (!(((rd_T72 x0 x13).f2) == ((rd_T72 x1 x13).f2)) || ((!(((rd_T72 x0 x13).f3.f0) == ((rd_T72 x1 x13).f3.f0)) || (!(((rd_T72 x0 x13).f3.f1) == ((rd_T72 x1 x13).f3.f1)))) || (!(((rd_T72 x0 x13).f4) == ((rd_T72 x1 x13).f4))))))) = true then (some false) else (api_Edge_83.l0 k x0 x1 x12 (wrap64 (x13 + 1)))) else (none)) else (none)) else (none)) else (some true)
def api_Edge_83.f (k : Nat) (l0 : List (S72)) (l1 : List (S72)) : Option (Bool) := if (l0.length : Int) = (l1.length : Int) then (api_Edge_83.l0 k l0 l1 (l0.length : Int) 0) else (some false)
theorem api_Edge_83.mono_l : ∀ k, (∀ y0 y1 y2 y3, LeO (api_Edge_83.l0 k y0 y1 y2 y3) (api_Edge_83.l0 (k + 1) y0 y1 y2 y3))
 | 0 => fun _ _ _ _ r h => by simp [api_Edge_83.l0] at h
 | k + 1 => by
  have ih0 := api_Edge_83.mono_l k
  ·intro y0 y1 y2 y3
   unfold api_Edge_83.l0
   exact zM
theorem api_Edge_83.mono : ∀ a0 a1 k, LeO (api_Edge_83.f k a0 a1) (api_Edge_83.f (k + 1) a0 a1) := by
 intro a0 a1 k
 have ih0 := api_Edge_83.mono_l k
 unfold api_Edge_83.f
 exact zM
set_option maxHeartbeats 8000000 in
set_option maxRecDepth 100000 in
theorem api_Edge_83.calls (k : Nat) (A0 : Option Addr) (c0 : Nat) (l0 : List (S72)) (A1 : Option Addr) (c1 : Nat) (l1 : List (S72)) (r : Bool) (w : World) (hr0 : Kd.C k72 w A0 l0.length l0) (hc0 : l0.length ≤ c0) (hr1 : Kd.C k72 w A1 l1.length l1) (hc1 : l1.length ≤ c1) (h : api_Edge_83.f k l0 l1 = some r) :
  Calls Tryz.prog 83 #[.slice A0 l0.length c0, .slice A1 l1.length c1] w fun e w' => e = .returned (.bool r) ∧ Drawn0 w w' := by
 have hu72 := Tryz.underlying72
 have HR0 := Aside0.mk hr0
 have HC0 := Aside0.mk hc0
 clear hr0 hc0
 have HR1 := Aside0.mk hr1
 have HC1 := Aside0.mk hc1
 clear hr1 hc1
 have H : (if (l0.length : Int) = (l1.length : Int) then (api_Edge_83.l0 k l0 l1 (l0.length : Int) 0) else (some false)) = some r := h
 clear h
 by_cases c3 : (l0.length : Int) = (l1.length : Int)
 ·rw [if_pos c3] at H
  have c3b0 : ((l0.length : Int) == (l1.length : Int)) = true := beq_iff_eq.mpr c3
  have c3b1 : ((l0.length : Int) != (l1.length : Int)) = false := bne_eq_false_iff_eq.mpr c3
  have c3b2 : (l0.length == l1.length) = true := by first | simpa using c3 | (simp at c3 ⊢; omega)
  clear c3
  have H' := Aside0.mk H
  clear H
  go_enter Tryz.func83, Tryz.ntmps83
  go_wp2
  repeat (go_quiet (fail); try go_wp2)
  go_loopg [13] k (fun kq v13 w' => ∃ (x13_1 : Int), v13 = .int .i64 x13_1 ∧ Aside0 (api_Edge_83.l0 kq l0 l1 (l0.length : Int) x13_1 = some r) ∧ Aside0 (kq ≤ k) ∧ Drawn0 w w')
  case atStart => exact ⟨(0), zE, H', ⟨Nat.le_refl _⟩, zD0⟩
  case round =>
   clear H'
   (try clear c1); (try clear p2); (try clear c3); (try clear c3b0); (try clear c3b1); (try clear c3b2)
   obtain ⟨x13_1, rfl, HA, HK1, ⟨m1, rfl⟩⟩ := hrel
   cases gk with
   | zero => exact absurd HA.out (by simp [api_Edge_83.l0])
   | succ k1 =>
    have H := HA.out
    clear HA
    simp only [api_Edge_83.l0] at H
    by_cases c4 : x13_1 < (l0.length : Int)
    ·rw [if_pos c4] at H
     have c4b0 := decide_eq_true c4
     clear c4
     obtain ⟨c5b0, H⟩ := zt H
     obtain ⟨c6b0, H⟩ := zt H
     obtain ⟨c7b0, H⟩ := zt H
     by_cases c8 : (!(((rd_T72 l0 x13_1).f0) == ((rd_T72 l1 x13_1).f0)) || (!(((rd_T72 l0 x13_1).f1) == ((rd_T72 l1 x13_1).f1)) || (!(((rd_T72 l0 x13_1).f2) == ((rd_T72 l1 x13_1).f2)) || ((!(((rd_T72 l0 x13_1).f3.f0) == ((rd_T72 l1 x13_1).f3.f0)) || (!(((rd_T72 l0 x13_1).f3.f1) == ((rd_T72 l1 x13_1).f3.f1)))) || (!(((rd_T72 l0 x13_1).f4) == ((rd_T72 l1 x13_1).f4))))))) = true
     ·rw [if_pos c8] at H
      have c8b0 : (!(((rd_T72 l0 x13_1).f0) == ((rd_T72 l1 x13_1).f0)) || (!(((rd_T72 l0 x13_1).f1) == ((rd_T72 l1 x13_1).f1)) || (!(((rd_T72 l0 x13_1).f2) == ((rd_T72 l1 x13_1).f2)) || ((!(((rd_T72 l0 x13_1).f3.f0) == ((rd_T72 l1 x13_1).f3.f0)) || (!(((rd_T72 l0 x13_1).f3.f1) == ((rd_T72 l1 x13_1).f3.f1)))) || (!(((rd_T72 l0 x13_1).f4) == ((rd_T72 l1 x13_1).f4))))))) = true := c8
      clear c8
      obtain rfl := Option.some.inj H
      have p437 : 0 ≤ (x13_1 : Int) := of_decide_eq_true zA
      have q437 : x13_1 < (l0.length : Int) := of_decide_eq_true zA
      obtain ⟨ad437, e437, hx437_0, hx437_1, hx437_2, hx437_3, hx437_4, hx437_5⟩ := at_T72 HR0.out x13_1 p437 q437
      cases e437
      replace p437 := eq_true p437
      replace q437 := eq_true q437
      have p438 : 0 ≤ (x13_1 : Int) := of_decide_eq_true zA
      have q438 : x13_1 < (l1.length : Int) := of_decide_eq_true zA
      obtain ⟨ad438, e438, hx438_0, hx438_1, hx438_2, hx438_3, hx438_4, hx438_5⟩ := at_T72 HR1.out x13_1 p438 q438
      cases e438
      replace p438 := eq_true p438
      replace q438 := eq_true q438
      go_wp2
      repeat (go_quiet (fail); try go_wp2)
      go_ret
      exact ⟨zE, zD0⟩
     ·rw [if_neg c8] at H
      have c8b0 : (!(((rd_T72 l0 x13_1).f0) == ((rd_T72 l1 x13_1).f0)) || (!(((rd_T72 l0 x13_1).f1) == ((rd_T72 l1 x13_1).f1)) || (!(((rd_T72 l0 x13_1).f2) == ((rd_T72 l1 x13_1).f2)) || ((!(((rd_T72 l0 x13_1).f3.f0) == ((rd_T72 l1 x13_1).f3.f0)) || (!(((rd_T72 l0 x13_1).f3.f1) == ((rd_T72 l1 x13_1).f3.f1)))) || (!(((rd_T72 l0 x13_1).f4) == ((rd_T72 l1 x13_1).f4))))))) = false := by simpa using c8
      clear c8
      have H' := Aside0.mk H
      clear H
      have p437 : 0 ≤ (x13_1 : Int) := of_decide_eq_true zA
      have q437 : x13_1 < (l0.length : Int) := of_decide_eq_true zA
      obtain ⟨ad437, e437, hx437_0, hx437_1, hx437_2, hx437_3, hx437_4, hx437_5⟩ := at_T72 HR0.out x13_1 p437 q437
      cases e437
      replace p437 := eq_true p437
      replace q437 := eq_true q437
      have p438 : 0 ≤ (x13_1 : Int) := of_decide_eq_true zA
      have q438 : x13_1 < (l1.length : Int) := of_decide_eq_true zA
      obtain ⟨ad438, e438, hx438_0, hx438_1, hx438_2, hx438_3, hx438_4, hx438_5⟩ := at_T72 HR1.out x13_1 p438 q438
      cases e438
      replace p438 := eq_true p438
      replace q438 := eq_true q438
      go_wp2
      repeat (go_quiet (fail); try go_wp2)
      go_roundg k1
      case measure => have := HK1.out; omega
      case rel => exact ⟨(wrap64 (x13_1 + 1)), zE, H', ⟨by have := HK1.out; omega⟩, zD0⟩
    ·rw [if_neg c4] at H
     have c4b0 := decide_eq_false c4
     clear c4
     obtain rfl := Option.some.inj H
     go_wp2
     repeat (go_quiet (fail); try go_wp2)
     go_ret
     exact ⟨zE, zD0⟩
 ·rw [if_neg c3] at H
  have c3b0 : ((l0.length : Int) == (l1.length : Int)) = false := beq_eq_false_iff_ne.mpr c3
  have c3b1 : ((l0.length : Int) != (l1.length : Int)) = true := bne_iff_ne.mpr c3
  have c3b2 : (l0.length == l1.length) = false := by first | simpa using c3 | (simp at c3 ⊢; omega)
  obtain rfl := Option.some.inj H
  go_enter Tryz.func83, Tryz.ntmps83
  go_wp2
  repeat (go_quiet (fail); try go_wp2)
  go_ret
  exact ⟨zE, zD0⟩
def verdict_same.f (k : Nat) (a0_0 : Int) (l0_1 : List (S36)) (l0_2 : List Int) (l0_3 : List ByteArray) (l0_4 : List Int) (l0_5 : List (S72)) (a1_0 : Int) (l1_1 : List (S36)) (l1_2 : List Int) (l1_3 : List ByteArray) (l1_4 : List Int) (l1_5 : List (S72)) : Option (Bool) := if a0_0 = a1_0 then ((api_Span_81.f k l0_1 l1_1).bind fun t441 => (if t441 = true then ((slices_Equal_int64_int64.f k l0_2 l1_2).bind fun t442 => (if t442 = true then ((slices_Equal_string_string.f k l0_3 l1_3).bind fun t443 => (if t443 = true then ((slices_Equal_int64_int64.f k l0_4 l1_4).bind fun t444 => (if t444 = true then ((api_Edge_83.f k l0_5 l1_5).bind fun t445 => (some t445)) else (some false))) else (some false))) else (some false))) else (some false))) else (some false)
theorem verdict_same.mono : ∀ a0 a1 a2 a3 a4 a5 a6 a7 a8 a9 a10 a11 k, LeO (verdict_same.f k a0 a1 a2 a3 a4 a5 a6 a7 a8 a9 a10 a11) (verdict_same.f (k + 1) a0 a1 a2 a3 a4 a5 a6 a7 a8 a9 a10 a11) := by
 intro a0 a1 a2 a3 a4 a5 a6 a7 a8 a9 a10 a11 k
 unfold verdict_same.f
 have m0 := @api_Edge_83.mono; have m1 := @api_Span_81.mono; have m2 := @slices_Equal_int64_int64.mono; have m3 := @slices_Equal_string_string.mono
 exact zM
set_option maxHeartbeats 8000000 in
set_option maxRecDepth 100000 in
theorem verdict_same.calls (k : Nat) (a0_0 : Int) (A0_1 : Option Addr) (c0_1 : Nat) (l0_1 : List (S36)) (A0_2 : Option Addr) (c0_2 : Nat) (l0_2 : List Int) (A0_3 : Option Addr) (c0_3 : Nat) (l0_3 : List ByteArray) (A0_4 : Option Addr) (c0_4 : Nat) (l0_4 : List Int) (A0_5 : Option Addr) (c0_5 : Nat) (l0_5 : List (S72)) (a1_0 : Int) (A1_1 : Option Addr) (c1_1 : Nat) (l1_1 : List (S36)) (A1_2 : Option Addr) (c1_2 : Nat) (l1_2 : List Int) (A1_3 : Option Addr) (c1_3 : Nat) (l1_3 : List ByteArray) (A1_4 : Option Addr) (c1_4 : Nat) (l1_4 : List Int) (A1_5 : Option Addr) (c1_5 : Nat) (l1_5 : List (S72)) (r : Bool) (w : World) (hr0_1 : Kd.C k36 w A0_1 l0_1.length l0_1) (hc0_1 : l0_1.length ≤ c0_1) (hr0_2 : Kd.C (Kd.int .i64) w A0_2 l0_2.length l0_2) (hc0_2 : l0_2.length ≤ c0_2) (hr0_3 : Kd.C Kd.string w A0_3 l0_3.length l0_3) (hc0_3 : l0_3.length ≤ c0_3) (hr0_4 : Kd.C (Kd.int .i64) w A0_4 l0_4.length l0_4) (hc0_4 : l0_4.length ≤ c0_4) (hr0_5 : Kd.C k72 w A0_5 l0_5.length l0_5) (hc0_5 : l0_5.length ≤ c0_5) (hr1_1 : Kd.C k36 w A1_1 l1_1.length l1_1) (hc1_1 : l1_1.length ≤ c1_1) (hr1_2 : Kd.C (Kd.int .i64) w A1_2 l1_2.length l1_2) (hc1_2 : l1_2.length ≤ c1_2) (hr1_3 : Kd.C Kd.string w A1_3 l1_3.length l1_3) (hc1_3 : l1_3.length ≤ c1_3) (hr1_4 : Kd.C (Kd.int .i64) w A1_4 l1_4.length l1_4) (hc1_4 : l1_4.length ≤ c1_4) (hr1_5 : Kd.C k72 w A1_5 l1_5.length l1_5) (hc1_5 : l1_5.length ≤ c1_5) (h : verdict_same.f k a0_0 l0_1 l0_2 l0_3 l0_4 l0_5 a1_0 l1_1 l1_2 l1_3 l1_4 l1_5 = some r) :
  Calls Tryz.prog 45 #[.agg #[.int .i64 a0_0, .slice A0_1 l0_1.length c0_1, .slice A0_2 l0_2.length c0_2, .slice A0_3 l0_3.length c0_3, .slice A0_4 l0_4.length c0_4, .slice A0_5 l0_5.length c0_5], .agg #[.int .i64 a1_0, .slice A1_1 l1_1.length c1_1, .slice A1_2 l1_2.length c1_2, .slice A1_3 l1_3.length c1_3, .slice A1_4 l1_4.length c1_4, .slice A1_5 l1_5.length c1_5]] w fun e w' => e = .returned (.bool r) ∧ Below w.heap.size w w' := by
 have hu31 := Tryz.underlying31
 have HR0_1 := Aside0.mk hr0_1
 have HC0_1 := Aside0.mk hc0_1
 clear hr0_1 hc0_1
 have HR0_2 := Aside0.mk hr0_2
 have HC0_2 := Aside0.mk hc0_2
 clear hr0_2 hc0_2
 have HR0_3 := Aside0.mk hr0_3
 have HC0_3 := Aside0.mk hc0_3
 clear hr0_3 hc0_3
 have HR0_4 := Aside0.mk hr0_4
 have HC0_4 := Aside0.mk hc0_4
 clear hr0_4 hc0_4
 have HR0_5 := Aside0.mk hr0_5
 have HC0_5 := Aside0.mk hc0_5
 clear hr0_5 hc0_5
 have HR1_1 := Aside0.mk hr1_1
 have HC1_1 := Aside0.mk hc1_1
 clear hr1_1 hc1_1
 have HR1_2 := Aside0.mk hr1_2
 have HC1_2 := Aside0.mk hc1_2
 clear hr1_2 hc1_2
 have HR1_3 := Aside0.mk hr1_3
 have HC1_3 := Aside0.mk hc1_3
 clear hr1_3 hc1_3
 have HR1_4 := Aside0.mk hr1_4
 have HC1_4 := Aside0.mk hc1_4
 clear hr1_4 hc1_4
 have HR1_5 := Aside0.mk hr1_5
 have HC1_5 := Aside0.mk hc1_5
 clear hr1_5 hc1_5
 have HB := Aside0.mk (Below.refl w.heap.size w)
 have H : (if a0_0 = a1_0 then ((api_Span_81.f k l0_1 l1_1).bind fun t441 => (if t441 = true then ((slices_Equal_int64_int64.f k l0_2 l1_2).bind fun t442 => (if t442 = true then ((slices_Equal_string_string.f k l0_3 l1_3).bind fun t443 => (if t443 = true then ((slices_Equal_int64_int64.f k l0_4 l1_4).bind fun t444 => (if t444 = true then ((api_Edge_83.f k l0_5 l1_5).bind fun t445 => (some t445)) else (some false))) else (some false))) else (some false))) else (some false))) else (some false)) = some r := h
 clear h
 by_cases c3 : a0_0 = a1_0
 ·rw [if_pos c3] at H
  have c3b0 : (a0_0 == a1_0) = true := beq_iff_eq.mpr c3
  have c3b1 : (a0_0 != a1_0) = false := bne_eq_false_iff_eq.mpr c3
  clear c3
  replace H := Option.bind_eq_some_iff.mp H
  obtain ⟨t441, A40, H⟩ := H
  have A4 := Aside0.mk A40
  clear A40
  by_cases c5 : t441 = true
  ·subst c5
   rw [if_pos rfl] at H
   replace H := Option.bind_eq_some_iff.mp H
   obtain ⟨t442, A60, H⟩ := H
   have A6 := Aside0.mk A60
   clear A60
   by_cases c7 : t442 = true
   ·subst c7
    rw [if_pos rfl] at H
    replace H := Option.bind_eq_some_iff.mp H
    obtain ⟨t443, A80, H⟩ := H
    have A8 := Aside0.mk A80
    clear A80
    by_cases c9 : t443 = true
    ·subst c9
     rw [if_pos rfl] at H
     replace H := Option.bind_eq_some_iff.mp H
     obtain ⟨t444, A100, H⟩ := H
     have A10 := Aside0.mk A100
     clear A100
     by_cases c11 : t444 = true
     ·subst c11
      rw [if_pos rfl] at H
      replace H := Option.bind_eq_some_iff.mp H
      obtain ⟨t445, A120, H⟩ := H
      have A12 := Aside0.mk A120
      clear A120
      obtain rfl := Option.some.inj H
      go_enter Tryz.func45, Tryz.ntmps45
      go_wp2_with (first | ((with_reducible refine gate_dst (N := 2) rfl ?_); refine zbox (N := 2) (cs := #[.int .i64 a0_0, .slice A0_1 l0_1.length c0_1, .slice A0_2 l0_2.length c0_2, .slice A0_3 l0_3.length c0_3, .slice A0_4 l0_4.length c0_4, .slice A0_5 l0_5.length c0_5]) (t := 31) ?_; intro gb439 hg w13 hbox hb; have BK439 := Aside0.mk (hbox); have GW439 := Aside0.mk ((by rw [hg]; exact (below_size zB) : w.heap.size ≤ gb439)); have GE439 := Aside0.mk ((by rw [hg]; exact (below_size zB) : w.heap.size ≤ gb439)); replace HB := Aside0.mk (below_step zB hb); clear hb hbox hg) | ((with_reducible refine gate_dst (N := 3) rfl ?_); refine zbox (N := 3) (cs := #[.int .i64 a1_0, .slice A1_1 l1_1.length c1_1, .slice A1_2 l1_2.length c1_2, .slice A1_3 l1_3.length c1_3, .slice A1_4 l1_4.length c1_4, .slice A1_5 l1_5.length c1_5]) (t := 31) ?_; intro gb440 hg w14 hbox hb; have BK440 := Aside0.mk (hbox); have GW440 := Aside0.mk ((by rw [hg]; exact (below_size (zG GE439.out)) : w.heap.size ≤ gb440)); have GE440 := Aside0.mk ((by rw [hg]; exact (below_size (zG GE439.out)) : w.heap.size ≤ gb440)); replace HB := Aside0.mk (below_step (zG GE439.out) hb); have NB439_440 := Aside0.mk ((by rw [hg]; exact Nat.ne_of_lt (zKl BK439.out) : gb439 ≠ gb440)); have NB440_439 := Aside0.mk ((by rw [hg]; exact Nat.ne_of_gt (zKl BK439.out) : gb440 ≠ gb439)); replace BK439 := Aside0.mk (zKb BK439.out hb); clear hb hbox hg; have hnb15 := NB439_440.out; have hnc15 := NB440_439.out; obtain ⟨hcz16_0, hcz16_1, hcz16_2, hcz16_3, hcz16_4, hcz16_5, hfz16_0, hfz16_1, hfz16_2, hfz16_3, hfz16_4, hfz16_5⟩ := zb6 BK439.out; obtain ⟨hcz17_0, hcz17_1, hcz17_2, hcz17_3, hcz17_4, hcz17_5, hfz17_0, hfz17_1, hfz17_2, hfz17_3, hfz17_4, hfz17_5⟩ := zb6 BK440.out) | (go_at_call 81; (with_reducible refine (api_Span_81.calls k _ _ l0_1 _ _ l1_1 true _ ?side1 ?side2 ?side3 ?side4 A4.out).mono ?_); (case side1 => exact zC ((Kd.C_below HR0_1.out HB.out))); (case side2 => exact HC0_1.out); (case side3 => exact zC ((Kd.C_below HR1_1.out HB.out))); (case side4 => exact HC1_1.out); rintro e w' ⟨rfl, ⟨nd, rfl⟩⟩) | (go_at_call 69; (with_reducible refine (slices_Equal_int64_int64.calls k _ _ l0_2 _ _ l1_2 true _ ?side1 ?side2 ?side3 ?side4 A6.out).mono ?_); (case side1 => exact zC (Kd.C_below HR0_2.out (zG2 GE439.out GE440.out))); (case side2 => exact HC0_2.out); (case side3 => exact zC (Kd.C_below HR1_2.out (zG2 GE439.out GE440.out))); (case side4 => exact HC1_2.out); rintro e w' ⟨rfl, ⟨nd, rfl⟩⟩) | (go_at_call 82; (with_reducible refine (slices_Equal_string_string.calls k _ _ l0_3 _ _ l1_3 true _ ?side1 ?side2 ?side3 ?side4 A8.out).mono ?_); (case side1 => exact zC (Kd.C_below HR0_3.out (zG2 GE439.out GE440.out))); (case side2 => exact HC0_3.out); (case side3 => exact zC (Kd.C_below HR1_3.out (zG2 GE439.out GE440.out))); (case side4 => exact HC1_3.out); rintro e w' ⟨rfl, ⟨nd, rfl⟩⟩) | (go_at_call 69; (with_reducible refine (slices_Equal_int64_int64.calls k _ _ l0_4 _ _ l1_4 true _ ?side1 ?side2 ?side3 ?side4 A10.out).mono ?_); (case side1 => exact zC (Kd.C_below HR0_4.out (zG2 GE439.out GE440.out))); (case side2 => exact HC0_4.out); (case side3 => exact zC (Kd.C_below HR1_4.out (zG2 GE439.out GE440.out))); (case side4 => exact HC1_4.out); rintro e w' ⟨rfl, ⟨nd, rfl⟩⟩) | (go_at_call 83; (with_reducible refine (api_Edge_83.calls k _ _ l0_5 _ _ l1_5 t445 _ ?side1 ?side2 ?side3 ?side4 A12.out).mono ?_); (case side1 => exact zC (Kd.C_below HR0_5.out (zG2 GE439.out GE440.out))); (case side2 => exact HC0_5.out); (case side3 => exact zC (Kd.C_below HR1_5.out (zG2 GE439.out GE440.out))); (case side4 => exact HC1_5.out); rintro e w' ⟨rfl, ⟨nd, rfl⟩⟩))
      go_ret
      exact ⟨zV, zG2 GE439.out GE440.out⟩
     ·replace c11 := Bool.eq_false_iff.mpr c11
      subst c11
      rw [if_neg (show ¬ (false = true) by decide)] at H
      obtain rfl := Option.some.inj H
      go_enter Tryz.func45, Tryz.ntmps45
      go_wp2_with (first | ((with_reducible refine gate_dst (N := 2) rfl ?_); refine zbox (N := 2) (cs := #[.int .i64 a0_0, .slice A0_1 l0_1.length c0_1, .slice A0_2 l0_2.length c0_2, .slice A0_3 l0_3.length c0_3, .slice A0_4 l0_4.length c0_4, .slice A0_5 l0_5.length c0_5]) (t := 31) ?_; intro gb439 hg w18 hbox hb; have BK439 := Aside0.mk (hbox); have GW439 := Aside0.mk ((by rw [hg]; exact (below_size zB) : w.heap.size ≤ gb439)); have GE439 := Aside0.mk ((by rw [hg]; exact (below_size zB) : w.heap.size ≤ gb439)); replace HB := Aside0.mk (below_step zB hb); clear hb hbox hg) | ((with_reducible refine gate_dst (N := 3) rfl ?_); refine zbox (N := 3) (cs := #[.int .i64 a1_0, .slice A1_1 l1_1.length c1_1, .slice A1_2 l1_2.length c1_2, .slice A1_3 l1_3.length c1_3, .slice A1_4 l1_4.length c1_4, .slice A1_5 l1_5.length c1_5]) (t := 31) ?_; intro gb440 hg w19 hbox hb; have BK440 := Aside0.mk (hbox); have GW440 := Aside0.mk ((by rw [hg]; exact (below_size (zG GE439.out)) : w.heap.size ≤ gb440)); have GE440 := Aside0.mk ((by rw [hg]; exact (below_size (zG GE439.out)) : w.heap.size ≤ gb440)); replace HB := Aside0.mk (below_step (zG GE439.out) hb); have NB439_440 := Aside0.mk ((by rw [hg]; exact Nat.ne_of_lt (zKl BK439.out) : gb439 ≠ gb440)); have NB440_439 := Aside0.mk ((by rw [hg]; exact Nat.ne_of_gt (zKl BK439.out) : gb440 ≠ gb439)); replace BK439 := Aside0.mk (zKb BK439.out hb); clear hb hbox hg; have hnb20 := NB439_440.out; have hnc20 := NB440_439.out; obtain ⟨hcz21_0, hcz21_1, hcz21_2, hcz21_3, hcz21_4, hcz21_5, hfz21_0, hfz21_1, hfz21_2, hfz21_3, hfz21_4, hfz21_5⟩ := zb6 BK439.out; obtain ⟨hcz22_0, hcz22_1, hcz22_2, hcz22_3, hcz22_4, hcz22_5, hfz22_0, hfz22_1, hfz22_2, hfz22_3, hfz22_4, hfz22_5⟩ := zb6 BK440.out) | (go_at_call 81; (with_reducible refine (api_Span_81.calls k _ _ l0_1 _ _ l1_1 true _ ?side1 ?side2 ?side3 ?side4 A4.out).mono ?_); (case side1 => exact zC ((Kd.C_below HR0_1.out HB.out))); (case side2 => exact HC0_1.out); (case side3 => exact zC ((Kd.C_below HR1_1.out HB.out))); (case side4 => exact HC1_1.out); rintro e w' ⟨rfl, ⟨nd, rfl⟩⟩) | (go_at_call 69; (with_reducible refine (slices_Equal_int64_int64.calls k _ _ l0_2 _ _ l1_2 true _ ?side1 ?side2 ?side3 ?side4 A6.out).mono ?_); (case side1 => exact zC (Kd.C_below HR0_2.out (zG2 GE439.out GE440.out))); (case side2 => exact HC0_2.out); (case side3 => exact zC (Kd.C_below HR1_2.out (zG2 GE439.out GE440.out))); (case side4 => exact HC1_2.out); rintro e w' ⟨rfl, ⟨nd, rfl⟩⟩) | (go_at_call 82; (with_reducible refine (slices_Equal_string_string.calls k _ _ l0_3 _ _ l1_3 true _ ?side1 ?side2 ?side3 ?side4 A8.out).mono ?_); (case side1 => exact zC (Kd.C_below HR0_3.out (zG2 GE439.out GE440.out))); (case side2 => exact HC0_3.out); (case side3 => exact zC (Kd.C_below HR1_3.out (zG2 GE439.out GE440.out))); (case side4 => exact HC1_3.out); rintro e w' ⟨rfl, ⟨nd, rfl⟩⟩) | (go_at_call 69; (with_reducible refine (slices_Equal_int64_int64.calls k _ _ l0_4 _ _ l1_4 false _ ?side1 ?side2 ?side3 ?side4 A10.out).mono ?_); (case side1 => exact zC (Kd.C_below HR0_4.out (zG2 GE439.out GE440.out))); (case side2 => exact HC0_4.out); (case side3 => exact zC (Kd.C_below HR1_4.out (zG2 GE439.out GE440.out))); (case side4 => exact HC1_4.out); rintro e w' ⟨rfl, ⟨nd, rfl⟩⟩))
      go_ret
      exact ⟨zV, zG2 GE439.out GE440.out⟩
    ·replace c9 := Bool.eq_false_iff.mpr c9
     subst c9
     rw [if_neg (show ¬ (false = true) by decide)] at H
     obtain rfl := Option.some.inj H
     go_enter Tryz.func45, Tryz.ntmps45
     go_wp2_with (first | ((with_reducible refine gate_dst (N := 2) rfl ?_); refine zbox (N := 2) (cs := #[.int .i64 a0_0, .slice A0_1 l0_1.length c0_1, .slice A0_2 l0_2.length c0_2, .slice A0_3 l0_3.length c0_3, .slice A0_4 l0_4.length c0_4, .slice A0_5 l0_5.length c0_5]) (t := 31) ?_; intro gb439 hg w23 hbox hb; have BK439 := Aside0.mk (hbox); have GW439 := Aside0.mk ((by rw [hg]; exact (below_size zB) : w.heap.size ≤ gb439)); have GE439 := Aside0.mk ((by rw [hg]; exact (below_size zB) : w.heap.size ≤ gb439)); replace HB := Aside0.mk (below_step zB hb); clear hb hbox hg) | ((with_reducible refine gate_dst (N := 3) rfl ?_); refine zbox (N := 3) (cs := #[.int .i64 a1_0, .slice A1_1 l1_1.length c1_1, .slice A1_2 l1_2.length c1_2, .slice A1_3 l1_3.length c1_3, .slice A1_4 l1_4.length c1_4, .slice A1_5 l1_5.length c1_5]) (t := 31) ?_; intro gb440 hg w24 hbox hb; have BK440 := Aside0.mk (hbox); have GW440 := Aside0.mk ((by rw [hg]; exact (below_size (zG GE439.out)) : w.heap.size ≤ gb440)); have GE440 := Aside0.mk ((by rw [hg]; exact (below_size (zG GE439.out)) : w.heap.size ≤ gb440)); replace HB := Aside0.mk (below_step (zG GE439.out) hb); have NB439_440 := Aside0.mk ((by rw [hg]; exact Nat.ne_of_lt (zKl BK439.out) : gb439 ≠ gb440)); have NB440_439 := Aside0.mk ((by rw [hg]; exact Nat.ne_of_gt (zKl BK439.out) : gb440 ≠ gb439)); replace BK439 := Aside0.mk (zKb BK439.out hb); clear hb hbox hg; have hnb25 := NB439_440.out; have hnc25 := NB440_439.out; obtain ⟨hcz26_0, hcz26_1, hcz26_2, hcz26_3, hcz26_4, hcz26_5, hfz26_0, hfz26_1, hfz26_2, hfz26_3, hfz26_4, hfz26_5⟩ := zb6 BK439.out; obtain ⟨hcz27_0, hcz27_1, hcz27_2, hcz27_3, hcz27_4, hcz27_5, hfz27_0, hfz27_1, hfz27_2, hfz27_3, hfz27_4, hfz27_5⟩ := zb6 BK440.out) | (go_at_call 81; (with_reducible refine (api_Span_81.calls k _ _ l0_1 _ _ l1_1 true _ ?side1 ?side2 ?side3 ?side4 A4.out).mono ?_); (case side1 => exact zC ((Kd.C_below HR0_1.out HB.out))); (case side2 => exact HC0_1.out); (case side3 => exact zC ((Kd.C_below HR1_1.out HB.out))); (case side4 => exact HC1_1.out); rintro e w' ⟨rfl, ⟨nd, rfl⟩⟩) | (go_at_call 69; (with_reducible refine (slices_Equal_int64_int64.calls k _ _ l0_2 _ _ l1_2 true _ ?side1 ?side2 ?side3 ?side4 A6.out).mono ?_); (case side1 => exact zC (Kd.C_below HR0_2.out (zG2 GE439.out GE440.out))); (case side2 => exact HC0_2.out); (case side3 => exact zC (Kd.C_below HR1_2.out (zG2 GE439.out GE440.out))); (case side4 => exact HC1_2.out); rintro e w' ⟨rfl, ⟨nd, rfl⟩⟩) | (go_at_call 82; (with_reducible refine (slices_Equal_string_string.calls k _ _ l0_3 _ _ l1_3 false _ ?side1 ?side2 ?side3 ?side4 A8.out).mono ?_); (case side1 => exact zC (Kd.C_below HR0_3.out (zG2 GE439.out GE440.out))); (case side2 => exact HC0_3.out); (case side3 => exact zC (Kd.C_below HR1_3.out (zG2 GE439.out GE440.out))); (case side4 => exact HC1_3.out); rintro e w' ⟨rfl, ⟨nd, rfl⟩⟩))
     go_ret
     exact ⟨zV, zG2 GE439.out GE440.out⟩
   ·replace c7 := Bool.eq_false_iff.mpr c7
    subst c7
    rw [if_neg (show ¬ (false = true) by decide)] at H
    obtain rfl := Option.some.inj H
    go_enter Tryz.func45, Tryz.ntmps45
    go_wp2_with (first | ((with_reducible refine gate_dst (N := 2) rfl ?_); refine zbox (N := 2) (cs := #[.int .i64 a0_0, .slice A0_1 l0_1.length c0_1, .slice A0_2 l0_2.length c0_2, .slice A0_3 l0_3.length c0_3, .slice A0_4 l0_4.length c0_4, .slice A0_5 l0_5.length c0_5]) (t := 31) ?_; intro gb439 hg w28 hbox hb; have BK439 := Aside0.mk (hbox); have GW439 := Aside0.mk ((by rw [hg]; exact (below_size zB) : w.heap.size ≤ gb439)); have GE439 := Aside0.mk ((by rw [hg]; exact (below_size zB) : w.heap.size ≤ gb439)); replace HB := Aside0.mk (below_step zB hb); clear hb hbox hg) | ((with_reducible refine gate_dst (N := 3) rfl ?_); refine zbox (N := 3) (cs := #[.int .i64 a1_0, .slice A1_1 l1_1.length c1_1, .slice A1_2 l1_2.length c1_2, .slice A1_3 l1_3.length c1_3, .slice A1_4 l1_4.length c1_4, .slice A1_5 l1_5.length c1_5]) (t := 31) ?_; intro gb440 hg w29 hbox hb; have BK440 := Aside0.mk (hbox); have GW440 := Aside0.mk ((by rw [hg]; exact (below_size (zG GE439.out)) : w.heap.size ≤ gb440)); have GE440 := Aside0.mk ((by rw [hg]; exact (below_size (zG GE439.out)) : w.heap.size ≤ gb440)); replace HB := Aside0.mk (below_step (zG GE439.out) hb); have NB439_440 := Aside0.mk ((by rw [hg]; exact Nat.ne_of_lt (zKl BK439.out) : gb439 ≠ gb440)); have NB440_439 := Aside0.mk ((by rw [hg]; exact Nat.ne_of_gt (zKl BK439.out) : gb440 ≠ gb439)); replace BK439 := Aside0.mk (zKb BK439.out hb); clear hb hbox hg; have hnb30 := NB439_440.out; have hnc30 := NB440_439.out; obtain ⟨hcz31_0, hcz31_1, hcz31_2, hcz31_3, hcz31_4, hcz31_5, hfz31_0, hfz31_1, hfz31_2, hfz31_3, hfz31_4, hfz31_5⟩ := zb6 BK439.out; obtain ⟨hcz32_0, hcz32_1, hcz32_2, hcz32_3, hcz32_4, hcz32_5, hfz32_0, hfz32_1, hfz32_2, hfz32_3, hfz32_4, hfz32_5⟩ := zb6 BK440.out) | (go_at_call 81; (with_reducible refine (api_Span_81.calls k _ _ l0_1 _ _ l1_1 true _ ?side1 ?side2 ?side3 ?side4 A4.out).mono ?_); (case side1 => exact zC ((Kd.C_below HR0_1.out HB.out))); (case side2 => exact HC0_1.out); (case side3 => exact zC ((Kd.C_below HR1_1.out HB.out))); (case side4 => exact HC1_1.out); rintro e w' ⟨rfl, ⟨nd, rfl⟩⟩) | (go_at_call 69; (with_reducible refine (slices_Equal_int64_int64.calls k _ _ l0_2 _ _ l1_2 false _ ?side1 ?side2 ?side3 ?side4 A6.out).mono ?_); (case side1 => exact zC (Kd.C_below HR0_2.out (zG2 GE439.out GE440.out))); (case side2 => exact HC0_2.out); (case side3 => exact zC (Kd.C_below HR1_2.out (zG2 GE439.out GE440.out))); (case side4 => exact HC1_2.out); rintro e w' ⟨rfl, ⟨nd, rfl⟩⟩))
    go_ret
    exact ⟨zV, zG2 GE439.out GE440.out⟩
  ·replace c5 := Bool.eq_false_iff.mpr c5
   subst c5
   rw [if_neg (show ¬ (false = true) by decide)] at H
   obtain rfl := Option.some.inj H
   go_enter Tryz.func45, Tryz.ntmps45
   go_wp2_with (first | ((with_reducible refine gate_dst (N := 2) rfl ?_); refine zbox (N := 2) (cs := #[.int .i64 a0_0, .slice A0_1 l0_1.length c0_1, .slice A0_2 l0_2.length c0_2, .slice A0_3 l0_3.length c0_3, .slice A0_4 l0_4.length c0_4, .slice A0_5 l0_5.length c0_5]) (t := 31) ?_; intro gb439 hg w33 hbox hb; have BK439 := Aside0.mk (hbox); have GW439 := Aside0.mk ((by rw [hg]; exact (below_size zB) : w.heap.size ≤ gb439)); have GE439 := Aside0.mk ((by rw [hg]; exact (below_size zB) : w.heap.size ≤ gb439)); replace HB := Aside0.mk (below_step zB hb); clear hb hbox hg) | ((with_reducible refine gate_dst (N := 3) rfl ?_); refine zbox (N := 3) (cs := #[.int .i64 a1_0, .slice A1_1 l1_1.length c1_1, .slice A1_2 l1_2.length c1_2, .slice A1_3 l1_3.length c1_3, .slice A1_4 l1_4.length c1_4, .slice A1_5 l1_5.length c1_5]) (t := 31) ?_; intro gb440 hg w34 hbox hb; have BK440 := Aside0.mk (hbox); have GW440 := Aside0.mk ((by rw [hg]; exact (below_size (zG GE439.out)) : w.heap.size ≤ gb440)); have GE440 := Aside0.mk ((by rw [hg]; exact (below_size (zG GE439.out)) : w.heap.size ≤ gb440)); replace HB := Aside0.mk (below_step (zG GE439.out) hb); have NB439_440 := Aside0.mk ((by rw [hg]; exact Nat.ne_of_lt (zKl BK439.out) : gb439 ≠ gb440)); have NB440_439 := Aside0.mk ((by rw [hg]; exact Nat.ne_of_gt (zKl BK439.out) : gb440 ≠ gb439)); replace BK439 := Aside0.mk (zKb BK439.out hb); clear hb hbox hg; have hnb35 := NB439_440.out; have hnc35 := NB440_439.out; obtain ⟨hcz36_0, hcz36_1, hcz36_2, hcz36_3, hcz36_4, hcz36_5, hfz36_0, hfz36_1, hfz36_2, hfz36_3, hfz36_4, hfz36_5⟩ := zb6 BK439.out; obtain ⟨hcz37_0, hcz37_1, hcz37_2, hcz37_3, hcz37_4, hcz37_5, hfz37_0, hfz37_1, hfz37_2, hfz37_3, hfz37_4, hfz37_5⟩ := zb6 BK440.out) | (go_at_call 81; (with_reducible refine (api_Span_81.calls k _ _ l0_1 _ _ l1_1 false _ ?side1 ?side2 ?side3 ?side4 A4.out).mono ?_); (case side1 => exact zC ((Kd.C_below HR0_1.out HB.out))); (case side2 => exact HC0_1.out); (case side3 => exact zC ((Kd.C_below HR1_1.out HB.out))); (case side4 => exact HC1_1.out); rintro e w' ⟨rfl, ⟨nd, rfl⟩⟩))
   go_ret
   exact ⟨zV, zG2 GE439.out GE440.out⟩
 ·rw [if_neg c3] at H
  have c3b0 : (a0_0 == a1_0) = false := beq_eq_false_iff_ne.mpr c3
  have c3b1 : (a0_0 != a1_0) = true := bne_iff_ne.mpr c3
  obtain rfl := Option.some.inj H
  go_enter Tryz.func45, Tryz.ntmps45
  go_wp2_with (first | ((with_reducible refine gate_dst (N := 2) rfl ?_); refine zbox (N := 2) (cs := #[.int .i64 a0_0, .slice A0_1 l0_1.length c0_1, .slice A0_2 l0_2.length c0_2, .slice A0_3 l0_3.length c0_3, .slice A0_4 l0_4.length c0_4, .slice A0_5 l0_5.length c0_5]) (t := 31) ?_; intro gb439 hg w38 hbox hb; have BK439 := Aside0.mk (hbox); have GW439 := Aside0.mk ((by rw [hg]; exact (below_size zB) : w.heap.size ≤ gb439)); have GE439 := Aside0.mk ((by rw [hg]; exact (below_size zB) : w.heap.size ≤ gb439)); replace HB := Aside0.mk (below_step zB hb); clear hb hbox hg) | ((with_reducible refine gate_dst (N := 3) rfl ?_); refine zbox (N := 3) (cs := #[.int .i64 a1_0, .slice A1_1 l1_1.length c1_1, .slice A1_2 l1_2.length c1_2, .slice A1_3 l1_3.length c1_3, .slice A1_4 l1_4.length c1_4, .slice A1_5 l1_5.length c1_5]) (t := 31) ?_; intro gb440 hg w39 hbox hb; have BK440 := Aside0.mk (hbox); have GW440 := Aside0.mk ((by rw [hg]; exact (below_size (zG GE439.out)) : w.heap.size ≤ gb440)); have GE440 := Aside0.mk ((by rw [hg]; exact (below_size (zG GE439.out)) : w.heap.size ≤ gb440)); replace HB := Aside0.mk (below_step (zG GE439.out) hb); have NB439_440 := Aside0.mk ((by rw [hg]; exact Nat.ne_of_lt (zKl BK439.out) : gb439 ≠ gb440)); have NB440_439 := Aside0.mk ((by rw [hg]; exact Nat.ne_of_gt (zKl BK439.out) : gb440 ≠ gb439)); replace BK439 := Aside0.mk (zKb BK439.out hb); clear hb hbox hg; have hnb40 := NB439_440.out; have hnc40 := NB440_439.out; obtain ⟨hcz41_0, hcz41_1, hcz41_2, hcz41_3, hcz41_4, hcz41_5, hfz41_0, hfz41_1, hfz41_2, hfz41_3, hfz41_4, hfz41_5⟩ := zb6 BK439.out; obtain ⟨hcz42_0, hcz42_1, hcz42_2, hcz42_3, hcz42_4, hcz42_5, hfz42_0, hfz42_1, hfz42_2, hfz42_3, hfz42_4, hfz42_5⟩ := zb6 BK440.out))
  go_ret
  exact ⟨zV, zG2 GE439.out GE440.out⟩
end Go.Proofs.YtgknjgionicncaaGreat.V
namespace Go.Proofs.YtgknjgionicncaaGreat.V
open Go.RowKit Go.Proofs.YtgknjgionicncaaGreat.Q Go.Proofs.YtgknjgionicncaaGreat.X Go.Proofs.YtgknjgionicncaaGreatW.PrintWords Go.Proofs.YtgknjgionicncaaGreatW.PrintLast Go.Proofs.YtgknjgionicncaaGreatW.PrintMore
attribute [local go_sem] max2_int min2_int max_two min_two max_three min_three max_four min_four
set_option linter.unusedVariables false
set_option linter.unusedSimpArgs false
def verdict_Right.j0 : Nat → Bool → Int → List (S36) → List Int → List ByteArray → List Int → List (S72) → Option (Bool)
 | 0, _, _, _, _, _, _, _ => none
 | k + 1, x16, x447000, x447001, x447002, x447003, x447004, x447005 => if x16 = true then (some false) else (if 0 < (x447001.length : Int) then ((verdict_Of.f k x447001 ((rd_T36 x447001 0).f0)).bind fun bt448 => ((verdict_same.f k x447000 x447001 x447002 x447003 x447004 x447005 bt448.1 bt448.2.1 bt448.2.2.1 bt448.2.2.2.1 bt448.2.2.2.2.1 bt448.2.2.2.2.2).bind fun t464 => (some t464))) else (none))
def verdict_Right.f (k : Nat) (a0_0 : Int) (l0_1 : List (S36)) (l0_2 : List Int) (l0_3 : List ByteArray) (l0_4 : List Int) (l0_5 : List (S72)) : Option (Bool) := if a0_0 = 1 then (verdict_Right.j0 k ((l0_1.length : Int) == 0) a0_0 l0_1 l0_2 l0_3 l0_4 l0_5) else (if a0_0 = 2 then (verdict_Right.j0 k ((l0_1.length : Int) == 0) a0_0 l0_1 l0_2 l0_3 l0_4 l0_5) else (verdict_Right.j0 k true a0_0 l0_1 l0_2 l0_3 l0_4 l0_5))
theorem verdict_Right.mono_l : ∀ k, (∀ y0 y1 y2 y3 y4 y5 y6, LeO (verdict_Right.j0 k y0 y1 y2 y3 y4 y5 y6) (verdict_Right.j0 (k + 1) y0 y1 y2 y3 y4 y5 y6))
 | 0 => fun _ _ _ _ _ _ _ r h => by simp [verdict_Right.j0] at h
 | k + 1 => by
  have ih0 := verdict_Right.mono_l k
  ·intro y0 y1 y2 y3 y4 y5 y6
   unfold verdict_Right.j0
   have m0 := @verdict_Of.mono; have m1 := @verdict_same.mono
   exact zM
theorem verdict_Right.mono : ∀ a0 a1 a2 a3 a4 a5 k, LeO (verdict_Right.f k a0 a1 a2 a3 a4 a5) (verdict_Right.f (k + 1) a0 a1 a2 a3 a4 a5) := by
 intro a0 a1 a2 a3 a4 a5 k
 have ih0 := verdict_Right.mono_l k
 unfold verdict_Right.f
 have m0 := @verdict_Of.mono; have m1 := @verdict_same.mono
 exact zM
def verdict_Right.T3 : Bool × List (List Nat × List Nat) := (true, [([], []), ([], []), ([1], [1]), ([], []), ([3], [3]), ([4], [4]), ([5], [5]), ([6], [6]), ([2, 7], [2, 7]), ([0, 8, 8], [0, 8]), ([9, 9, 0, 1, 2, 3, 4, 5, 6, 7, 8, 9], [9])])
def verdict_Right.B3 : List Nat := [0, 0, 2, 0, 8, 24, 56, 120, 254, 511, 1023]
theorem verdict_Right.tab3 : rtab .any (opsOf Tryz.f18 3) = verdict_Right.T3 := by kernel_rfl
theorem verdict_Right.bits3 : waitsOk verdict_Right.T3.2 verdict_Right.B3 = true := by kernel_rfl
set_option maxHeartbeats 8000000 in
set_option maxRecDepth 100000 in
theorem verdict_Right.calls (k : Nat) (a0_0 : Int) (A0_1 : Option Addr) (c0_1 : Nat) (l0_1 : List (S36)) (A0_2 : Option Addr) (c0_2 : Nat) (l0_2 : List Int) (A0_3 : Option Addr) (c0_3 : Nat) (l0_3 : List ByteArray) (A0_4 : Option Addr) (c0_4 : Nat) (l0_4 : List Int) (A0_5 : Option Addr) (c0_5 : Nat) (l0_5 : List (S72)) (r : Bool) (w : World) (hr0_1 : Kd.C k36 w A0_1 l0_1.length l0_1) (hc0_1 : l0_1.length ≤ c0_1) (hr0_2 : Kd.C (Kd.int .i64) w A0_2 l0_2.length l0_2) (hc0_2 : l0_2.length ≤ c0_2) (hr0_3 : Kd.C Kd.string w A0_3 l0_3.length l0_3) (hc0_3 : l0_3.length ≤ c0_3) (hr0_4 : Kd.C (Kd.int .i64) w A0_4 l0_4.length l0_4) (hc0_4 : l0_4.length ≤ c0_4) (hr0_5 : Kd.C k72 w A0_5 l0_5.length l0_5) (hc0_5 : l0_5.length ≤ c0_5) (h : verdict_Right.f k a0_0 l0_1 l0_2 l0_3 l0_4 l0_5 = some r) :
  Calls Tryz.prog 18 #[.agg #[.int .i64 a0_0, .slice A0_1 l0_1.length c0_1, .slice A0_2 l0_2.length c0_2, .slice A0_3 l0_3.length c0_3, .slice A0_4 l0_4.length c0_4, .slice A0_5 l0_5.length c0_5]] w fun e w' => e = .returned (.bool r) ∧ Below w.heap.size w w' := by
 have hu31 := Tryz.underlying31
 have HR0_1 := Aside0.mk hr0_1
 have HC0_1 := Aside0.mk hc0_1
 clear hr0_1 hc0_1
 have HR0_2 := Aside0.mk hr0_2
 have HC0_2 := Aside0.mk hc0_2
 clear hr0_2 hc0_2
 have HR0_3 := Aside0.mk hr0_3
 have HC0_3 := Aside0.mk hc0_3
 clear hr0_3 hc0_3
 have HR0_4 := Aside0.mk hr0_4
 have HC0_4 := Aside0.mk hc0_4
 clear hr0_4 hc0_4
 have HR0_5 := Aside0.mk hr0_5
 have HC0_5 := Aside0.mk hc0_5
 clear hr0_5 hc0_5
 have HB := Aside0.mk (Below.refl w.heap.size w)
 have H : (if a0_0 = 1 then (verdict_Right.j0 k ((l0_1.length : Int) == 0) a0_0 l0_1 l0_2 l0_3 l0_4 l0_5) else (if a0_0 = 2 then (verdict_Right.j0 k ((l0_1.length : Int) == 0) a0_0 l0_1 l0_2 l0_3 l0_4 l0_5) else (verdict_Right.j0 k true a0_0 l0_1 l0_2 l0_3 l0_4 l0_5))) = some r := h
 clear h
 have HC2 := Aside0.mk H
 clear H
 go_enter Tryz.func18, Tryz.ntmps18
 go_upto_region 1 with (first | ((with_reducible refine gate_dst (N := 1) rfl ?_); (try (refine gate_guard (by rfl) ?_; dsimp only)); refine zbox (N := 1) (cs := #[.int .i64 a0_0, .slice A0_1 l0_1.length c0_1, .slice A0_2 l0_2.length c0_2, .slice A0_3 l0_3.length c0_3, .slice A0_4 l0_4.length c0_4, .slice A0_5 l0_5.length c0_5]) (t := 31) ?_; intro gb446 hg w3 hbox hb; have BK446 := Aside0.mk (hbox); have GW446 := Aside0.mk ((by rw [hg]; exact (below_size zB) : w.heap.size ≤ gb446)); have GE446 := Aside0.mk ((by rw [hg]; exact (below_size zB) : w.heap.size ≤ gb446)); replace HB := Aside0.mk (below_step zB hb); clear hb hbox hg))
 (try simp only [Act.put, List.setIfInBounds_toArray, List.set_cons_zero, List.set_cons_succ])
 go_cut [16] (fun v16 wc => ∃ (kq : Nat) (x16_1 : Bool), v16 = .bool x16_1 ∧ Aside0 (verdict_Right.j0 kq x16_1 a0_0 l0_1 l0_2 l0_3 l0_4 l0_5 = some r) ∧ Aside0 (kq ≤ k) ∧ Aside0 (wc.heap[gb446]? = some (.cells #[.int .i64 a0_0, (.slice A0_1 l0_1.length c0_1), (.slice A0_2 l0_2.length c0_2), (.slice A0_3 l0_3.length c0_3), (.slice A0_4 l0_4.length c0_4), (.slice A0_5 l0_5.length c0_5)] 31 (0, 0))) ∧ Aside0 (Below w.heap.size w wc))
 case first =>
  have H := HC2.out
  clear HC2
  by_cases c4 : a0_0 = 1
  ·rw [if_pos c4] at H
   have c4b0 : (a0_0 == 1) = true := beq_iff_eq.mpr c4
   have c4b1 : (a0_0 != 1) = false := bne_eq_false_iff_eq.mpr c4
   clear c4
   (first | rw [c4b0] | (simp only [i64_w, i32_w]; rw [c4b0]) | skip)
   have H' := Aside0.mk H
   clear H
   obtain ⟨hcz5_0, hcz5_1, hcz5_2, hcz5_3, hcz5_4, hcz5_5, hfz5_0, hfz5_1, hfz5_2, hfz5_3, hfz5_4, hfz5_5⟩ := zb6 BK446.out
   go_wp2
   go_meet
   case rel => exact ⟨_, (((l0_1.length : Int) == 0)), zE, H', ⟨by first | omega | exact Nat.le_refl _⟩, ⟨zK BK446.out⟩, ⟨zG GE446.out⟩⟩
  ·rw [if_neg c4] at H
   have c4b0 : (a0_0 == 1) = false := beq_eq_false_iff_ne.mpr c4
   have c4b1 : (a0_0 != 1) = true := bne_iff_ne.mpr c4
   (first | rw [c4b0] | (simp only [i64_w, i32_w]; rw [c4b0]) | skip)
   by_cases c6 : a0_0 = 2
   ·rw [if_pos c6] at H
    have c6b0 : (a0_0 == 2) = true := beq_iff_eq.mpr c6
    have c6b1 : (a0_0 != 2) = false := bne_eq_false_iff_eq.mpr c6
    clear c6
    have H' := Aside0.mk H
    clear H
    obtain ⟨hcz7_0, hcz7_1, hcz7_2, hcz7_3, hcz7_4, hcz7_5, hfz7_0, hfz7_1, hfz7_2, hfz7_3, hfz7_4, hfz7_5⟩ := zb6 BK446.out
    go_wp2
    go_meet
    case rel => exact ⟨_, (((l0_1.length : Int) == 0)), zE, H', ⟨by first | omega | exact Nat.le_refl _⟩, ⟨zK BK446.out⟩, ⟨zG GE446.out⟩⟩
   ·rw [if_neg c6] at H
    have c6b0 : (a0_0 == 2) = false := beq_eq_false_iff_ne.mpr c6
    have c6b1 : (a0_0 != 2) = true := bne_iff_ne.mpr c6
    have H' := Aside0.mk H
    clear H
    obtain ⟨hcz8_0, hcz8_1, hcz8_2, hcz8_3, hcz8_4, hcz8_5, hfz8_0, hfz8_1, hfz8_2, hfz8_3, hfz8_4, hfz8_5⟩ := zb6 BK446.out
    go_wp2
    go_meet
    case rel => exact ⟨_, (true), zE, H', ⟨by first | omega | exact Nat.le_refl _⟩, ⟨zK BK446.out⟩, ⟨zG GE446.out⟩⟩
 case rest =>
  clear HC2
  (try clear c1); (try clear p2); (try clear c4); (try clear c4b0); (try clear c4b1); (try clear c6); (try clear c6b0); (try clear c6b1); (try clear hcz5_0 hcz5_1 hcz5_2 hcz5_3 hcz5_4 hcz5_5); (try clear hcz7_0 hcz7_1 hcz7_2 hcz7_3 hcz7_4 hcz7_5); (try clear hcz8_0 hcz8_1 hcz8_2 hcz8_3 hcz8_4 hcz8_5); (try clear hfz5_0 hfz5_1 hfz5_2 hfz5_3 hfz5_4 hfz5_5); (try clear hfz7_0 hfz7_1 hfz7_2 hfz7_3 hfz7_4 hfz7_5); (try clear hfz8_0 hfz8_1 hfz8_2 hfz8_3 hfz8_4 hfz8_5)
  obtain ⟨kq, x16_1, rfl, HA, HJ1, BK446, HB⟩ := hcut
  cases kq with
  | zero => exact absurd HA.out (by simp [verdict_Right.j0])
  | succ kj1 =>
   have H := HA.out
   clear HA
   simp only [verdict_Right.j0] at H
   by_cases c9 : x16_1 = true
   ·subst c9
    rw [if_pos rfl] at H
    obtain rfl := Option.some.inj H
    go_wp2
    go_ret
    exact ⟨zV, zG GE446.out⟩
   ·replace c9 := Bool.eq_false_iff.mpr c9
    subst c9
    rw [if_neg (show ¬ (false = true) by decide)] at H
    obtain ⟨c10, H⟩ := zj H
    have c10b0 : decide (0 < (l0_1.length : Int)) = true := decide_eq_true c10
    have c10b1 : decide (0 < l0_1.length) = true := decide_eq_true (by omega)
    clear c10
    replace H := Option.bind_eq_some_iff.mp H
    obtain ⟨⟨t448, t449, t452, t455, t458, t461⟩, A110, H⟩ := H
    dsimp only at H
    have A11 := Aside0.mk A110
    clear A110
    replace H := Option.bind_eq_some_iff.mp H
    obtain ⟨t464, A120, H⟩ := H
    have A12 := Aside0.mk A120
    clear A120
    obtain rfl := Option.some.inj H
    try go_wp2
    replace BK446 := Aside0.mk (blk_drew BK446.out)
    replace HB := Aside0.mk (below_drew1 HB.out)
    have p447 : 0 ≤ (0 : Int) := (by omega)
    have q447 : 0 < (l0_1.length : Int) := of_decide_eq_true zA
    obtain ⟨ad447, e447, hx447_0, hx447_1, hx447_2, hx447_3, hx447_4, hx447_5, hx447_6, hx447_7⟩ := at_T36 HR0_1.out 0 p447 q447
    have hw447_7 := hx447_7
    (try rw [show ((0 : Int)).toNat = 0 from rfl] at hw447_7)
    (try rw [show 0 * 8 = 0 from rfl] at hw447_7)
    (try rw [Addr.add_zero'] at hw447_7)
    have hw447_6 := hx447_6
    (try rw [show ((0 : Int)).toNat = 0 from rfl] at hw447_6)
    (try rw [show 0 * 8 = 0 from rfl] at hw447_6)
    (try rw [Addr.add_zero'] at hw447_6)
    have hw447_5 := hx447_5
    (try rw [show ((0 : Int)).toNat = 0 from rfl] at hw447_5)
    (try rw [show 0 * 8 = 0 from rfl] at hw447_5)
    (try rw [Addr.add_zero'] at hw447_5)
    have hw447_4 := hx447_4
    (try rw [show ((0 : Int)).toNat = 0 from rfl] at hw447_4)
    (try rw [show 0 * 8 = 0 from rfl] at hw447_4)
    (try rw [Addr.add_zero'] at hw447_4)
    have hw447_3 := hx447_3
    (try rw [show ((0 : Int)).toNat = 0 from rfl] at hw447_3)
    (try rw [show 0 * 8 = 0 from rfl] at hw447_3)
    (try rw [Addr.add_zero'] at hw447_3)
    have hw447_2 := hx447_2
    (try rw [show ((0 : Int)).toNat = 0 from rfl] at hw447_2)
    (try rw [show 0 * 8 = 0 from rfl] at hw447_2)
    (try rw [Addr.add_zero'] at hw447_2)
    have hw447_1 := hx447_1
    (try rw [show ((0 : Int)).toNat = 0 from rfl] at hw447_1)
    (try rw [show 0 * 8 = 0 from rfl] at hw447_1)
    (try rw [Addr.add_zero'] at hw447_1)
    have hw447_0 := hx447_0
    (try rw [show ((0 : Int)).toNat = 0 from rfl] at hw447_0)
    (try rw [show 0 * 8 = 0 from rfl] at hw447_0)
    (try rw [Addr.add_zero'] at hw447_0)
    cases e447
    have qi447 : (0 < l0_1.length) = True := eq_true (by omega)
    (try rw [show ((0 : Int)).toNat = 0 from rfl] at hx447_0)
    (try rw [show 0 * 8 = 0 from rfl] at hx447_0)
    (try rw [Addr.add_zero'] at hx447_0)
    (try rw [show ((0 : Int)).toNat = 0 from rfl] at hx447_1)
    (try rw [show 0 * 8 = 0 from rfl] at hx447_1)
    (try rw [Addr.add_zero'] at hx447_1)
    (try rw [show ((0 : Int)).toNat = 0 from rfl] at hx447_2)
    (try rw [show 0 * 8 = 0 from rfl] at hx447_2)
    (try rw [Addr.add_zero'] at hx447_2)
    (try rw [show ((0 : Int)).toNat = 0 from rfl] at hx447_3)
    (try rw [show 0 * 8 = 0 from rfl] at hx447_3)
    (try rw [Addr.add_zero'] at hx447_3)
    (try rw [show ((0 : Int)).toNat = 0 from rfl] at hx447_4)
    (try rw [show 0 * 8 = 0 from rfl] at hx447_4)
    (try rw [Addr.add_zero'] at hx447_4)
    (try rw [show ((0 : Int)).toNat = 0 from rfl] at hx447_5)
    (try rw [show 0 * 8 = 0 from rfl] at hx447_5)
    (try rw [Addr.add_zero'] at hx447_5)
    (try rw [show ((0 : Int)).toNat = 0 from rfl] at hx447_6)
    (try rw [show 0 * 8 = 0 from rfl] at hx447_6)
    (try rw [Addr.add_zero'] at hx447_6)
    (try rw [show ((0 : Int)).toNat = 0 from rfl] at hx447_7)
    (try rw [show 0 * 8 = 0 from rfl] at hx447_7)
    (try rw [Addr.add_zero'] at hx447_7)
    replace hx447_0 := zc HB.out hx447_0
    replace hx447_1 := zc HB.out hx447_1
    replace hx447_2 := zc HB.out hx447_2
    replace hx447_3 := zc HB.out hx447_3
    replace hx447_4 := zc HB.out hx447_4
    replace hx447_5 := zc HB.out hx447_5
    replace hx447_6 := zc HB.out hx447_6
    replace hx447_7 := zc HB.out hx447_7
    replace p447 := eq_true p447
    replace q447 := eq_true q447
    refine start_ (n := 11) (S := fun w' => w'.cell? ⟨gb446, 0, none⟩ = some (.int .i64 a0_0) ∧ w'.cell? ⟨gb446, 1, none⟩ = some (.slice (some ad447) l0_1.length c0_1) ∧ w'.cell? ⟨gb446, 2, none⟩ = some (.slice A0_2 l0_2.length c0_2) ∧ w'.cell? ⟨gb446, 3, none⟩ = some (.slice A0_3 l0_3.length c0_3) ∧ w'.cell? ⟨gb446, 4, none⟩ = some (.slice A0_4 l0_4.length c0_4) ∧ w'.cell? ⟨gb446, 5, none⟩ = some (.slice A0_5 l0_5.length c0_5) ∧ w'.cell? ad447 = some (.int .u64 ((rd_T36 l0_1 0).f0)) ∧ w'.cell? ⟨ad447.block, ad447.off + 1, none⟩ = some (.int .u64 ((rd_T36 l0_1 0).f1)) ∧ w'.cell? ⟨ad447.block, ad447.off + 2, none⟩ = some (.int .u64 ((rd_T36 l0_1 0).f2)) ∧ w'.cell? ⟨ad447.block, ad447.off + 3, none⟩ = some (.int .u8 ((rd_T36 l0_1 0).f3)) ∧ w'.cell? ⟨ad447.block, ad447.off + 4, none⟩ = some (.string ((rd_T36 l0_1 0).f4)) ∧ w'.cell? ⟨ad447.block, ad447.off + 5, none⟩ = some (.string ((rd_T36 l0_1 0).f5)) ∧ w'.cell? ⟨ad447.block, ad447.off + 6, none⟩ = some (.int .i64 ((rd_T36 l0_1 0).f6)) ∧ w'.cell? ⟨ad447.block, ad447.off + 7, none⟩ = some (.int .i64 ((rd_T36 l0_1 0).f7))) (ds := []) #[false, false, false, false, false, false, false, false, false, false, false] (by kernel_rfl) rfl rfl ⟨(blk_cell BK446.out 0).trans rfl, (blk_cell BK446.out 1).trans rfl, (blk_cell BK446.out 2).trans rfl, (blk_cell BK446.out 3).trans rfl, (blk_cell BK446.out 4).trans rfl, (blk_cell BK446.out 5).trans rfl, (zc HB.out hw447_0 :), (zc HB.out hw447_1 :), (zc HB.out hw447_2 :), (zc HB.out hw447_3 :), (zc HB.out hw447_4 :), (zc HB.out hw447_5 :), (zc HB.out hw447_6 :), (zc HB.out hw447_7 :)⟩ (fun hHeld => ?_); refine with_tabW verdict_Right.tab3 verdict_Right.bits3 (fun HT_ HW_ => ?_)
    generalize wc.drew = w13 at BK446 HB hx447_0 hx447_1 hx447_2 hx447_3 hx447_4 hx447_5 hx447_6 hx447_7 hHeld ⊢
    refine zp 1 (some 18) ?_
    refine zp 3 (some 20) ?_
    refine zt14 0 (some 17) ?_
    refine zt14 2 (some 19) ?_
    refine zt14 4 (some 21) ?_
    refine zp 5 (some 22) ?_
    refine zp 6 (some 23) ?_
    refine zt14 7 (some 24) ?_
    refine z1 8 (some 25) (fun K hK => ?_)
    refine goes_ Tryz.func12 (by kernel_rfl) rfl #[.slice (some ad447) l0_1.length c0_1, .int .u64 ((rd_T36 l0_1 0).f0)] (by rfl) rfl rfl zL ?_
    with_reducible refine (verdict_Of.calls kj1 _ _ l0_1 ((rd_T36 l0_1 0).f0) t448 t449 t452 t455 t458 t461 _ ?side1 ?side2 A11.out).mono ?_
    (case side1 => exact zC ((Kd.C_below HR0_1.out HB.out)))
    (case side2 => exact HC0_1.out)
    rintro e w14 ⟨v450, v453, v456, v459, v462, rfl, ho0, ho1, ho2, ho3, ho4, hb⟩
    refine ⟨_, rfl, ?_⟩
    have HO451 := Aside0.mk (Kd.R_lower (Kd.R_mono (ok' := fun k_ => True) ho0 (fun _ hk_ => trivial)) (below_size (zG GE446.out)))
    have HO454 := Aside0.mk (Kd.R_lower (Kd.R_mono (ok' := fun k_ => True) ho1 (fun _ hk_ => trivial)) (below_size (zG GE446.out)))
    have HO457 := Aside0.mk (Kd.R_lower (Kd.R_mono (ok' := fun k_ => True) ho2 (fun _ hk_ => trivial)) (below_size (zG GE446.out)))
    have HO460 := Aside0.mk (Kd.V_lower (Kd.V_mono (ok' := fun k_ => some k_ ≠ (v450 : Value).ownBlock ∧ some k_ ≠ (v453 : Value).ownBlock ∧ some k_ ≠ (v456 : Value).ownBlock ∧ some k_ ≠ (v462 : Value).ownBlock ∧ k_ ≠ gb446) ho3 (fun k_ hk_ => ⟨hk_.2.1, hk_.2.2.1, hk_.2.2.2.1, hk_.2.2.2.2, (Kd.freshB (g := gb446) (o := .cells #[.int .i64 a0_0, .slice (some ad447) l0_1.length c0_1, .slice A0_2 l0_2.length c0_2, .slice A0_3 l0_3.length c0_3, .slice A0_4 l0_4.length c0_4, .slice A0_5 l0_5.length c0_5] 31 (0, 0)) (zK BK446.out) k_ hk_.1)⟩)) (below_size (zG GE446.out)))
    have HO463 := Aside0.mk (Kd.R_lower (Kd.R_mono (ok' := fun k_ => True) ho4 (fun _ hk_ => trivial)) (below_size (zG GE446.out)))
    replace BK446 := Aside0.mk (zKb BK446.out hb)
    replace HB := Aside0.mk (below_step (zG GE446.out) hb)
    (try clear hb); (try clear hb2); (try clear hk); (try clear hi); (try clear ho0); (try clear ho1); (try clear ho2); (try clear ho3); (try clear ho4)
    obtain ⟨Ao15, co15, eo15⟩ := Kd.R_slice HO451.out
    (first | subst eo15 | (injection eo15 with f1_ f2_ f3_; have f4_ := f1_.symm; have f5_ := f3_.symm; clear f1_ f2_ f3_; subst f4_; subst f5_))
    obtain ⟨Ao16, co16, eo16⟩ := Kd.R_slice HO454.out
    (first | subst eo16 | (injection eo16 with f1_ f2_ f3_; have f4_ := f1_.symm; have f5_ := f3_.symm; clear f1_ f2_ f3_; subst f4_; subst f5_))
    obtain ⟨Ao17, co17, eo17⟩ := Kd.R_slice HO457.out
    (first | subst eo17 | (injection eo17 with f1_ f2_ f3_; have f4_ := f1_.symm; have f5_ := f3_.symm; clear f1_ f2_ f3_; subst f4_; subst f5_))
    obtain ⟨Ao18, co18, eo18⟩ := Kd.V_slice HO460.out
    (first | subst eo18 | (injection eo18 with f1_ f2_ f3_; have f4_ := f1_.symm; have f5_ := f3_.symm; clear f1_ f2_ f3_; subst f4_; subst f5_))
    obtain ⟨Ao19, co19, eo19⟩ := Kd.R_slice HO463.out
    (first | subst eo19 | (injection eo19 with f1_ f2_ f3_; have f4_ := f1_.symm; have f5_ := f3_.symm; clear f1_ f2_ f3_; subst f4_; subst f5_))
    refine hK.out _ _ ⟨(blk_cell BK446.out 0).trans rfl, (blk_cell BK446.out 1).trans rfl, (blk_cell BK446.out 2).trans rfl, (blk_cell BK446.out 3).trans rfl, (blk_cell BK446.out 4).trans rfl, (blk_cell BK446.out 5).trans rfl, (zc HB.out hw447_0 :), (zc HB.out hw447_1 :), (zc HB.out hw447_2 :), (zc HB.out hw447_3 :), (zc HB.out hw447_4 :), (zc HB.out hw447_5 :), (zc HB.out hw447_6 :), (zc HB.out hw447_7 :)⟩ (fun hHeld => ?_)
    clear hK K
    refine norm_ (a' := ?_) ?_ ?_
    rotate_left
    ·show Act.put _ (some 25) _ = _
     simp only [Act.put, List.setIfInBounds_toArray, List.set_cons_zero, List.set_cons_succ, i64_w, i32_w]
     rfl
    refine z1 9 (some 26) (fun K hK => ?_)
    refine goes_ Tryz.func45 (by kernel_rfl) rfl #[.agg #[.int .i64 a0_0, .slice (some ad447) l0_1.length c0_1, .slice A0_2 l0_2.length c0_2, .slice A0_3 l0_3.length c0_3, .slice A0_4 l0_4.length c0_4, .slice A0_5 l0_5.length c0_5], .agg #[.int .i64 t448, .slice Ao15 t449.length co15, .slice Ao16 t452.length co16, .slice Ao17 t455.length co17, .slice Ao18 t458.length co18, .slice Ao19 t461.length co19]] (by rfl) rfl rfl zL ?_
    with_reducible refine (verdict_same.calls kj1 a0_0 _ _ l0_1 _ _ l0_2 _ _ l0_3 _ _ l0_4 _ _ l0_5 t448 _ _ t449 _ _ t452 _ _ t455 _ _ t458 _ _ t461 t464 _ ?side1 ?side2 ?side3 ?side4 ?side5 ?side6 ?side7 ?side8 ?side9 ?side10 ?side11 ?side12 ?side13 ?side14 ?side15 ?side16 ?side17 ?side18 ?side19 ?side20 A12.out).mono ?_
    (case side1 => exact zC ((Kd.C_below HR0_1.out HB.out)))
    (case side2 => exact HC0_1.out)
    (case side3 => exact zC ((Kd.C_below HR0_2.out HB.out)))
    (case side4 => exact HC0_2.out)
    (case side5 => exact zC ((Kd.C_below HR0_3.out HB.out)))
    (case side6 => exact HC0_3.out)
    (case side7 => exact zC ((Kd.C_below HR0_4.out HB.out)))
    (case side8 => exact HC0_4.out)
    (case side9 => exact zC ((Kd.C_below HR0_5.out HB.out)))
    (case side10 => exact HC0_5.out)
    (case side11 => exact zC ((Kd.R_reads' HO451.out).2.2))
    (case side12 => exact (Kd.R_reads' HO451.out).2.1)
    (case side13 => exact zC ((Kd.R_reads' HO454.out).2.2))
    (case side14 => exact (Kd.R_reads' HO454.out).2.1)
    (case side15 => exact zC ((Kd.R_reads' HO457.out).2.2))
    (case side16 => exact (Kd.R_reads' HO457.out).2.1)
    (case side17 => exact zC ((Kd.V_reads' HO460.out).2.2))
    (case side18 => exact (Kd.V_reads' HO460.out).2.1)
    (case side19 => exact zC ((Kd.R_reads' HO463.out).2.2))
    (case side20 => exact (Kd.R_reads' HO463.out).2.1)
    rintro e w20 ⟨rfl, hb⟩
    refine ⟨_, rfl, ?_⟩
    replace HO451 := Aside0.mk (Kd.R_below (zR HO451.out) hb)
    replace HO454 := Aside0.mk (Kd.R_below (zR HO454.out) hb)
    replace HO457 := Aside0.mk (Kd.R_below (zR HO457.out) hb)
    replace HO460 := Aside0.mk (Kd.V_below (zRV HO460.out) hb)
    replace HO463 := Aside0.mk (Kd.R_below (zR HO463.out) hb)
    replace BK446 := Aside0.mk (zKb BK446.out hb)
    replace HB := Aside0.mk (below_step (zG GE446.out) hb)
    (try clear hb); (try clear hb2); (try clear hk); (try clear hi)
    refine hK.out _ _ ⟨(blk_cell BK446.out 0).trans rfl, (blk_cell BK446.out 1).trans rfl, (blk_cell BK446.out 2).trans rfl, (blk_cell BK446.out 3).trans rfl, (blk_cell BK446.out 4).trans rfl, (blk_cell BK446.out 5).trans rfl, (zc HB.out hw447_0 :), (zc HB.out hw447_1 :), (zc HB.out hw447_2 :), (zc HB.out hw447_3 :), (zc HB.out hw447_4 :), (zc HB.out hw447_5 :), (zc HB.out hw447_6 :), (zc HB.out hw447_7 :)⟩ (fun hHeld => ?_)
    clear hK K
    refine norm_ (a' := ?_) ?_ ?_
    rotate_left
    ·show Act.put _ (some 26) _ = _
     simp only [Act.put, List.setIfInBounds_toArray, List.set_cons_zero, List.set_cons_succ, i64_w, i32_w]
     rfl
    refine zp 10 (some 2) ?_
    refine done_ (done_of HT_.out (by kernel_rfl)) ?_
    try go_wp2
    go_ret
    exact ⟨zV, zG GE446.out⟩
end Go.Proofs.YtgknjgionicncaaGreat.V
