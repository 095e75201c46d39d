/- The chapter's example for bound.Of: merkhetlaw14.fixed. -/
import Derived.Test.YtjgpggjjgimibaaBndG
namespace Go.Proofs.Ytjgpggjjgimibaa.L
open Go.RowKit Go.Proofs.Ytjgpggjjgimibaa.Q Go.Proofs.YtjgpggjjgimibaaW.PrintWords Go.Proofs.YtjgpggjjgimibaaW.PrintLast Go.Proofs.YtjgpggjjgimibaaW.PrintMore Go.Proofs.YtjgpggjjgimibaaW.MapB Go.Proofs.YtjgpggjjgimibaaW.Lib
set_option linter.unusedVariables false
set_option linter.unusedSimpArgs false
theorem two_spans (W : World) (k : Nat) (x y : S42) (h : W.heap[k]? = some (.cells #[.int .u64 x.f0, .int .u64 x.f1, .int .u64 x.f2, .int .u8 x.f3, .string x.f4, .string x.f5, .int .i64 x.f6, .int .i64 x.f7, .int .u64 y.f0, .int .u64 y.f1, .int .u64 y.f2, .int .u8 y.f3, .string y.f4, .string y.f5, .int .i64 y.f6, .int .i64 y.f7] 42 (0, 0))) : Kd.C k42 W (some ⟨k, 0, none⟩) 2 [x, y] := by
  refine ⟨rfl, by simp, fun _ => ⟨_, rfl, fun j p hj => ?_⟩⟩
  rcases j with _ | _ | j
  · cases hj
    refine ⟨_, rfl, k42_mk _ _, fun i u hi => ?_⟩
    rcases i with _ | _ | _ | _ | _ | _ | _ | _ | i <;> first | (cases hi; done) | (rw [Addr.add_lit]; exact (blk_cell h _).trans hi)
  · cases hj
    refine ⟨_, rfl, k42_mk _ _, fun i u hi => ?_⟩
    rcases i with _ | _ | _ | _ | _ | _ | _ | _ | i <;> first | (cases hi; done) | (rw [Addr.add_lit]; exact (blk_cell h _).trans hi)
  · cases hj
theorem one_pair (W : World) (k : Nat) (x : S35) (h : W.heap[k]? = some (.cells #[.int .i64 x.f0, .int .i64 x.f1] 35 (0, 0))) : Kd.C k35 W (some ⟨k, 0, none⟩) 1 [x] := by
  refine ⟨rfl, by simp, fun _ => ⟨_, rfl, fun j p hj => ?_⟩⟩
  rcases j with _ | j
  · cases hj
    refine ⟨_, rfl, k35_mk _ _, fun i u hi => ?_⟩
    rcases i with _ | _ | i <;> first | (cases hi; done) | (rw [Addr.add_lit]; exact (blk_cell h _).trans hi)
  · cases hj
set_option maxHeartbeats 4000000 in
set_option maxRecDepth 100000 in
theorem fixed_calls (w : World) : Calls Try.prog 12 #[] w fun e w' => e = .returned (.bool true) ∧ Below w.heap.size w w' := by
  have HB := Aside0.mk (Below.refl w.heap.size w)
  have hA : Kd.C k42 (w.alloc (.cells #[.int .u64 1, .int .u64 1, .int .u64 0, .int .u8 1, .string ⟨#[97]⟩, .string ⟨#[98]⟩, .int .i64 5, .int .i64 15, .int .u64 1, .int .u64 2, .int .u64 1, .int .u8 2, .string ⟨#[98]⟩, .string ⟨#[98]⟩, .int .i64 8, .int .i64 4] 42)) (some ⟨w.heap.size, 0, none⟩) 2 [exA, exB] := two_spans _ _ exA exB (MapKept.heap_alloc w _).1
  obtain ⟨W, hW⟩ : ∃ W, w.alloc (.cells #[.int .u64 1, .int .u64 1, .int .u64 0, .int .u8 1, .string ⟨#[97]⟩, .string ⟨#[98]⟩, .int .i64 5, .int .i64 15, .int .u64 1, .int .u64 2, .int .u64 1, .int .u8 2, .string ⟨#[98]⟩, .string ⟨#[98]⟩, .int .i64 8, .int .i64 4] 42) = W := ⟨_, rfl⟩
  have hsz : W.heap.size = w.heap.size + 1 := by rw [← hW]; simp
  have HBW := Aside0.mk (show Below w.heap.size w W from hW ▸ below_alloc HB.out _)
  rw [hW] at hA
  have hP : Kd.C k35 (W.alloc (.cells #[.int .i64 0, .int .i64 1] 35)) (some ⟨w.heap.size + 1, 0, none⟩) 1 [⟨0, 1⟩] := by rw [← hsz]; exact one_pair _ _ ⟨0, 1⟩ (MapKept.heap_alloc W _).1
  have hA2 := Kd.C_below hA (below_alloc (Below.refl W.heap.size W) (.cells #[.int .i64 0, .int .i64 1] 35))
  have QE := edges_calls (fun _ => true) [exA, exB] may_ex (by decide) fit_ex [⟨0, 1⟩] (by decide) _ _ 2 1 _ hA2 (Nat.le_refl _) hP
  rw [edges_ex] at QE
  have QE2 := Aside0.mk (show Calls Try.prog 16 #[.slice (some ⟨w.heap.size, 0, none⟩) 2 2, .slice (some ⟨w.heap.size + 1, 0, none⟩) 1 1] (W.alloc (.cells #[.int .i64 0, .int .i64 1] 35)) _ from QE)
  have HBX := Aside0.mk (below_alloc HBW.out (.cells #[.int .i64 0, .int .i64 1] 35))
  clear hA hA2 hP QE hsz
  subst hW
  go_enter Try.func12, Try.ntmps12
  go_wp2_with (go_at_call 16; go_loud ((with_reducible refine QE2.out.mono ?_); rintro e w1 ⟨v, rfl, ho, hb⟩; have HB1 := Aside0.mk (below_step HBX.out hb); obtain ⟨A5, c5, rfl⟩ := Kd.R_slice ho; obtain ⟨ad, e1, hx0, hx1, hx2, hx3, hx4, hx5⟩ := at_T37 (Kd.R_reads' ho).2.2 0 (by decide) (by decide); cases e1; obtain ⟨ad', e2, hy0, hy1, hy2, hy3, hy4, hy5⟩ := at_T37 (Kd.R_reads' ho).2.2 1 (by decide) (by decide); obtain rfl : ad = ad' := (by injection e2); have z0 : ad.add (Int.toNat 0 * 6) = ad := (by rw [show Int.toNat 0 * 6 = 0 from rfl, Addr.add_zero']); rw [z0] at hx0 hx1 hx2 hx3 hx4 hx5; replace hx0 : w1.cell? ad = some (.int .i64 1) := hx0; replace hx1 : w1.cell? ⟨ad.block, ad.off + 1, none⟩ = some (.int .i64 0) := hx1; replace hx2 : w1.cell? ⟨ad.block, ad.off + 2, none⟩ = some (.int .i64 3) := hx2; replace hx3 : w1.cell? ⟨ad.block, ad.off + 3, none⟩ = some (.int .i64 0) := hx3; replace hx4 : w1.cell? ⟨ad.block, ad.off + 4, none⟩ = some (.int .i64 1) := hx4; replace hx5 : w1.cell? ⟨ad.block, ad.off + 5, none⟩ = some (.bool false) := hx5; replace hy0 : w1.cell? ⟨ad.block, ad.off + 6, none⟩ = some (.int .i64 0) := hy0; replace hy1 : w1.cell? ⟨ad.block, ad.off + 6 + 1, none⟩ = some (.int .i64 1) := hy1; replace hy2 : w1.cell? ⟨ad.block, ad.off + 6 + 2, none⟩ = some (.int .i64 8) := hy2; replace hy3 : w1.cell? ⟨ad.block, ad.off + 6 + 3, none⟩ = some (.int .i64 0) := hy3; replace hy4 : w1.cell? ⟨ad.block, ad.off + 6 + 4, none⟩ = some (.int .i64 1) := hy4; replace hy5 : w1.cell? ⟨ad.block, ad.off + 6 + 5, none⟩ = some (.bool true) := hy5; clear ho hb e2 z0))
  go_ret
  exact ⟨rfl, HB1.out⟩
end Go.Proofs.Ytjgpggjjgimibaa.L
