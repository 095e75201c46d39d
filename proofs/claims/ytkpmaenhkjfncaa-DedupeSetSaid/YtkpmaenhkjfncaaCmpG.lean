/- span.Cmp once more: what it hands back, and that it only lays blocks (for slices.SortFunc's contract). -/
import Derived.Test.YtkpmaenhkjfncaaSpanB
import Derived.StillTailTactics
import Derived.Sort.Grow
import Derived.Test.YtkpmaenhkjfncaaQx2
import Derived.Test.YtkpmaenhkjfncaaQx3
namespace Go.Proofs.Ytkpmaenhkjfncaa.L
open Go.RowKit Go.Proofs.Ytkpmaenhkjfncaa.Q Go.Proofs.YtkpmaenhkjfncaaW.PrintWords Go.Proofs.YtkpmaenhkjfncaaW.PrintLast Go.Proofs.YtkpmaenhkjfncaaW.PrintMore Go.Proofs.YtkpmaenhkjfncaaW.Lib
set_option linter.unusedVariables false

theorem cmpI64_calls (x y : Int) (w : World) : Calls Try.prog 64 #[.int .i64 x, .int .i64 y] w fun e w' => e = .returned (.int .i64 (cmpI x y)) ∧ w' = w := by
  by_cases h1 : x < y
  · have e : cmpI x y = -1 := by unfold cmpI; rw [if_pos h1]
    rw [e]; clear e
    go_enter Try.func64, Try.ntmps64
    go_wp2
    go_ret
    exact ⟨rfl, rfl⟩
  · by_cases h2 : y < x
    · have e : cmpI x y = 1 := by unfold cmpI; rw [if_neg h1, if_pos h2]
      rw [e]; clear e
      go_enter Try.func64, Try.ntmps64
      go_wp2
      go_ret
      exact ⟨rfl, rfl⟩
    · have e : cmpI x y = 0 := by unfold cmpI; rw [if_neg h1, if_neg h2]
      rw [e]; clear e
      go_enter Try.func64, Try.ntmps64
      go_wp2
      go_ret
      exact ⟨rfl, rfl⟩
theorem cmpU64_calls (x y : Int) (w : World) : Calls Try.prog 65 #[.int .u64 x, .int .u64 y] w fun e w' => e = .returned (.int .i64 (cmpI x y)) ∧ w' = w := by
  by_cases h1 : x < y
  · have e : cmpI x y = -1 := by unfold cmpI; rw [if_pos h1]
    rw [e]; clear e
    go_enter Try.func65, Try.ntmps65
    go_wp2
    go_ret
    exact ⟨rfl, rfl⟩
  · by_cases h2 : y < x
    · have e : cmpI x y = 1 := by unfold cmpI; rw [if_neg h1, if_pos h2]
      rw [e]; clear e
      go_enter Try.func65, Try.ntmps65
      go_wp2
      go_ret
      exact ⟨rfl, rfl⟩
    · have e : cmpI x y = 0 := by unfold cmpI; rw [if_neg h1, if_neg h2]
      rw [e]; clear e
      go_enter Try.func65, Try.ntmps65
      go_wp2
      go_ret
      exact ⟨rfl, rfl⟩
theorem cmpU8_calls (x y : Int) (w : World) : Calls Try.prog 66 #[.int .u8 x, .int .u8 y] w fun e w' => e = .returned (.int .i64 (cmpI x y)) ∧ w' = w := by
  by_cases h1 : x < y
  · have e : cmpI x y = -1 := by unfold cmpI; rw [if_pos h1]
    rw [e]; clear e
    go_enter Try.func66, Try.ntmps66
    go_wp2
    go_ret
    exact ⟨rfl, rfl⟩
  · by_cases h2 : y < x
    · have e : cmpI x y = 1 := by unfold cmpI; rw [if_neg h1, if_pos h2]
      rw [e]; clear e
      go_enter Try.func66, Try.ntmps66
      go_wp2
      go_ret
      exact ⟨rfl, rfl⟩
    · have e : cmpI x y = 0 := by unfold cmpI; rw [if_neg h1, if_neg h2]
      rw [e]; clear e
      go_enter Try.func66, Try.ntmps66
      go_wp2
      go_ret
      exact ⟨rfl, rfl⟩
set_option maxHeartbeats 1000000 in
set_option maxRecDepth 100000 in
theorem compare_calls (a b : ByteArray) (w : World) : Calls Try.prog 67 #[.string a, .string b] w fun e w' => e = .returned (.int .i64 (cmpB a b)) ∧ w' = w := by
  have hb : Calls Try.prog 77 #[.string a, .string b] w fun e w' => e = .returned (.int .i64 (cmpB a b)) ∧ w' = w := by
    unfold cmpB
    go_enter Try.func77, Try.ntmps77
    go_wp2
    rw [run_callFunc_extern Try.func99 (by kernel_rfl) (by kernel_rfl) (by kernel_rfl) (e := Extern.BytealgCompare.compare) (by kernel_rfl), Go.Lib.run_compareString]
    simp only [Result.andThen]
    rw [Oper.upon_value]
    go_wp2
    go_ret
    exact ⟨rfl, rfl⟩
  go_enter Try.func67, Try.ntmps67
  go_wp2_with (go_at_call 77; refine hb.mono ?_; rintro e w' ⟨rfl, rfl⟩)
  go_ret
  exact ⟨rfl, rfl⟩

theorem first_calls (l : List Int) (hl : l.length < 1000) (A : Option Addr) (c : Nat) (w : World) (hr : Kd.C (Kd.int .i64) w A l.length l) (hc : l.length ≤ c) :
    Calls Try.prog 63 #[.slice A l.length c] w fun e w' => e = .returned (.int .i64 (firstNZ l)) ∧ Drawn0 w w' := by
  obtain ⟨k, hk⟩ := Ev.rounds (first_l0 l hl l.length 0 (by omega) (by omega))
  exact span_first.calls k A c l (firstNZ l) w hr hc (by unfold span_first.f; simpa using hk)

set_option maxRecDepth 100000 in
set_option maxHeartbeats 4000000 in
theorem cmp_grow (a b : S27) (W : World) :
    Calls Try.prog 50 #[.agg #[.int .u64 a.f0, .int .u64 a.f1, .int .u64 a.f2, .int .u8 a.f3, .string a.f4, .string a.f5, .int .i64 a.f6, .int .i64 a.f7], .agg #[.int .u64 b.f0, .int .u64 b.f1, .int .u64 b.f2, .int .u8 b.f3, .string b.f4, .string b.f5, .int .i64 b.f6, .int .i64 b.f7]] W
      fun e w' => e = .returned (.int .i64 (cmpS a b)) ∧ ∃ q os', w' = Go.Sort.grow (W.drewN q) os' := by
  obtain ⟨a0, a1, a2, a3, a4, a5, a6, a7⟩ := a
  obtain ⟨b0, b1, b2, b3, b4, b5, b6, b7⟩ := b
  obtain ⟨r, hr⟩ : ∃ r, cmpS ⟨a0, a1, a2, a3, a4, a5, a6, a7⟩ ⟨b0, b1, b2, b3, b4, b5, b6, b7⟩ = r := ⟨_, rfl⟩
  rw [hr]
  have HR := Aside0.mk hr
  clear hr
  go_enter Try.func50, Try.ntmps50
  go_wp2_with fail
  generalize hW2 : (W.alloc (.cells #[.int .u64 a0, .int .u64 a1, .int .u64 a2, .int .u8 a3, .string a4, .string a5, .int .i64 a6, .int .i64 a7] 27)).alloc (.cells #[.int .u64 b0, .int .u64 b1, .int .u64 b2, .int .u8 b3, .string b4, .string b5, .int .i64 b6, .int .i64 b7] 27) = W2
  have hg : ∃ os, W2 = Go.Sort.grow W os := ⟨_, by rw [← hW2, Go.Sort.alloc_eq_grow, Go.Sort.alloc_eq_grow, Go.Sort.grow_grow]⟩
  have ca0 : W2.drew.cell? ⟨W.heap.size, 0, none⟩ = some (.int .u64 a0) := by rw [← hW2]; simp
  have ca1 : W2.drew.cell? ⟨W.heap.size, 1, none⟩ = some (.int .u64 a1) := by rw [← hW2]; simp
  have ca2 : W2.drew.cell? ⟨W.heap.size, 2, none⟩ = some (.int .u64 a2) := by rw [← hW2]; simp
  have ca3 : W2.drew.cell? ⟨W.heap.size, 3, none⟩ = some (.int .u8 a3) := by rw [← hW2]; simp
  have ca4 : W2.drew.cell? ⟨W.heap.size, 4, none⟩ = some (.string a4) := by rw [← hW2]; simp
  have ca5 : W2.drew.cell? ⟨W.heap.size, 5, none⟩ = some (.string a5) := by rw [← hW2]; simp
  have ca6 : W2.drew.cell? ⟨W.heap.size, 6, none⟩ = some (.int .i64 a6) := by rw [← hW2]; simp
  have ca7 : W2.drew.cell? ⟨W.heap.size, 7, none⟩ = some (.int .i64 a7) := by rw [← hW2]; simp
  have cb0 : W2.drew.cell? ⟨W.heap.size + 1, 0, none⟩ = some (.int .u64 b0) := by rw [← hW2]; simp
  have cb1 : W2.drew.cell? ⟨W.heap.size + 1, 1, none⟩ = some (.int .u64 b1) := by rw [← hW2]; simp
  have cb2 : W2.drew.cell? ⟨W.heap.size + 1, 2, none⟩ = some (.int .u64 b2) := by rw [← hW2]; simp
  have cb3 : W2.drew.cell? ⟨W.heap.size + 1, 3, none⟩ = some (.int .u8 b3) := by rw [← hW2]; simp
  have cb4 : W2.drew.cell? ⟨W.heap.size + 1, 4, none⟩ = some (.string b4) := by rw [← hW2]; simp
  have cb5 : W2.drew.cell? ⟨W.heap.size + 1, 5, none⟩ = some (.string b5) := by rw [← hW2]; simp
  have cb6 : W2.drew.cell? ⟨W.heap.size + 1, 6, none⟩ = some (.int .i64 b6) := by rw [← hW2]; simp
  have cb7 : W2.drew.cell? ⟨W.heap.size + 1, 7, none⟩ = some (.int .i64 b7) := by rw [← hW2]; simp
  clear hW2
  refine wp_region_still_tail 40 (by kernel_rfl) (by kernel_rfl) ?_
  simp only [List.take_succ_cons, List.take_zero, List.drop_succ_cons, List.drop_zero]
  change wpStill _ _ W2.drew _ _ _
  obtain ⟨W3, hW3⟩ : ∃ W3, W2.drew = W3 := ⟨_, rfl⟩
  rw [hW3] at ca0 ca1 ca2 ca3 ca4 ca5 ca6 ca7 cb0 cb1 cb2 cb3 cb4 cb5 cb6 cb7 ⊢
  have HW3 := Aside0.mk hW3
  have HG := Aside0.mk hg
  clear hW3 hg
  generalize W.heap.size = g0 at *
  iterate 4 still_step
  still_call (cmpI64_calls _ _ _)
  iterate 4 still_step
  still_call (cmpU64_calls _ _ _)
  iterate 4 still_step
  still_call (cmpU64_calls _ _ _)
  iterate 4 still_step
  still_call (cmpU8_calls _ _ _)
  iterate 4 still_step
  still_call (cmpI64_calls _ _ _)
  iterate 4 still_step
  still_call (compare_calls _ _ _)
  iterate 4 still_step
  still_call (compare_calls _ _ _)
  iterate 4 still_step
  still_call (cmpU64_calls _ _ _)
  refine wpStill_nil ?_
  change wpList _ _ _ _ _ W2.drew
  rw [HW3.out]
  clear ca0 ca1 ca2 ca3 ca4 ca5 ca6 ca7 cb0 cb1 cb2 cb3 cb4 cb5 cb6 cb7
  go_wp2_with fail
  have hrow : Kd.C (Kd.int .i64) (W3.alloc (.cells #[.int .i64 (cmpI a6 b6), .int .i64 (cmpI a1 b1), .int .i64 (cmpI a2 b2), .int .i64 (cmpI a3 b3), .int .i64 (cmpI a7 b7), .int .i64 (cmpB a4 b4), .int .i64 (cmpB a5 b5), .int .i64 (cmpI a0 b0)] 3)) (some ⟨W3.heap.size, 0, none⟩) 8 [cmpI a6 b6, cmpI a1 b1, cmpI a2 b2, cmpI a3 b3, cmpI a7 b7, cmpB a4 b4, cmpB a5 b5, cmpI a0 b0] := by
    refine ⟨rfl, by decide, fun _ => ⟨_, rfl, fun j p hp => ⟨[.int .i64 p], rfl, rfl, fun i u hu => ?_⟩⟩⟩
    have hj : j < 8 := (List.getElem?_eq_some_iff.1 hp).1
    have hi : i < 1 := (List.getElem?_eq_some_iff.1 hu).1
    obtain rfl : i = 0 := by omega
    obtain rfl : Value.int .i64 p = u := by simpa using hu
    rcases j with _ | _ | _ | _ | _ | _ | _ | _ | j <;> first | (simp at hp; subst hp; simp [Kd.int, Kd.scalar, Addr.add]) | omega
  have hc := first_calls [cmpI a6 b6, cmpI a1 b1, cmpI a2 b2, cmpI a3 b3, cmpI a7 b7, cmpB a4 b4, cmpB a5 b5, cmpI a0 b0] (by simp) _ 8 _ hrow (by simp)
  refine Calls.mono hc ?_
  rintro e w'' ⟨rfl, hd⟩
  have HD := Aside0.mk hd
  clear hc hrow hd
  rw [show firstNZ [cmpI a6 b6, cmpI a1 b1, cmpI a2 b2, cmpI a3 b3, cmpI a7 b7, cmpB a4 b4, cmpB a5 b5, cmpI a0 b0] = r from HR.out]
  go_wp2
  go_ret
  refine ⟨rfl, ?_⟩
  obtain ⟨n, hn⟩ := HD.out.out
  obtain ⟨os, ho⟩ := HG.out
  have h3 := HW3.out
  rw [hn, ← h3, ho, Go.Sort.alloc_eq_grow]
  have key : ∀ ob : Obj, ∃ q os', (Go.Sort.grow (Go.Sort.grow W os).drew #[ob]).drewN n = Go.Sort.grow (W.drewN q) os' := fun ob => ⟨1 + n, os ++ #[ob], by
    show Go.Sort.grow (Go.Sort.grow ((W.drewN 1).drewN n) os) #[ob] = _
    rw [Go.Sort.grow_grow, World.drewN_drewN]⟩
  exact key _
end Go.Proofs.Ytkpmaenhkjfncaa.L
