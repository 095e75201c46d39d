/- rpc.finder, rpc.Gaps. -/
import Derived.Test.YtjgpggjjgimibaaBndC
namespace Go.Proofs.Ytjgpggjjgimibaa.L
open Go.RowKit Go.Proofs.Ytjgpggjjgimibaa.Q Go.Proofs.YtjgpggjjgimibaaW.PrintWords Go.Proofs.YtjgpggjjgimibaaW.PrintLast Go.Proofs.YtjgpggjjgimibaaW.PrintMore Go.Proofs.YtjgpggjjgimibaaW.MapB Go.Proofs.YtjgpggjjgimibaaW.Lib
set_option linter.unusedVariables false
set_option linter.unusedSimpArgs false

theorem finder_calls (A0 : Option Addr) (n c0 : Nat) (w : World) : Calls Try.prog 56 #[.slice A0 n c0] w fun e w' => ∃ B, e = .returned (.func (.func 70) #[] #[.pointer (some ⟨B, 0, none⟩)]) ∧ w'.cell? ⟨B, 0, none⟩ = some (.slice A0 n c0) ∧ Below w.heap.size w w' := by
  have hmf : ∀ (fn : Fn) (first cap : Array Value) (w : World), (Instr.makeFunc fn first cap).run Try.prog w = .ok (.func fn first cap) w := fun _ _ _ _ => rfl
  have HB := Aside0.mk (Below.refl w.heap.size w)
  go_enter Try.func56, Try.ntmps56
  go_wp2_with fail
  go_ret
  exact ⟨w.heap.size, rfl, (blk_cell (MapKept.heap_alloc w _).1 0).trans rfl, below_alloc HB.out _⟩
/-- A pair's lead and rest. -/
def gapsB (m : S42 → Bool) (l : List S42) (c s : Int) : Int × Int × Bool :=
  if (findS m l c).2 = true ∧ (findS m l s).2 = true then (wrap64 ((findS m l s).1.f6 - (findS m l c).1.f6), wrap64 (wrap64 ((findS m l c).1.f7 - (findS m l s).1.f7) - wrap64 ((findS m l s).1.f6 - (findS m l c).1.f6)), true) else (0, 0, false)
set_option maxHeartbeats 4000000 in
set_option maxRecDepth 100000 in
theorem gaps_calls (m : S42 → Bool) (l : List S42) (hm : ∀ s ∈ l, ∃ k, span_May.f k s.f0 s.f1 s.f2 s.f3 s.f4 s.f5 s.f6 s.f7 = some (m s)) (p0 p1 : Int) (A0 : Option Addr) (c0 : Nat) (w : World) (hr : Kd.C k42 w A0 l.length l) :
    Calls Try.prog 35 #[.slice A0 l.length c0, .agg #[.int .i64 p0, .int .i64 p1]] w fun e w' => e = .returned (.tuple #[.int .i64 (gapsB m l p0 p1).1, .int .i64 (gapsB m l p0 p1).2.1, .bool (gapsB m l p0 p1).2.2]) ∧ Below w.heap.size w w' := by
  have HB := Aside0.mk (Below.refl w.heap.size w)
  have QF0 := Aside0.mk (fun (B : Nat) (W : World) (hb : Below w.heap.size w W) hc => found_calls m l hm p0 A0 c0 B W (Kd.C_below hr hb) hc)
  have QF1 := Aside0.mk (fun (B : Nat) (W : World) (hb : Below w.heap.size w W) hc => found_calls m l hm p1 A0 c0 B W (Kd.C_below hr hb) hc)
  clear hm hr
  have hg : gapsB m l p0 p1 = if (findS m l p0).2 = true ∧ (findS m l p1).2 = true then (wrap64 ((findS m l p1).1.f6 - (findS m l p0).1.f6), wrap64 (wrap64 ((findS m l p0).1.f7 - (findS m l p1).1.f7) - wrap64 ((findS m l p1).1.f6 - (findS m l p0).1.f6)), true) else (0, 0, false) := rfl
  rw [hg]
  clear hg
  generalize findS m l p0 = X at *
  generalize findS m l p1 = Y at *
  obtain ⟨x, bx⟩ := X
  obtain ⟨y, bY⟩ := Y
  dsimp only at *
  have go : ∀ (b1 b2 : Bool), bx = b1 → bY = b2 → Calls Try.prog 35 #[.slice A0 l.length c0, .agg #[.int .i64 p0, .int .i64 p1]] w fun e w' => e = .returned (.tuple #[.int .i64 (if b1 = true ∧ b2 = true then (wrap64 (y.f6 - x.f6), wrap64 (wrap64 (x.f7 - y.f7) - wrap64 (y.f6 - x.f6)), true) else ((0 : Int), (0 : Int), false)).1, .int .i64 (if b1 = true ∧ b2 = true then (wrap64 (y.f6 - x.f6), wrap64 (wrap64 (x.f7 - y.f7) - wrap64 (y.f6 - x.f6)), true) else ((0 : Int), (0 : Int), false)).2.1, .bool (if b1 = true ∧ b2 = true then (wrap64 (y.f6 - x.f6), wrap64 (wrap64 (x.f7 - y.f7) - wrap64 (y.f6 - x.f6)), true) else ((0 : Int), (0 : Int), false)).2.2]) ∧ Below w.heap.size w w' := by
    intro b1 b2 e1 e2
    subst e1 e2
    cases bx <;> cases bY
    all_goals
      simp only [true_and, and_true, and_false, false_and, if_true, if_false, Bool.false_eq_true, and_self, reduceIte]
      go_enter Try.func35, Try.ntmps35
      go_wp2_with (first
        | (go_at_call 56; refine (finder_calls A0 _ c0 _).mono ?_; rintro e w1 ⟨B, rfl, hcl, hb⟩; have HB1 := Aside0.mk (below_step (below_alloc HB.out _) hb); have bp := (hb.block w.heap.size (by simp)).trans (MapKept.heap_alloc w _).1; have k0 : w1.cell? ⟨w.heap.size, 0, none⟩ = some (.int .i64 p0) := (blk_cell bp 0).trans rfl; have k1 : w1.cell? ⟨w.heap.size, 1, none⟩ = some (.int .i64 p1) := (blk_cell bp 1).trans rfl; have HC1 := Aside0.mk hcl; clear hb bp hcl)
        | (go_at_call 70; with_reducible refine (QF0.out B w1 HB1.out HC1.out).mono ?_; rintro e w2 ⟨rfl, hb⟩; have HB2 := Aside0.mk (below_step HB1.out hb); have HC2 := Aside0.mk ((hb.cell (World.block_lt_of_cell? _ _ HC1.out)).trans HC1.out); have k3 := (hb.cell (World.block_lt_of_cell? _ _ k1)).trans k1; have k4 := fun o => ((below_alloc (Below.refl w2.heap.size w2) o).cell (World.block_lt_of_cell? w2 _ k3)).trans k3; clear hb QF0 HC1 HB1)
        | (go_at_call 70; refine (QF1.out B _ (below_alloc HB2.out _) (((below_alloc (Below.refl w2.heap.size w2) _).cell (World.block_lt_of_cell? w2 _ HC2.out)).trans HC2.out)).mono ?_; rintro e w3 ⟨rfl, hb⟩; have HB3 := Aside0.mk (below_step (below_alloc HB2.out _) hb); have bx3 := (hb.block w2.heap.size (by simp)).trans (MapKept.heap_alloc w2 _).1; have j6 : w3.cell? ⟨w2.heap.size, 6, none⟩ = some (.int .i64 x.f6) := (blk_cell bx3 6).trans rfl; have j7 : w3.cell? ⟨w2.heap.size, 7, none⟩ = some (.int .i64 x.f7) := (blk_cell bx3 7).trans rfl; have i6 := fun o => ((below_alloc (Below.refl w3.heap.size w3) o).cell (World.block_lt_of_cell? w3 _ j6)).trans j6; have i7 := fun o => ((below_alloc (Below.refl w3.heap.size w3) o).cell (World.block_lt_of_cell? w3 _ j7)).trans j7; clear hb bx3))
      repeat (go_quiet (fail); try go_wp2)
      refine bodyPost_ret (results_tmp3 rfl _ _ _) rfl ?_
      exact ⟨rfl, by first | exact below_alloc HB3.out _ | exact pw_below_drewN (below_alloc HB3.out _) _ | (apply pw_below_drewN; exact below_alloc HB3.out _)⟩
  exact go _ _ rfl rfl
end Go.Proofs.Ytjgpggjjgimibaa.L
