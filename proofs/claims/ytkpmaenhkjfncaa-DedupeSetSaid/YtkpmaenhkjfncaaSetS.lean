/- A span stored into a row, in a region that draws: the row and the frame behind it. -/
import Derived.Test.YtkpmaenhkjfncaaDedG
namespace Go.Proofs.Ytkpmaenhkjfncaa.L
open Go.RowKit Go.Proofs.Ytkpmaenhkjfncaa.Q Go.Proofs.YtkpmaenhkjfncaaW.PrintWords Go.Proofs.YtkpmaenhkjfncaaW.PrintLast Go.Proofs.YtkpmaenhkjfncaaW.PrintMore Go.Proofs.YtkpmaenhkjfncaaW.MapB Go.Proofs.YtkpmaenhkjfncaaW.Lib
set_option linter.unusedVariables false
set_option maxRecDepth 100000 in
theorem store_here {ops : Array Oper} {o : Oper} {a : Act} {Q : Exit → Act → World → Prop} {K : Act → World → Prop} {w0 W : World} {base g n cap o' : Nat} (xi : Int) (m : List Span) (s : Span) (p x : Operand) (hP : o.op = .store 27 p x)
    (hw : Region.wanted o (yielded ops a.tmps) = true) (hN : o.dst = none)
    (haddr : a.eval p = .pointer (some ⟨g, o', none⟩)) (hoff : o' = xi.toNat * 8) (hx : a.eval x = .agg #[.int .u64 s.f0, .int .u64 s.f1, .int .u64 s.f2, .int .u8 s.f3, .string s.f4, .string s.f5, .int .i64 s.f6, .int .i64 s.f7]) (HO : Kd.R k27 27 W base (fun _ => True) (.slice (some ⟨g, 0, none⟩) n cap) m) (h0 : 0 ≤ xi) (h1 : xi < n) (HB : Below base w0 W)
    (h : ∀ w1, Kd.R k27 27 w1 base (fun _ => True) (.slice (some ⟨g, 0, none⟩) n cap) (m.set xi.toNat s) → Below base w0 w1 → K a w1) : if Region.wanted o (yielded ops a.tmps) = true then Oper.wp Try.prog o a W K Q else K (a.put none undef) W := by
  obtain ⟨ce, hcl, hM, hcc, _⟩ := Kd.R_elem HO z27 xi h0 h1
  obtain rfl := k27_openM hM
  subst hoff
  have hbg : base ≤ g := Kd.R_base HO g (by simp [Value.ownBlock])
  have hnx : n = m.length := (Kd.R_reads' HO).1
  obtain ⟨hrow, hg⟩ := Kd.R_seg (seg := [.int .u64 s.f0, .int .u64 s.f1, .int .u64 s.f2, .int .u8 s.f3, .string s.f4, .string s.f5, .int .i64 s.f6, .int .i64 s.f7]) (j := 0) (okp := fun _ => False) HO xi h0 h1 hcl hcc (show 0 + 8 ≤ 8 by decide) (k27_mkM _ _ _ s) (fun _ h => h.elim)
  have hB : Below base w0 (W.setCells g (xi.toNat * 8 + 0) [.int .u64 s.f0, .int .u64 s.f1, .int .u64 s.f2, .int .u8 s.f3, .string s.f4, .string s.f5, .int .i64 s.f6, .int .i64 s.f7]) := HB.grown hg (Nat.le_trans hbg (Nat.le_of_lt (World.block_lt_of_cell? W _ (hcc 0 _ rfl)))) (fun j hj => by cases hj; exact hbg)
  have hrun : (Instr.storeAt 27 (.pointer (some ⟨g, xi.toNat * 8, none⟩)) (.agg #[.int .u64 s.f0, .int .u64 s.f1, .int .u64 s.f2, .int .u8 s.f3, .string s.f4, .string s.f5, .int .i64 s.f6, .int .i64 s.f7])).run Try.prog W = .ok () (W.setCells g (xi.toNat * 8 + 0) [.int .u64 s.f0, .int .u64 s.f1, .int .u64 s.f2, .int .u8 s.f3, .string s.f4, .string s.f5, .int .i64 s.f6, .int .i64 s.f7]) := by
    obtain ⟨_, inner, hown, hr⟩ := HO
    rcases hown.2 with ⟨hv, _⟩ | ⟨g', cap', cur, hv, hb, hh, hnc, hcm, hcs, _⟩
    · cases hv
    injection hv with ha _ hc
    injection ha with ha
    injection ha with hg'
    subst hg'; subst hc
    refine run_store_run 27 _ _ hh rfl (by kernel_rfl) ?_ (fun q hq => ?_)
    · have h2 : xi.toNat * 8 + 8 ≤ n * 8 := by omega
      have h3 : n * 8 ≤ cap * 8 := Nat.mul_le_mul_right _ (by omega)
      have hk : k27.sz = 8 := rfl
      simp only [hk] at hcs
      simp only [List.length_cons, List.length_nil]
      omega
    · simp only [List.mem_cons, List.not_mem_nil, or_false] at hq
      rcases hq with rfl | rfl | rfl | rfl | rfl | rfl | rfl | rfl <;> rfl
  rw [if_pos hw]
  unfold Oper.wp execOp
  simp only [hP, haddr, hx, Sem.run_bind, Sem.run_pure, Result.andThen_ok, hrun]
  show K (a.put o.dst undef) _
  rw [hN]
  exact h _ hrow hB
end Go.Proofs.Ytkpmaenhkjfncaa.L
