/- rpc.finder's closure, rpc.Gaps. -/
import Derived.Test.YtjgpggjjgimibaaBndA
import Derived.Test.YtjgpggjjgimibaaQx2
namespace Go.Proofs.Ytjgpggjjgimibaa.L
open Go.RowKit Go.Proofs.Ytjgpggjjgimibaa.Q Go.Proofs.YtjgpggjjgimibaaW.PrintWords Go.Proofs.YtjgpggjjgimibaaW.PrintLast Go.Proofs.YtjgpggjjgimibaaW.PrintMore Go.Proofs.YtjgpggjjgimibaaW.MapB Go.Proofs.YtjgpggjjgimibaaW.Lib
set_option linter.unusedVariables false
set_option linter.unusedSimpArgs false

theorem results_cell2 {fn : Func} {a b : Tmp} {t : TypeId} (h : fn.results = #[.cell a t, .tmp b]) (tmps : Array Value) (P : Program) (w : World) (ad : Addr) (v : Value) (ha : tmps.getD a undef = .pointer (some ad)) (hl : (loadVar t ad).run P w = .ok v w) :
    (results fn tmps).run P w = .ok (.tuple #[v, tmps.getD b undef]) w := by
  have ha' : tmps[a]?.getD undef = .pointer (some ad) := by rw [← ha]; simp
  have e : ∀ ad w, (asAddr (.pointer (some ad))).run P w = .ok ad w := fun _ _ => rfl
  simp [results, h, ha', hl, e]
/-- A value stored over a whole block. -/
theorem store_blk {P : Program} {ops : Array Oper} {rest : List Oper} {o : Oper} {a : Act} {Q : Exit → Act → World → Prop} {W : World} {k : Nat} {old : Array Value} (t : TypeId) (u : Value) (seg : List Value) (hN : o.dst = none) (hG : o.guard = none) (p x : Operand) (hP : o.op = .store t p x)
    (haddr : a.eval p = .pointer (some ⟨k, 0, none⟩)) (hx : a.eval x = u) (hu : u.cells.toList = seg) (ht : (P.info? t).map (·.size) = some seg.length) (h1 : ∀ q ∈ seg, q.oneCell' = true) (hb : W.heap[k]? = some (.cells old t (0, 0))) (hsz : old.size = seg.length)
    (h : ∀ W', W'.heap[k]? = some (.cells seg.toArray t (0, 0)) → W.grownBy W' (some k) → wpList P ops Q rest a W') : wpList P ops Q (o :: rest) a W := by
  obtain ⟨cur', hc, hs, hl⟩ := setCells_row seg 0 W old hb (by omega)
  have hcur : cur' = seg.toArray := by
    apply Array.toList_inj.1
    rw [hl]
    simp [← hsz]
  have hrun : (Instr.storeAt t (.pointer (some ⟨k, 0, none⟩)) u).run P W = .ok () (W.setCells k 0 seg) := run_store_run t u seg hb hu ht (by omega) h1
  obtain ⟨s1, s2, s3, s4⟩ := setCells_same k seg 0 W
  have hg : W.grownBy (W.setCells k 0 seg) (some k) := ⟨s1, s2, s3, by omega, fun i _ hi => setCells_far seg 0 i (fun e => hi (by rw [e]))⟩
  refine wpList_plain hG fun K hK => ?_
  unfold Oper.wp execOp
  simp only [hP, haddr, hx, Sem.run_bind, Sem.run_pure, Result.andThen_ok, hrun]
  show K (a.put o.dst undef) _
  rw [hN]
  exact hK a _ (h _ (by rw [hc, hcur]) hg)
/-- What the finder gives at a place. -/
def findS (m : S42 → Bool) (l : List S42) (i : Int) : S42 × Bool := if 0 ≤ i ∧ i < l.length ∧ m (rd_T42 l i) = true then (rd_T42 l i, true) else (z42, false)
theorem load_span (W : World) (k : Nat) (s : S42) (h : W.heap[k]? = some (.cells #[.int .u64 s.f0, .int .u64 s.f1, .int .u64 s.f2, .int .u8 s.f3, .string s.f4, .string s.f5, .int .i64 s.f6, .int .i64 s.f7] 42 (0, 0))) :
    (loadVar 42 ⟨k, 0, none⟩).run Try.prog W = .ok (.agg #[.int .u64 s.f0, .int .u64 s.f1, .int .u64 s.f2, .int .u8 s.f3, .string s.f4, .string s.f5, .int .i64 s.f6, .int .i64 s.f7]) W := by
  have c0 : W.cell? ⟨k, 0, none⟩ = _ := (blk_cell h 0).trans rfl
  have c1 : W.cell? ⟨k, 1, none⟩ = _ := (blk_cell h 1).trans rfl
  have c2 : W.cell? ⟨k, 2, none⟩ = _ := (blk_cell h 2).trans rfl
  have c3 : W.cell? ⟨k, 3, none⟩ = _ := (blk_cell h 3).trans rfl
  have c4 : W.cell? ⟨k, 4, none⟩ = _ := (blk_cell h 4).trans rfl
  have c5 : W.cell? ⟨k, 5, none⟩ = _ := (blk_cell h 5).trans rfl
  have c6 : W.cell? ⟨k, 6, none⟩ = _ := (blk_cell h 6).trans rfl
  have c7 : W.cell? ⟨k, 7, none⟩ = _ := (blk_cell h 7).trans rfl
  clear h
  go_simp
set_option maxHeartbeats 4000000 in
set_option maxRecDepth 100000 in
theorem found_calls (m : S42 → Bool) (l : List S42) (hm : ∀ s ∈ l, ∃ k, span_May.f k s.f0 s.f1 s.f2 s.f3 s.f4 s.f5 s.f6 s.f7 = some (m s)) (i : Int) (A0 : Option Addr) (c0 B : Nat) (w : World) (hr : Kd.C k42 w A0 l.length l) (hcell : w.cell? ⟨B, 0, none⟩ = some (.slice A0 l.length c0)) :
    Calls Try.prog 70 #[.int .i64 i, .pointer (some ⟨B, 0, none⟩)] w fun e w' => e = .returned (.tuple #[.agg #[.int .u64 (findS m l i).1.f0, .int .u64 (findS m l i).1.f1, .int .u64 (findS m l i).1.f2, .int .u8 (findS m l i).1.f3, .string (findS m l i).1.f4, .string (findS m l i).1.f5, .int .i64 (findS m l i).1.f6, .int .i64 (findS m l i).1.f7], .bool (findS m l i).2]) ∧ Below w.heap.size w w' := by
  have HB := Aside0.mk (Below.refl w.heap.size w)
  have hc1 : ∀ o, (w.alloc o).cell? ⟨B, 0, none⟩ = some (.slice A0 l.length c0) := fun o => ((below_alloc HB.out o).cell (World.block_lt_of_cell? w _ hcell)).trans hcell
  by_cases h0 : i < 0
  · have e : findS m l i = (z42, false) := by unfold findS; rw [if_neg (by omega)]
    rw [e]
    have b0 : decide (i < 0) = true := decide_eq_true h0
    clear e hm hr h0
    go_enter Try.func70, Try.ntmps70
    go_wp2_with fail
    refine bodyPost_ret (results_cell2 rfl _ _ _ _ _ rfl (load_span _ _ z42 (MapKept.heap_alloc w _).1)) rfl ⟨rfl, below_alloc HB.out _⟩
  · have b0 : decide (i < 0) = false := decide_eq_false h0
    by_cases h1 : i < (l.length : Int)
    · have b1 : decide ((l.length : Int) ≤ i) = false := decide_eq_false (by omega)
      have p0 : 0 ≤ i := by omega
      obtain ⟨ad, e1, hx0, hx1, hx2, hx3, hx4, hx5, hx6, hx7⟩ := at_T42 hr i p0 h1
      cases e1
      replace hx0 := fun o => ((below_alloc HB.out o).cell (World.block_lt_of_cell? w _ hx0)).trans hx0
      replace hx1 := fun o => ((below_alloc HB.out o).cell (World.block_lt_of_cell? w _ hx1)).trans hx1
      replace hx2 := fun o => ((below_alloc HB.out o).cell (World.block_lt_of_cell? w _ hx2)).trans hx2
      replace hx3 := fun o => ((below_alloc HB.out o).cell (World.block_lt_of_cell? w _ hx3)).trans hx3
      replace hx4 := fun o => ((below_alloc HB.out o).cell (World.block_lt_of_cell? w _ hx4)).trans hx4
      replace hx5 := fun o => ((below_alloc HB.out o).cell (World.block_lt_of_cell? w _ hx5)).trans hx5
      replace hx6 := fun o => ((below_alloc HB.out o).cell (World.block_lt_of_cell? w _ hx6)).trans hx6
      replace hx7 := fun o => ((below_alloc HB.out o).cell (World.block_lt_of_cell? w _ hx7)).trans hx7
      have hit : i.toNat < l.length := by omega
      have hmem : rd_T42 l i ∈ l := by
        rw [show rd_T42 l i = l[i.toNat] by simp [rd_T42, List.getD, hit]]
        exact List.getElem_mem _
      obtain ⟨km, hkm⟩ := hm _ hmem
      have QM := Aside0.mk (fun W => span_May.calls km _ _ _ _ _ _ _ _ _ W hkm)
      have hq : findS m l i = if m (rd_T42 l i) = true then (rd_T42 l i, true) else (z42, false) := by
        unfold findS
        by_cases hv : m (rd_T42 l i) = true
        · rw [if_pos ⟨p0, h1, hv⟩, if_pos hv]
        · rw [if_neg (fun h => hv h.2.2), if_neg hv]
      rw [hq]
      clear hq hkm hmem hm hr hit h0
      generalize rd_T42 l i = s at *
      replace p0 := eq_true p0
      replace h1 := eq_true h1
      cases hv : m s with
      | true =>
        rw [hv] at QM
        rw [if_pos rfl]
        clear hv
        go_enter Try.func70, Try.ntmps70
        go_wp2_with (first | (go_at_call 63; refine (QM.out _).mono ?_; rintro e w1 ⟨rfl, hb⟩; have HB1 := Aside0.mk (below_step (below_alloc HB.out _) hb); have BK := Aside0.mk ((hb.block w.heap.size (by simp)).trans (MapKept.heap_alloc w _).1); have hc2 : w1.cell? ⟨B, 0, none⟩ = _ := (hb.cell (World.block_lt_of_cell? _ _ (hc1 _))).trans (hc1 _); have hy0 := (hb.cell (World.block_lt_of_cell? _ _ (hx0 _))).trans (hx0 _); have hy1 := (hb.cell (World.block_lt_of_cell? _ _ (hx1 _))).trans (hx1 _); have hy2 := (hb.cell (World.block_lt_of_cell? _ _ (hx2 _))).trans (hx2 _); have hy3 := (hb.cell (World.block_lt_of_cell? _ _ (hx3 _))).trans (hx3 _); have hy4 := (hb.cell (World.block_lt_of_cell? _ _ (hx4 _))).trans (hx4 _); have hy5 := (hb.cell (World.block_lt_of_cell? _ _ (hx5 _))).trans (hx5 _); have hy6 := (hb.cell (World.block_lt_of_cell? _ _ (hx6 _))).trans (hx6 _); have hy7 := (hb.cell (World.block_lt_of_cell? _ _ (hx7 _))).trans (hx7 _); clear hb) | ((with_reducible refine gate_store (t := 42) (p := 3) rfl ?_); refine store_blk 42 _ [.int .u64 s.f0, .int .u64 s.f1, .int .u64 s.f2, .int .u8 s.f3, .string s.f4, .string s.f5, .int .i64 s.f6, .int .i64 s.f7] rfl rfl (.tmp 3) (.tmp 25) rfl rfl rfl rfl (by kernel_rfl) (by intro q hq; simp only [List.mem_cons, List.not_mem_nil, or_false] at hq; rcases hq with rfl | rfl | rfl | rfl | rfl | rfl | rfl | rfl <;> rfl) BK.out rfl ?_; intro w2 hbk hg; have BK2 := Aside0.mk hbk; have HB2 := Aside0.mk (HB1.out.grown hg HB1.out.size (fun j hj => by cases hj; exact Nat.le_refl _)); clear hbk hg))
        refine bodyPost_ret (results_cell2 rfl _ _ _ _ _ rfl (load_span _ _ s BK2.out)) rfl ⟨rfl, HB2.out⟩
      | false =>
        rw [hv] at QM
        rw [if_neg (by simp)]
        clear hv
        go_enter Try.func70, Try.ntmps70
        go_wp2_with (first | (go_at_call 63; refine (QM.out _).mono ?_; rintro e w1 ⟨rfl, hb⟩; have HB1 := Aside0.mk (below_step (below_alloc HB.out _) hb); have BK := Aside0.mk ((hb.block w.heap.size (by simp)).trans (MapKept.heap_alloc w _).1); have hc2 : w1.cell? ⟨B, 0, none⟩ = _ := (hb.cell (World.block_lt_of_cell? _ _ (hc1 _))).trans (hc1 _); have hy0 := (hb.cell (World.block_lt_of_cell? _ _ (hx0 _))).trans (hx0 _); have hy1 := (hb.cell (World.block_lt_of_cell? _ _ (hx1 _))).trans (hx1 _); have hy2 := (hb.cell (World.block_lt_of_cell? _ _ (hx2 _))).trans (hx2 _); have hy3 := (hb.cell (World.block_lt_of_cell? _ _ (hx3 _))).trans (hx3 _); have hy4 := (hb.cell (World.block_lt_of_cell? _ _ (hx4 _))).trans (hx4 _); have hy5 := (hb.cell (World.block_lt_of_cell? _ _ (hx5 _))).trans (hx5 _); have hy6 := (hb.cell (World.block_lt_of_cell? _ _ (hx6 _))).trans (hx6 _); have hy7 := (hb.cell (World.block_lt_of_cell? _ _ (hx7 _))).trans (hx7 _); clear hb) | ((with_reducible refine gate_store (t := 42) (p := 3) rfl ?_); refine store_blk 42 _ [.int .u64 z42.f0, .int .u64 z42.f1, .int .u64 z42.f2, .int .u8 z42.f3, .string z42.f4, .string z42.f5, .int .i64 z42.f6, .int .i64 z42.f7] rfl rfl (.tmp 3) (.tmp 21) rfl rfl rfl rfl (by kernel_rfl) (by intro q hq; simp only [List.mem_cons, List.not_mem_nil, or_false] at hq; rcases hq with rfl | rfl | rfl | rfl | rfl | rfl | rfl | rfl <;> rfl) BK.out rfl ?_; intro w2 hbk hg; have BK2 := Aside0.mk hbk; have HB2 := Aside0.mk (HB1.out.grown hg HB1.out.size (fun j hj => by cases hj; exact Nat.le_refl _)); clear hbk hg))
        refine bodyPost_ret (results_cell2 rfl _ _ _ _ _ rfl (load_span _ _ z42 BK2.out)) rfl ⟨rfl, HB2.out⟩
    · have e : findS m l i = (z42, false) := by unfold findS; rw [if_neg (by omega)]
      rw [e]
      have b1 : decide ((l.length : Int) ≤ i) = true := decide_eq_true (by omega)
      clear e hm hr h0 h1
      go_enter Try.func70, Try.ntmps70
      go_wp2_with fail
      refine bodyPost_ret (results_cell2 rfl _ _ _ _ _ rfl (load_span _ _ z42 (MapKept.heap_alloc w _).1)) rfl ⟨rfl, below_alloc HB.out _⟩
end Go.Proofs.Ytjgpggjjgimibaa.L
