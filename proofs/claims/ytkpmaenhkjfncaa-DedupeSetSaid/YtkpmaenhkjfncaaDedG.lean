/- dedupe.Of: the records of a trace that count. -/
import Derived.Test.YtkpmaenhkjfncaaDedL
import Derived.Test.YtkpmaenhkjfncaaNumG
import Derived.StillTailTactics
import Derived.Test.YtkpmaenhkjfncaaQx2
import Derived.Test.YtkpmaenhkjfncaaQx3
namespace Go.Proofs.Ytkpmaenhkjfncaa.L
open Go.RowKit Go.Proofs.Ytkpmaenhkjfncaa.Q Go.Proofs.YtkpmaenhkjfncaaW.PrintWords Go.Proofs.YtkpmaenhkjfncaaW.PrintLast Go.Proofs.YtkpmaenhkjfncaaW.PrintMore Go.Proofs.YtkpmaenhkjfncaaW.MapB Go.Proofs.YtkpmaenhkjfncaaW.Lib Go.Maps Go.WideMaps
set_option linter.unusedVariables false

theorem lawU64 : Keyed Try.prog 25 := int_keyed Try.underlying25
theorem may_calls (s : Span) (h4 : s.f4.size ≤ 140737488351232) (h5 : s.f5.size ≤ 140737488351232) (w : World) :
    Calls Try.prog 49 #[.agg #[.int .u64 s.f0, .int .u64 s.f1, .int .u64 s.f2, .int .u8 s.f3, .string s.f4, .string s.f5, .int .i64 s.f6, .int .i64 s.f7]] w fun e w' => e = .returned (.bool (mayB s.f0 s.f1 s.f2 s.f3 s.f4 s.f5 s.f6 s.f7)) ∧ Below w.heap.size w w' := by
  obtain ⟨k, hk⟩ := Ev.rounds (may_ev s.f0 s.f1 s.f2 s.f3 s.f4 s.f5 s.f6 s.f7 h4 h5)
  exact span_May.calls k _ _ _ _ _ _ _ _ _ w hk
theorem cmp_calls (s m : Span) (w : World) :
    Calls Try.prog 50 #[.agg #[.int .u64 s.f0, .int .u64 s.f1, .int .u64 s.f2, .int .u8 s.f3, .string s.f4, .string s.f5, .int .i64 s.f6, .int .i64 s.f7], .agg #[.int .u64 m.f0, .int .u64 m.f1, .int .u64 m.f2, .int .u8 m.f3, .string m.f4, .string m.f5, .int .i64 m.f6, .int .i64 m.f7]] w fun e w' => e = .returned (.int .i64 (cmpS s m)) ∧ Below w.heap.size w w' := by
  obtain ⟨k, hk⟩ := Ev.rounds (cmp_ev s m)
  exact span_Cmp.calls k _ _ _ _ _ _ _ _ _ _ _ _ _ _ _ _ _ w hk
theorem new_block (w : World) (cs : Array Value) (t : TypeId) : (w.alloc (.cells cs t)).heap[w.heap.size]? = some (.cells cs t (0, 0)) := (MapKept.heap_alloc w _).1
theorem store_span {ops : Array Oper} {rest : List Oper} {o : Oper} {a : Act} {Q : Exit → Act → World → Prop} {w0 W : World} {base g n cap o' : Nat} (xi : Int) (m : List Span) (s : Span) (hN : o.dst = none) (hG : o.guard = none) (p x : Operand) (hP : o.op = .store 27 p x)
    (haddr : a.eval p = .pointer (some ⟨g, o', none⟩)) (hoff : o' = xi.toNat * 8) (hx : a.eval x = .agg #[.int .u64 s.f0, .int .u64 s.f1, .int .u64 s.f2, .int .u8 s.f3, .string s.f4, .string s.f5, .int .i64 s.f6, .int .i64 s.f7]) (HO : Kd.R k27 27 W base (fun _ => True) (.slice (some ⟨g, 0, none⟩) n cap) m) (h0 : 0 ≤ xi) (h1 : xi < n) (HB : Below base w0 W)
    (h : ∀ w1, Kd.R k27 27 w1 base (fun _ => True) (.slice (some ⟨g, 0, none⟩) n cap) (m.set xi.toNat s) → Below base w0 w1 → W.grownBy w1 (some g) → wpList Try.prog ops Q rest a w1) : wpList Try.prog ops Q (o :: rest) a W := by
  obtain ⟨ce, hcl, hM, hcc, _⟩ := Kd.R_elem HO z27 xi h0 h1
  obtain rfl := k27_openM hM
  refine Kd.R_store k27 (w0 := w0) (o' := o') base hN hG 27 p x hP 27 xi 0 m s (.agg #[.int .u64 s.f0, .int .u64 s.f1, .int .u64 s.f2, .int .u8 s.f3, .string s.f4, .string s.f5, .int .i64 s.f6, .int .i64 s.f7]) [.int .u64 s.f0, .int .u64 s.f1, .int .u64 s.f2, .int .u8 s.f3, .string s.f4, .string s.f5, .int .i64 s.f6, .int .i64 s.f7] _ (fun _ => True) (fun _ => False) haddr (by rw [hoff]; rfl) hx rfl (by kernel_rfl) ?_ HO h0 h1 hcl hcc (show 0 + 8 ≤ 8 by decide) (k27_mkM _ _ _ s) (fun _ h => h.elim) HB h
  intro q hq
  simp only [List.mem_cons, List.not_mem_nil, or_false] at hq
  rcases hq with rfl | rfl | rfl | rfl | rfl | rfl | rfl | rfl <;> rfl
theorem metD_next (t : Int) (l : List Span) (x : Int) (h0 : 0 ≤ x) (h1 : x < l.length) : metD t (l.take (x + 1).toNat) = stepD cmpS (·.f1) (okS t) (metD t (l.take x.toNat)) (rd_T27 l x) := by
  have h3 : x.toNat < l.length := by omega
  rw [show (x + 1).toNat = x.toNat + 1 by omega, List.take_succ_eq_append_getElem h3]
  unfold metD
  rw [List.foldl_append]
  simp [rd_T27, List.getD, h3]

set_option maxHeartbeats 8000000 in
set_option maxRecDepth 100000 in
theorem of_calls (l0 : List Span) (a1 : Int) (hl : l0.length ≤ 1759218604441) (hf : ∀ x ∈ l0, fitS x) (A0 : Option Addr) (c0 : Nat) (w : World) (hr0 : Kd.C k27 w A0 l0.length l0) (hc0 : l0.length ≤ c0) :
    Calls Try.prog 35 #[.slice A0 l0.length c0, .int .u64 a1] w fun e w' => ∃ v : Value, e = .returned v ∧ Kd.R k27 27 w' w.heap.size (fun _ => True) v (ofD l0 a1) ∧ Below w.heap.size w w' := by
  have hmm := @run_makeMap Try.prog
  have HR0 := Aside0.mk hr0
  have HL := Aside0.mk hl
  have HF := Aside0.mk hf
  have HB0 := Aside0.mk (Below.refl w.heap.size w)
  clear hr0 hc0 hl hf
  go_enter Try.func35, Try.ntmps35
  go_wp2_with fail
  go_loopg [6, 14] l0.length (fun kq v6 v14 w' => ∃ x14 : Int, v14 = .int .i64 x14 ∧ Aside0 (0 ≤ x14 ∧ x14 + kq = l0.length) ∧ Aside0 (Kd.R k27 27 w' w.heap.size (fun _ => True) v6 (metD a1 (l0.take x14.toNat))) ∧ Aside0 (w'.ownsMap Try.prog 25 (plainElem Try.prog 3) w.heap.size (metD a1 (l0.take x14.toNat)).length (idsD (metD a1 (l0.take x14.toNat)))) ∧ Aside0 (Below w.heap.size w w'))
  case atStart => exact ⟨0, rfl, ⟨by omega, by omega⟩, ⟨Kd.R_nil _ _ _ _ _⟩, ⟨World.ownsMap_made _ _ _ _⟩, ⟨(Below.refl _ _).alloc (Nat.le_refl _) _⟩⟩
  case round =>
    obtain ⟨x14, rfl, HK, HO, HM, HB⟩ := hrel
    by_cases c1 : x14 < (l0.length : Int)
    · have c1b := decide_eq_true c1
      have p1 : 0 ≤ x14 := HK.out.1
      obtain ⟨ad1, e1, hx1_0, hx1_1, hx1_2, hx1_3, hx1_4, hx1_5, hx1_6, hx1_7⟩ := at_T27 HR0.out x14 p1 c1
      cases e1
      replace hx1_0 := (HB.out.cell (World.block_lt_of_cell? w _ hx1_0)).trans hx1_0
      replace hx1_1 := (HB.out.cell (World.block_lt_of_cell? w _ hx1_1)).trans hx1_1
      replace hx1_2 := (HB.out.cell (World.block_lt_of_cell? w _ hx1_2)).trans hx1_2
      replace hx1_3 := (HB.out.cell (World.block_lt_of_cell? w _ hx1_3)).trans hx1_3
      replace hx1_4 := (HB.out.cell (World.block_lt_of_cell? w _ hx1_4)).trans hx1_4
      replace hx1_5 := (HB.out.cell (World.block_lt_of_cell? w _ hx1_5)).trans hx1_5
      replace hx1_6 := (HB.out.cell (World.block_lt_of_cell? w _ hx1_6)).trans hx1_6
      replace hx1_7 := (HB.out.cell (World.block_lt_of_cell? w _ hx1_7)).trans hx1_7
      have P1 := Aside0.mk p1
      have Q1 := Aside0.mk c1
      have HNext := Aside0.mk (metD_next a1 l0 x14 p1 c1)
      have HFit := Aside0.mk (HF.out _ (rdS_mem p1 c1))
      have HIds := Aside0.mk (metD_counts a1 (l0.take x14.toNat)).ids
      have HMl := Aside0.mk (metD_length a1 (l0.take x14.toNat))
      generalize rd_T27 l0 x14 = s at *
      have HTk := Aside0.mk (show (l0.take x14.toNat).length ≤ x14.toNat from by rw [List.length_take]; omega)
      generalize hm : metD a1 (l0.take x14.toNat) = m at *
      clear hm
      replace p1 := eq_true p1
      replace c1 := eq_true c1
      have W1 := Aside0.mk (show wrap64 (x14 + 1) = x14 + 1 from by unfold wrap64; have := HL.out; have := P1.out; have := Q1.out; omega)
      have HMn := Aside0.mk (show m.length < 1759218604441 from by have := HL.out; have := P1.out; have := Q1.out; have := HMl.out; have := HTk.out; omega)
      obtain ⟨k1, rfl⟩ : ∃ k1, gk = k1 + 1 := ⟨gk - 1, by have := HK.out; have := Q1.out; omega⟩
      obtain ⟨A6, n6, rfl⟩ := Kd.R_slice HO.out
      by_cases hok : okS a1 s = true
      · have hok2 : s.f0 = a1 ∧ mayB s.f0 s.f1 s.f2 s.f3 s.f4 s.f5 s.f6 s.f7 = true := by simpa [okS] using hok
        have q1 : (s.f0 != a1) = false := by simp [hok2.1]
        have q2 : decide (s.f0 = a1) = true := by simp [hok2.1]
        have QM := Aside0.mk (may_calls s HFit.out.2.1 HFit.out.2.2)
        rw [hok2.2] at QM
        have HKey := Aside0.mk (keyOf_int_mk Try.underlying25 HFit.out.1)
        have HOk := Aside0.mk hok
        clear hok hok2
        cases hfi : m.findIdx? (fun x => decide (x.f1 = s.f1)) with
        | none =>
          have HN := Aside0.mk (idsD_none hfi (.lit (.int .i64 0)))
          have HFi := Aside0.mk hfi
          clear hfi
          go_wp2_with (first
            | (go_at_call 49; refine (QM.out _).mono ?_; rintro e w1 ⟨rfl, hb⟩; have HB1 := Aside0.mk (below_step (below_alloc HB.out _) hb); have HM1 := Aside0.mk (map_below (HM.out.alloc _) hb); have HO1 := Aside0.mk (Kd.R_below (Kd.R_alloc HO.out _) hb); have bk := (hb.block wr.heap.size (by simp)).trans (new_block wr #[.int .u64 s.f0, .int .u64 s.f1, .int .u64 s.f2, .int .u8 s.f3, .string s.f4, .string s.f5, .int .i64 s.f6, .int .i64 s.f7] 27); have BK := Aside0.mk bk; have hk0 : w1.cell? ⟨wr.heap.size, 0, none⟩ = some (.int .u64 s.f0) := (blk_cell bk 0).trans rfl; have hk1 : w1.cell? ⟨wr.heap.size, 1, none⟩ = some (.int .u64 s.f1) := (blk_cell bk 1).trans rfl; have hk2 : w1.cell? ⟨wr.heap.size, 2, none⟩ = some (.int .u64 s.f2) := (blk_cell bk 2).trans rfl; have hk3 : w1.cell? ⟨wr.heap.size, 3, none⟩ = some (.int .u8 s.f3) := (blk_cell bk 3).trans rfl; have hk4 : w1.cell? ⟨wr.heap.size, 4, none⟩ = some (.string s.f4) := (blk_cell bk 4).trans rfl; have hk5 : w1.cell? ⟨wr.heap.size, 5, none⟩ = some (.string s.f5) := (blk_cell bk 5).trans rfl; have hk6 : w1.cell? ⟨wr.heap.size, 6, none⟩ = some (.int .i64 s.f6) := (blk_cell bk 6).trans rfl; have hk7 : w1.cell? ⟨wr.heap.size, 7, none⟩ = some (.int .i64 s.f7) := (blk_cell bk 7).trans rfl; have HLt := Aside0.mk (show wr.heap.size < w1.heap.size from Nat.lt_of_lt_of_le (by simp) hb.size); clear hb bk)
            | (at_lookup; refine lookup_ok_known _ rfl _ _ 73 rfl 25 3 .i64 lawU64 Try.underlying73 Try.underlying3 (zeroInt _) w.heap.size m.length (idsD m) rfl HM1.out _ _ rfl HKey.out 0 HN.out.1 false HN.out.2 ?_)
            | (at_mapUpdate; refine wpList_mapUpdate_own _ rfl _ _ _ 73 rfl 25 3 lawU64 Try.underlying73 _ w.heap.size m.length _ rfl HM1.out ?mN _ _ _ rfl rfl HKey.out _ [] (plainElem_int Try.underlying3 ?mW) ?_; (case mN => have := HMn.out; show m.length < 9223372036854775807; omega); (case mW => exact WalkArith.wf_i64 (by have := HMn.out; omega)); intro w2 hown2 hgrow2; have HM2 := Aside0.mk hown2; have HO2 := Aside0.mk (row_kept HM1.out HO1.out hgrow2); have HB2 := Aside0.mk (below_map HB1.out hgrow2 (Nat.le_refl _) HB1.out.size); have bk2 := (hgrow2.block wr.heap.size HLt.out (fun h => Nat.ne_of_gt HM.out.lt (Option.some.inj h))).trans BK.out; clear hown2 hgrow2 hk0 hk1 hk2 hk3 hk4 hk5 hk6 hk7; have hj0 : w2.cell? ⟨wr.heap.size, 0, none⟩ = some (.int .u64 s.f0) := (blk_cell bk2 0).trans rfl; have hj1 : w2.cell? ⟨wr.heap.size, 1, none⟩ = some (.int .u64 s.f1) := (blk_cell bk2 1).trans rfl; have hj2 : w2.cell? ⟨wr.heap.size, 2, none⟩ = some (.int .u64 s.f2) := (blk_cell bk2 2).trans rfl; have hj3 : w2.cell? ⟨wr.heap.size, 3, none⟩ = some (.int .u8 s.f3) := (blk_cell bk2 3).trans rfl; have hj4 : w2.cell? ⟨wr.heap.size, 4, none⟩ = some (.string s.f4) := (blk_cell bk2 4).trans rfl; have hj5 : w2.cell? ⟨wr.heap.size, 5, none⟩ = some (.string s.f5) := (blk_cell bk2 5).trans rfl; have hj6 : w2.cell? ⟨wr.heap.size, 6, none⟩ = some (.int .i64 s.f6) := (blk_cell bk2 6).trans rfl; have hj7 : w2.cell? ⟨wr.heap.size, 7, none⟩ = some (.int .i64 s.f7) := (blk_cell bk2 7).trans rfl; clear bk2)
            | ((with_reducible refine gate_builtin (b := .append) (xs := #[.tmp 42, .tmp 44]) rfl ?_); at_builtin; refine Kd.R_append k27 (w0 := w) w.heap.size rfl (.tmp 42) (.tmp 44) 23 27 (.agg #[(.int .u64 0), (.int .u64 0), (.int .u64 0), (.int .u8 0), (.string ⟨#[]⟩), (.string ⟨#[]⟩), (.int .i64 0), (.int .i64 0)]) 80 rfl Try.underlying23 info27 rfl (by decide) (by omega) (.slice A6 m.length n6) m s [.int .u64 s.f0, .int .u64 s.f1, .int .u64 s.f2, .int .u8 s.f3, .string s.f4, .string s.f5, .int .i64 s.f6, .int .i64 s.f7] (fun _ => True) (fun _ => False) rfl ?aX ?aP (fun _ hk => hk.elim) ?aF ?aO ?aB ?aS ?aL ?_; (case aX => first | rfl | (go_simp; done) | (simp; done)); (case aP => exact k27_mkM _ _ _ s); (case aB => exact HB2.out); (case aF => exact (fun _ _ => trivial)); (case aO => exact HO2.out); (case aS => exact HB2.out.size); (case aL => have := HMn.out; show (m.length + 1) * 80 ≤ 140737488355328; omega); intro v3 w3 ho hb hg hat; have HO3 := Aside0.mk ho; have HB3 := Aside0.mk hb; have HM3 := Aside0.mk (map_kept HM2.out HO2.out hg); clear ho hb hg hat))
          go_roundg k1
          case measure => omega
          case rel =>
            have hst : stepD cmpS (·.f1) (okS a1) m s = m ++ [s] := by
              unfold stepD
              rw [if_pos HOk.out]
              simp only [HFi.out]
            refine ⟨x14 + 1, by rw [W1.out], ⟨by have := P1.out; omega, by have := HK.out; omega⟩, ?_, ?_, HB3⟩
            · rw [HNext.out, hst]; exact HO3
            · rw [HNext.out, hst, ← idsD_snoc, List.length_append]; exact HM3
        | some j =>
          have hj : j < m.length := by
            obtain ⟨h, _⟩ := List.findIdx?_eq_some_iff_getElem.1 hfi
            exact h
          obtain ⟨xi, hxi⟩ : ∃ xi : Int, (j : Int) = xi := ⟨_, rfl⟩
          have hx0 : 0 ≤ xi := by omega
          have hx1 : xi < (m.length : Int) := by omega
          have hxj : xi.toNat = j := by omega
          have hN := idsD_some HIds.out hfi (.lit (.int .i64 0))
          rw [hxi] at hN
          have HN := Aside0.mk hN
          have HSet := Aside0.mk (idsD_set hfi)
          have hy : m.getD j s = rd_T27 m xi := by
            unfold rd_T27
            rw [hxj]
            simp [List.getD, hj]
          have hst : stepD cmpS (·.f1) (okS a1) m s = if cmpS s (rd_T27 m xi) < 0 then m.set xi.toNat s else m := by
            unfold stepD
            rw [if_pos HOk.out]
            simp only [hfi]
            rw [hy, hxj]
          have HSt := Aside0.mk hst
          have HXj := Aside0.mk hxj
          have X0 := Aside0.mk hx0
          have X1 := Aside0.mk hx1
          clear hN hst hy hfi hxi hxj hj
          obtain ⟨g6, cap6, e6, hg6⟩ := Kd.R_form HO.out (show 0 < m.length by omega)
          cases e6
          clear hg6
          have x0 := eq_true hx0
          have x1 := eq_true hx1
          clear hx0 hx1
          go_wp2_with (first
            | (go_at_call 49; refine (QM.out _).mono ?_; rintro e w1 ⟨rfl, hb⟩; have HB1 := Aside0.mk (below_step (below_alloc HB.out _) hb); have HM1 := Aside0.mk (map_below (HM.out.alloc _) hb); have HO1 := Aside0.mk (Kd.R_below (Kd.R_alloc HO.out _) hb); have bk := (hb.block wr.heap.size (by simp)).trans (new_block wr #[.int .u64 s.f0, .int .u64 s.f1, .int .u64 s.f2, .int .u8 s.f3, .string s.f4, .string s.f5, .int .i64 s.f6, .int .i64 s.f7] 27); have BK := Aside0.mk bk; have hk0 : w1.cell? ⟨wr.heap.size, 0, none⟩ = some (.int .u64 s.f0) := (blk_cell bk 0).trans rfl; have hk1 : w1.cell? ⟨wr.heap.size, 1, none⟩ = some (.int .u64 s.f1) := (blk_cell bk 1).trans rfl; have hk2 : w1.cell? ⟨wr.heap.size, 2, none⟩ = some (.int .u64 s.f2) := (blk_cell bk 2).trans rfl; have hk3 : w1.cell? ⟨wr.heap.size, 3, none⟩ = some (.int .u8 s.f3) := (blk_cell bk 3).trans rfl; have hk4 : w1.cell? ⟨wr.heap.size, 4, none⟩ = some (.string s.f4) := (blk_cell bk 4).trans rfl; have hk5 : w1.cell? ⟨wr.heap.size, 5, none⟩ = some (.string s.f5) := (blk_cell bk 5).trans rfl; have hk6 : w1.cell? ⟨wr.heap.size, 6, none⟩ = some (.int .i64 s.f6) := (blk_cell bk 6).trans rfl; have hk7 : w1.cell? ⟨wr.heap.size, 7, none⟩ = some (.int .i64 s.f7) := (blk_cell bk 7).trans rfl; have HLt := Aside0.mk (show wr.heap.size < w1.heap.size from Nat.lt_of_lt_of_le (by simp) hb.size); clear hb bk)
            | (at_lookup; refine lookup_ok_known _ rfl _ _ 73 rfl 25 3 .i64 lawU64 Try.underlying73 Try.underlying3 (zeroInt _) w.heap.size m.length (idsD m) rfl HM1.out _ _ rfl HKey.out xi HN.out.1 true HN.out.2 ?_))
          obtain ⟨ce, hcl, hM, hcc, hfr⟩ := Kd.R_elem HO1.out z27 xi X0.out X1.out
          obtain rfl := k27_openM hM
          refine wp_region_still_tail 5 (by kernel_rfl) (by kernel_rfl) ?_
          simp only [List.take_succ_cons, List.take_zero, List.drop_succ_cons, List.drop_zero]
          change wpStill _ _ w1.drew _ _ _
          obtain ⟨y, hy⟩ : ∃ y, rd_T27 m xi = y := ⟨_, rfl⟩
          have hgd : m.getD xi.toNat z27 = y := hy
          rw [hgd] at hcc
          rw [hy] at HSt
          have hW : ∃ W3, w1.drew = W3 := ⟨_, rfl⟩
          obtain ⟨W3, hW3⟩ := hW
          have hs0 : W3.cell? ⟨wr.heap.size, 0, none⟩ = some (.int .u64 s.f0) := by rw [← hW3]; exact hk0
          have hs1 : W3.cell? ⟨wr.heap.size, 1, none⟩ = some (.int .u64 s.f1) := by rw [← hW3]; exact hk1
          have hs2 : W3.cell? ⟨wr.heap.size, 2, none⟩ = some (.int .u64 s.f2) := by rw [← hW3]; exact hk2
          have hs3 : W3.cell? ⟨wr.heap.size, 3, none⟩ = some (.int .u8 s.f3) := by rw [← hW3]; exact hk3
          have hs4 : W3.cell? ⟨wr.heap.size, 4, none⟩ = some (.string s.f4) := by rw [← hW3]; exact hk4
          have hs5 : W3.cell? ⟨wr.heap.size, 5, none⟩ = some (.string s.f5) := by rw [← hW3]; exact hk5
          have hs6 : W3.cell? ⟨wr.heap.size, 6, none⟩ = some (.int .i64 s.f6) := by rw [← hW3]; exact hk6
          have hs7 : W3.cell? ⟨wr.heap.size, 7, none⟩ = some (.int .i64 s.f7) := by rw [← hW3]; exact hk7
          have hz0 : W3.cell? ⟨g6, xi.toNat * 8, none⟩ = some (.int .u64 y.f0) := by rw [← hW3]; exact hcc 0 _ rfl
          have hz1 : W3.cell? ⟨g6, xi.toNat * 8 + 1, none⟩ = some (.int .u64 y.f1) := by rw [← hW3]; exact hcc 1 _ rfl
          have hz2 : W3.cell? ⟨g6, xi.toNat * 8 + 2, none⟩ = some (.int .u64 y.f2) := by rw [← hW3]; exact hcc 2 _ rfl
          have hz3 : W3.cell? ⟨g6, xi.toNat * 8 + 3, none⟩ = some (.int .u8 y.f3) := by rw [← hW3]; exact hcc 3 _ rfl
          have hz4 : W3.cell? ⟨g6, xi.toNat * 8 + 4, none⟩ = some (.string y.f4) := by rw [← hW3]; exact hcc 4 _ rfl
          have hz5 : W3.cell? ⟨g6, xi.toNat * 8 + 5, none⟩ = some (.string y.f5) := by rw [← hW3]; exact hcc 5 _ rfl
          have hz6 : W3.cell? ⟨g6, xi.toNat * 8 + 6, none⟩ = some (.int .i64 y.f6) := by rw [← hW3]; exact hcc 6 _ rfl
          have hz7 : W3.cell? ⟨g6, xi.toNat * 8 + 7, none⟩ = some (.int .i64 y.f7) := by rw [← hW3]; exact hcc 7 _ rfl
          have HB2 := Aside0.mk (show Below w.heap.size w W3 from hW3 ▸ below_drew HB1.out)
          have HM2 := Aside0.mk (show W3.ownsMap Try.prog 25 (plainElem Try.prog 3) w.heap.size m.length (idsD m) from hW3 ▸ HM1.out.drew)
          have HO2 := Aside0.mk (show Kd.R k27 27 W3 w.heap.size (fun _ => True) (.slice (some ⟨g6, 0, none⟩) m.length n6) m from hW3 ▸ Kd.R_drew HO1.out)
          have BK2 := Aside0.mk (show W3.heap[wr.heap.size]? = some (.cells #[.int .u64 s.f0, .int .u64 s.f1, .int .u64 s.f2, .int .u8 s.f3, .string s.f4, .string s.f5, .int .i64 s.f6, .int .i64 s.f7] 27 (0, 0)) from hW3 ▸ BK.out)
          have HLt2 := Aside0.mk (show wr.heap.size < W3.heap.size from hW3 ▸ HLt.out)
          rw [hW3]
          have HW3 := Aside0.mk hW3
          clear hk0 hk1 hk2 hk3 hk4 hk5 hk6 hk7 hcc hfr hcl hM hW3 hgd hy HB1 HM1 HO1 BK HLt
          have x0' := X0.out
          have x1' := X1.out
          iterate 5 still_step
          refine wpStill_nil ?_
          change wpList _ _ _ _ _ w1.drew
          rw [HW3.out]
          by_cases hc : cmpS s y < 0
          · have hcb := decide_eq_true hc
            rw [if_pos hc] at HSt
            clear hc
            go_wp2_with (first
              | (go_at_call 50; refine (cmp_calls s y _).mono ?_; rintro e w4 ⟨rfl, hb⟩; have HB3 := Aside0.mk (below_step HB2.out hb); have HM3 := Aside0.mk (map_below HM2.out hb); have HO3 := Aside0.mk (Kd.R_below HO2.out hb); have bk3 := (hb.block wr.heap.size HLt2.out).trans BK2.out; have ht0 : w4.cell? ⟨wr.heap.size, 0, none⟩ = some (.int .u64 s.f0) := (blk_cell bk3 0).trans rfl; have ht1 : w4.cell? ⟨wr.heap.size, 1, none⟩ = some (.int .u64 s.f1) := (blk_cell bk3 1).trans rfl; have ht2 : w4.cell? ⟨wr.heap.size, 2, none⟩ = some (.int .u64 s.f2) := (blk_cell bk3 2).trans rfl; have ht3 : w4.cell? ⟨wr.heap.size, 3, none⟩ = some (.int .u8 s.f3) := (blk_cell bk3 3).trans rfl; have ht4 : w4.cell? ⟨wr.heap.size, 4, none⟩ = some (.string s.f4) := (blk_cell bk3 4).trans rfl; have ht5 : w4.cell? ⟨wr.heap.size, 5, none⟩ = some (.string s.f5) := (blk_cell bk3 5).trans rfl; have ht6 : w4.cell? ⟨wr.heap.size, 6, none⟩ = some (.int .i64 s.f6) := (blk_cell bk3 6).trans rfl; have ht7 : w4.cell? ⟨wr.heap.size, 7, none⟩ = some (.int .i64 s.f7) := (blk_cell bk3 7).trans rfl; clear hb bk3)
              | ((with_reducible refine gate_store (t := 27) (p := 57) rfl ?_); refine store_span (w0 := w) (g := g6) (o' := xi.toNat * 8) xi m s rfl rfl (.tmp 57) (.tmp 56) rfl rfl rfl rfl HO3.out X0.out X1.out HB3.out ?_; intro w5 ho hb hg; have HM4 := Aside0.mk (map_kept HM3.out HO3.out (show w4.grownBy w5 (Value.slice (some ⟨g6, 0, none⟩) m.length n6).ownBlock from hg)); have HO4 := Aside0.mk ho; have HB4 := Aside0.mk hb; clear ho hb hg))
            go_roundg k1
            case measure => omega
            case rel =>
              refine ⟨x14 + 1, by rw [W1.out], ⟨by have := P1.out; omega, by have := HK.out; omega⟩, ?_, ?_, HB4⟩
              · rw [HNext.out, HSt.out]; exact HO4
              · rw [HNext.out, HSt.out, HXj.out, HSet.out, List.length_set]; exact HM4
          · have hcb := decide_eq_false hc
            rw [if_neg hc] at HSt
            clear hc
            go_wp2_with (first
              | (go_at_call 50; refine (cmp_calls s y _).mono ?_; rintro e w4 ⟨rfl, hb⟩; have HB3 := Aside0.mk (below_step HB2.out hb); have HM3 := Aside0.mk (map_below HM2.out hb); have HO3 := Aside0.mk (Kd.R_below HO2.out hb); have bk3 := (hb.block wr.heap.size HLt2.out).trans BK2.out; have ht0 : w4.cell? ⟨wr.heap.size, 0, none⟩ = some (.int .u64 s.f0) := (blk_cell bk3 0).trans rfl; have ht1 : w4.cell? ⟨wr.heap.size, 1, none⟩ = some (.int .u64 s.f1) := (blk_cell bk3 1).trans rfl; have ht2 : w4.cell? ⟨wr.heap.size, 2, none⟩ = some (.int .u64 s.f2) := (blk_cell bk3 2).trans rfl; have ht3 : w4.cell? ⟨wr.heap.size, 3, none⟩ = some (.int .u8 s.f3) := (blk_cell bk3 3).trans rfl; have ht4 : w4.cell? ⟨wr.heap.size, 4, none⟩ = some (.string s.f4) := (blk_cell bk3 4).trans rfl; have ht5 : w4.cell? ⟨wr.heap.size, 5, none⟩ = some (.string s.f5) := (blk_cell bk3 5).trans rfl; have ht6 : w4.cell? ⟨wr.heap.size, 6, none⟩ = some (.int .i64 s.f6) := (blk_cell bk3 6).trans rfl; have ht7 : w4.cell? ⟨wr.heap.size, 7, none⟩ = some (.int .i64 s.f7) := (blk_cell bk3 7).trans rfl; clear hb bk3))
            go_roundg k1
            case measure => omega
            case rel =>
              refine ⟨x14 + 1, by rw [W1.out], ⟨by have := P1.out; omega, by have := HK.out; omega⟩, ?_, ?_, HB3⟩
              · rw [HNext.out, HSt.out]; exact HO3
              · rw [HNext.out, HSt.out]; exact HM3
      · have hst : stepD cmpS (·.f1) (okS a1) m s = m := by
          unfold stepD
          rw [if_neg hok]
        by_cases hq : s.f0 = a1
        · have hmay : mayB s.f0 s.f1 s.f2 s.f3 s.f4 s.f5 s.f6 s.f7 = false := by
            rw [Bool.eq_false_iff]
            intro h
            apply hok
            unfold okS
            rw [h, Bool.and_true]
            exact decide_eq_true hq
          have q1 : (s.f0 != a1) = false := by simp [hq]
          have q2 : decide (s.f0 = a1) = true := by simp [hq]
          have QM := Aside0.mk (may_calls s HFit.out.2.1 HFit.out.2.2)
          rw [hmay] at QM
          have HSt := Aside0.mk hst
          clear hok hmay hst hq
          go_wp2_with (go_at_call 49; refine (QM.out _).mono ?_; rintro e w1 ⟨rfl, hb⟩; have HB1 := Aside0.mk (below_step (below_alloc HB.out _) hb); have HM1 := Aside0.mk (map_below (HM.out.alloc _) hb); have HO1 := Aside0.mk (Kd.R_below (Kd.R_alloc HO.out _) hb); have bk := (hb.block wr.heap.size (by simp)).trans (new_block wr #[.int .u64 s.f0, .int .u64 s.f1, .int .u64 s.f2, .int .u8 s.f3, .string s.f4, .string s.f5, .int .i64 s.f6, .int .i64 s.f7] 27); have BK := Aside0.mk bk; have hk0 : w1.cell? ⟨wr.heap.size, 0, none⟩ = some (.int .u64 s.f0) := (blk_cell bk 0).trans rfl; have hk1 : w1.cell? ⟨wr.heap.size, 1, none⟩ = some (.int .u64 s.f1) := (blk_cell bk 1).trans rfl; have hk2 : w1.cell? ⟨wr.heap.size, 2, none⟩ = some (.int .u64 s.f2) := (blk_cell bk 2).trans rfl; have hk3 : w1.cell? ⟨wr.heap.size, 3, none⟩ = some (.int .u8 s.f3) := (blk_cell bk 3).trans rfl; have hk4 : w1.cell? ⟨wr.heap.size, 4, none⟩ = some (.string s.f4) := (blk_cell bk 4).trans rfl; have hk5 : w1.cell? ⟨wr.heap.size, 5, none⟩ = some (.string s.f5) := (blk_cell bk 5).trans rfl; have hk6 : w1.cell? ⟨wr.heap.size, 6, none⟩ = some (.int .i64 s.f6) := (blk_cell bk 6).trans rfl; have hk7 : w1.cell? ⟨wr.heap.size, 7, none⟩ = some (.int .i64 s.f7) := (blk_cell bk 7).trans rfl; have HLt := Aside0.mk (show wr.heap.size < w1.heap.size from Nat.lt_of_lt_of_le (by simp) hb.size); clear hb bk)
          go_roundg k1
          case measure => omega
          case rel =>
            refine ⟨x14 + 1, by rw [W1.out], ⟨by have := P1.out; omega, by have := HK.out; omega⟩, ?_, ?_, HB1⟩
            · rw [HNext.out, HSt.out]; exact HO1
            · rw [HNext.out, HSt.out]; exact HM1
        · have q1 : (s.f0 != a1) = true := by simpa using hq
          have q2 : decide (s.f0 = a1) = false := by simpa using hq
          have HSt := Aside0.mk hst
          clear hok hst hq
          go_wp2_with fail
          go_roundg k1
          case measure => omega
          case rel =>
            refine ⟨x14 + 1, by rw [W1.out], ⟨by have := P1.out; omega, by have := HK.out; omega⟩, ?_, ?_, ⟨below_alloc HB.out _⟩⟩
            · rw [HNext.out, HSt.out]; exact ⟨Kd.R_alloc HO.out _⟩
            · rw [HNext.out, HSt.out]; exact ⟨HM.out.alloc _⟩
    · have c1b := decide_eq_false c1
      have hx : x14.toNat = l0.length := by have := HK.out; omega
      have ho := HO.out
      rw [hx, List.take_length] at ho
      obtain ⟨A6, n6, rfl⟩ := Kd.R_slice ho
      have hml := metD_length a1 l0
      have hrd := Kd.R_reads' ho
      have QS := Aside0.mk (sort_calls (metD a1 l0) (by have := HL.out; omega) A6 n6 wr hrd.2.2 hrd.2.1)
      clear ho HO hml hrd
      go_wp2_with (go_at_call 51; refine QS.out.mono ?_; rintro e w1 ⟨v, rfl, ho, hb⟩; have HO2 := Aside0.mk (Kd.R_lower ho HB.out.size); have HB2 := Aside0.mk (below_step HB.out hb); clear ho hb)
      go_ret
      exact ⟨_, rfl, HO2.out, HB2.out⟩
end Go.Proofs.Ytkpmaenhkjfncaa.L
