/- DedupeOne: the walk. -/
import Derived.Test.YtkpmaenhkjfncaaOneL
import Derived.Deep.RegionHeld3
import Derived.Test.YtkpmaenhkjfncaaQx7
import Derived.Test.YtkpmaenhkjfncaaUx1
namespace Go.Proofs.Ytkpmaenhkjfncaa.L
open Go.RowKit Go.Proofs.Ytkpmaenhkjfncaa.Q Go.Proofs.YtkpmaenhkjfncaaW.PrintWords Go.Proofs.YtkpmaenhkjfncaaW.PrintLast Go.Proofs.YtkpmaenhkjfncaaW.PrintMore Go.Proofs.YtkpmaenhkjfncaaW.MapB Go.Proofs.YtkpmaenhkjfncaaW.Lib Go.Maps Go.WideMaps
set_option linter.unusedVariables false
set_option linter.unusedSimpArgs false

theorem fixed09 : U.merkhetlaw09_fixed.f = some true := by
  unfold U.merkhetlaw09_fixed.f U.dedupe_Of.f
  rw [if_pos ⟨by decide, by intro x hx; simp only [List.mem_cons, List.not_mem_nil, or_false] at hx; rcases hx with rfl | rfl <;> exact ⟨by decide, by decide, by decide⟩⟩]
  unfold ofD
  rw [sortL_eq]
  kernel_rfl
/-- What a span's cells hold stays behind a call. -/
theorem keep1 {wr w1 w2 : World} {k : Nat} {s : Span} (h : Below wr.heap.size wr w1 ∧ w1.cell? ⟨k, 0, none⟩ = some (.int .u64 s.f0) ∧ w1.cell? ⟨k, 1, none⟩ = some (.int .u64 s.f1) ∧ w1.cell? ⟨k, 2, none⟩ = some (.int .u64 s.f2) ∧ w1.cell? ⟨k, 3, none⟩ = some (.int .u8 s.f3) ∧ w1.cell? ⟨k, 4, none⟩ = some (.string s.f4) ∧ w1.cell? ⟨k, 5, none⟩ = some (.string s.f5) ∧ w1.cell? ⟨k, 6, none⟩ = some (.int .i64 s.f6) ∧ w1.cell? ⟨k, 7, none⟩ = some (.int .i64 s.f7)) (hb : Below w1.heap.size w1 w2) : Below wr.heap.size wr w2 ∧ w2.cell? ⟨k, 0, none⟩ = some (.int .u64 s.f0) ∧ w2.cell? ⟨k, 1, none⟩ = some (.int .u64 s.f1) ∧ w2.cell? ⟨k, 2, none⟩ = some (.int .u64 s.f2) ∧ w2.cell? ⟨k, 3, none⟩ = some (.int .u8 s.f3) ∧ w2.cell? ⟨k, 4, none⟩ = some (.string s.f4) ∧ w2.cell? ⟨k, 5, none⟩ = some (.string s.f5) ∧ w2.cell? ⟨k, 6, none⟩ = some (.int .i64 s.f6) ∧ w2.cell? ⟨k, 7, none⟩ = some (.int .i64 s.f7) := by
  obtain ⟨h0, c0, c1, c2, c3, c4, c5, c6, c7⟩ := h
  exact ⟨below_step h0 hb, (hb.cell (World.block_lt_of_cell? w1 _ c0)).trans c0, (hb.cell (World.block_lt_of_cell? w1 _ c1)).trans c1, (hb.cell (World.block_lt_of_cell? w1 _ c2)).trans c2, (hb.cell (World.block_lt_of_cell? w1 _ c3)).trans c3, (hb.cell (World.block_lt_of_cell? w1 _ c4)).trans c4, (hb.cell (World.block_lt_of_cell? w1 _ c5)).trans c5, (hb.cell (World.block_lt_of_cell? w1 _ c6)).trans c6, (hb.cell (World.block_lt_of_cell? w1 _ c7)).trans c7⟩
theorem keep2 {wr w1 w2 : World} {k : Nat} {s y : Span} {ad : Addr} (h : Below wr.heap.size wr w1 ∧ w1.cell? ⟨k, 0, none⟩ = some (.int .u64 s.f0) ∧ w1.cell? ⟨k, 1, none⟩ = some (.int .u64 s.f1) ∧ w1.cell? ⟨k, 2, none⟩ = some (.int .u64 s.f2) ∧ w1.cell? ⟨k, 3, none⟩ = some (.int .u8 s.f3) ∧ w1.cell? ⟨k, 4, none⟩ = some (.string s.f4) ∧ w1.cell? ⟨k, 5, none⟩ = some (.string s.f5) ∧ w1.cell? ⟨k, 6, none⟩ = some (.int .i64 s.f6) ∧ w1.cell? ⟨k, 7, none⟩ = some (.int .i64 s.f7) ∧ w1.cell? (ad) = some (.int .u64 y.f0) ∧ w1.cell? ⟨(ad).block, (ad).off + 1, none⟩ = some (.int .u64 y.f1) ∧ w1.cell? ⟨(ad).block, (ad).off + 2, none⟩ = some (.int .u64 y.f2) ∧ w1.cell? ⟨(ad).block, (ad).off + 3, none⟩ = some (.int .u8 y.f3) ∧ w1.cell? ⟨(ad).block, (ad).off + 4, none⟩ = some (.string y.f4) ∧ w1.cell? ⟨(ad).block, (ad).off + 5, none⟩ = some (.string y.f5) ∧ w1.cell? ⟨(ad).block, (ad).off + 6, none⟩ = some (.int .i64 y.f6) ∧ w1.cell? ⟨(ad).block, (ad).off + 7, none⟩ = some (.int .i64 y.f7)) (hb : Below w1.heap.size w1 w2) : Below wr.heap.size wr w2 ∧ w2.cell? ⟨k, 0, none⟩ = some (.int .u64 s.f0) ∧ w2.cell? ⟨k, 1, none⟩ = some (.int .u64 s.f1) ∧ w2.cell? ⟨k, 2, none⟩ = some (.int .u64 s.f2) ∧ w2.cell? ⟨k, 3, none⟩ = some (.int .u8 s.f3) ∧ w2.cell? ⟨k, 4, none⟩ = some (.string s.f4) ∧ w2.cell? ⟨k, 5, none⟩ = some (.string s.f5) ∧ w2.cell? ⟨k, 6, none⟩ = some (.int .i64 s.f6) ∧ w2.cell? ⟨k, 7, none⟩ = some (.int .i64 s.f7) ∧ w2.cell? (ad) = some (.int .u64 y.f0) ∧ w2.cell? ⟨(ad).block, (ad).off + 1, none⟩ = some (.int .u64 y.f1) ∧ w2.cell? ⟨(ad).block, (ad).off + 2, none⟩ = some (.int .u64 y.f2) ∧ w2.cell? ⟨(ad).block, (ad).off + 3, none⟩ = some (.int .u8 y.f3) ∧ w2.cell? ⟨(ad).block, (ad).off + 4, none⟩ = some (.string y.f4) ∧ w2.cell? ⟨(ad).block, (ad).off + 5, none⟩ = some (.string y.f5) ∧ w2.cell? ⟨(ad).block, (ad).off + 6, none⟩ = some (.int .i64 y.f6) ∧ w2.cell? ⟨(ad).block, (ad).off + 7, none⟩ = some (.int .i64 y.f7) := by
  obtain ⟨h0, c0, c1, c2, c3, c4, c5, c6, c7, c8, c9, c10, c11, c12, c13, c14, c15⟩ := h
  exact ⟨below_step h0 hb, (hb.cell (World.block_lt_of_cell? w1 _ c0)).trans c0, (hb.cell (World.block_lt_of_cell? w1 _ c1)).trans c1, (hb.cell (World.block_lt_of_cell? w1 _ c2)).trans c2, (hb.cell (World.block_lt_of_cell? w1 _ c3)).trans c3, (hb.cell (World.block_lt_of_cell? w1 _ c4)).trans c4, (hb.cell (World.block_lt_of_cell? w1 _ c5)).trans c5, (hb.cell (World.block_lt_of_cell? w1 _ c6)).trans c6, (hb.cell (World.block_lt_of_cell? w1 _ c7)).trans c7, (hb.cell (World.block_lt_of_cell? w1 _ c8)).trans c8, (hb.cell (World.block_lt_of_cell? w1 _ c9)).trans c9, (hb.cell (World.block_lt_of_cell? w1 _ c10)).trans c10, (hb.cell (World.block_lt_of_cell? w1 _ c11)).trans c11, (hb.cell (World.block_lt_of_cell? w1 _ c12)).trans c12, (hb.cell (World.block_lt_of_cell? w1 _ c13)).trans c13, (hb.cell (World.block_lt_of_cell? w1 _ c14)).trans c14, (hb.cell (World.block_lt_of_cell? w1 _ c15)).trans c15⟩
theorem rise_at (l : List Span) (t : Int) (x xp : Int) (h0 : 0 ≤ xp) (hx : xp = x - 1) (h1 : x < (ofD l t).length) : cmpS (rd_T27 (ofD l t) xp) (rd_T27 (ofD l t) x) < 0 := by
  have hx1 : x.toNat < (ofD l t).length := by omega
  have hx2 : xp.toNat < (ofD l t).length := by omega
  have e1 : rd_T27 (ofD l t) x = (ofD l t)[x.toNat] := by simp [rd_T27, List.getD, hx1]
  have e2 : rd_T27 (ofD l t) xp = (ofD l t)[xp.toNat] := by simp [rd_T27, List.getD, hx2]
  rw [e1, e2]
  exact ofD_rise l t xp.toNat x.toNat (by omega) hx1
theorem new_at (l : List Span) (t : Int) (x : Int) (h0 : 0 ≤ x) (h1 : x < (ofD l t).length) : ∀ y ∈ (ofD l t).take x.toNat, y.f1 ≠ (rd_T27 (ofD l t) x).f1 := by
  have hx1 : x.toNat < (ofD l t).length := by omega
  have e1 : rd_T27 (ofD l t) x = (ofD l t)[x.toNat] := by simp [rd_T27, List.getD, hx1]
  rw [e1]
  exact ofD_new l t x.toNat hx1
theorem heap_alloc_lt (w : World) (o : Obj) {k : Nat} (h : k < w.heap.size) : (w.alloc o).heap[k]? = w.heap[k]? := by
  exact (below_alloc (Below.refl w.heap.size w) o).block k h
theorem own8 (w : World) (cs : Array Value) (t : TypeId) (o : Obj) (i : Nat) {v : Value} (h : cs[i]? = some v) : ((w.alloc (.cells cs t)).alloc o).drew.cell? ⟨w.heap.size, i, none⟩ = some v :=
  (blk_cell (((heap_alloc_lt (w.alloc (.cells cs t)) o (by simp)).trans (new_block w cs t))) i).trans h
theorem own9 (w : World) (o1 o2 : Obj) {a : Addr} {v : Value} (h : w.cell? a = some v) : ((w.alloc o1).alloc o2).drew.cell? a = some v :=
  ((below_alloc (below_alloc (Below.refl w.heap.size w) o1) o2).cell (World.block_lt_of_cell? w _ h)).trans h
set_option maxHeartbeats 8000000 in
set_option maxRecDepth 100000 in
theorem one_calls (l0 : List Span) (a1 : Int) (b : Bool) (hb : Ev (fun k => merkhetlaw04_Great.f k l0) b) (hl : b = false → l0.length ≤ 1000) (hf : ∀ x ∈ l0, okT x) (A0 : Option Addr) (c0 : Nat) (w : World) (hr0 : Kd.C k27 w A0 l0.length l0) (hc0 : l0.length ≤ c0) :
    Calls Try.prog 11 #[.slice A0 l0.length c0, .int .u64 a1] w fun e w' => e = .returned (.bool true) ∧ Below w.heap.size w w' := by
  have hmm := @run_makeMap Try.prog
  obtain ⟨kg, hkg⟩ := Ev.rounds hb
  have HR0 := Aside0.mk hr0
  have HC0 := Aside0.mk hc0
  have HF := Aside0.mk hf
  have QF := Aside0.mk (fun W => U.merkhetlaw09_fixed.calls true W fixed09)
  have QG := Aside0.mk (merkhetlaw04_Great.calls kg A0 c0 l0 b w hr0 hc0 hkg)
  clear hb hkg hf
  go_enter Try.func11, Try.ntmps11
  cases b with
  | true =>
    clear hr0 hc0
    go_wp2_with (first
      | (go_at_call 15; refine QG.out.mono ?_; rintro e w1 ⟨rfl, hb⟩; have HB := Aside0.mk hb; clear hb)
      | (go_at_call 34; refine (QF.out _).mono ?_; rintro e w2 ⟨rfl, hb⟩; have HB2 := Aside0.mk (below_step HB.out hb); clear hb))
    go_ret
    exact ⟨rfl, HB2.out⟩
  | false =>
    have hl2 := hl rfl
    have HL := Aside0.mk hl2
    have QO := Aside0.mk (fun (W : World) (hr : Kd.C k27 W A0 l0.length l0) => of_calls l0 a1 (by omega) (fun x hx => ⟨(HF.out x hx).1, (HF.out x hx).2.2⟩) A0 c0 W hr hc0)
    have HOl := Aside0.mk (ofD_length l0 a1)
    have HMem := Aside0.mk (fun s => @ofD_mem l0 a1 s)
    have HIds := Aside0.mk (ofD_ids l0 a1)
    have HRise := Aside0.mk (rise_at l0 a1)
    have HNew := Aside0.mk (new_at l0 a1)
    have HBest := Aside0.mk (fun s => @ofD_best l0 a1 s)
    clear hr0 hc0 hl hl2
    generalize ofD l0 a1 = out at *
    go_wp2_with (first
      | (go_at_call 15; refine QG.out.mono ?_; rintro e w1 ⟨rfl, hb⟩; have HB := Aside0.mk hb; clear hb)
      | (go_at_call 35; refine (QO.out _ (Kd.C_below HR0.out HB.out)).mono ?_; rintro e w2 ⟨v5, rfl, ho, hb⟩; have HB2 := Aside0.mk (below_step HB.out hb); obtain ⟨A5, c5, rfl⟩ := Kd.R_slice ho; have HO2 := Aside0.mk (Kd.R_lower ho HB.out.size); clear ho hb))
    go_loopg [24] out.length (fun kq v24 w' => ∃ x24 : Int, v24 = .int .i64 x24 ∧ Aside0 (0 ≤ x24 ∧ x24 + kq = out.length) ∧ Aside0 (Kd.R k27 27 w' w.heap.size (fun _ => True) (.slice A5 out.length c5) out) ∧ Aside0 (w'.ownsMap Try.prog 25 elemS w2.heap.size x24.toNat (mapS (out.take x24.toNat) (.map []))) ∧ Aside0 (Below w.heap.size w w'))
    case atStart => exact ⟨0, rfl, ⟨by omega, by omega⟩, ⟨Kd.R_alloc HO2.out _⟩, ⟨World.ownsMap_made _ _ _ _⟩, ⟨below_alloc HB2.out _⟩⟩
    case round =>
      obtain ⟨x24, rfl, HK, HO, HM, HB⟩ := hrel
      by_cases c1 : x24 < (out.length : Int)
      · have c1b := decide_eq_true c1
        have p1 : 0 ≤ x24 := HK.out.1
        obtain ⟨ad1, e1, hx0, hx1, hx2, hx3, hx4, hx5, hx6, hx7⟩ := at_T27 (Kd.R_reads' HO.out).2.2 x24 p1 c1
        cases e1
        have hit : x24.toNat < out.length := by omega
        have hsv : rd_T27 out x24 = out[x24.toNat] := by simp [rd_T27, List.getD, hit]
        have hsm : rd_T27 out x24 ∈ out := by rw [hsv]; exact List.getElem_mem hit
        have hs3 := HMem.out _ hsm
        have HT := Aside0.mk (HF.out _ hs3.1)
        have hne : ∀ x ∈ out.take x24.toNat, x.f1 ≠ (rd_T27 out x24).f1 := HNew.out x24 p1 c1
        have HN := Aside0.mk (mapS_none (i := (rd_T27 out x24).f1) (dS z27) (out.take x24.toNat) (.map []) hne)
        have HNx := Aside0.mk (show out.take (x24 + 1).toNat = out.take x24.toNat ++ [rd_T27 out x24] from by
          rw [show (x24 + 1).toNat = x24.toNat + 1 by omega, List.take_succ_eq_append_getElem hit, hsv])
        have hPrev : ∀ xp : Int, xp = x24 - 1 → 0 ≤ xp → cmpS (rd_T27 out xp) (rd_T27 out x24) < 0 ∧ okT (rd_T27 out xp) := by
          intro xp hxp h0
          have hpt : xp.toNat < out.length := by omega
          have hpv : rd_T27 out xp = out[xp.toNat] := by simp [rd_T27, List.getD, hpt]
          refine ⟨HRise.out x24 xp h0 hxp c1, ?_⟩
          rw [hpv]
          exact HF.out _ (HMem.out _ (List.getElem_mem hpt)).1
        have P1 := Aside0.mk p1
        have Q1 := Aside0.mk c1
        have HPrev := Aside0.mk hPrev
        have q0 : ((rd_T27 out x24).f0 != a1) = false := by simp [hs3.2.1]
        have q2 : decide ((rd_T27 out x24).f0 = a1) = true := by simp [hs3.2.1]
        have QM := Aside0.mk (rmay_calls _ (HF.out _ hs3.1))
        rw [hs3.2.2] at QM
        have HKey := Aside0.mk (keyOf_int_mk Try.underlying25 HT.out.1)
        have W1 := Aside0.mk (show wrap64 (x24 + 1) = x24 + 1 from by unfold wrap64; have := HL.out; have := HOl.out; have := P1.out; have := Q1.out; omega)
        clear hsv hsm hs3 hne hPrev hit
        generalize hgs : rd_T27 out x24 = s at *
        clear hgs
        replace p1 := eq_true p1
        replace c1 := eq_true c1
        obtain ⟨k1, rfl⟩ : ∃ k1, gk = k1 + 1 := ⟨gk - 1, by have := HK.out; have := Q1.out; omega⟩
        by_cases c2 : 0 < x24
        · have c2b := decide_eq_true c2
          obtain ⟨xp, hxp⟩ : ∃ xp : Int, wrap64 (x24 - 1) = xp := ⟨_, rfl⟩
          have hxp2 : xp = x24 - 1 := by rw [← hxp]; unfold wrap64; have := HL.out; have := HOl.out; have := Q1.out; omega
          have hxpw : IntKind.i64.wrap (x24 - 1) = xp := (i64_w _).trans hxp
          have pp : 0 ≤ xp := by omega
          have qp : xp < (out.length : Int) := by have := Q1.out; omega
          obtain ⟨hcm, hty⟩ := HPrev.out xp hxp2 pp
          obtain ⟨ad2, e2, hy0, hy1, hy2, hy3, hy4, hy5, hy6, hy7⟩ := at_T27 (Kd.R_reads' HO.out).2.2 xp pp qp
          cases e2
          generalize hgy : rd_T27 out xp = y at *
          clear hgy
          have c3b : decide (cmpS y s < 0) = true := decide_eq_true hcm
          have c4b : decide (0 ≤ cmpS y s) = false := decide_eq_false (by omega)
          have QC := Aside0.mk (rcmp_calls y s hty HT.out)
          replace pp := eq_true pp
          replace qp := eq_true qp
          clear c2 hcm hty hxp hxp2

          go_wp2_with (first | (at_lookup; refine lookup_span _ rfl _ _ 61 rfl 25 lawU64 Try.underlying61 w2.heap.size x24.toNat (mapS (out.take x24.toNat) (.map [])) rfl (HM.out.alloc _) _ _ rfl HKey.out z27 HN.out.1 false HN.out.2 ?_))
          have hst0 : Below wr.heap.size wr _ := below_alloc (below_alloc (Below.refl wr.heap.size wr) (.cells #[.int .u64 s.f0, .int .u64 s.f1, .int .u64 s.f2, .int .u8 s.f3, .string s.f4, .string s.f5, .int .i64 s.f6, .int .i64 s.f7] 27)) (.cells #[.int .u64 z27.f0, .int .u64 z27.f1, .int .u64 z27.f2, .int .u8 z27.f3, .string z27.f4, .string z27.f5, .int .i64 z27.f6, .int .i64 z27.f7] 27)
          go_region_held3 (fun W' => Below wr.heap.size wr W' ∧ W'.cell? ⟨wr.heap.size, 0, none⟩ = some (.int .u64 s.f0) ∧ W'.cell? ⟨wr.heap.size, 1, none⟩ = some (.int .u64 s.f1) ∧ W'.cell? ⟨wr.heap.size, 2, none⟩ = some (.int .u64 s.f2) ∧ W'.cell? ⟨wr.heap.size, 3, none⟩ = some (.int .u8 s.f3) ∧ W'.cell? ⟨wr.heap.size, 4, none⟩ = some (.string s.f4) ∧ W'.cell? ⟨wr.heap.size, 5, none⟩ = some (.string s.f5) ∧ W'.cell? ⟨wr.heap.size, 6, none⟩ = some (.int .i64 s.f6) ∧ W'.cell? ⟨wr.heap.size, 7, none⟩ = some (.int .i64 s.f7) ∧ W'.cell? (ad1.add (xp.toNat * 8)) = some (.int .u64 y.f0) ∧ W'.cell? ⟨(ad1.add (xp.toNat * 8)).block, (ad1.add (xp.toNat * 8)).off + 1, none⟩ = some (.int .u64 y.f1) ∧ W'.cell? ⟨(ad1.add (xp.toNat * 8)).block, (ad1.add (xp.toNat * 8)).off + 2, none⟩ = some (.int .u64 y.f2) ∧ W'.cell? ⟨(ad1.add (xp.toNat * 8)).block, (ad1.add (xp.toNat * 8)).off + 3, none⟩ = some (.int .u8 y.f3) ∧ W'.cell? ⟨(ad1.add (xp.toNat * 8)).block, (ad1.add (xp.toNat * 8)).off + 4, none⟩ = some (.string y.f4) ∧ W'.cell? ⟨(ad1.add (xp.toNat * 8)).block, (ad1.add (xp.toNat * 8)).off + 5, none⟩ = some (.string y.f5) ∧ W'.cell? ⟨(ad1.add (xp.toNat * 8)).block, (ad1.add (xp.toNat * 8)).off + 6, none⟩ = some (.int .i64 y.f6) ∧ W'.cell? ⟨(ad1.add (xp.toNat * 8)).block, (ad1.add (xp.toNat * 8)).off + 7, none⟩ = some (.int .i64 y.f7))
            (first | exact ⟨below_drew hst0, own8 wr #[.int .u64 s.f0, .int .u64 s.f1, .int .u64 s.f2, .int .u8 s.f3, .string s.f4, .string s.f5, .int .i64 s.f6, .int .i64 s.f7] 27 _ 0 rfl, own8 wr #[.int .u64 s.f0, .int .u64 s.f1, .int .u64 s.f2, .int .u8 s.f3, .string s.f4, .string s.f5, .int .i64 s.f6, .int .i64 s.f7] 27 _ 1 rfl, own8 wr #[.int .u64 s.f0, .int .u64 s.f1, .int .u64 s.f2, .int .u8 s.f3, .string s.f4, .string s.f5, .int .i64 s.f6, .int .i64 s.f7] 27 _ 2 rfl, own8 wr #[.int .u64 s.f0, .int .u64 s.f1, .int .u64 s.f2, .int .u8 s.f3, .string s.f4, .string s.f5, .int .i64 s.f6, .int .i64 s.f7] 27 _ 3 rfl, own8 wr #[.int .u64 s.f0, .int .u64 s.f1, .int .u64 s.f2, .int .u8 s.f3, .string s.f4, .string s.f5, .int .i64 s.f6, .int .i64 s.f7] 27 _ 4 rfl, own8 wr #[.int .u64 s.f0, .int .u64 s.f1, .int .u64 s.f2, .int .u8 s.f3, .string s.f4, .string s.f5, .int .i64 s.f6, .int .i64 s.f7] 27 _ 5 rfl, own8 wr #[.int .u64 s.f0, .int .u64 s.f1, .int .u64 s.f2, .int .u8 s.f3, .string s.f4, .string s.f5, .int .i64 s.f6, .int .i64 s.f7] 27 _ 6 rfl, own8 wr #[.int .u64 s.f0, .int .u64 s.f1, .int .u64 s.f2, .int .u8 s.f3, .string s.f4, .string s.f5, .int .i64 s.f6, .int .i64 s.f7] 27 _ 7 rfl, own9 wr _ _ hy0, own9 wr _ _ hy1, own9 wr _ _ hy2, own9 wr _ _ hy3, own9 wr _ _ hy4, own9 wr _ _ hy5, own9 wr _ _ hy6, own9 wr _ _ hy7⟩ | exact keep2 (by assumption) hb | assumption)
            (first | (go_at_call 37; refine (QM.out _).mono ?_; rintro e w4 ⟨rfl, hb⟩) | (go_at_call 38; refine (QC.out _).mono ?_; rintro e w4 ⟨rfl, hb⟩))
          rename_i w9 HS9
          obtain ⟨hb9, d0, d1, d2, d3, d4, d5, d6, d7, d8, d9, d10, d11, d12, d13, d14, d15⟩ := HS9
          have HB9 := Aside0.mk (below_step HB.out hb9)
          have HM9 := Aside0.mk (map_below HM.out hb9)
          have HO9 := Aside0.mk (Kd.R_below HO.out hb9)
          clear hb9 hst0
          go_wp2_with (first | (at_mapUpdate; refine wpList_mapUpdate_own _ rfl _ _ _ 61 rfl 25 27 lawU64 Try.underlying61 elemS w2.heap.size x24.toNat _ rfl HM9.out ?mN _ _ _ rfl rfl HKey.out (dS s) [] (elemS_mk s) ?_; (case mN => have := HL.out; have := HOl.out; have := Q1.out; have := P1.out; show x24.toNat < 9223372036854775807; omega); intro w5 hown hgrow; have HM5 := Aside0.mk hown; have HO5 := Aside0.mk (row_kept HM9.out HO9.out hgrow); have HB5 := Aside0.mk (below_map HB9.out hgrow HB2.out.size HB9.out.size); clear hown hgrow))
          go_roundg k1
          case measure => omega
          case rel => exact ⟨x24 + 1, by rw [W1.out], ⟨by have := P1.out; omega, by have := HK.out; omega⟩, HO5, ⟨by rw [HNx.out, mapS_snoc, show (x24 + 1).toNat = x24.toNat + 1 by have := P1.out; omega]; exact HM5.out⟩, HB5⟩
        · have c2b := decide_eq_false c2
          clear c2
          go_wp2_with (first | (at_lookup; refine lookup_span _ rfl _ _ 61 rfl 25 lawU64 Try.underlying61 w2.heap.size x24.toNat (mapS (out.take x24.toNat) (.map [])) rfl (HM.out.alloc _) _ _ rfl HKey.out z27 HN.out.1 false HN.out.2 ?_))
          have hst0 : Below wr.heap.size wr _ := below_alloc (below_alloc (Below.refl wr.heap.size wr) (.cells #[.int .u64 s.f0, .int .u64 s.f1, .int .u64 s.f2, .int .u8 s.f3, .string s.f4, .string s.f5, .int .i64 s.f6, .int .i64 s.f7] 27)) (.cells #[.int .u64 z27.f0, .int .u64 z27.f1, .int .u64 z27.f2, .int .u8 z27.f3, .string z27.f4, .string z27.f5, .int .i64 z27.f6, .int .i64 z27.f7] 27)
          refine start_ (n := 26) (S := fun W' => Below wr.heap.size wr W' ∧ W'.cell? ⟨wr.heap.size, 0, none⟩ = some (.int .u64 s.f0) ∧ W'.cell? ⟨wr.heap.size, 1, none⟩ = some (.int .u64 s.f1) ∧ W'.cell? ⟨wr.heap.size, 2, none⟩ = some (.int .u64 s.f2) ∧ W'.cell? ⟨wr.heap.size, 3, none⟩ = some (.int .u8 s.f3) ∧ W'.cell? ⟨wr.heap.size, 4, none⟩ = some (.string s.f4) ∧ W'.cell? ⟨wr.heap.size, 5, none⟩ = some (.string s.f5) ∧ W'.cell? ⟨wr.heap.size, 6, none⟩ = some (.int .i64 s.f6) ∧ W'.cell? ⟨wr.heap.size, 7, none⟩ = some (.int .i64 s.f7)) (ds := []) #[false, false, false, false, false, false, false, false, false, false, false, false, false, false, false, false, false, false, false, false, false, false, false, false, false, false] (by kernel_rfl) rfl rfl ⟨below_drew hst0, own8 wr #[.int .u64 s.f0, .int .u64 s.f1, .int .u64 s.f2, .int .u8 s.f3, .string s.f4, .string s.f5, .int .i64 s.f6, .int .i64 s.f7] 27 _ 0 rfl, own8 wr #[.int .u64 s.f0, .int .u64 s.f1, .int .u64 s.f2, .int .u8 s.f3, .string s.f4, .string s.f5, .int .i64 s.f6, .int .i64 s.f7] 27 _ 1 rfl, own8 wr #[.int .u64 s.f0, .int .u64 s.f1, .int .u64 s.f2, .int .u8 s.f3, .string s.f4, .string s.f5, .int .i64 s.f6, .int .i64 s.f7] 27 _ 2 rfl, own8 wr #[.int .u64 s.f0, .int .u64 s.f1, .int .u64 s.f2, .int .u8 s.f3, .string s.f4, .string s.f5, .int .i64 s.f6, .int .i64 s.f7] 27 _ 3 rfl, own8 wr #[.int .u64 s.f0, .int .u64 s.f1, .int .u64 s.f2, .int .u8 s.f3, .string s.f4, .string s.f5, .int .i64 s.f6, .int .i64 s.f7] 27 _ 4 rfl, own8 wr #[.int .u64 s.f0, .int .u64 s.f1, .int .u64 s.f2, .int .u8 s.f3, .string s.f4, .string s.f5, .int .i64 s.f6, .int .i64 s.f7] 27 _ 5 rfl, own8 wr #[.int .u64 s.f0, .int .u64 s.f1, .int .u64 s.f2, .int .u8 s.f3, .string s.f4, .string s.f5, .int .i64 s.f6, .int .i64 s.f7] 27 _ 6 rfl, own8 wr #[.int .u64 s.f0, .int .u64 s.f1, .int .u64 s.f2, .int .u8 s.f3, .string s.f4, .string s.f5, .int .i64 s.f6, .int .i64 s.f7] 27 _ 7 rfl⟩ (fun hHeld => ?_)
          generalize World.drew _ = W2 at *
          refine pure_ (i := 0) (N := some 36) (v := ?_) (a' := ?_) #[true, false, false, false, false, false, false, false, false, false, false, false, false, false, false, false, false, false, false, false, false, false, false, false, false, false] rfl rfl (by kernel_rfl) (fun _ _ _ h => h) (Or.inl ⟨by rfl, ?_⟩) ?_ ?_
          rotate_left
          · intro w'
            go_simp
            with_reducible rfl
          rotate_left
          · simp only [Act.put, List.setIfInBounds_toArray, List.set_cons_zero, List.set_cons_succ, i64_w, i32_w]
            rfl
          refine pure_ (i := 2) (N := some 38) (v := ?_) (a' := ?_) #[true, false, true, false, false, false, false, false, false, false, false, false, false, false, false, false, false, false, false, false, false, false, false, false, false, false] rfl rfl (by kernel_rfl) (fun _ _ _ h => h) (Or.inl ⟨by rfl, ?_⟩) ?_ ?_
          rotate_left
          · intro w'
            go_simp
            with_reducible rfl
          rotate_left
          · simp only [Act.put, List.setIfInBounds_toArray, List.set_cons_zero, List.set_cons_succ, i64_w, i32_w]
            rfl
          refine take_ (i := 1) (N := some 37) (v := ?_) (a' := ?_) #[true, true, true, false, false, false, false, false, false, false, false, false, false, false, false, false, false, false, false, false, false, false, false, false, false, false] rfl rfl (by kernel_rfl) (fun _ _ _ h => h) (Or.inl ⟨by rfl, ?_⟩) hHeld ?_ ?_
          rotate_left
          · rintro w' ⟨_, s0, s1, s2, s3, s4, s5, s6, s7⟩
            go_simp
            with_reducible rfl
          rotate_left
          · simp only [Act.put, List.setIfInBounds_toArray, List.set_cons_zero, List.set_cons_succ, i64_w, i32_w]
            rfl
          refine pure_ (i := 3) (N := some 39) (v := ?_) (a' := ?_) #[true, true, true, true, false, false, false, false, false, false, false, false, false, false, false, false, false, false, false, false, false, false, false, false, false, false] rfl rfl (by kernel_rfl) (fun _ _ _ h => h) (Or.inl ⟨by rfl, ?_⟩) ?_ ?_
          rotate_left
          · intro w'
            go_simp
            with_reducible rfl
          rotate_left
          · simp only [Act.put, List.setIfInBounds_toArray, List.set_cons_zero, List.set_cons_succ, i64_w, i32_w]
            rfl
          refine pure_ (i := 4) (N := some 40) (v := ?_) (a' := ?_) #[true, true, true, true, true, false, false, false, false, false, false, false, false, false, false, false, false, false, false, false, false, false, false, false, false, false] rfl rfl (by kernel_rfl) (fun _ _ _ h => h) (Or.inl ⟨by rfl, ?_⟩) ?_ ?_
          rotate_left
          · intro w'
            go_simp
            with_reducible rfl
          rotate_left
          · simp only [Act.put, List.setIfInBounds_toArray, List.set_cons_zero, List.set_cons_succ, i64_w, i32_w]
            rfl
          refine take_ (i := 5) (N := some 41) (v := ?_) (a' := ?_) #[true, true, true, true, true, true, false, false, false, false, false, false, false, false, false, false, false, false, false, false, false, false, false, false, false, false] rfl rfl (by kernel_rfl) (fun _ _ _ h => h) (Or.inl ⟨by rfl, ?_⟩) hHeld ?_ ?_
          rotate_left
          · rintro w' ⟨_, s0, s1, s2, s3, s4, s5, s6, s7⟩
            go_simp
            with_reducible rfl
          rotate_left
          · simp only [Act.put, List.setIfInBounds_toArray, List.set_cons_zero, List.set_cons_succ, i64_w, i32_w]
            rfl
          refine one_ (i := 6) (N := some 42) #[true, true, true, true, true, true, true, false, false, false, false, false, false, false, false, false, false, false, false, false, false, false, false, false, false, false] rfl rfl (by kernel_rfl) (by decide) (fun K hK => ?_)
          first | (go_at_call 37; refine (QM.out _).mono ?_; rintro e w4 ⟨rfl, hb⟩) | (go_simp; (go_at_call 37; refine (QM.out _).mono ?_; rintro e w4 ⟨rfl, hb⟩))
          refine hK.out _ _ (keep1 hHeld hb) (fun hHeld2 => ?_)
          clear hK K hb hHeld
          try simp only [Act.put, List.setIfInBounds_toArray, List.set_cons_zero, List.set_cons_succ]
          refine pure_ (i := 7) (N := some 43) (v := ?_) (a' := ?_) #[true, true, true, true, true, true, true, true, false, false, false, false, false, false, false, false, false, false, false, false, false, false, false, false, false, false] rfl rfl (by kernel_rfl) (fun _ _ _ h => h) (Or.inl ⟨by rfl, ?_⟩) ?_ ?_
          rotate_left
          · intro w'
            go_simp
            with_reducible rfl
          rotate_left
          · simp only [Act.put, List.setIfInBounds_toArray, List.set_cons_zero, List.set_cons_succ, i64_w, i32_w]
            rfl
          refine pure_ (i := 8) (N := some 44) (v := ?_) (a' := ?_) #[true, true, true, true, true, true, true, true, true, false, false, false, false, false, false, false, false, false, false, false, false, false, false, false, false, false] rfl rfl (by kernel_rfl) (fun _ _ _ h => h) (Or.inl ⟨by rfl, ?_⟩) ?_ ?_
          rotate_left
          · intro w'
            go_simp
            with_reducible rfl
          rotate_left
          · simp only [Act.put, List.setIfInBounds_toArray, List.set_cons_zero, List.set_cons_succ, i64_w, i32_w]
            rfl
          refine pure_ (i := 9) (N := some 45) (v := ?_) (a' := ?_) #[true, true, true, true, true, true, true, true, true, true, false, false, false, false, false, false, false, false, false, false, false, false, false, false, false, false] rfl rfl (by kernel_rfl) (fun _ _ _ h => h) (Or.inl ⟨by rfl, ?_⟩) ?_ ?_
          rotate_left
          · intro w'
            go_simp
            with_reducible rfl
          rotate_left
          · simp only [Act.put, List.setIfInBounds_toArray, List.set_cons_zero, List.set_cons_succ, i64_w, i32_w]
            rfl
          refine pure_ (i := 10) (N := some 46) (v := ?_) (a' := ?_) #[true, true, true, true, true, true, true, true, true, true, true, false, false, false, false, false, false, false, false, false, false, false, false, false, false, false] rfl rfl (by kernel_rfl) (fun _ _ _ h => h) (Or.inl ⟨by rfl, ?_⟩) ?_ ?_
          rotate_left
          · intro w'
            go_simp
            with_reducible rfl
          rotate_left
          · simp only [Act.put, List.setIfInBounds_toArray, List.set_cons_zero, List.set_cons_succ, i64_w, i32_w]
            rfl
          refine pure_ (i := 11) (N := some 47) (v := ?_) (a' := ?_) #[true, true, true, true, true, true, true, true, true, true, true, true, false, false, false, false, false, false, false, false, false, false, false, false, false, false] rfl rfl (by kernel_rfl) (fun _ _ _ h => h) (Or.inl ⟨by rfl, ?_⟩) ?_ ?_
          rotate_left
          · intro w'
            go_simp
            with_reducible rfl
          rotate_left
          · simp only [Act.put, List.setIfInBounds_toArray, List.set_cons_zero, List.set_cons_succ, i64_w, i32_w]
            rfl
          refine pure_ (i := 12) (N := some 48) (v := ?_) (a' := ?_) #[true, true, true, true, true, true, true, true, true, true, true, true, true, false, false, false, false, false, false, false, false, false, false, false, false, false] rfl rfl (by kernel_rfl) (fun _ _ _ h => h) (Or.inl ⟨by rfl, ?_⟩) ?_ ?_
          rotate_left
          · intro w'
            go_simp
            with_reducible rfl
          rotate_left
          · simp only [Act.put, List.setIfInBounds_toArray, List.set_cons_zero, List.set_cons_succ, i64_w, i32_w]
            rfl
          refine pure_ (i := 13) (N := some 49) (v := ?_) (a' := ?_) #[true, true, true, true, true, true, true, true, true, true, true, true, true, true, false, false, false, false, false, false, false, false, false, false, false, false] rfl rfl (by kernel_rfl) (fun _ _ _ h => h) (Or.inl ⟨by rfl, ?_⟩) ?_ ?_
          rotate_left
          · intro w'
            go_simp
            with_reducible rfl
          rotate_left
          · simp only [Act.put, List.setIfInBounds_toArray, List.set_cons_zero, List.set_cons_succ, i64_w, i32_w]
            rfl
          refine pure_ (i := 14) (N := some 50) (v := ?_) (a' := ?_) #[true, true, true, true, true, true, true, true, true, true, true, true, true, true, true, false, false, false, false, false, false, false, false, false, false, false] rfl rfl (by kernel_rfl) (fun _ _ _ h => h) (Or.inl ⟨by rfl, ?_⟩) ?_ ?_
          rotate_left
          · intro w'
            go_simp
            with_reducible rfl
          rotate_left
          · simp only [Act.put, List.setIfInBounds_toArray, List.set_cons_zero, List.set_cons_succ, i64_w, i32_w]
            rfl
          refine pure_ (i := 15) (N := some 51) (v := ?_) (a' := ?_) #[true, true, true, true, true, true, true, true, true, true, true, true, true, true, true, true, false, false, false, false, false, false, false, false, false, false] rfl rfl (by kernel_rfl) (fun _ _ _ h => h) (Or.inl ⟨by rfl, ?_⟩) ?_ ?_
          rotate_left
          · intro w'
            go_simp
            with_reducible rfl
          rotate_left
          · simp only [Act.put, List.setIfInBounds_toArray, List.set_cons_zero, List.set_cons_succ, i64_w, i32_w]
            rfl
          refine pure_ (i := 16) (N := some 52) (v := undef) (a' := ?_) #[true, true, true, true, true, true, true, true, true, true, true, true, true, true, true, true, true, false, false, false, false, false, false, false, false, false] rfl rfl (by kernel_rfl) (fun _ _ _ h => h) (Or.inr ⟨by rfl, rfl⟩) ?_ ?_
          rotate_left
          · simp only [Act.put, List.setIfInBounds_toArray, List.set_cons_zero, List.set_cons_succ, i64_w, i32_w]
            rfl
          refine pure_ (i := 17) (N := some 53) (v := undef) (a' := ?_) #[true, true, true, true, true, true, true, true, true, true, true, true, true, true, true, true, true, true, false, false, false, false, false, false, false, false] rfl rfl (by kernel_rfl) (fun _ _ _ h => h) (Or.inr ⟨by rfl, rfl⟩) ?_ ?_
          rotate_left
          · simp only [Act.put, List.setIfInBounds_toArray, List.set_cons_zero, List.set_cons_succ, i64_w, i32_w]
            rfl
          refine pure_ (i := 18) (N := some 54) (v := undef) (a' := ?_) #[true, true, true, true, true, true, true, true, true, true, true, true, true, true, true, true, true, true, true, false, false, false, false, false, false, false] rfl rfl (by kernel_rfl) (fun _ _ _ h => h) (Or.inr ⟨by rfl, rfl⟩) ?_ ?_
          rotate_left
          · simp only [Act.put, List.setIfInBounds_toArray, List.set_cons_zero, List.set_cons_succ, i64_w, i32_w]
            rfl
          refine pure_ (i := 19) (N := some 55) (v := undef) (a' := ?_) #[true, true, true, true, true, true, true, true, true, true, true, true, true, true, true, true, true, true, true, true, false, false, false, false, false, false] rfl rfl (by kernel_rfl) (fun _ _ _ h => h) (Or.inr ⟨by rfl, rfl⟩) ?_ ?_
          rotate_left
          · simp only [Act.put, List.setIfInBounds_toArray, List.set_cons_zero, List.set_cons_succ, i64_w, i32_w]
            rfl
          refine pure_ (i := 20) (N := some 56) (v := undef) (a' := ?_) #[true, true, true, true, true, true, true, true, true, true, true, true, true, true, true, true, true, true, true, true, true, false, false, false, false, false] rfl rfl (by kernel_rfl) (fun _ _ _ h => h) (Or.inr ⟨by rfl, rfl⟩) ?_ ?_
          rotate_left
          · simp only [Act.put, List.setIfInBounds_toArray, List.set_cons_zero, List.set_cons_succ, i64_w, i32_w]
            rfl
          refine pure_ (i := 21) (N := some 57) (v := undef) (a' := ?_) #[true, true, true, true, true, true, true, true, true, true, true, true, true, true, true, true, true, true, true, true, true, true, false, false, false, false] rfl rfl (by kernel_rfl) (fun _ _ _ h => h) (Or.inr ⟨by rfl, rfl⟩) ?_ ?_
          rotate_left
          · simp only [Act.put, List.setIfInBounds_toArray, List.set_cons_zero, List.set_cons_succ, i64_w, i32_w]
            rfl
          refine pure_ (i := 22) (N := some 58) (v := undef) (a' := ?_) #[true, true, true, true, true, true, true, true, true, true, true, true, true, true, true, true, true, true, true, true, true, true, true, false, false, false] rfl rfl (by kernel_rfl) (fun _ _ _ h => h) (Or.inr ⟨by rfl, rfl⟩) ?_ ?_
          rotate_left
          · simp only [Act.put, List.setIfInBounds_toArray, List.set_cons_zero, List.set_cons_succ, i64_w, i32_w]
            rfl
          refine pure_ (i := 23) (N := some 59) (v := undef) (a' := ?_) #[true, true, true, true, true, true, true, true, true, true, true, true, true, true, true, true, true, true, true, true, true, true, true, true, false, false] rfl rfl (by kernel_rfl) (fun _ _ _ h => h) (Or.inr ⟨by rfl, rfl⟩) ?_ ?_
          rotate_left
          · simp only [Act.put, List.setIfInBounds_toArray, List.set_cons_zero, List.set_cons_succ, i64_w, i32_w]
            rfl
          refine pure_ (i := 24) (N := some 60) (v := ?_) (a' := ?_) #[true, true, true, true, true, true, true, true, true, true, true, true, true, true, true, true, true, true, true, true, true, true, true, true, true, false] rfl rfl (by kernel_rfl) (fun _ _ _ h => h) (Or.inl ⟨by rfl, ?_⟩) ?_ ?_
          rotate_left
          · intro w'
            go_simp
            with_reducible rfl
          rotate_left
          · simp only [Act.put, List.setIfInBounds_toArray, List.set_cons_zero, List.set_cons_succ, i64_w, i32_w]
            rfl
          refine pure_ (i := 25) (N := some 61) (v := ?_) (a' := ?_) #[true, true, true, true, true, true, true, true, true, true, true, true, true, true, true, true, true, true, true, true, true, true, true, true, true, true] rfl rfl (by kernel_rfl) (fun _ _ _ h => h) (Or.inl ⟨by rfl, ?_⟩) ?_ ?_
          rotate_left
          · intro w'
            go_simp
            with_reducible rfl
          rotate_left
          · simp only [Act.put, List.setIfInBounds_toArray, List.set_cons_zero, List.set_cons_succ, i64_w, i32_w]
            rfl
          refine done_ (by kernel_rfl) ?_
          rename_i w9
          have HS9 := hHeld2
          clear hHeld2
          obtain ⟨hb9, d0, d1, d2, d3, d4, d5, d6, d7⟩ := HS9
          have HB9 := Aside0.mk (below_step HB.out hb9)
          have HM9 := Aside0.mk (map_below HM.out hb9)
          have HO9 := Aside0.mk (Kd.R_below HO.out hb9)
          clear hb9 hst0
          go_wp2_with (first | (at_mapUpdate; refine wpList_mapUpdate_own _ rfl _ _ _ 61 rfl 25 27 lawU64 Try.underlying61 elemS w2.heap.size x24.toNat _ rfl HM9.out ?mN _ _ _ rfl rfl HKey.out (dS s) [] (elemS_mk s) ?_; (case mN => have := HL.out; have := HOl.out; have := Q1.out; have := P1.out; show x24.toNat < 9223372036854775807; omega); intro w5 hown hgrow; have HM5 := Aside0.mk hown; have HO5 := Aside0.mk (row_kept HM9.out HO9.out hgrow); have HB5 := Aside0.mk (below_map HB9.out hgrow HB2.out.size HB9.out.size); clear hown hgrow))
          go_roundg k1
          case measure => omega
          case rel => exact ⟨x24 + 1, by rw [W1.out], ⟨by have := P1.out; omega, by have := HK.out; omega⟩, HO5, ⟨by rw [HNx.out, mapS_snoc, show (x24 + 1).toNat = x24.toNat + 1 by have := P1.out; omega]; exact HM5.out⟩, HB5⟩
      · have c1b := decide_eq_false c1
        have hx : x24.toNat = out.length := by have := HK.out; omega
        have hm := HM.out
        rw [hx, List.take_length] at hm
        have HM1 := Aside0.mk hm
        have HB1 := HB
        clear hm hx c1 HM HB HO
        go_wp2_with fail
        go_loopg [69] l0.length (fun kq v69 w' => ∃ x69 : Int, v69 = .int .i64 x69 ∧ Aside0 (0 ≤ x69 ∧ x69 + kq = l0.length) ∧ Aside0 (w'.ownsMap Try.prog 25 elemS w2.heap.size out.length (mapS out (.map []))) ∧ Aside0 (Below w.heap.size w w'))
        case atStart => exact ⟨0, rfl, ⟨by omega, by omega⟩, HM1, HB1⟩
        case round =>
          obtain ⟨x69, rfl, HK, HM, HB⟩ := hrel
          by_cases c5 : x69 < (l0.length : Int)
          · have c5b := decide_eq_true c5
            have p5 : 0 ≤ x69 := HK.out.1
            obtain ⟨ad3, e3, hx0, hx1, hx2, hx3, hx4, hx5, hx6, hx7⟩ := at_T27 HR0.out x69 p5 c5
            cases e3
            replace hx0 := (HB.out.cell (World.block_lt_of_cell? w _ hx0)).trans hx0
            replace hx1 := (HB.out.cell (World.block_lt_of_cell? w _ hx1)).trans hx1
            replace hx2 := (HB.out.cell (World.block_lt_of_cell? w _ hx2)).trans hx2
            replace hx3 := (HB.out.cell (World.block_lt_of_cell? w _ hx3)).trans hx3
            replace hx4 := (HB.out.cell (World.block_lt_of_cell? w _ hx4)).trans hx4
            replace hx5 := (HB.out.cell (World.block_lt_of_cell? w _ hx5)).trans hx5
            replace hx6 := (HB.out.cell (World.block_lt_of_cell? w _ hx6)).trans hx6
            replace hx7 := (HB.out.cell (World.block_lt_of_cell? w _ hx7)).trans hx7
            have hsm := rdS_mem p5 c5
            have HT := Aside0.mk (HF.out _ hsm)
            have HBs := Aside0.mk (HBest.out _ hsm)
            have P5 := Aside0.mk p5
            have Q5 := Aside0.mk c5
            have W5 := Aside0.mk (show wrap64 (x69 + 1) = x69 + 1 from by unfold wrap64; have := HL.out; have := P5.out; have := Q5.out; omega)
            clear hsm
            generalize hgs : rd_T27 l0 x69 = s at *
            clear hgs
            replace p5 := eq_true p5
            replace c5 := eq_true c5
            obtain ⟨k1, rfl⟩ : ∃ k1, gk = k1 + 1 := ⟨gk - 1, by have := HK.out; have := Q5.out; omega⟩
            by_cases h0 : s.f0 = a1
            · have q0 : (s.f0 != a1) = false := by simp [h0]
              have q2 : decide (s.f0 = a1) = true := by simp [h0]
              have QM := Aside0.mk (rmay_calls s HT.out)
              by_cases hm : mayB s.f0 s.f1 s.f2 s.f3 s.f4 s.f5 s.f6 s.f7 = true
              · rw [hm] at QM
                obtain ⟨y, hy, hyi, hyc⟩ := HBs.out h0 hm
                have hn := mapS_some (y := y) (dS z27) out (.map []) tidy_empty HIds.out hy
                rw [hyi] at hn
                have HN := Aside0.mk hn
                have HKey := Aside0.mk (keyOf_int_mk Try.underlying25 HT.out.1)
                have QC := Aside0.mk (rcmp_calls s y HT.out (HF.out _ (HMem.out _ hy).1))
                have c6b : decide (cmpS s y < 0) = false := decide_eq_false (by omega)
                clear hn hy hyi hyc h0 hm
                go_wp2_with (first
                  | (go_at_call 37; refine (QM.out _).mono ?_; rintro e w4 ⟨rfl, hb⟩; have HB4 := Aside0.mk (below_step (below_alloc HB.out _) hb); have HM4 := Aside0.mk (map_below (HM.out.alloc _) hb); have bk := (hb.block wr.heap.size (by simp)).trans (new_block wr #[.int .u64 s.f0, .int .u64 s.f1, .int .u64 s.f2, .int .u8 s.f3, .string s.f4, .string s.f5, .int .i64 s.f6, .int .i64 s.f7] 27); have HLt := Aside0.mk (show wr.heap.size < w4.heap.size from Nat.lt_of_lt_of_le (by simp) hb.size); have hk0 : w4.cell? ⟨wr.heap.size, 0, none⟩ = some (.int .u64 s.f0) := (blk_cell bk 0).trans rfl; have hk1 : w4.cell? ⟨wr.heap.size, 1, none⟩ = some (.int .u64 s.f1) := (blk_cell bk 1).trans rfl; have hk2 : w4.cell? ⟨wr.heap.size, 2, none⟩ = some (.int .u64 s.f2) := (blk_cell bk 2).trans rfl; have hk3 : w4.cell? ⟨wr.heap.size, 3, none⟩ = some (.int .u8 s.f3) := (blk_cell bk 3).trans rfl; have hk4 : w4.cell? ⟨wr.heap.size, 4, none⟩ = some (.string s.f4) := (blk_cell bk 4).trans rfl; have hk5 : w4.cell? ⟨wr.heap.size, 5, none⟩ = some (.string s.f5) := (blk_cell bk 5).trans rfl; have hk6 : w4.cell? ⟨wr.heap.size, 6, none⟩ = some (.int .i64 s.f6) := (blk_cell bk 6).trans rfl; have hk7 : w4.cell? ⟨wr.heap.size, 7, none⟩ = some (.int .i64 s.f7) := (blk_cell bk 7).trans rfl; clear hb)
                  | (at_lookup; refine lookup_span _ rfl _ _ 61 rfl 25 lawU64 Try.underlying61 w2.heap.size out.length (mapS out (.map [])) rfl HM4.out _ _ rfl HKey.out y HN.out.1 true HN.out.2 ?_; have hq0 : ∀ o, (w4.alloc o).cell? ⟨wr.heap.size, 0, none⟩ = some (.int .u64 s.f0) := fun o => (blk_cell ((heap_alloc_lt w4 o HLt.out).trans bk) 0).trans rfl; have hq1 : ∀ o, (w4.alloc o).cell? ⟨wr.heap.size, 1, none⟩ = some (.int .u64 s.f1) := fun o => (blk_cell ((heap_alloc_lt w4 o HLt.out).trans bk) 1).trans rfl; have hq2 : ∀ o, (w4.alloc o).cell? ⟨wr.heap.size, 2, none⟩ = some (.int .u64 s.f2) := fun o => (blk_cell ((heap_alloc_lt w4 o HLt.out).trans bk) 2).trans rfl; have hq3 : ∀ o, (w4.alloc o).cell? ⟨wr.heap.size, 3, none⟩ = some (.int .u8 s.f3) := fun o => (blk_cell ((heap_alloc_lt w4 o HLt.out).trans bk) 3).trans rfl; have hq4 : ∀ o, (w4.alloc o).cell? ⟨wr.heap.size, 4, none⟩ = some (.string s.f4) := fun o => (blk_cell ((heap_alloc_lt w4 o HLt.out).trans bk) 4).trans rfl; have hq5 : ∀ o, (w4.alloc o).cell? ⟨wr.heap.size, 5, none⟩ = some (.string s.f5) := fun o => (blk_cell ((heap_alloc_lt w4 o HLt.out).trans bk) 5).trans rfl; have hq6 : ∀ o, (w4.alloc o).cell? ⟨wr.heap.size, 6, none⟩ = some (.int .i64 s.f6) := fun o => (blk_cell ((heap_alloc_lt w4 o HLt.out).trans bk) 6).trans rfl; have hq7 : ∀ o, (w4.alloc o).cell? ⟨wr.heap.size, 7, none⟩ = some (.int .i64 s.f7) := fun o => (blk_cell ((heap_alloc_lt w4 o HLt.out).trans bk) 7).trans rfl; skip)
                  | (go_at_call 38; refine (QC.out _).mono ?_; rintro e w6 ⟨rfl, hb⟩; have HB6 := Aside0.mk (below_step (below_alloc HB4.out _) hb); have HM6 := Aside0.mk (map_below (HM4.out.alloc _) hb); clear hb))
                go_roundg k1
                case measure => omega
                case rel => exact ⟨x69 + 1, by rw [W5.out], ⟨by have := P5.out; omega, by have := HK.out; omega⟩, HM6, HB6⟩
              · have hm' : mayB s.f0 s.f1 s.f2 s.f3 s.f4 s.f5 s.f6 s.f7 = false := by simpa using hm
                rw [hm'] at QM
                clear hm hm' h0
                go_wp2_with (first | (go_at_call 37; refine (QM.out _).mono ?_; rintro e w4 ⟨rfl, hb⟩; have HB4 := Aside0.mk (below_step (below_alloc HB.out _) hb); have HM4 := Aside0.mk (map_below (HM.out.alloc _) hb); have bk := (hb.block wr.heap.size (by simp)).trans (new_block wr #[.int .u64 s.f0, .int .u64 s.f1, .int .u64 s.f2, .int .u8 s.f3, .string s.f4, .string s.f5, .int .i64 s.f6, .int .i64 s.f7] 27); have HLt := Aside0.mk (show wr.heap.size < w4.heap.size from Nat.lt_of_lt_of_le (by simp) hb.size); have hk0 : w4.cell? ⟨wr.heap.size, 0, none⟩ = some (.int .u64 s.f0) := (blk_cell bk 0).trans rfl; have hk1 : w4.cell? ⟨wr.heap.size, 1, none⟩ = some (.int .u64 s.f1) := (blk_cell bk 1).trans rfl; have hk2 : w4.cell? ⟨wr.heap.size, 2, none⟩ = some (.int .u64 s.f2) := (blk_cell bk 2).trans rfl; have hk3 : w4.cell? ⟨wr.heap.size, 3, none⟩ = some (.int .u8 s.f3) := (blk_cell bk 3).trans rfl; have hk4 : w4.cell? ⟨wr.heap.size, 4, none⟩ = some (.string s.f4) := (blk_cell bk 4).trans rfl; have hk5 : w4.cell? ⟨wr.heap.size, 5, none⟩ = some (.string s.f5) := (blk_cell bk 5).trans rfl; have hk6 : w4.cell? ⟨wr.heap.size, 6, none⟩ = some (.int .i64 s.f6) := (blk_cell bk 6).trans rfl; have hk7 : w4.cell? ⟨wr.heap.size, 7, none⟩ = some (.int .i64 s.f7) := (blk_cell bk 7).trans rfl; clear hb))
                go_roundg k1
                case measure => omega
                case rel => exact ⟨x69 + 1, by rw [W5.out], ⟨by have := P5.out; omega, by have := HK.out; omega⟩, HM4, HB4⟩
            · have q0 : (s.f0 != a1) = true := by simpa using h0
              have q2 : decide (s.f0 = a1) = false := by simpa using h0
              clear h0
              go_wp2_with fail
              go_roundg k1
              case measure => omega
              case rel => exact ⟨x69 + 1, by rw [W5.out], ⟨by have := P5.out; omega, by have := HK.out; omega⟩, ⟨HM.out.alloc _⟩, ⟨below_alloc HB.out _⟩⟩
          · have c5b := decide_eq_false c5
            go_wp2_with (go_at_call 34; refine (QF.out _).mono ?_; rintro e w4 ⟨rfl, hb⟩; have HB4 := Aside0.mk (below_step HB.out hb); clear hb)
            go_ret
            exact ⟨rfl, HB4.out⟩
end Go.Proofs.Ytkpmaenhkjfncaa.L
