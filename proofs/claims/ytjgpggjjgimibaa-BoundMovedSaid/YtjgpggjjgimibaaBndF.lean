/- bound.Of: the walk. -/
import Derived.Test.YtjgpggjjgimibaaBndE
namespace Go.Proofs.Ytjgpggjjgimibaa.L
open Go.RowKit Go.Proofs.Ytjgpggjjgimibaa.Q Go.Proofs.YtjgpggjjgimibaaW.PrintWords Go.Proofs.YtjgpggjjgimibaaW.PrintLast Go.Proofs.YtjgpggjjgimibaaW.PrintMore Go.Proofs.YtjgpggjjgimibaaW.MapB Go.Proofs.YtjgpggjjgimibaaW.Lib
set_option linter.unusedVariables false
set_option linter.unusedSimpArgs false

/-- Two edges in a block of their own. -/
theorem two_edges (W : World) (k : Nat) (x y : S37) (h : W.heap[k]? = some (.cells #[.int .i64 x.f0, .int .i64 x.f1, .int .i64 x.f2, .int .i64 x.f3.f0, .int .i64 x.f3.f1, .bool x.f4, .int .i64 y.f0, .int .i64 y.f1, .int .i64 y.f2, .int .i64 y.f3.f0, .int .i64 y.f3.f1, .bool y.f4] 37 (0, 0))) : ReadsRow (fun (e : S37) cs => cs = [.int .i64 e.f0, .int .i64 e.f1, .int .i64 e.f2, .int .i64 e.f3.f0, .int .i64 e.f3.f1, .bool e.f4]) 6 W (some ⟨k, 0, none⟩) 2 [x, y] := by
  refine ⟨rfl, by simp [Go.maxLen], fun _ => ⟨_, rfl, fun j p hj => ?_⟩⟩
  rcases j with _ | _ | j
  · cases hj
    refine ⟨_, rfl, rfl, fun i u hi => ?_⟩
    rcases i with _ | _ | _ | _ | _ | _ | i <;> first | (cases hi; done) | (rw [Addr.add_lit]; exact (blk_cell h _).trans hi)
  · cases hj
    refine ⟨_, rfl, rfl, fun i u hi => ?_⟩
    rcases i with _ | _ | _ | _ | _ | _ | i <;> first | (cases hi; done) | (rw [Addr.add_lit]; exact (blk_cell h _).trans hi)
  · cases hj
theorem edgesB_length (m : S42 → Bool) (l : List S42) (nums : List Int) : ∀ ps : List S35, (edgesB m l nums ps).length ≤ 2 * ps.length
  | [] => by simp [edgesB]
  | p :: ps => by
    have ih := edgesB_length m l nums ps
    have h1 : (edgesAt m l nums p).length ≤ 2 := by unfold edgesAt; split <;> simp
    have h2 : edgesB m l nums (p :: ps) = edgesAt m l nums p ++ edgesB m l nums ps := by simp [edgesB]
    rw [h2, List.length_append, List.length_cons]
    omega
set_option maxHeartbeats 4000000 in
set_option maxRecDepth 100000 in
theorem edges_calls (m : S42 → Bool) (l : List S42) (hm : ∀ s ∈ l, ∃ k, span_May.f k s.f0 s.f1 s.f2 s.f3 s.f4 s.f5 s.f6 s.f7 = some (m s)) (hl : l.length ≤ 1759218604441) (hf : ∀ x ∈ l, fitS x) (ps : List S35) (hp : ps.length ≤ 100000000) (A0 A1 : Option Addr) (c0 c1 : Nat) (w : World) (hr0 : Kd.C k42 w A0 l.length l) (hc0 : l.length ≤ c0) (hr1 : Kd.C k35 w A1 ps.length ps) :
    Calls Try.prog 16 #[.slice A0 l.length c0, .slice A1 ps.length c1] w fun e w' => ∃ v : Value, e = .returned v ∧ Kd.R k37 37 w' w.heap.size (fun _ => True) v (edgesB m l (numsL l) ps) ∧ Below w.heap.size w w' := by
  have HR1 := Aside0.mk hr1
  have HP := Aside0.mk hp
  have HB0 := Aside0.mk (Below.refl w.heap.size w)
  have hnl : (numsL l).length = l.length := by unfold numsL; rw [List.length_map]
  have HNl := Aside0.mk hnl
  have QN := Aside0.mk (nums_calls l hl hf A0 c0 w hr0 hc0)
  have QG := Aside0.mk (fun (p0 p1 : Int) (W : World) (hb : Below w.heap.size w W) => gaps_calls m l hm p0 p1 A0 c0 W (Kd.C_below hr0 hb))
  have HIn := Aside0.mk (fun c s => gapsB_in m l c s)
  clear hr0 hc0 hr1 hp hl hf hm hnl
  generalize hnn : numsL l = nums at *
  clear hnn
  go_enter Try.func16, Try.ntmps16
  go_wp2_with (go_at_call 34; refine QN.out.mono ?_; rintro e w1 ⟨v5, rfl, ho, hb⟩; obtain ⟨A5, c5, rfl⟩ := Kd.R_slice ho; have HO1 := Aside0.mk ho; have HB1 := Aside0.mk hb; clear ho hb)
  go_loopg [6, 18] ps.length (fun kq v6 v18 w' => ∃ x18 : Int, v18 = .int .i64 x18 ∧ Aside0 (0 ≤ x18 ∧ x18 + kq = ps.length) ∧ Aside0 (Kd.R (Kd.int .i64) 3 w' w.heap.size (fun k => some k ≠ v6.ownBlock) (.slice A5 nums.length c5) nums) ∧ Aside0 (Kd.R k37 37 w' w.heap.size (fun k => some k ≠ (Value.slice A5 nums.length c5).ownBlock) v6 (edgesB m l nums (ps.take x18.toNat))) ∧ Aside0 (Below w.heap.size w w'))
  case atStart => exact ⟨0, rfl, ⟨by omega, by omega⟩, ⟨Kd.R_mono HO1.out (fun k _ h => by cases h)⟩, ⟨Kd.R_nil _ _ _ _ _⟩, HB1⟩
  case round =>
    obtain ⟨x18, rfl, HK, HN, HE, HB⟩ := hrel
    by_cases c1 : x18 < (ps.length : Int)
    · have c1b := decide_eq_true c1
      have p1 : 0 ≤ x18 := HK.out.1
      obtain ⟨ad1, e1, hx0, hx1⟩ := at_T35 HR1.out x18 p1 c1
      cases e1
      replace hx0 := (HB.out.cell (World.block_lt_of_cell? w _ hx0)).trans hx0
      replace hx1 := (HB.out.cell (World.block_lt_of_cell? w _ hx1)).trans hx1
      have hit : x18.toNat < ps.length := by omega
      have HNx := Aside0.mk (show ps.take (x18 + 1).toNat = ps.take x18.toNat ++ [rd_T35 ps x18] from by
        rw [show (x18 + 1).toNat = x18.toNat + 1 by omega, List.take_succ_eq_append_getElem hit]
        simp [rd_T35, List.getD, hit])
      have P1 := Aside0.mk p1
      have Q1 := Aside0.mk c1
      have W1 := Aside0.mk (show wrap64 (x18 + 1) = x18 + 1 from by unfold wrap64; have := HP.out; have := P1.out; have := Q1.out; omega)
      clear hit
      generalize rd_T35 ps x18 = p at *
      replace p1 := eq_true p1
      replace c1 := eq_true c1
      obtain ⟨k1, rfl⟩ : ∃ k1, gk = k1 + 1 := ⟨gk - 1, by have := HK.out; have := Q1.out; omega⟩
      have QP := Aside0.mk (QG.out p.f0 p.f1)
      cases hq : (gapsB m l p.f0 p.f1).2.2 with
      | false =>
        have HEd := Aside0.mk (show edgesAt m l nums p = [] from by unfold edgesAt; rw [hq]; simp)
        rw [hq] at QP
        clear hq
        go_wp2_with (go_at_call 35; refine (QP.out _ (below_alloc HB.out _)).mono ?_; rintro e w2 ⟨rfl, hb⟩; have HB2 := Aside0.mk (below_step (below_alloc HB.out _) hb); have HN2 := Aside0.mk (Kd.R_below (Kd.R_alloc HN.out _) hb); have HE2 := Aside0.mk (Kd.R_below (Kd.R_alloc HE.out _) hb); clear hb)
        go_roundg k1
        case measure => omega
        case rel => exact ⟨x18 + 1, by rw [W1.out], ⟨by have := P1.out; omega, by have := HK.out; omega⟩, HN2, ⟨by rw [HNx.out, edgesB_snoc, HEd.out, List.append_nil]; exact HE2.out⟩, HB2⟩
      | true =>
        obtain ⟨i0, i1, i2, i3⟩ := HIn.out p.f0 p.f1 hq
        have HEd := Aside0.mk (show edgesAt m l nums p = [⟨rd nums p.f1, rd nums p.f0, (gapsB m l p.f0 p.f1).1, p, false⟩, ⟨rd nums p.f0, rd nums p.f1, (gapsB m l p.f0 p.f1).2.1, p, true⟩] from by unfold edgesAt; rw [hq]; simp)
        rw [hq] at QP
        clear hq
        rw [← HNl.out] at i1 i3
        obtain ⟨ad5, e5, hn0⟩ := Kd.at_int (Kd.R_reads' HN.out).2.2 p.f0 i0 i1
        cases e5
        obtain ⟨ad5', e5, hn1⟩ := Kd.at_int (Kd.R_reads' HN.out).2.2 p.f1 i2 i3
        obtain rfl : ad5 = ad5' := by injection e5
        generalize (gapsB m l p.f0 p.f1).1 = lead at *
        generalize (gapsB m l p.f0 p.f1).2.1 = rest at *
        replace i0 := eq_true i0
        replace i1 := eq_true i1
        replace i2 := eq_true i2
        replace i3 := eq_true i3
        go_wp2_with (go_at_call 35; refine (QP.out _ (below_alloc HB.out _)).mono ?_; rintro e w2 ⟨rfl, hb⟩; have HB2 := Aside0.mk (below_step (below_alloc HB.out _) hb); have HN2 := Aside0.mk (Kd.R_below (Kd.R_alloc HN.out _) hb); have HE2 := Aside0.mk (Kd.R_below (Kd.R_alloc HE.out _) hb); have bp := (hb.block wr.heap.size (by simp)).trans (MapKept.heap_alloc wr _).1; have kp0 : w2.cell? ⟨wr.heap.size, 0, none⟩ = some (.int .i64 p.f0) := (blk_cell bp 0).trans rfl; have kp1 : w2.cell? ⟨wr.heap.size, 1, none⟩ = some (.int .i64 p.f1) := (blk_cell bp 1).trans rfl; have h5 := (hb.cell (World.block_lt_of_cell? _ _ (((below_alloc (Below.refl wr.heap.size wr) (.cells #[.int .i64 p.f0, .int .i64 p.f1] 35)).cell (World.block_lt_of_cell? wr _ hn0)).trans hn0))).trans (((below_alloc (Below.refl wr.heap.size wr) (.cells #[.int .i64 p.f0, .int .i64 p.f1] 35)).cell (World.block_lt_of_cell? wr _ hn0)).trans hn0); have h6 := (hb.cell (World.block_lt_of_cell? _ _ (((below_alloc (Below.refl wr.heap.size wr) (.cells #[.int .i64 p.f0, .int .i64 p.f1] 35)).cell (World.block_lt_of_cell? wr _ hn1)).trans hn1))).trans (((below_alloc (Below.refl wr.heap.size wr) (.cells #[.int .i64 p.f0, .int .i64 p.f1] 35)).cell (World.block_lt_of_cell? wr _ hn1)).trans hn1); clear hb bp)
        go_quiet (fail)
        go_wp2_with (first | ((with_reducible refine gate_builtin (b := .append) (xs := #[.tmp 41, .tmp 52]) rfl ?_); at_builtin; refine Kd.R_append_rows k37 (Rr := fun (e : S37) cs => cs = [.int .i64 e.f0, .int .i64 e.f1, .int .i64 e.f2, .int .i64 e.f3.f0, .int .i64 e.f3.f1, .bool e.f4]) (w0 := w) w.heap.size rfl (.tmp 41) (.tmp 52) 30 37 (.agg #[.int .i64 0, .int .i64 0, .int .i64 0, .int .i64 0, .int .i64 0, .bool false]) 48 rfl Try.underlying30 (by kernel_rfl) rfl (by decide) (by omega) u6 (edgesB m l nums (ps.take x18.toNat)) [⟨rd nums p.f1, rd nums p.f0, lead, p, false⟩, ⟨rd nums p.f0, rd nums p.f1, rest, p, true⟩] _ _ _ (fun k => some k ≠ (Value.slice (some ad5) nums.length c5).ownBlock) (fun _ => False) rfl rfl ?aO ?aR ?aK (fun _ h => h.elim) ?aF ?aB ?aS ?aL ?_; (case aO => exact Kd.R_alloc (Kd.R_drewN HE2.out _) _); (case aR => exact two_edges _ _ ⟨rd nums p.f1, rd nums p.f0, lead, p, false⟩ ⟨rd nums p.f0, rd nums p.f1, rest, p, true⟩ (MapKept.heap_alloc _ _).1); (case aK => intro x cs h; rw [h]; exact k37_mkM _ _ _ x); (case aF => intro k hk h; have e : k = ad5.block := Option.some.inj h; have h7 := World.block_lt_of_cell? w2 _ h5; rw [add_block] at h7; have h8 : w2.heap.size ≤ k := Nat.le_trans (by simp) hk; omega); (case aB => exact below_alloc (pw_below_drewN HB2.out _) _); (case aS => exact (below_alloc (pw_below_drewN HB2.out _) _).size); (case aL => have h1 := edgesB_length m l nums (ps.take x18.toNat); rw [List.length_take] at h1; have h2 := HP.out; omega); intro v7 w7 ho hb hg hat; have HO7 := Aside0.mk ho; have HB7 := Aside0.mk hb; have HN7 := Aside0.mk (Kd.R_after (v := u6) (v1 := v7) (ok := (fun _ => True)) (Kd.R_alloc (Kd.R_drewN (Kd.R_mono HN2.out (fun _ hk => ⟨trivial, hk⟩)) _) _) hg hat); clear ho hb hg hat))
        go_roundg k1
        case measure => omega
        case rel => exact ⟨x18 + 1, by rw [W1.out], ⟨by have := P1.out; omega, by have := HK.out; omega⟩, ⟨Kd.R_mono HN7.out (fun _ hk => hk.2)⟩, ⟨by rw [HNx.out, edgesB_snoc, HEd.out]; exact HO7.out⟩, HB7⟩
    · have c1b := decide_eq_false c1
      have hx : x18.toNat = ps.length := by have := HK.out; omega
      have ho := HE.out
      rw [hx, List.take_length] at ho
      have HO := Aside0.mk (Kd.R_mono ho (fun _ _ => trivial))
      clear ho hx c1
      go_wp2_with fail
      go_ret
      exact ⟨_, rfl, HO.out, HB.out⟩
end Go.Proofs.Ytjgpggjjgimibaa.L
