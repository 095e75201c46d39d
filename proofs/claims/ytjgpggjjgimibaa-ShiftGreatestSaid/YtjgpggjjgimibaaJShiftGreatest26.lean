/- Texts joined by wip/tools/merge.py: RpcG ShfA ShfB ShfC Vx0 Zx0 Zx1 Qx7. -/
import Derived.Test.YtjgpggjjgimibaaJShiftGreatest23
import Derived.Test.YtjgpggjjgimibaaJShiftGreatest25
import Derived.Test.YtjgpggjjgimibaaJShiftGreatest22
import Derived.Test.YtjgpggjjgimibaaProg
import Derived.Below
import Derived.Deep.Draws
import Derived.Deep.AppendLies
import Derived.Maps.AppendAt
import Derived.OwnWalk
import Derived.Laws.BytesArg
import Derived.Laws.MakeOwn
import Derived.Laws.OwnMore
import Derived.Deep.OwnRows
import Derived.Tactics
import Derived.Lib.ConvBytes
import Derived.Laws.Slices
import Derived.WalkKit
import Derived.KernelRfl
import Derived.RowKit3
import Derived.Deep.LoopGhost
import Derived.Deep.QuietTactic
import Derived.BigQuiet
import Derived.WideLaws
import Derived.Deep.DeepCutAuto
import Derived.Deep.CutBlock
import Derived.Deep.RegionHeld3
import Derived.Laws.Rows
import Derived.Lib.AppendStr
import Derived.ArgAppend
import Derived.Laws.IdiomCopy
import Derived.OrdersHeld
import Derived.Laws.BitsLemmas
import Derived.RowKit
import Derived.Test.YtjgpggjjgimibaaJShiftGreatest1
import Derived.Test.YtjgpggjjgimibaaJShiftGreatest2
import Derived.Test.YtjgpggjjgimibaaJShiftGreatest3
import Derived.Test.YtjgpggjjgimibaaJShiftGreatest4
import Derived.Test.YtjgpggjjgimibaaJShiftGreatest5
import Derived.Test.YtjgpggjjgimibaaJShiftGreatest6
import Derived.Test.YtjgpggjjgimibaaJShiftGreatest7
import Derived.Test.YtjgpggjjgimibaaJShiftGreatest8
import Derived.Test.YtjgpggjjgimibaaJShiftGreatest9
import Derived.Test.YtjgpggjjgimibaaJShiftGreatest10
import Derived.Test.YtjgpggjjgimibaaJShiftGreatest11
import Derived.Test.YtjgpggjjgimibaaJShiftGreatest12
import Derived.Test.YtjgpggjjgimibaaJShiftGreatest13
import Derived.Test.YtjgpggjjgimibaaJShiftGreatest14
import Derived.Test.YtjgpggjjgimibaaJShiftGreatest15
import Derived.Test.YtjgpggjjgimibaaJShiftGreatest16
import Derived.Test.YtjgpggjjgimibaaJShiftGreatest17
import Derived.Test.YtjgpggjjgimibaaJShiftGreatest18
import Derived.Test.YtjgpggjjgimibaaJShiftGreatest19
import Derived.Test.YtjgpggjjgimibaaJShiftGreatest20
import Derived.Test.YtjgpggjjgimibaaJShiftGreatest21
/- rpc.Of: the pairs. -/
namespace Go.Proofs.Ytjgpggjjgimibaa.L
open Go.RowKit Go.Proofs.Ytjgpggjjgimibaa.Q Go.Proofs.YtjgpggjjgimibaaW.PrintWords Go.Proofs.YtjgpggjjgimibaaW.PrintLast Go.Proofs.YtjgpggjjgimibaaW.PrintMore Go.Proofs.YtjgpggjjgimibaaW.MapB Go.Proofs.YtjgpggjjgimibaaW.Lib
set_option linter.unusedVariables false
set_option linter.unusedSimpArgs false
theorem pairs_next (l : List S42) (ps : List Int) (x : Int) (h0 : 0 ≤ x) : (List.range (x + 1).toNat).flatMap (fun i : Nat => pairAt l ps i) = (List.range x.toNat).flatMap (fun i : Nat => pairAt l ps i) ++ pairAt l ps x := by
  rw [show (x + 1).toNat = x.toNat + 1 by omega, List.range_succ, List.flatMap_append]
  simp [show max x 0 = x by omega]
theorem pairs_le (l : List S42) (ps : List Int) (n : Nat) : ((List.range n).flatMap (fun i : Nat => pairAt l ps i)).length ≤ n := by
  have := flat_le (fun i : Nat => pairAt l ps i) (fun i => pairAt_le l ps i) (List.range n)
  rwa [List.length_range] at this
set_option maxHeartbeats 8000000 in
set_option maxRecDepth 100000 in
theorem rpc_calls (l : List S42) (hl : l.length ≤ 1000000) (hf : ∀ s ∈ l, fitS s) (ps : List Int) (hps : ps.length ≤ 1000000) (A0 A1 : Option Addr) (c0 c1_ : Nat) (w : World) (hr0 : Kd.C k42 w A0 l.length l) (hr1 : Kd.C (Kd.int .i64) w A1 ps.length ps) :
    Calls Try.prog 50 #[.slice A0 l.length c0, .slice A1 ps.length c1_] w fun e w' => ∃ v : Value, e = .returned v ∧ Kd.R k35 35 w' w.heap.size (fun _ => True) v (pairsB l ps) ∧ Below w.heap.size w w' := by
  have HB0 := Aside0.mk (Below.refl w.heap.size w)
  by_cases he : ¬ (ps.length = l.length)
  · have hv : pairsB l ps = [] := by unfold pairsB; rw [if_neg (fun h => he h.1.symm)]
    rw [hv]
    have b1 : (((ps.length : Nat) : Int) != ((l.length : Nat) : Int)) = true := by rw [bne_iff_ne]; omega
    clear hr0 hr1 hf hv he
    go_enter Try.func50, Try.ntmps50
    go_wp2_with fail
    go_ret
    exact ⟨_, rfl, Kd.R_nil _ _ _ _ _, HB0.out⟩
  replace he := Decidable.not_not.1 he
  have b1 : (((ps.length : Nat) : Int) != ((l.length : Nat) : Int)) = false := by rw [he]; simp
  have HEq := Aside0.mk he
  have HR0 := Aside0.mk hr0
  have HR1 := Aside0.mk hr1
  have HL := Aside0.mk hl
  have QF := Aside0.mk (fun (i : Int) (B : Nat) (W : World) (hb : Below w.heap.size w W) hc => found_calls mayS l (mayS_ev l hf) i A0 c0 B W (Kd.C_below hr0 hb) hc)
  clear hr0 hr1 hf he hl
  go_enter Try.func50, Try.ntmps50
  go_wp2_with fail
  go_loopg [22] ps.length (fun kq v22 w' => ∃ x22 : Int, v22 = .int .i64 x22 ∧ Aside0 (0 ≤ x22 ∧ x22 + kq = ps.length) ∧ Aside0 (∀ o ∈ ps.take x22.toNat, -1 ≤ o ∧ o < (l.length : Int)) ∧ Aside0 (Below w.heap.size w w'))
  case atStart => exact ⟨0, rfl, ⟨by omega, by omega⟩, ⟨by simp⟩, HB0⟩
  case round =>
    obtain ⟨x22, rfl, HK, HO, HB⟩ := hrel
    by_cases c1 : x22 < (ps.length : Int)
    · have c1b := decide_eq_true c1
      have p1 : 0 ≤ x22 := HK.out.1
      obtain ⟨ad, e1, hx⟩ := Kd.at_int HR1.out x22 p1 c1
      cases e1
      replace hx := (HB.out.cell (World.block_lt_of_cell? w _ hx)).trans hx
      have hit : x22.toNat < ps.length := by omega
      have hev : rd ps x22 = ps[x22.toNat] := by simp [rd, List.getD, hit]
      have HM := Aside0.mk (show rd ps x22 ∈ ps by rw [hev]; exact List.getElem_mem _)
      have HNx := Aside0.mk (show ps.take (x22 + 1).toNat = ps.take x22.toNat ++ [rd ps x22] from by
        rw [show (x22 + 1).toNat = x22.toNat + 1 by omega, List.take_succ_eq_append_getElem hit, hev])
      have P1 := Aside0.mk p1
      have Q1 := Aside0.mk c1
      have W1 := Aside0.mk (show wrap64 (x22 + 1) = x22 + 1 from by unfold wrap64; have := HL.out; have := HEq.out; have := P1.out; have := Q1.out; omega)
      clear hit hev
      generalize rd ps x22 = o at *
      replace p1 := eq_true p1
      replace c1 := eq_true c1
      obtain ⟨k1, rfl⟩ : ∃ k1, gk = k1 + 1 := ⟨gk - 1, by have := HK.out; have := Q1.out; omega⟩
      have bad : ¬ (-1 ≤ o ∧ o < (l.length : Int)) → pairsB l ps = [] := by
        intro h
        unfold pairsB
        rw [if_neg (fun h2 => h (h2.2 _ HM.out))]
      by_cases d1 : o < -1
      · have d1b := decide_eq_true d1
        have HBd := Aside0.mk (bad (by omega))
        clear d1 bad
        go_wp2_with fail
        go_ret
        exact ⟨_, rfl, by rw [HBd.out]; exact Kd.R_nil _ _ _ _ _, HB.out⟩
      by_cases d2 : (l.length : Int) ≤ o
      · have d1b := decide_eq_false d1
        have d2b := decide_eq_true d2
        have HBd := Aside0.mk (bad (by omega))
        clear d1 d2 bad
        go_wp2_with fail
        go_ret
        exact ⟨_, rfl, by rw [HBd.out]; exact Kd.R_nil _ _ _ _ _, HB.out⟩
      have d1b := decide_eq_false d1
      have d2b := decide_eq_false d2
      have HOo := Aside0.mk (show -1 ≤ o ∧ o < (l.length : Int) from ⟨by omega, by omega⟩)
      clear d1 d2 bad
      go_wp2_with fail
      go_roundg k1
      case measure => omega
      case rel => exact ⟨x22 + 1, by rw [W1.out], ⟨by have := P1.out; omega, by have := HK.out; omega⟩, ⟨by
        rw [HNx.out]
        intro y hy
        rcases List.mem_append.1 hy with h | h
        · exact HO.out y h
        · rw [List.mem_singleton.1 h]; exact HOo.out⟩, HB⟩
    · have c1b := decide_eq_false c1
      have hx : x22.toNat = ps.length := by have := HK.out; omega
      have ha := HO.out
      rw [hx, List.take_length] at ha
      have HV := Aside0.mk (show pairsB l ps = (List.range l.length).flatMap (fun i : Nat => pairAt l ps i) from by unfold pairsB; rw [if_pos ⟨HEq.out.symm, ha⟩])
      have HIn := Aside0.mk ha
      clear c1 hx ha HO HK
      go_wp2_with (go_at_call 56; refine (finder_calls A0 _ c0 _).mono ?_; rintro e w1 ⟨B, rfl, hcl, hb⟩; have HB1 := Aside0.mk (below_step HB.out hb); have HC1 := Aside0.mk hcl; clear hb hcl)
      go_loopg [8, 39] ps.length (fun kq v8 v39 w' => ∃ x39 : Int, v39 = .int .i64 x39 ∧ Aside0 (0 ≤ x39 ∧ x39 + kq = ps.length) ∧ Aside0 (Kd.R k35 35 w' w.heap.size (fun k => k ≠ B) v8 ((List.range x39.toNat).flatMap (fun i : Nat => pairAt l ps i))) ∧ Aside0 (w'.cell? ⟨B, 0, none⟩ = some (.slice A0 l.length c0)) ∧ Aside0 (Below w.heap.size w w'))
      case atStart => exact ⟨0, rfl, ⟨by omega, by omega⟩, ⟨Kd.R_nil _ _ _ _ _⟩, HC1, HB1⟩
      case round =>
        clear HC1 HB1 HB
        obtain ⟨x39, rfl, HK, HO, HC, HB⟩ := hrel
        by_cases c1 : x39 < (ps.length : Int)
        · have c2b := decide_eq_true c1
          have p1 : 0 ≤ x39 := HK.out.1
          obtain ⟨ad, e1, hx⟩ := Kd.at_int HR1.out x39 p1 c1
          cases e1
          replace hx := (HB.out.cell (World.block_lt_of_cell? w _ hx)).trans hx
          have hri := inP_rd (ps := ps) (by rw [HEq.out]; exact HIn.out) x39 p1 c1
          have HNx := Aside0.mk (pairs_next l ps x39 p1)
          have HLe := Aside0.mk (pairs_le l ps x39.toNat)
          have hX : findS mayS l x39 = if mayS (rd_T42 l x39) = true then (rd_T42 l x39, true) else (z42, false) := by
            unfold findS
            by_cases hm : mayS (rd_T42 l x39) = true
            · rw [if_pos ⟨p1, by rw [HEq.out] at c1; exact c1, hm⟩, if_pos hm]
            · rw [if_neg (fun h => hm h.2.2), if_neg hm]
          have hY : findS mayS l (rd ps x39) = if 0 ≤ rd ps x39 ∧ mayS (rd_T42 l (rd ps x39)) = true then (rd_T42 l (rd ps x39), true) else (z42, false) := by
            unfold findS
            rw [HEq.out] at hri
            by_cases hm : 0 ≤ rd ps x39 ∧ mayS (rd_T42 l (rd ps x39)) = true
            · rw [if_pos ⟨hm.1, hri.2, hm.2⟩, if_pos hm]
            · rw [if_neg (fun h => hm ⟨h.1, h.2.2⟩), if_neg hm]
          have HPA := Aside0.mk (show pairAt l ps x39 = if (findS mayS l x39).2 = true ∧ (findS mayS l (rd ps x39)).2 = true ∧ (findS mayS l x39).1.f3 = 2 ∧ (findS mayS l (rd ps x39)).1.f3 = 1 then [⟨rd ps x39, x39⟩] else [] from by
            unfold pairAt
            rw [hX, hY]
            by_cases h1 : mayS (rd_T42 l x39) = true
            · rw [if_pos h1]
              by_cases h2 : 0 ≤ rd ps x39 ∧ mayS (rd_T42 l (rd ps x39)) = true
              · rw [if_pos h2]
                simp only [h1, h2, true_and, and_true]
              · rw [if_neg h2, if_neg (fun h => h2 ⟨h.1, h.2.2.2.2⟩), if_neg (fun h => by cases h.2.1)]
            · rw [if_neg h1, if_neg (fun h => h1 h.2.2.2.1), if_neg (fun h => by cases h.1)])
          have QX := Aside0.mk (QF.out x39)
          have QY := Aside0.mk (QF.out (rd ps x39))
          have P1 := Aside0.mk p1
          have Q1 := Aside0.mk c1
          have W1 := Aside0.mk (show wrap64 (x39 + 1) = x39 + 1 from by unfold wrap64; have := HL.out; have := HEq.out; have := P1.out; have := Q1.out; omega)
          clear hX hY hri
          generalize findS mayS l x39 = X at *
          generalize findS mayS l (rd ps x39) = Y at *
          generalize rd ps x39 = p at *
          obtain ⟨x, bx⟩ := X
          obtain ⟨y, bY⟩ := Y
          dsimp only at *
          generalize hac : (List.range x39.toNat).flatMap (fun i : Nat => pairAt l ps i) = acc at *
          clear hac
          replace p1 := eq_true p1
          replace c1 := eq_true c1
          obtain ⟨k1, rfl⟩ : ∃ k1, gk = k1 + 1 := ⟨gk - 1, by have := HK.out; have := Q1.out; omega⟩
          have fin : ∀ (b1 b2 b3 b4 : Bool), bx = b1 → bY = b2 → ((x.f3 : Int) == 2) = b3 → ((y.f3 : Int) == 1) = b4 → (b1 && (b2 && (b3 && b4))) = decide (bx = true ∧ bY = true ∧ x.f3 = 2 ∧ y.f3 = 1) := by
            intro b1 b2 b3 b4 e1 e2 e3 e4
            subst e1 e2 e3 e4
            rw [Bool.eq_iff_iff]
            simp
          obtain ⟨b3, h3⟩ : ∃ b3, ((x.f3 : Int) == 2) = b3 := ⟨_, rfl⟩
          obtain ⟨b4, h4⟩ : ∃ b4, ((y.f3 : Int) == 1) = b4 := ⟨_, rfl⟩
          have hfin := fin bx bY b3 b4 rfl rfl h3 h4
          have HPB := Aside0.mk (show pairAt l ps x39 = if (bx && (bY && (b3 && b4))) = true then [⟨p, x39⟩] else [] from by
            rw [HPA.out, hfin]
            by_cases h : bx = true ∧ bY = true ∧ x.f3 = 2 ∧ y.f3 = 1
            · rw [if_pos h, decide_eq_true h]; rfl
            · rw [if_neg h, decide_eq_false h]; rfl)
          clear HPA fin hfin
          cases bx <;> cases bY <;> cases b3 <;> cases b4
          all_goals
            go_wp2_with (first
              | (go_at_call 70; (with_reducible refine (QX.out B wr HB.out HC.out).mono ?_); rintro e w2 ⟨rfl, hb⟩; have HB2 := Aside0.mk (below_step HB.out hb); have HC2 := Aside0.mk ((hb.cell (World.block_lt_of_cell? _ _ HC.out)).trans HC.out); have HO2 := Aside0.mk (Kd.R_below HO.out hb); clear hb QX)
              | (go_at_call 70; (with_reducible refine (QY.out B _ (below_alloc HB2.out _) (((below_alloc (Below.refl w2.heap.size w2) _).cell (World.block_lt_of_cell? w2 _ HC2.out)).trans HC2.out)).mono ?_); rintro e w3 ⟨rfl, hb⟩; have HB3 := Aside0.mk (below_step (below_alloc HB2.out _) hb); have HC3 := Aside0.mk ((hb.cell (World.block_lt_of_cell? _ _ (((below_alloc (Below.refl w2.heap.size w2) (.cells #[.int .u64 x.f0, .int .u64 x.f1, .int .u64 x.f2, .int .u8 x.f3, .string x.f4, .string x.f5, .int .i64 x.f6, .int .i64 x.f7] 42)).cell (World.block_lt_of_cell? w2 _ HC2.out)).trans HC2.out))).trans (((below_alloc (Below.refl w2.heap.size w2) (.cells #[.int .u64 x.f0, .int .u64 x.f1, .int .u64 x.f2, .int .u8 x.f3, .string x.f4, .string x.f5, .int .i64 x.f6, .int .i64 x.f7] 42)).cell (World.block_lt_of_cell? w2 _ HC2.out)).trans HC2.out)); have HO3 := Aside0.mk (Kd.R_below (Kd.R_alloc HO2.out _) hb); have bx3 := (hb.block w2.heap.size (by simp)).trans (MapKept.heap_alloc w2 _).1; have j3 : w3.cell? ⟨w2.heap.size, 3, none⟩ = some (.int .u8 x.f3) := (blk_cell bx3 3).trans rfl; have i3 := fun o => ((below_alloc (Below.refl w3.heap.size w3) o).cell (World.block_lt_of_cell? w3 _ j3)).trans j3; clear hb bx3 QY)
              | ((with_reducible refine gate_builtin (b := .append) (xs := #[.tmp 70, .tmp 74]) rfl ?_); at_builtin; refine Kd.R_append k35 (w0 := w) w.heap.size rfl (.tmp 70) (.tmp 74) 23 35 (.agg #[.int .i64 0, .int .i64 0]) 16 rfl Try.underlying23 (by kernel_rfl) rfl (by decide) (by omega) u8 acc ⟨p, x39⟩ [.int .i64 p, .int .i64 x39] (fun k => k ≠ B) (fun _ => False) rfl ?aX ?aP (fun _ hk => hk.elim) ?aF ?aO ?aB ?aS ?aL ?_; (case aX => first | rfl | (go_simp; done) | (simp; done)); (case aP => exact k35_mkM _ _ _ ⟨p, x39⟩); (case aB => exact below_alloc HB3.out _); (case aF => exact (fun k hk h => by have h1 : B < w3.heap.size := World.block_lt_of_cell? w3 _ HC3.out; have h2 : w3.heap.size ≤ k := Nat.le_trans (by simp) hk; omega)); (case aO => exact Kd.R_alloc HO3.out _); (case aS => exact (below_alloc HB3.out _).size); (case aL => have := HLe.out; have := HL.out; have := HEq.out; have := Q1.out; omega); intro v4 w4 ho hb hg hat; have HO4 := Aside0.mk ho; have HB4 := Aside0.mk hb; have HC4 := Aside0.mk (show w4.cell? ⟨B, 0, none⟩ = some (.slice A0 l.length c0) from hg.cell (((below_alloc (Below.refl w3.heap.size w3) _).cell (World.block_lt_of_cell? w3 _ HC3.out)).trans HC3.out) (fun h => HO3.out.1 B h.symm rfl)); clear ho hb hg hat))
            go_roundg k1
            case measure => omega
            case rel => exact ⟨x39 + 1, by rw [W1.out], ⟨by have := P1.out; omega, by have := HK.out; omega⟩, ⟨by rw [HNx.out, HPB.out]; first | exact HO4.out | exact (List.append_nil acc).symm ▸ Kd.R_alloc HO3.out _⟩, by first | exact HC4 | exact ⟨((below_alloc (Below.refl w3.heap.size w3) _).cell (World.block_lt_of_cell? w3 _ HC3.out)).trans HC3.out⟩, by first | exact HB4 | exact ⟨below_alloc HB3.out _⟩⟩
        · have c2b := decide_eq_false c1
          have hx : x39.toNat = l.length := by have := HK.out; have := HEq.out; omega
          have ho := HO.out
          rw [hx] at ho
          have HO2 := Aside0.mk ho
          clear ho hx c1
          go_wp2_with fail
          go_ret
          exact ⟨_, rfl, by rw [HV.out]; exact Kd.R_mono HO2.out (fun _ _ => trivial), HB.out⟩
end Go.Proofs.Ytjgpggjjgimibaa.L

/- shift.may: whether all spans may be. -/
namespace Go.Proofs.Ytjgpggjjgimibaa.L
open Go.RowKit Go.Proofs.Ytjgpggjjgimibaa.Q Go.Proofs.YtjgpggjjgimibaaW.PrintWords Go.Proofs.YtjgpggjjgimibaaW.PrintLast Go.Proofs.YtjgpggjjgimibaaW.PrintMore Go.Proofs.YtjgpggjjgimibaaW.MapB Go.Proofs.YtjgpggjjgimibaaW.Lib
set_option linter.unusedVariables false
set_option linter.unusedSimpArgs false
theorem mayS_calls (s : S42) (h : fitS s) (w : World) : Calls Try.prog 63 #[.agg #[.int .u64 s.f0, .int .u64 s.f1, .int .u64 s.f2, .int .u8 s.f3, .string s.f4, .string s.f5, .int .i64 s.f6, .int .i64 s.f7]] w fun e w' => e = .returned (.bool (mayS s)) ∧ Below w.heap.size w w' := by
  obtain ⟨k, hk⟩ := Ev.rounds (may_ev s.f0 s.f1 s.f2 s.f3 s.f4 s.f5 s.f6 s.f7 h.2.1 h.2.2)
  exact span_May.calls k _ _ _ _ _ _ _ _ _ w hk
set_option maxRecDepth 100000 in
theorem notmay_calls (s : S42) (h : fitS s) (w : World) : Calls Try.prog 62 #[.agg #[.int .u64 s.f0, .int .u64 s.f1, .int .u64 s.f2, .int .u8 s.f3, .string s.f4, .string s.f5, .int .i64 s.f6, .int .i64 s.f7]] w fun e w' => e = .returned (.bool (!mayS s)) ∧ Below w.heap.size w w' := by
  have HB := Aside0.mk (Below.refl w.heap.size w)
  have QM := Aside0.mk (mayS_calls s h)
  clear h
  go_enter Try.func62, Try.ntmps62
  go_wp2_with (go_at_call 63; refine (QM.out _).mono ?_; rintro e w1 ⟨rfl, hb⟩; have HB1 := Aside0.mk (below_step (below_alloc HB.out _) hb); clear hb)
  go_ret
  exact ⟨rfl, HB1.out⟩
set_option maxHeartbeats 4000000 in
set_option maxRecDepth 100000 in
theorem may_index  (es : List S42) (hn : es.length ≤ 1000000000) (A0 : Option Addr) (c0 : Nat) (w : World) (hr0 : Kd.C k42 w A0 es.length es)
    (QL0 : ∀ e ∈ es, ∀ W, Below w.heap.size w W → Calls Try.prog 62 #[.agg #[.int .u64 e.f0, .int .u64 e.f1, .int .u64 e.f2, .int .u8 e.f3, .string e.f4, .string e.f5, .int .i64 e.f6, .int .i64 e.f7]] W fun r w' => r = .returned (.bool ((fun s => !mayS s) e)) ∧ Below W.heap.size W w') :
    Calls Try.prog 71 #[.slice A0 es.length c0, .func (.func 62) #[] #[]] w fun r w' => ∃ i : Int, r = .returned (.int .i64 i) ∧ decide (0 ≤ i) = es.any (fun s => !mayS s) ∧ Below w.heap.size w w' := by
  have HB0 := Aside0.mk (Below.refl w.heap.size w)
  have HR0 := Aside0.mk hr0
  have HN := Aside0.mk hn
  have QL := Aside0.mk QL0
  clear hr0 hn QL0
  generalize hpp : (fun s => !mayS s) = pp at *
  clear hpp
  go_enter Try.func71, Try.ntmps71
  go_wp2_with fail
  go_loopg [8] es.length (fun kq v8 w' => ∃ x8 : Int, v8 = .int .i64 x8 ∧ Aside0 (0 ≤ x8 ∧ x8 + kq = es.length) ∧ Aside0 (∀ e ∈ es.take x8.toNat, pp e = false) ∧ Aside0 (Below w.heap.size w w'))
  case atStart => exact ⟨0, rfl, ⟨by omega, by omega⟩, ⟨by simp⟩, HB0⟩
  case round =>
    obtain ⟨x8, rfl, HK, HA, HB⟩ := hrel
    by_cases c1 : x8 < (es.length : Int)
    · have c1b := decide_eq_true c1
      have p1 : 0 ≤ x8 := HK.out.1
      obtain ⟨ad, e1, hx0, hx1, hx2, hx3, hx4, hx5, hx6, hx7⟩ := at_T42 HR0.out x8 p1 c1
      cases e1
      replace hx0 := (HB.out.cell (World.block_lt_of_cell? w _ hx0)).trans hx0
      replace hx1 := (HB.out.cell (World.block_lt_of_cell? w _ hx1)).trans hx1
      replace hx2 := (HB.out.cell (World.block_lt_of_cell? w _ hx2)).trans hx2
      replace hx3 := (HB.out.cell (World.block_lt_of_cell? w _ hx3)).trans hx3
      replace hx4 := (HB.out.cell (World.block_lt_of_cell? w _ hx4)).trans hx4
      replace hx5 := (HB.out.cell (World.block_lt_of_cell? w _ hx5)).trans hx5
      replace hx6 := (HB.out.cell (World.block_lt_of_cell? w _ hx6)).trans hx6
      replace hx7 := (HB.out.cell (World.block_lt_of_cell? w _ hx7)).trans hx7
      have hit : x8.toNat < es.length := by omega
      have hev : rd_T42 es x8 = es[x8.toNat] := by simp [rd_T42, List.getD, hit]
      have hem : rd_T42 es x8 ∈ es := by rw [hev]; exact List.getElem_mem _
      have HE := Aside0.mk (show es.take (x8 + 1).toNat = es.take x8.toNat ++ [rd_T42 es x8] from by
        rw [show (x8 + 1).toNat = x8.toNat + 1 by omega, List.take_succ_eq_append_getElem hit, hev])
      have QE := Aside0.mk (QL.out _ hem wr HB.out)
      have HM := Aside0.mk hem
      have P1 := Aside0.mk p1
      have Q1 := Aside0.mk c1
      have W1 := Aside0.mk (show wrap64 (x8 + 1) = x8 + 1 from by unfold wrap64; have := HN.out; have := P1.out; have := Q1.out; omega)
      clear hev hem hit
      generalize rd_T42 es x8 = e at *
      replace p1 := eq_true p1
      replace c1 := eq_true c1
      obtain ⟨k1, rfl⟩ : ∃ k1, gk = k1 + 1 := ⟨gk - 1, by have := HK.out; have := Q1.out; omega⟩
      cases hq : pp e with
      | false =>
        rw [hq] at QE
        have HQ := Aside0.mk hq
        clear hq
        go_wp2_with (go_at_call 62; refine QE.out.mono ?_; rintro r w1 ⟨rfl, hb⟩; have HB1 := Aside0.mk (below_step HB.out hb); clear hb)
        go_roundg k1
        case measure => omega
        case rel => exact ⟨x8 + 1, by rw [W1.out], ⟨by have := P1.out; omega, by have := HK.out; omega⟩, ⟨by
          rw [HE.out]
          intro y hy
          rcases List.mem_append.1 hy with h | h
          · exact HA.out y h
          · rw [List.mem_singleton.1 h]; exact HQ.out⟩, HB1⟩
      | true =>
        rw [hq] at QE
        have HQ := Aside0.mk hq
        clear hq
        go_wp2_with (go_at_call 62; refine QE.out.mono ?_; rintro r w1 ⟨rfl, hb⟩; have HB1 := Aside0.mk (below_step HB.out hb); clear hb)
        go_ret
        refine ⟨x8, rfl, ?_, HB1.out⟩
        rw [decide_eq_true P1.out]
        exact (List.any_eq_true.2 ⟨e, HM.out, HQ.out⟩).symm
    · have c1b := decide_eq_false c1
      have hx : x8.toNat = es.length := by have := HK.out; omega
      have ha := HA.out
      rw [hx, List.take_length] at ha
      have HAll := Aside0.mk ha
      clear ha hx c1
      go_wp2_with fail
      go_ret
      refine ⟨-1, rfl, ?_, HB.out⟩
      exact (List.any_eq_false.2 (fun e he => by rw [HAll.out e he]; simp)).symm
set_option maxHeartbeats 2000000 in
set_option maxRecDepth 100000 in
theorem may_contains  (es : List S42) (hn : es.length ≤ 1000000000) (A0 : Option Addr) (c0 : Nat) (w : World) (hr0 : Kd.C k42 w A0 es.length es)
    (QL0 : ∀ e ∈ es, ∀ W, Below w.heap.size w W → Calls Try.prog 62 #[.agg #[.int .u64 e.f0, .int .u64 e.f1, .int .u64 e.f2, .int .u8 e.f3, .string e.f4, .string e.f5, .int .i64 e.f6, .int .i64 e.f7]] W fun r w' => r = .returned (.bool ((fun s => !mayS s) e)) ∧ Below W.heap.size W w') :
    Calls Try.prog 61 #[.slice A0 es.length c0, .func (.func 62) #[] #[]] w fun r w' => r = .returned (.bool (es.any (fun s => !mayS s))) ∧ Below w.heap.size w w' := by
  have HB0 := Aside0.mk (Below.refl w.heap.size w)
  have QI := Aside0.mk (may_index  es hn A0 c0 w hr0 QL0)
  clear hn hr0 QL0
  go_enter Try.func61, Try.ntmps61
  go_wp2_with (go_at_call 71; refine QI.out.mono ?_; rintro r w1 ⟨i, rfl, hd, hb⟩; have HD := Aside0.mk hd; have HB2 := Aside0.mk hb; clear hb hd)
  go_ret
  refine ⟨?_, HB2.out⟩
  rw [← HD.out]
  rfl
def mayA (l : List S42) : Bool := l.all mayS
theorem not_any (l : List S42) : (!l.any (fun s => !mayS s)) = l.all mayS := by
  induction l with
  | nil => rfl
  | cons x l ih => rw [List.any_cons, List.all_cons, Bool.not_or, ih, Bool.not_not]
theorem smay_calls (l : List S42) (hf : ∀ s ∈ l, fitS s) (hn : l.length ≤ 1000000000) (A0 : Option Addr) (c0 : Nat) (w : World) (hr0 : Kd.C k42 w A0 l.length l) :
    Calls Try.prog 44 #[.slice A0 l.length c0] w fun e w' => e = .returned (.bool (mayA l)) ∧ Below w.heap.size w w' := by
  have QC := Aside0.mk (may_contains l hn A0 c0 w hr0 (fun e he W hb => notmay_calls e (hf e he) W))
  clear hf hn hr0
  go_enter Try.func44, Try.ntmps44
  go_wp2_with (go_at_call 61; refine QC.out.mono ?_; rintro e w1 ⟨rfl, hb⟩; have HB1 := Aside0.mk hb; clear hb)
  go_ret
  refine ⟨?_, HB1.out⟩
  rw [show mayA l = (!l.any (fun s => !mayS s)) from (not_any l).symm]
  rfl
end Go.Proofs.Ytjgpggjjgimibaa.L

/- shift.Starts: the walk. -/
namespace Go.Proofs.Ytjgpggjjgimibaa.L
open Go.RowKit Go.Proofs.Ytjgpggjjgimibaa.Q Go.Proofs.YtjgpggjjgimibaaW.PrintWords Go.Proofs.YtjgpggjjgimibaaW.PrintLast Go.Proofs.YtjgpggjjgimibaaW.PrintMore Go.Proofs.YtjgpggjjgimibaaW.MapB Go.Proofs.YtjgpggjjgimibaaW.Lib
set_option linter.unusedVariables false
set_option linter.unusedSimpArgs false
theorem keep1s {w : World} {a : Addr} {v : Value} {o1 : Obj} (h : w.cell? a = some v) : (w.alloc o1).cell? a = some v :=
  ((below_alloc (Below.refl w.heap.size w) o1).cell (World.block_lt_of_cell? w _ h)).trans h
/-- How far an offset may be from 0. -/
def beyondB (o : Int) : Bool := decide (288230376151711744 < o) || decide (o < -288230376151711744)
theorem beyond_calls (o : Int) (w : World) : Calls Try.prog 43 #[.int .i64 o] w fun e w' => e = .returned (.bool (beyondB o)) ∧ Below w.heap.size w w' := by
  have HB := Aside0.mk (Below.refl w.heap.size w)
  by_cases c1 : 288230376151711744 < o
  · have c1b := decide_eq_true c1
    have hv := Aside0.mk (show beyondB o = true from by unfold beyondB; rw [c1b]; rfl)
    clear c1
    go_enter Try.func43, Try.ntmps43
    go_wp2_with fail
    go_ret
    exact ⟨by rw [hv.out]; rfl, HB.out⟩
  by_cases c2 : o < -288230376151711744
  · have c1b := decide_eq_false c1
    have c2b := decide_eq_true c2
    have hv := Aside0.mk (show beyondB o = true from by unfold beyondB; rw [c1b, c2b]; rfl)
    clear c1 c2
    go_enter Try.func43, Try.ntmps43
    go_wp2_with fail
    go_ret
    exact ⟨by rw [hv.out]; rfl, HB.out⟩
  have c1b := decide_eq_false c1
  have c2b := decide_eq_false c2
  have hv := Aside0.mk (show beyondB o = false from by unfold beyondB; rw [c1b, c2b]; rfl)
  clear c1 c2
  go_enter Try.func43, Try.ntmps43
  go_wp2_with fail
  go_ret
  exact ⟨by rw [hv.out]; rfl, HB.out⟩
set_option maxHeartbeats 4000000 in
set_option maxRecDepth 100000 in
theorem beyond_index  (es : List Int) (hn : es.length ≤ 1000000000) (A0 : Option Addr) (c0 : Nat) (w : World) (hr0 : Kd.C (Kd.int .i64) w A0 es.length es)
    (QL0 : ∀ e ∈ es, ∀ W, Below w.heap.size w W → Calls Try.prog 43 #[.int .i64 e] W fun r w' => r = .returned (.bool (beyondB e)) ∧ Below W.heap.size W w') :
    Calls Try.prog 66 #[.slice A0 es.length c0, .func (.func 43) #[] #[]] w fun r w' => ∃ i : Int, r = .returned (.int .i64 i) ∧ decide (0 ≤ i) = es.any beyondB ∧ Below w.heap.size w w' := by
  have HB0 := Aside0.mk (Below.refl w.heap.size w)
  have HR0 := Aside0.mk hr0
  have HN := Aside0.mk hn
  have QL := Aside0.mk QL0
  clear hr0 hn QL0
  generalize hpp : beyondB = pp at *
  clear hpp
  go_enter Try.func66, Try.ntmps66
  go_wp2_with fail
  go_loopg [8] es.length (fun kq v8 w' => ∃ x8 : Int, v8 = .int .i64 x8 ∧ Aside0 (0 ≤ x8 ∧ x8 + kq = es.length) ∧ Aside0 (∀ e ∈ es.take x8.toNat, pp e = false) ∧ Aside0 (Below w.heap.size w w'))
  case atStart => exact ⟨0, rfl, ⟨by omega, by omega⟩, ⟨by simp⟩, HB0⟩
  case round =>
    obtain ⟨x8, rfl, HK, HA, HB⟩ := hrel
    by_cases c1 : x8 < (es.length : Int)
    · have c1b := decide_eq_true c1
      have p1 : 0 ≤ x8 := HK.out.1
      obtain ⟨ad, e1, hx0⟩ := Kd.at_int HR0.out x8 p1 c1
      cases e1
      replace hx0 := (HB.out.cell (World.block_lt_of_cell? w _ hx0)).trans hx0
      have hit : x8.toNat < es.length := by omega
      have hev : rd es x8 = es[x8.toNat] := by simp [rd, List.getD, hit]
      have hem : rd es x8 ∈ es := by rw [hev]; exact List.getElem_mem _
      have HE := Aside0.mk (show es.take (x8 + 1).toNat = es.take x8.toNat ++ [rd es x8] from by
        rw [show (x8 + 1).toNat = x8.toNat + 1 by omega, List.take_succ_eq_append_getElem hit, hev])
      have QE := Aside0.mk (QL.out _ hem wr HB.out)
      have HM := Aside0.mk hem
      have P1 := Aside0.mk p1
      have Q1 := Aside0.mk c1
      have W1 := Aside0.mk (show wrap64 (x8 + 1) = x8 + 1 from by unfold wrap64; have := HN.out; have := P1.out; have := Q1.out; omega)
      clear hev hem hit
      generalize rd es x8 = e at *
      replace p1 := eq_true p1
      replace c1 := eq_true c1
      obtain ⟨k1, rfl⟩ : ∃ k1, gk = k1 + 1 := ⟨gk - 1, by have := HK.out; have := Q1.out; omega⟩
      cases hq : pp e with
      | false =>
        rw [hq] at QE
        have HQ := Aside0.mk hq
        clear hq
        go_wp2_with (go_at_call 43; refine QE.out.mono ?_; rintro r w1 ⟨rfl, hb⟩; have HB1 := Aside0.mk (below_step HB.out hb); clear hb)
        go_roundg k1
        case measure => omega
        case rel => exact ⟨x8 + 1, by rw [W1.out], ⟨by have := P1.out; omega, by have := HK.out; omega⟩, ⟨by
          rw [HE.out]
          intro y hy
          rcases List.mem_append.1 hy with h | h
          · exact HA.out y h
          · rw [List.mem_singleton.1 h]; exact HQ.out⟩, HB1⟩
      | true =>
        rw [hq] at QE
        have HQ := Aside0.mk hq
        clear hq
        go_wp2_with (go_at_call 43; refine QE.out.mono ?_; rintro r w1 ⟨rfl, hb⟩; have HB1 := Aside0.mk (below_step HB.out hb); clear hb)
        go_ret
        refine ⟨x8, rfl, ?_, HB1.out⟩
        rw [decide_eq_true P1.out]
        exact (List.any_eq_true.2 ⟨e, HM.out, HQ.out⟩).symm
    · have c1b := decide_eq_false c1
      have hx : x8.toNat = es.length := by have := HK.out; omega
      have ha := HA.out
      rw [hx, List.take_length] at ha
      have HAll := Aside0.mk ha
      clear ha hx c1
      go_wp2_with fail
      go_ret
      refine ⟨-1, rfl, ?_, HB.out⟩
      exact (List.any_eq_false.2 (fun e he => by rw [HAll.out e he]; simp)).symm
set_option maxHeartbeats 2000000 in
set_option maxRecDepth 100000 in
theorem beyond_contains  (es : List Int) (hn : es.length ≤ 1000000000) (A0 : Option Addr) (c0 : Nat) (w : World) (hr0 : Kd.C (Kd.int .i64) w A0 es.length es)
    (QL0 : ∀ e ∈ es, ∀ W, Below w.heap.size w W → Calls Try.prog 43 #[.int .i64 e] W fun r w' => r = .returned (.bool (beyondB e)) ∧ Below W.heap.size W w') :
    Calls Try.prog 46 #[.slice A0 es.length c0, .func (.func 43) #[] #[]] w fun r w' => r = .returned (.bool (es.any beyondB)) ∧ Below w.heap.size w w' := by
  have HB0 := Aside0.mk (Below.refl w.heap.size w)
  have QI := Aside0.mk (beyond_index  es hn A0 c0 w hr0 QL0)
  clear hn hr0 QL0
  go_enter Try.func46, Try.ntmps46
  go_wp2_with (go_at_call 66; refine QI.out.mono ?_; rintro r w1 ⟨i, rfl, hd, hb⟩; have HD := Aside0.mk hd; have HB2 := Aside0.mk hb; clear hb hd)
  go_ret
  refine ⟨?_, HB2.out⟩
  rw [← HD.out]
  rfl
/-- A start and an offset. -/
def startAt (offs nums : List Int) (s : S42) (i : Int) : Int := wrap64 (s.f6 + rd offs (rd nums i))
set_option maxRecDepth 100000 in
set_option maxHeartbeats 2000000 in
theorem add_calls (offs nums : List Int) (s : S42) (i : Int) (h0 : 0 ≤ i) (h1 : i < nums.length) (h2 : 0 ≤ rd nums i) (h3 : rd nums i < offs.length) (A1 A2 : Option Addr) (c1 c2 B1 B2 : Nat) (w : World)
    (hr1 : Kd.C (Kd.int .i64) w A1 offs.length offs) (hr2 : Kd.C (Kd.int .i64) w A2 nums.length nums) (hc1 : w.cell? ⟨B1, 0, none⟩ = some (.slice A1 offs.length c1)) (hc2 : w.cell? ⟨B2, 0, none⟩ = some (.slice A2 nums.length c2)) :
    Calls Try.prog 48 #[.int .i64 i, .agg #[.int .u64 s.f0, .int .u64 s.f1, .int .u64 s.f2, .int .u8 s.f3, .string s.f4, .string s.f5, .int .i64 s.f6, .int .i64 s.f7], .pointer (some ⟨B1, 0, none⟩), .pointer (some ⟨B2, 0, none⟩)] w fun e w' => e = .returned (.int .i64 (startAt offs nums s i)) ∧ Below w.heap.size w w' := by
  have HB := Aside0.mk (Below.refl w.heap.size w)
  obtain ⟨ad2, e2, hn⟩ := Kd.at_int hr2 i h0 h1
  cases e2
  obtain ⟨ad1, e1, ho⟩ := Kd.at_int hr1 (rd nums i) h2 h3
  cases e1
  have hv := Aside0.mk (show startAt offs nums s i = wrap64 (s.f6 + rd offs (rd nums i)) from rfl)
  clear hr1 hr2
  generalize startAt offs nums s i = z at *
  generalize rd offs (rd nums i) = o at *
  generalize rd nums i = j at *
  have k1 := fun q => keep1s (o1 := q) hc1
  have k2 := fun q => keep1s (o1 := q) hc2
  have k3 := fun q => keep1s (o1 := q) hn
  have k4 := fun q => keep1s (o1 := q) ho
  replace h0 := eq_true h0
  replace h1 := eq_true h1
  replace h2 := eq_true h2
  replace h3 := eq_true h3
  clear hc1 hc2 hn ho
  go_enter Try.func48, Try.ntmps48
  go_wp2_with fail
  go_quiet (fail)
  go_wp2_with fail
  go_ret
  exact ⟨by rw [hv.out]; rfl, pw_below_drewN (below_alloc HB.out _) _⟩
end Go.Proofs.Ytjgpggjjgimibaa.L

/- shift.each and shift.Starts: the walks. -/
namespace Go.Proofs.Ytjgpggjjgimibaa.L
open Go.RowKit Go.Proofs.Ytjgpggjjgimibaa.Q Go.Proofs.YtjgpggjjgimibaaW.PrintWords Go.Proofs.YtjgpggjjgimibaaW.PrintLast Go.Proofs.YtjgpggjjgimibaaW.PrintMore Go.Proofs.YtjgpggjjgimibaaW.MapB Go.Proofs.YtjgpggjjgimibaaW.Lib
set_option linter.unusedVariables false
set_option linter.unusedSimpArgs false
set_option maxHeartbeats 4000000 in
set_option maxRecDepth 100000 in
theorem each_calls (g : Int → Int) (l0 : List S42) (hl : l0.length ≤ 1759218604441) (A0 : Option Addr) (c0 B1 B2 : Nat) (w : World) (hr0 : Kd.C k42 w A0 l0.length l0)
    (QA0 : ∀ (i : Int) (s : S42), 0 ≤ i → i < l0.length → rd_T42 l0 i = s → ∀ W, Below w.heap.size w W → Calls Try.prog 48 #[.int .i64 i, .agg #[.int .u64 s.f0, .int .u64 s.f1, .int .u64 s.f2, .int .u8 s.f3, .string s.f4, .string s.f5, .int .i64 s.f6, .int .i64 s.f7], .pointer (some ⟨B1, 0, none⟩), .pointer (some ⟨B2, 0, none⟩)] W fun e w' => e = .returned (.int .i64 (g i)) ∧ Below W.heap.size W w') :
    Calls Try.prog 47 #[.slice A0 l0.length c0, .func (.func 48) #[] #[.pointer (some ⟨B1, 0, none⟩), .pointer (some ⟨B2, 0, none⟩)]] w fun e w' => ∃ v : Value, e = .returned v ∧ Kd.R (Kd.int .i64) 2 w' w.heap.size (fun _ => True) v ((List.range l0.length).map (fun i : Nat => g i)) ∧ Below w.heap.size w w' := by
  have HR0 := Aside0.mk hr0
  have HL := Aside0.mk hl
  have QA := Aside0.mk QA0
  have HB0 := Aside0.mk (Below.refl w.heap.size w)
  have hlen : ((List.range l0.length).map (fun i : Nat => g i)).length = l0.length := by simp
  have hnext : ∀ x : Int, 0 ≤ x → x < l0.length → ((List.range l0.length).map (fun i : Nat => g i)).take (x + 1).toNat = ((List.range l0.length).map (fun i : Nat => g i)).take x.toNat ++ [g x] := by
    intro x h0 h1
    have hx : x.toNat < l0.length := by omega
    rw [show (x + 1).toNat = x.toNat + 1 by omega, List.take_succ_eq_append_getElem (by rw [hlen]; exact hx)]
    simp [show max x 0 = x from by omega]
  have NX := Aside0.mk hnext
  have HLen := Aside0.mk hlen
  clear hr0 hl QA0 hlen hnext
  generalize (List.range l0.length).map (fun i : Nat => g i) = ns at *
  go_enter Try.func47, Try.ntmps47
  go_wp2_with fail
  go_loopg [5, 10] l0.length (fun kq v5 v10 w' => ∃ x10 : Int, v10 = .int .i64 x10 ∧ Aside0 (0 ≤ x10 ∧ x10 + kq = l0.length) ∧ Aside0 (Kd.R (Kd.int .i64) 2 w' w.heap.size (fun _ => True) v5 (ns.take x10.toNat)) ∧ Aside0 (Below w.heap.size w w'))
  case atStart => exact ⟨0, rfl, ⟨by omega, by omega⟩, ⟨Kd.R_nil _ _ _ _ _⟩, HB0⟩
  case round =>
    obtain ⟨x10, rfl, HK, HO, HB⟩ := hrel
    by_cases c1 : x10 < (l0.length : Int)
    · have c1b := decide_eq_true c1
      have p1 : 0 ≤ x10 := HK.out.1
      obtain ⟨ad1, e1, hx0, hx1, hx2, hx3, hx4, hx5, hx6, hx7⟩ := at_T42 HR0.out x10 p1 c1
      cases e1
      replace hx0 := (HB.out.cell (World.block_lt_of_cell? w _ hx0)).trans hx0
      replace hx1 := (HB.out.cell (World.block_lt_of_cell? w _ hx1)).trans hx1
      replace hx2 := (HB.out.cell (World.block_lt_of_cell? w _ hx2)).trans hx2
      replace hx3 := (HB.out.cell (World.block_lt_of_cell? w _ hx3)).trans hx3
      replace hx4 := (HB.out.cell (World.block_lt_of_cell? w _ hx4)).trans hx4
      replace hx5 := (HB.out.cell (World.block_lt_of_cell? w _ hx5)).trans hx5
      replace hx6 := (HB.out.cell (World.block_lt_of_cell? w _ hx6)).trans hx6
      replace hx7 := (HB.out.cell (World.block_lt_of_cell? w _ hx7)).trans hx7
      have QE := Aside0.mk (QA.out x10 _ p1 c1 rfl)
      have P1 := Aside0.mk p1
      have Q1 := Aside0.mk c1
      generalize rd_T42 l0 x10 = s at *
      have HG := Aside0.mk (NX.out x10 p1 c1)
      generalize g x10 = gx at *
      replace p1 := eq_true p1
      replace c1 := eq_true c1
      have W1 := Aside0.mk (show wrap64 (x10 + 1) = x10 + 1 from by unfold wrap64; have := HL.out; have := P1.out; have := Q1.out; omega)
      obtain ⟨k1, rfl⟩ : ∃ k1, gk = k1 + 1 := ⟨gk - 1, by have := HK.out; have := Q1.out; omega⟩
      go_wp2_with (first
        | (go_at_call 48; refine (QE.out _ (below_alloc HB.out _)).mono ?_; rintro e w1 ⟨rfl, hb⟩; have HB1 := Aside0.mk (below_step (below_alloc HB.out _) hb); have HO1 := Aside0.mk (Kd.R_below (Kd.R_alloc HO.out _) hb); clear hb)
        | ((with_reducible refine gate_builtin (b := .append) (xs := #[.tmp 15, .tmp 20]) rfl ?_); at_builtin; refine Kd.R_append (Kd.int .i64) (w0 := w) w.heap.size rfl (.tmp 15) (.tmp 20) 33 2 (.int .i64 0) 8 rfl Try.underlying33 (by kernel_rfl) rfl (by decide) (by omega) u5 (ns.take x10.toNat) gx [.int .i64 gx] (fun _ => True) (fun _ => False) rfl ?aX ?aP (fun _ hk => hk.elim) ?aF ?aO ?aB ?aS ?aL ?_; (case aX => first | rfl | (go_simp; done) | (simp; done)); (case aP => exact rfl); (case aB => exact (by repeat (first | (with_reducible first | exact HB1.out | apply below_alloc | apply pw_below_drewN | apply below_drew1) | exact HB1.out))); (case aF => exact (fun _ _ => trivial)); (case aO => exact (by (with_reducible repeat (first | apply Kd.R_alloc | apply Kd.R_drewN | apply Kd.R_drew)); exact HO1.out)); (case aS => exact (below_size (by repeat (first | (with_reducible first | exact HB1.out | apply below_alloc | apply pw_below_drewN | apply below_drew1) | exact HB1.out)))); (case aL => have := HL.out; have := Q1.out; simp only [List.length_take]; omega); intro v2 w2 ho hb hg hat; have HO2 := Aside0.mk ho; have HB2 := Aside0.mk hb; clear ho hb hg hat))
      go_roundg k1
      case measure => omega
      case rel => exact ⟨x10 + 1, by rw [W1.out], ⟨by have := P1.out; omega, by have := HK.out; omega⟩, ⟨by rw [HG.out]; exact HO2.out⟩, HB2⟩
    · have c1b := decide_eq_false c1
      have hx : x10.toNat = ns.length := by have := HK.out; have := HLen.out; omega
      have ho := HO.out
      rw [hx, List.take_length] at ho
      have HO2 := Aside0.mk ho
      clear ho HO
      go_wp2
      go_ret
      exact ⟨_, rfl, HO2.out, HB.out⟩
theorem rd_mem' (l : List Int) (i : Int) (h0 : 0 ≤ i) (h1 : i < l.length) : rd l i ∈ l := by
  have hx : i.toNat < l.length := by omega
  rw [show rd l i = l[i.toNat] by simp [rd, List.getD, hx]]
  exact List.getElem_mem _
theorem results_tmp2 {fn : Func} {a b : Tmp} (h : fn.results = #[.tmp a, .tmp b]) (tmps : Array Value) (P : Program) (w : World) : (results fn tmps).run P w = .ok (.tuple #[tmps.getD a undef, tmps.getD b undef]) w := by
  simp [results, h]
/-- Starts, put right by offsets. -/
def startsL (l : List S42) (offs : List Int) : List Int := (List.range l.length).map (fun i : Nat => startAt offs (numsL l) (rd_T42 l (i : Int)) i)
def startsB (l : List S42) (offs : List Int) : List Int × Bool := if mayA l = true ∧ offs.length = (hostsB l).length ∧ offs.any beyondB = false then (startsL l offs, true) else ([], false)
theorem numsL_in (l : List S42) : ∀ x ∈ numsL l, 0 ≤ x ∧ x < (hostsB l).length := by
  intro x hx
  unfold numsL at hx
  obtain ⟨s, hs, rfl⟩ := List.mem_map.1 hx
  have h1 : s.f4 ∈ hostsB l := (hostsB_mem l _).2 ⟨s, hs, rfl⟩
  have h2 : numB (hostsB l) s.f4 < (hostsB l).length := List.findIdx_lt_length_of_exists ⟨s.f4, h1, by simp⟩
  exact ⟨by omega, by omega⟩
set_option maxHeartbeats 8000000 in
set_option maxRecDepth 100000 in
theorem starts_calls (l0 : List S42) (l1 : List Int) (hf : ∀ s ∈ l0, fitS s) (hl : l0.length ≤ 1000000000) (hl1 : l1.length ≤ 1000000000) (A0 A1 : Option Addr) (c0 c1_ : Nat) (w : World) (hr0 : Kd.C k42 w A0 l0.length l0) (hc0 : l0.length ≤ c0) (hr1 : Kd.C (Kd.int .i64) w A1 l1.length l1) :
    Calls Try.prog 24 #[.slice A0 l0.length c0, .slice A1 l1.length c1_] w fun e w' => ∃ v : Value, e = .returned (.tuple #[v, .bool (startsB l0 l1).2]) ∧ Kd.R (Kd.int .i64) 2 w' w.heap.size (fun _ => True) v (startsB l0 l1).1 ∧ Below w.heap.size w w' := by
  have hmf : ∀ (fn : Fn) (first cap : Array Value) (w : World), (Instr.makeFunc fn first cap).run Try.prog w = .ok (.func fn first cap) w := fun _ _ _ _ => rfl
  have HB0 := Aside0.mk (Below.refl w.heap.size w)
  have HR0 := Aside0.mk hr0
  have HR1 := Aside0.mk hr1
  have QM := Aside0.mk (fun (W : World) (hb : Below w.heap.size w W) => smay_calls l0 hf hl A0 c0 W (Kd.C_below hr0 hb))
  have QH := Aside0.mk (fun (W : World) (hb : Below w.heap.size w W) => hosts_calls l0 (by omega) A0 c0 W (Kd.C_below hr0 hb) hc0)
  have QB := Aside0.mk (fun (W : World) (hb : Below w.heap.size w W) => beyond_contains l1 hl1 A1 c1_ W (Kd.C_below hr1 hb) (fun e _ V _ => beyond_calls e V))
  have QN := Aside0.mk (fun (W : World) (hb : Below w.heap.size w W) => nums_calls l0 (by omega) hf A0 c0 W (Kd.C_below hr0 hb) hc0)
  have HNin := Aside0.mk (numsL_in l0)
  have HNl := Aside0.mk (show (numsL l0).length = l0.length by unfold numsL; rw [List.length_map])
  have HL := Aside0.mk hl
  have HSt := Aside0.mk (show startsL l0 l1 = (List.range l0.length).map (fun i : Nat => startAt l1 (numsL l0) (rd_T42 l0 (i : Int)) i) from rfl)
  unfold startsB
  clear hr0 hr1 hf hl hl1 hc0
  cases h1 : mayA l0 with
  | false =>
    rw [h1] at QM
    clear h1
    simp only [Bool.false_eq_true, false_and, if_false]
    go_enter Try.func24, Try.ntmps24
    go_wp2_with fail
    refine start_ (n := 16) (S := fun W' => Below w.heap.size w W' ∧ W'.cell? ⟨w.heap.size, 0, none⟩ = some (.slice A1 l1.length c1_)) (ds := []) #[false, false, false, false, false, false, false, false, false, false, false, false, false, false, false, false] (by kernel_rfl) rfl rfl ⟨below_drew (below_alloc HB0.out _), own1 w _ _ 0 rfl⟩ (fun hHeld => ?_)
    generalize World.drew _ = W2 at *
    refine pure_ (i := 0) (N := some 8) (v := ?_) (a' := ?_) #[true, false, false, false, false, false, false, false, false, false, false, false, false, false, false, false] rfl rfl (by kernel_rfl) (fun _ _ _ h => h) (Or.inl ⟨by rfl, ?_⟩) ?_ ?_
    rotate_left
    · intro w'
      go_simp
      with_reducible rfl
    rotate_left
    · simp only [Act.put, List.setIfInBounds_toArray, List.set_cons_zero, List.set_cons_succ, i64_w, i32_w]
      rfl
    refine one_ (i := 1) (N := some 9) #[true, true, false, false, false, false, false, false, false, false, false, false, false, false, false, false] rfl rfl (by kernel_rfl) (by decide) (fun K hK => ?_)
    first | (go_at_call 44; (with_reducible refine (QM.out _ hHeld.1).mono ?_); rintro e w4 ⟨rfl, hb⟩) | (go_simp; (go_at_call 44; (with_reducible refine (QM.out _ hHeld.1).mono ?_); rintro e w4 ⟨rfl, hb⟩))
    refine hK.out _ _ (⟨below_step hHeld.1 hb, (hb.cell (World.block_lt_of_cell? _ _ hHeld.2)).trans hHeld.2⟩) (fun hHeld2 => ?_)
    clear hK K hb hHeld
    have hHeld := hHeld2
    clear hHeld2
    try simp only [Act.put, List.setIfInBounds_toArray, List.set_cons_zero, List.set_cons_succ]
    refine pure_ (i := 2) (N := some 10) (v := ?_) (a' := ?_) #[true, true, true, false, false, false, false, false, false, false, false, false, false, false, false, false] rfl rfl (by kernel_rfl) (fun _ _ _ h => h) (Or.inl ⟨by rfl, ?_⟩) ?_ ?_
    rotate_left
    · intro w'
      go_simp
      with_reducible rfl
    rotate_left
    · simp only [Act.put, List.setIfInBounds_toArray, List.set_cons_zero, List.set_cons_succ, i64_w, i32_w]
      rfl
    refine pure_ (i := 3) (N := some 11) (v := ?_) (a' := ?_) #[true, true, true, true, false, false, false, false, false, false, false, false, false, false, false, false] rfl rfl (by kernel_rfl) (fun _ _ _ h => h) (Or.inl ⟨by rfl, ?_⟩) ?_ ?_
    rotate_left
    · intro w'
      go_simp
      with_reducible rfl
    rotate_left
    · simp only [Act.put, List.setIfInBounds_toArray, List.set_cons_zero, List.set_cons_succ, i64_w, i32_w]
      rfl
    refine pure_ (i := 4) (N := some 12) (v := undef) (a' := ?_) #[true, true, true, true, true, false, false, false, false, false, false, false, false, false, false, false] rfl rfl (by kernel_rfl) (fun _ _ _ h => h) (Or.inr ⟨by rfl, rfl⟩) ?_ ?_
    rotate_left
    · simp only [Act.put, List.setIfInBounds_toArray, List.set_cons_zero, List.set_cons_succ, i64_w, i32_w]
      rfl
    refine pure_ (i := 5) (N := some 13) (v := undef) (a' := ?_) #[true, true, true, true, true, true, false, false, false, false, false, false, false, false, false, false] rfl rfl (by kernel_rfl) (fun _ _ _ h => h) (Or.inr ⟨by rfl, rfl⟩) ?_ ?_
    rotate_left
    · simp only [Act.put, List.setIfInBounds_toArray, List.set_cons_zero, List.set_cons_succ, i64_w, i32_w]
      rfl
    refine pure_ (i := 6) (N := some 14) (v := undef) (a' := ?_) #[true, true, true, true, true, true, true, false, false, false, false, false, false, false, false, false] rfl rfl (by kernel_rfl) (fun _ _ _ h => h) (Or.inr ⟨by rfl, rfl⟩) ?_ ?_
    rotate_left
    · simp only [Act.put, List.setIfInBounds_toArray, List.set_cons_zero, List.set_cons_succ, i64_w, i32_w]
      rfl
    refine pure_ (i := 7) (N := some 15) (v := undef) (a' := ?_) #[true, true, true, true, true, true, true, true, false, false, false, false, false, false, false, false] rfl rfl (by kernel_rfl) (fun _ _ _ h => h) (Or.inr ⟨by rfl, rfl⟩) ?_ ?_
    rotate_left
    · simp only [Act.put, List.setIfInBounds_toArray, List.set_cons_zero, List.set_cons_succ, i64_w, i32_w]
      rfl
    refine pure_ (i := 8) (N := some 16) (v := undef) (a' := ?_) #[true, true, true, true, true, true, true, true, true, false, false, false, false, false, false, false] rfl rfl (by kernel_rfl) (fun _ _ _ h => h) (Or.inr ⟨by rfl, rfl⟩) ?_ ?_
    rotate_left
    · simp only [Act.put, List.setIfInBounds_toArray, List.set_cons_zero, List.set_cons_succ, i64_w, i32_w]
      rfl
    refine pure_ (i := 9) (N := some 17) (v := undef) (a' := ?_) #[true, true, true, true, true, true, true, true, true, true, false, false, false, false, false, false] rfl rfl (by kernel_rfl) (fun _ _ _ h => h) (Or.inr ⟨by rfl, rfl⟩) ?_ ?_
    rotate_left
    · simp only [Act.put, List.setIfInBounds_toArray, List.set_cons_zero, List.set_cons_succ, i64_w, i32_w]
      rfl
    refine pure_ (i := 10) (N := some 18) (v := ?_) (a' := ?_) #[true, true, true, true, true, true, true, true, true, true, true, false, false, false, false, false] rfl rfl (by kernel_rfl) (fun _ _ _ h => h) (Or.inl ⟨by rfl, ?_⟩) ?_ ?_
    rotate_left
    · intro w'
      go_simp
      with_reducible rfl
    rotate_left
    · simp only [Act.put, List.setIfInBounds_toArray, List.set_cons_zero, List.set_cons_succ, i64_w, i32_w]
      rfl
    refine pure_ (i := 11) (N := some 19) (v := ?_) (a' := ?_) #[true, true, true, true, true, true, true, true, true, true, true, true, false, false, false, false] rfl rfl (by kernel_rfl) (fun _ _ _ h => h) (Or.inl ⟨by rfl, ?_⟩) ?_ ?_
    rotate_left
    · intro w'
      go_simp
      with_reducible rfl
    rotate_left
    · simp only [Act.put, List.setIfInBounds_toArray, List.set_cons_zero, List.set_cons_succ, i64_w, i32_w]
      rfl
    refine pure_ (i := 12) (N := some 20) (v := undef) (a' := ?_) #[true, true, true, true, true, true, true, true, true, true, true, true, true, false, false, false] rfl rfl (by kernel_rfl) (fun _ _ _ h => h) (Or.inr ⟨by rfl, rfl⟩) ?_ ?_
    rotate_left
    · simp only [Act.put, List.setIfInBounds_toArray, List.set_cons_zero, List.set_cons_succ, i64_w, i32_w]
      rfl
    refine pure_ (i := 13) (N := some 21) (v := undef) (a' := ?_) #[true, true, true, true, true, true, true, true, true, true, true, true, true, true, false, false] rfl rfl (by kernel_rfl) (fun _ _ _ h => h) (Or.inr ⟨by rfl, rfl⟩) ?_ ?_
    rotate_left
    · simp only [Act.put, List.setIfInBounds_toArray, List.set_cons_zero, List.set_cons_succ, i64_w, i32_w]
      rfl
    refine pure_ (i := 14) (N := some 22) (v := undef) (a' := ?_) #[true, true, true, true, true, true, true, true, true, true, true, true, true, true, true, false] rfl rfl (by kernel_rfl) (fun _ _ _ h => h) (Or.inr ⟨by rfl, rfl⟩) ?_ ?_
    rotate_left
    · simp only [Act.put, List.setIfInBounds_toArray, List.set_cons_zero, List.set_cons_succ, i64_w, i32_w]
      rfl
    refine pure_ (i := 15) (N := some 23) (v := ?_) (a' := ?_) #[true, true, true, true, true, true, true, true, true, true, true, true, true, true, true, true] rfl rfl (by kernel_rfl) (fun _ _ _ h => h) (Or.inl ⟨by rfl, ?_⟩) ?_ ?_
    rotate_left
    · intro w'
      go_simp
      with_reducible rfl
    rotate_left
    · simp only [Act.put, List.setIfInBounds_toArray, List.set_cons_zero, List.set_cons_succ, i64_w, i32_w]
      rfl
    refine done_ (by kernel_rfl) ?_
    have HBe := Aside0.mk hHeld.1
    clear hHeld
    go_wp2_with fail
    refine bodyPost_ret (results_tmp2 rfl _ _ _) rfl ?_
    exact ⟨_, rfl, Kd.R_nil _ _ _ _ _, HBe.out⟩
  | true =>
  rw [h1] at QM
  clear h1
  by_cases h2 : l1.length = (hostsB l0).length
  rotate_left
  · have c2b : (((l1.length : Nat) : Int) != (((hostsB l0).length : Nat) : Int)) = true := by rw [bne_iff_ne]; omega
    rw [if_neg (fun h => h2 h.2.1)]
    clear h2
    go_enter Try.func24, Try.ntmps24
    go_wp2_with fail
    refine start_ (n := 16) (S := fun W' => Below w.heap.size w W' ∧ W'.cell? ⟨w.heap.size, 0, none⟩ = some (.slice A1 l1.length c1_)) (ds := []) #[false, false, false, false, false, false, false, false, false, false, false, false, false, false, false, false] (by kernel_rfl) rfl rfl ⟨below_drew (below_alloc HB0.out _), own1 w _ _ 0 rfl⟩ (fun hHeld => ?_)
    generalize World.drew _ = W2 at *
    refine pure_ (i := 0) (N := some 8) (v := ?_) (a' := ?_) #[true, false, false, false, false, false, false, false, false, false, false, false, false, false, false, false] rfl rfl (by kernel_rfl) (fun _ _ _ h => h) (Or.inl ⟨by rfl, ?_⟩) ?_ ?_
    rotate_left
    · intro w'
      go_simp
      with_reducible rfl
    rotate_left
    · simp only [Act.put, List.setIfInBounds_toArray, List.set_cons_zero, List.set_cons_succ, i64_w, i32_w]
      rfl
    refine one_ (i := 1) (N := some 9) #[true, true, false, false, false, false, false, false, false, false, false, false, false, false, false, false] rfl rfl (by kernel_rfl) (by decide) (fun K hK => ?_)
    first | (go_at_call 44; (with_reducible refine (QM.out _ hHeld.1).mono ?_); rintro e w4 ⟨rfl, hb⟩) | (go_simp; (go_at_call 44; (with_reducible refine (QM.out _ hHeld.1).mono ?_); rintro e w4 ⟨rfl, hb⟩))
    refine hK.out _ _ (⟨below_step hHeld.1 hb, (hb.cell (World.block_lt_of_cell? _ _ hHeld.2)).trans hHeld.2⟩) (fun hHeld2 => ?_)
    clear hK K hb hHeld
    have hHeld := hHeld2
    clear hHeld2
    try simp only [Act.put, List.setIfInBounds_toArray, List.set_cons_zero, List.set_cons_succ]
    refine pure_ (i := 2) (N := some 10) (v := ?_) (a' := ?_) #[true, true, true, false, false, false, false, false, false, false, false, false, false, false, false, false] rfl rfl (by kernel_rfl) (fun _ _ _ h => h) (Or.inl ⟨by rfl, ?_⟩) ?_ ?_
    rotate_left
    · intro w'
      go_simp
      with_reducible rfl
    rotate_left
    · simp only [Act.put, List.setIfInBounds_toArray, List.set_cons_zero, List.set_cons_succ, i64_w, i32_w]
      rfl
    refine pure_ (i := 3) (N := some 11) (v := ?_) (a' := ?_) #[true, true, true, true, false, false, false, false, false, false, false, false, false, false, false, false] rfl rfl (by kernel_rfl) (fun _ _ _ h => h) (Or.inl ⟨by rfl, ?_⟩) ?_ ?_
    rotate_left
    · intro w'
      go_simp
      with_reducible rfl
    rotate_left
    · simp only [Act.put, List.setIfInBounds_toArray, List.set_cons_zero, List.set_cons_succ, i64_w, i32_w]
      rfl
    refine take_ (i := 4) (N := some 12) (v := ?_) (a' := ?_) #[true, true, true, true, true, false, false, false, false, false, false, false, false, false, false, false] rfl rfl (by kernel_rfl) (fun _ _ _ h => h) (Or.inl ⟨by rfl, ?_⟩) hHeld ?_ ?_
    rotate_left
    · rintro w' ⟨_, s0⟩
      go_simp
      with_reducible rfl
    rotate_left
    · simp only [Act.put, List.setIfInBounds_toArray, List.set_cons_zero, List.set_cons_succ, i64_w, i32_w]
      rfl
    refine pure_ (i := 5) (N := some 13) (v := ?_) (a' := ?_) #[true, true, true, true, true, true, false, false, false, false, false, false, false, false, false, false] rfl rfl (by kernel_rfl) (fun _ _ _ h => h) (Or.inl ⟨by rfl, ?_⟩) ?_ ?_
    rotate_left
    · intro w'
      go_simp
      with_reducible rfl
    rotate_left
    · simp only [Act.put, List.setIfInBounds_toArray, List.set_cons_zero, List.set_cons_succ, i64_w, i32_w]
      rfl
    refine pure_ (i := 6) (N := some 14) (v := ?_) (a' := ?_) #[true, true, true, true, true, true, true, false, false, false, false, false, false, false, false, false] rfl rfl (by kernel_rfl) (fun _ _ _ h => h) (Or.inl ⟨by rfl, ?_⟩) ?_ ?_
    rotate_left
    · intro w'
      go_simp
      with_reducible rfl
    rotate_left
    · simp only [Act.put, List.setIfInBounds_toArray, List.set_cons_zero, List.set_cons_succ, i64_w, i32_w]
      rfl
    refine one_ (i := 7) (N := some 15) #[true, true, true, true, true, true, true, true, false, false, false, false, false, false, false, false] rfl rfl (by kernel_rfl) (by decide) (fun K hK => ?_)
    first | (go_at_call 45; (with_reducible refine (QH.out _ hHeld.1).mono ?_); rintro e w4 ⟨v4, rfl, ho, hb⟩; obtain ⟨A4, c4, rfl⟩ := Kd.R_slice ho; clear ho) | (go_simp; (go_at_call 45; (with_reducible refine (QH.out _ hHeld.1).mono ?_); rintro e w4 ⟨v4, rfl, ho, hb⟩; obtain ⟨A4, c4, rfl⟩ := Kd.R_slice ho; clear ho))
    refine hK.out _ _ (⟨below_step hHeld.1 hb, (hb.cell (World.block_lt_of_cell? _ _ hHeld.2)).trans hHeld.2⟩) (fun hHeld2 => ?_)
    clear hK K hb hHeld
    have hHeld := hHeld2
    clear hHeld2
    try simp only [Act.put, List.setIfInBounds_toArray, List.set_cons_zero, List.set_cons_succ]
    refine pure_ (i := 8) (N := some 16) (v := ?_) (a' := ?_) #[true, true, true, true, true, true, true, true, true, false, false, false, false, false, false, false] rfl rfl (by kernel_rfl) (fun _ _ _ h => h) (Or.inl ⟨by rfl, ?_⟩) ?_ ?_
    rotate_left
    · intro w'
      go_simp
      with_reducible rfl
    rotate_left
    · simp only [Act.put, List.setIfInBounds_toArray, List.set_cons_zero, List.set_cons_succ, i64_w, i32_w]
      rfl
    refine pure_ (i := 9) (N := some 17) (v := ?_) (a' := ?_) #[true, true, true, true, true, true, true, true, true, true, false, false, false, false, false, false] rfl rfl (by kernel_rfl) (fun _ _ _ h => h) (Or.inl ⟨by rfl, ?_⟩) ?_ ?_
    rotate_left
    · intro w'
      go_simp
      with_reducible rfl
    rotate_left
    · simp only [Act.put, List.setIfInBounds_toArray, List.set_cons_zero, List.set_cons_succ, i64_w, i32_w]
      rfl
    refine pure_ (i := 10) (N := some 18) (v := ?_) (a' := ?_) #[true, true, true, true, true, true, true, true, true, true, true, false, false, false, false, false] rfl rfl (by kernel_rfl) (fun _ _ _ h => h) (Or.inl ⟨by rfl, ?_⟩) ?_ ?_
    rotate_left
    · intro w'
      go_simp
      with_reducible rfl
    rotate_left
    · simp only [Act.put, List.setIfInBounds_toArray, List.set_cons_zero, List.set_cons_succ, i64_w, i32_w]
      rfl
    refine pure_ (i := 11) (N := some 19) (v := ?_) (a' := ?_) #[true, true, true, true, true, true, true, true, true, true, true, true, false, false, false, false] rfl rfl (by kernel_rfl) (fun _ _ _ h => h) (Or.inl ⟨by rfl, ?_⟩) ?_ ?_
    rotate_left
    · intro w'
      go_simp
      with_reducible rfl
    rotate_left
    · simp only [Act.put, List.setIfInBounds_toArray, List.set_cons_zero, List.set_cons_succ, i64_w, i32_w]
      rfl
    refine pure_ (i := 12) (N := some 20) (v := undef) (a' := ?_) #[true, true, true, true, true, true, true, true, true, true, true, true, true, false, false, false] rfl rfl (by kernel_rfl) (fun _ _ _ h => h) (Or.inr ⟨by rfl, rfl⟩) ?_ ?_
    rotate_left
    · simp only [Act.put, List.setIfInBounds_toArray, List.set_cons_zero, List.set_cons_succ, i64_w, i32_w]
      rfl
    refine pure_ (i := 13) (N := some 21) (v := undef) (a' := ?_) #[true, true, true, true, true, true, true, true, true, true, true, true, true, true, false, false] rfl rfl (by kernel_rfl) (fun _ _ _ h => h) (Or.inr ⟨by rfl, rfl⟩) ?_ ?_
    rotate_left
    · simp only [Act.put, List.setIfInBounds_toArray, List.set_cons_zero, List.set_cons_succ, i64_w, i32_w]
      rfl
    refine pure_ (i := 14) (N := some 22) (v := undef) (a' := ?_) #[true, true, true, true, true, true, true, true, true, true, true, true, true, true, true, false] rfl rfl (by kernel_rfl) (fun _ _ _ h => h) (Or.inr ⟨by rfl, rfl⟩) ?_ ?_
    rotate_left
    · simp only [Act.put, List.setIfInBounds_toArray, List.set_cons_zero, List.set_cons_succ, i64_w, i32_w]
      rfl
    refine pure_ (i := 15) (N := some 23) (v := ?_) (a' := ?_) #[true, true, true, true, true, true, true, true, true, true, true, true, true, true, true, true] rfl rfl (by kernel_rfl) (fun _ _ _ h => h) (Or.inl ⟨by rfl, ?_⟩) ?_ ?_
    rotate_left
    · intro w'
      go_simp
      with_reducible rfl
    rotate_left
    · simp only [Act.put, List.setIfInBounds_toArray, List.set_cons_zero, List.set_cons_succ, i64_w, i32_w]
      rfl
    refine done_ (by kernel_rfl) ?_
    have HBe := Aside0.mk hHeld.1
    clear hHeld
    go_wp2_with fail
    refine bodyPost_ret (results_tmp2 rfl _ _ _) rfl ?_
    exact ⟨_, rfl, Kd.R_nil _ _ _ _ _, HBe.out⟩
  have c2b : (((l1.length : Nat) : Int) != (((hostsB l0).length : Nat) : Int)) = false := by rw [h2]; simp
  have HH2 := Aside0.mk h2
  cases h3 : l1.any beyondB with
  | true =>
    rw [if_neg (fun h => by cases h.2.2)]
    rw [h3] at QB
    clear h2 h3
    go_enter Try.func24, Try.ntmps24
    go_wp2_with fail
    refine start_ (n := 16) (S := fun W' => Below w.heap.size w W' ∧ W'.cell? ⟨w.heap.size, 0, none⟩ = some (.slice A1 l1.length c1_)) (ds := []) #[false, false, false, false, false, false, false, false, false, false, false, false, false, false, false, false] (by kernel_rfl) rfl rfl ⟨below_drew (below_alloc HB0.out _), own1 w _ _ 0 rfl⟩ (fun hHeld => ?_)
    generalize World.drew _ = W2 at *
    refine pure_ (i := 0) (N := some 8) (v := ?_) (a' := ?_) #[true, false, false, false, false, false, false, false, false, false, false, false, false, false, false, false] rfl rfl (by kernel_rfl) (fun _ _ _ h => h) (Or.inl ⟨by rfl, ?_⟩) ?_ ?_
    rotate_left
    · intro w'
      go_simp
      with_reducible rfl
    rotate_left
    · simp only [Act.put, List.setIfInBounds_toArray, List.set_cons_zero, List.set_cons_succ, i64_w, i32_w]
      rfl
    refine one_ (i := 1) (N := some 9) #[true, true, false, false, false, false, false, false, false, false, false, false, false, false, false, false] rfl rfl (by kernel_rfl) (by decide) (fun K hK => ?_)
    first | (go_at_call 44; (with_reducible refine (QM.out _ hHeld.1).mono ?_); rintro e w4 ⟨rfl, hb⟩) | (go_simp; (go_at_call 44; (with_reducible refine (QM.out _ hHeld.1).mono ?_); rintro e w4 ⟨rfl, hb⟩))
    refine hK.out _ _ (⟨below_step hHeld.1 hb, (hb.cell (World.block_lt_of_cell? _ _ hHeld.2)).trans hHeld.2⟩) (fun hHeld2 => ?_)
    clear hK K hb hHeld
    have hHeld := hHeld2
    clear hHeld2
    try simp only [Act.put, List.setIfInBounds_toArray, List.set_cons_zero, List.set_cons_succ]
    refine pure_ (i := 2) (N := some 10) (v := ?_) (a' := ?_) #[true, true, true, false, false, false, false, false, false, false, false, false, false, false, false, false] rfl rfl (by kernel_rfl) (fun _ _ _ h => h) (Or.inl ⟨by rfl, ?_⟩) ?_ ?_
    rotate_left
    · intro w'
      go_simp
      with_reducible rfl
    rotate_left
    · simp only [Act.put, List.setIfInBounds_toArray, List.set_cons_zero, List.set_cons_succ, i64_w, i32_w]
      rfl
    refine pure_ (i := 3) (N := some 11) (v := ?_) (a' := ?_) #[true, true, true, true, false, false, false, false, false, false, false, false, false, false, false, false] rfl rfl (by kernel_rfl) (fun _ _ _ h => h) (Or.inl ⟨by rfl, ?_⟩) ?_ ?_
    rotate_left
    · intro w'
      go_simp
      with_reducible rfl
    rotate_left
    · simp only [Act.put, List.setIfInBounds_toArray, List.set_cons_zero, List.set_cons_succ, i64_w, i32_w]
      rfl
    refine take_ (i := 4) (N := some 12) (v := ?_) (a' := ?_) #[true, true, true, true, true, false, false, false, false, false, false, false, false, false, false, false] rfl rfl (by kernel_rfl) (fun _ _ _ h => h) (Or.inl ⟨by rfl, ?_⟩) hHeld ?_ ?_
    rotate_left
    · rintro w' ⟨_, s0⟩
      go_simp
      with_reducible rfl
    rotate_left
    · simp only [Act.put, List.setIfInBounds_toArray, List.set_cons_zero, List.set_cons_succ, i64_w, i32_w]
      rfl
    refine pure_ (i := 5) (N := some 13) (v := ?_) (a' := ?_) #[true, true, true, true, true, true, false, false, false, false, false, false, false, false, false, false] rfl rfl (by kernel_rfl) (fun _ _ _ h => h) (Or.inl ⟨by rfl, ?_⟩) ?_ ?_
    rotate_left
    · intro w'
      go_simp
      with_reducible rfl
    rotate_left
    · simp only [Act.put, List.setIfInBounds_toArray, List.set_cons_zero, List.set_cons_succ, i64_w, i32_w]
      rfl
    refine pure_ (i := 6) (N := some 14) (v := ?_) (a' := ?_) #[true, true, true, true, true, true, true, false, false, false, false, false, false, false, false, false] rfl rfl (by kernel_rfl) (fun _ _ _ h => h) (Or.inl ⟨by rfl, ?_⟩) ?_ ?_
    rotate_left
    · intro w'
      go_simp
      with_reducible rfl
    rotate_left
    · simp only [Act.put, List.setIfInBounds_toArray, List.set_cons_zero, List.set_cons_succ, i64_w, i32_w]
      rfl
    refine one_ (i := 7) (N := some 15) #[true, true, true, true, true, true, true, true, false, false, false, false, false, false, false, false] rfl rfl (by kernel_rfl) (by decide) (fun K hK => ?_)
    first | (go_at_call 45; (with_reducible refine (QH.out _ hHeld.1).mono ?_); rintro e w4 ⟨v4, rfl, ho, hb⟩; obtain ⟨A4, c4, rfl⟩ := Kd.R_slice ho; clear ho) | (go_simp; (go_at_call 45; (with_reducible refine (QH.out _ hHeld.1).mono ?_); rintro e w4 ⟨v4, rfl, ho, hb⟩; obtain ⟨A4, c4, rfl⟩ := Kd.R_slice ho; clear ho))
    refine hK.out _ _ (⟨below_step hHeld.1 hb, (hb.cell (World.block_lt_of_cell? _ _ hHeld.2)).trans hHeld.2⟩) (fun hHeld2 => ?_)
    clear hK K hb hHeld
    have hHeld := hHeld2
    clear hHeld2
    try simp only [Act.put, List.setIfInBounds_toArray, List.set_cons_zero, List.set_cons_succ]
    refine pure_ (i := 8) (N := some 16) (v := ?_) (a' := ?_) #[true, true, true, true, true, true, true, true, true, false, false, false, false, false, false, false] rfl rfl (by kernel_rfl) (fun _ _ _ h => h) (Or.inl ⟨by rfl, ?_⟩) ?_ ?_
    rotate_left
    · intro w'
      go_simp
      with_reducible rfl
    rotate_left
    · simp only [Act.put, List.setIfInBounds_toArray, List.set_cons_zero, List.set_cons_succ, i64_w, i32_w]
      rfl
    refine pure_ (i := 9) (N := some 17) (v := ?_) (a' := ?_) #[true, true, true, true, true, true, true, true, true, true, false, false, false, false, false, false] rfl rfl (by kernel_rfl) (fun _ _ _ h => h) (Or.inl ⟨by rfl, ?_⟩) ?_ ?_
    rotate_left
    · intro w'
      go_simp
      with_reducible rfl
    rotate_left
    · simp only [Act.put, List.setIfInBounds_toArray, List.set_cons_zero, List.set_cons_succ, i64_w, i32_w]
      rfl
    refine pure_ (i := 10) (N := some 18) (v := ?_) (a' := ?_) #[true, true, true, true, true, true, true, true, true, true, true, false, false, false, false, false] rfl rfl (by kernel_rfl) (fun _ _ _ h => h) (Or.inl ⟨by rfl, ?_⟩) ?_ ?_
    rotate_left
    · intro w'
      go_simp
      with_reducible rfl
    rotate_left
    · simp only [Act.put, List.setIfInBounds_toArray, List.set_cons_zero, List.set_cons_succ, i64_w, i32_w]
      rfl
    refine pure_ (i := 11) (N := some 19) (v := ?_) (a' := ?_) #[true, true, true, true, true, true, true, true, true, true, true, true, false, false, false, false] rfl rfl (by kernel_rfl) (fun _ _ _ h => h) (Or.inl ⟨by rfl, ?_⟩) ?_ ?_
    rotate_left
    · intro w'
      go_simp
      with_reducible rfl
    rotate_left
    · simp only [Act.put, List.setIfInBounds_toArray, List.set_cons_zero, List.set_cons_succ, i64_w, i32_w]
      rfl
    refine take_ (i := 12) (N := some 20) (v := ?_) (a' := ?_) #[true, true, true, true, true, true, true, true, true, true, true, true, true, false, false, false] rfl rfl (by kernel_rfl) (fun _ _ _ h => h) (Or.inl ⟨by rfl, ?_⟩) hHeld ?_ ?_
    rotate_left
    · rintro w' ⟨_, s0⟩
      go_simp
      with_reducible rfl
    rotate_left
    · simp only [Act.put, List.setIfInBounds_toArray, List.set_cons_zero, List.set_cons_succ, i64_w, i32_w]
      rfl
    refine pure_ (i := 13) (N := some 21) (v := ?_) (a' := ?_) #[true, true, true, true, true, true, true, true, true, true, true, true, true, true, false, false] rfl rfl (by kernel_rfl) (fun _ _ _ h => h) (Or.inl ⟨by rfl, ?_⟩) ?_ ?_
    rotate_left
    · intro w'
      go_simp
      with_reducible rfl
    rotate_left
    · simp only [Act.put, List.setIfInBounds_toArray, List.set_cons_zero, List.set_cons_succ, i64_w, i32_w]
      rfl
    refine one_ (i := 14) (N := some 22) #[true, true, true, true, true, true, true, true, true, true, true, true, true, true, true, false] rfl rfl (by kernel_rfl) (by decide) (fun K hK => ?_)
    first | (go_at_call 46; (with_reducible refine (QB.out _ hHeld.1).mono ?_); rintro e w4 ⟨rfl, hb⟩) | (go_simp; (go_at_call 46; (with_reducible refine (QB.out _ hHeld.1).mono ?_); rintro e w4 ⟨rfl, hb⟩))
    refine hK.out _ _ (⟨below_step hHeld.1 hb, (hb.cell (World.block_lt_of_cell? _ _ hHeld.2)).trans hHeld.2⟩) (fun hHeld2 => ?_)
    clear hK K hb hHeld
    have hHeld := hHeld2
    clear hHeld2
    try simp only [Act.put, List.setIfInBounds_toArray, List.set_cons_zero, List.set_cons_succ]
    refine pure_ (i := 15) (N := some 23) (v := ?_) (a' := ?_) #[true, true, true, true, true, true, true, true, true, true, true, true, true, true, true, true] rfl rfl (by kernel_rfl) (fun _ _ _ h => h) (Or.inl ⟨by rfl, ?_⟩) ?_ ?_
    rotate_left
    · intro w'
      go_simp
      with_reducible rfl
    rotate_left
    · simp only [Act.put, List.setIfInBounds_toArray, List.set_cons_zero, List.set_cons_succ, i64_w, i32_w]
      rfl
    refine done_ (by kernel_rfl) ?_
    have HBe := Aside0.mk hHeld.1
    clear hHeld
    go_wp2_with fail
    refine bodyPost_ret (results_tmp2 rfl _ _ _) rfl ?_
    exact ⟨_, rfl, Kd.R_nil _ _ _ _ _, HBe.out⟩
  | false =>
    rw [if_pos ⟨rfl, h2, rfl⟩]
    rw [h3] at QB
    rw [HSt.out]
    clear h2 h3 HSt
    generalize numsL l0 = nums at *
    go_enter Try.func24, Try.ntmps24
    go_wp2_with fail
    refine start_ (n := 16) (S := fun W' => Below w.heap.size w W' ∧ W'.cell? ⟨w.heap.size, 0, none⟩ = some (.slice A1 l1.length c1_)) (ds := []) #[false, false, false, false, false, false, false, false, false, false, false, false, false, false, false, false] (by kernel_rfl) rfl rfl ⟨below_drew (below_alloc HB0.out _), own1 w _ _ 0 rfl⟩ (fun hHeld => ?_)
    generalize World.drew _ = W2 at *
    refine pure_ (i := 0) (N := some 8) (v := ?_) (a' := ?_) #[true, false, false, false, false, false, false, false, false, false, false, false, false, false, false, false] rfl rfl (by kernel_rfl) (fun _ _ _ h => h) (Or.inl ⟨by rfl, ?_⟩) ?_ ?_
    rotate_left
    · intro w'
      go_simp
      with_reducible rfl
    rotate_left
    · simp only [Act.put, List.setIfInBounds_toArray, List.set_cons_zero, List.set_cons_succ, i64_w, i32_w]
      rfl
    refine one_ (i := 1) (N := some 9) #[true, true, false, false, false, false, false, false, false, false, false, false, false, false, false, false] rfl rfl (by kernel_rfl) (by decide) (fun K hK => ?_)
    first | (go_at_call 44; (with_reducible refine (QM.out _ hHeld.1).mono ?_); rintro e w4 ⟨rfl, hb⟩) | (go_simp; (go_at_call 44; (with_reducible refine (QM.out _ hHeld.1).mono ?_); rintro e w4 ⟨rfl, hb⟩))
    refine hK.out _ _ (⟨below_step hHeld.1 hb, (hb.cell (World.block_lt_of_cell? _ _ hHeld.2)).trans hHeld.2⟩) (fun hHeld2 => ?_)
    clear hK K hb hHeld
    have hHeld := hHeld2
    clear hHeld2
    try simp only [Act.put, List.setIfInBounds_toArray, List.set_cons_zero, List.set_cons_succ]
    refine pure_ (i := 2) (N := some 10) (v := ?_) (a' := ?_) #[true, true, true, false, false, false, false, false, false, false, false, false, false, false, false, false] rfl rfl (by kernel_rfl) (fun _ _ _ h => h) (Or.inl ⟨by rfl, ?_⟩) ?_ ?_
    rotate_left
    · intro w'
      go_simp
      with_reducible rfl
    rotate_left
    · simp only [Act.put, List.setIfInBounds_toArray, List.set_cons_zero, List.set_cons_succ, i64_w, i32_w]
      rfl
    refine pure_ (i := 3) (N := some 11) (v := ?_) (a' := ?_) #[true, true, true, true, false, false, false, false, false, false, false, false, false, false, false, false] rfl rfl (by kernel_rfl) (fun _ _ _ h => h) (Or.inl ⟨by rfl, ?_⟩) ?_ ?_
    rotate_left
    · intro w'
      go_simp
      with_reducible rfl
    rotate_left
    · simp only [Act.put, List.setIfInBounds_toArray, List.set_cons_zero, List.set_cons_succ, i64_w, i32_w]
      rfl
    refine take_ (i := 4) (N := some 12) (v := ?_) (a' := ?_) #[true, true, true, true, true, false, false, false, false, false, false, false, false, false, false, false] rfl rfl (by kernel_rfl) (fun _ _ _ h => h) (Or.inl ⟨by rfl, ?_⟩) hHeld ?_ ?_
    rotate_left
    · rintro w' ⟨_, s0⟩
      go_simp
      with_reducible rfl
    rotate_left
    · simp only [Act.put, List.setIfInBounds_toArray, List.set_cons_zero, List.set_cons_succ, i64_w, i32_w]
      rfl
    refine pure_ (i := 5) (N := some 13) (v := ?_) (a' := ?_) #[true, true, true, true, true, true, false, false, false, false, false, false, false, false, false, false] rfl rfl (by kernel_rfl) (fun _ _ _ h => h) (Or.inl ⟨by rfl, ?_⟩) ?_ ?_
    rotate_left
    · intro w'
      go_simp
      with_reducible rfl
    rotate_left
    · simp only [Act.put, List.setIfInBounds_toArray, List.set_cons_zero, List.set_cons_succ, i64_w, i32_w]
      rfl
    refine pure_ (i := 6) (N := some 14) (v := ?_) (a' := ?_) #[true, true, true, true, true, true, true, false, false, false, false, false, false, false, false, false] rfl rfl (by kernel_rfl) (fun _ _ _ h => h) (Or.inl ⟨by rfl, ?_⟩) ?_ ?_
    rotate_left
    · intro w'
      go_simp
      with_reducible rfl
    rotate_left
    · simp only [Act.put, List.setIfInBounds_toArray, List.set_cons_zero, List.set_cons_succ, i64_w, i32_w]
      rfl
    refine one_ (i := 7) (N := some 15) #[true, true, true, true, true, true, true, true, false, false, false, false, false, false, false, false] rfl rfl (by kernel_rfl) (by decide) (fun K hK => ?_)
    first | (go_at_call 45; (with_reducible refine (QH.out _ hHeld.1).mono ?_); rintro e w4 ⟨v4, rfl, ho, hb⟩; obtain ⟨A4, c4, rfl⟩ := Kd.R_slice ho; clear ho) | (go_simp; (go_at_call 45; (with_reducible refine (QH.out _ hHeld.1).mono ?_); rintro e w4 ⟨v4, rfl, ho, hb⟩; obtain ⟨A4, c4, rfl⟩ := Kd.R_slice ho; clear ho))
    refine hK.out _ _ (⟨below_step hHeld.1 hb, (hb.cell (World.block_lt_of_cell? _ _ hHeld.2)).trans hHeld.2⟩) (fun hHeld2 => ?_)
    clear hK K hb hHeld
    have hHeld := hHeld2
    clear hHeld2
    try simp only [Act.put, List.setIfInBounds_toArray, List.set_cons_zero, List.set_cons_succ]
    refine pure_ (i := 8) (N := some 16) (v := ?_) (a' := ?_) #[true, true, true, true, true, true, true, true, true, false, false, false, false, false, false, false] rfl rfl (by kernel_rfl) (fun _ _ _ h => h) (Or.inl ⟨by rfl, ?_⟩) ?_ ?_
    rotate_left
    · intro w'
      go_simp
      with_reducible rfl
    rotate_left
    · simp only [Act.put, List.setIfInBounds_toArray, List.set_cons_zero, List.set_cons_succ, i64_w, i32_w]
      rfl
    refine pure_ (i := 9) (N := some 17) (v := ?_) (a' := ?_) #[true, true, true, true, true, true, true, true, true, true, false, false, false, false, false, false] rfl rfl (by kernel_rfl) (fun _ _ _ h => h) (Or.inl ⟨by rfl, ?_⟩) ?_ ?_
    rotate_left
    · intro w'
      go_simp
      with_reducible rfl
    rotate_left
    · simp only [Act.put, List.setIfInBounds_toArray, List.set_cons_zero, List.set_cons_succ, i64_w, i32_w]
      rfl
    refine pure_ (i := 10) (N := some 18) (v := ?_) (a' := ?_) #[true, true, true, true, true, true, true, true, true, true, true, false, false, false, false, false] rfl rfl (by kernel_rfl) (fun _ _ _ h => h) (Or.inl ⟨by rfl, ?_⟩) ?_ ?_
    rotate_left
    · intro w'
      go_simp
      with_reducible rfl
    rotate_left
    · simp only [Act.put, List.setIfInBounds_toArray, List.set_cons_zero, List.set_cons_succ, i64_w, i32_w]
      rfl
    refine pure_ (i := 11) (N := some 19) (v := ?_) (a' := ?_) #[true, true, true, true, true, true, true, true, true, true, true, true, false, false, false, false] rfl rfl (by kernel_rfl) (fun _ _ _ h => h) (Or.inl ⟨by rfl, ?_⟩) ?_ ?_
    rotate_left
    · intro w'
      go_simp
      with_reducible rfl
    rotate_left
    · simp only [Act.put, List.setIfInBounds_toArray, List.set_cons_zero, List.set_cons_succ, i64_w, i32_w]
      rfl
    refine take_ (i := 12) (N := some 20) (v := ?_) (a' := ?_) #[true, true, true, true, true, true, true, true, true, true, true, true, true, false, false, false] rfl rfl (by kernel_rfl) (fun _ _ _ h => h) (Or.inl ⟨by rfl, ?_⟩) hHeld ?_ ?_
    rotate_left
    · rintro w' ⟨_, s0⟩
      go_simp
      with_reducible rfl
    rotate_left
    · simp only [Act.put, List.setIfInBounds_toArray, List.set_cons_zero, List.set_cons_succ, i64_w, i32_w]
      rfl
    refine pure_ (i := 13) (N := some 21) (v := ?_) (a' := ?_) #[true, true, true, true, true, true, true, true, true, true, true, true, true, true, false, false] rfl rfl (by kernel_rfl) (fun _ _ _ h => h) (Or.inl ⟨by rfl, ?_⟩) ?_ ?_
    rotate_left
    · intro w'
      go_simp
      with_reducible rfl
    rotate_left
    · simp only [Act.put, List.setIfInBounds_toArray, List.set_cons_zero, List.set_cons_succ, i64_w, i32_w]
      rfl
    refine one_ (i := 14) (N := some 22) #[true, true, true, true, true, true, true, true, true, true, true, true, true, true, true, false] rfl rfl (by kernel_rfl) (by decide) (fun K hK => ?_)
    first | (go_at_call 46; (with_reducible refine (QB.out _ hHeld.1).mono ?_); rintro e w4 ⟨rfl, hb⟩) | (go_simp; (go_at_call 46; (with_reducible refine (QB.out _ hHeld.1).mono ?_); rintro e w4 ⟨rfl, hb⟩))
    refine hK.out _ _ (⟨below_step hHeld.1 hb, (hb.cell (World.block_lt_of_cell? _ _ hHeld.2)).trans hHeld.2⟩) (fun hHeld2 => ?_)
    clear hK K hb hHeld
    have hHeld := hHeld2
    clear hHeld2
    try simp only [Act.put, List.setIfInBounds_toArray, List.set_cons_zero, List.set_cons_succ]
    refine pure_ (i := 15) (N := some 23) (v := ?_) (a' := ?_) #[true, true, true, true, true, true, true, true, true, true, true, true, true, true, true, true] rfl rfl (by kernel_rfl) (fun _ _ _ h => h) (Or.inl ⟨by rfl, ?_⟩) ?_ ?_
    rotate_left
    · intro w'
      go_simp
      with_reducible rfl
    rotate_left
    · simp only [Act.put, List.setIfInBounds_toArray, List.set_cons_zero, List.set_cons_succ, i64_w, i32_w]
      rfl
    refine done_ (by kernel_rfl) ?_
    have HBe := Aside0.mk hHeld.1
    have hce := hHeld.2
    clear hHeld
    go_wp2_with (go_at_call 34; (with_reducible refine (QN.out _ HBe.out).mono ?_); rintro e w6 ⟨v6, rfl, ho, hb⟩; obtain ⟨A6, c6, rfl⟩ := Kd.R_slice ho; have HB6 := Aside0.mk (below_step HBe.out hb); have HN6 := Aside0.mk (Kd.R_reads' ho).2.2; have hc6 := (hb.cell (World.block_lt_of_cell? _ _ hce)).trans hce; clear ho hb hce)
    have hA : Below w6.heap.size w6 (w6.alloc (.cells #[.slice A6 nums.length c6] 27)) := below_alloc (Below.refl w6.heap.size w6) _
    have hB2 : (w6.alloc (.cells #[.slice A6 nums.length c6] 27)).cell? ⟨w6.heap.size, 0, none⟩ = some (.slice A6 nums.length c6) := (blk_cell (MapKept.heap_alloc w6 _).1 0).trans rfl
    have hB1 := (hA.cell (World.block_lt_of_cell? w6 _ hc6)).trans hc6
    have HBa := Aside0.mk (below_step HB6.out hA)
    have QE := Aside0.mk (each_calls (fun i => startAt l1 nums (rd_T42 l0 i) i) l0 (by have := HL.out; omega) A0 c0 w.heap.size w6.heap.size _ (Kd.C_below HR0.out HBa.out) (fun i s h0 h1 hs W hb => by
      rw [← hs]
      have hni := HNin.out _ (rd_mem' nums i h0 (by rw [HNl.out]; exact h1))
      exact add_calls l1 nums _ i h0 (by rw [HNl.out]; exact h1) hni.1 (by rw [HH2.out]; exact hni.2) A1 A6 c1_ c6 w.heap.size w6.heap.size W (Kd.C_below HR1.out (below_step HBa.out hb)) (Kd.C_below HN6.out (below_step hA hb)) ((hb.cell (World.block_lt_of_cell? _ _ hB1)).trans hB1) ((hb.cell (World.block_lt_of_cell? _ _ hB2)).trans hB2)))
    clear hA hB1 hB2 hc6
    go_wp2_with (go_at_call 47; (with_reducible refine QE.out.mono ?_); rintro e w7 ⟨v7, rfl, ho, hb⟩; have HO7 := Aside0.mk (Kd.R_lower ho HBa.out.size); have HB7 := Aside0.mk (below_step HBa.out hb); clear ho hb)
    refine bodyPost_ret (results_tmp2 rfl _ _ _) rfl ?_
    exact ⟨_, rfl, HO7.out, HB7.out⟩
end Go.Proofs.Ytjgpggjjgimibaa.L

-- Written by wip/tools/gp.py, a program of this session round the kit's printer. Lean checks it.
namespace Go.Proofs.Ytjgpggjjgimibaa.V
open Go.RowKit Go.Proofs.Ytjgpggjjgimibaa.Q Go.Proofs.Ytjgpggjjgimibaa.X Go.Proofs.YtjgpggjjgimibaaW.PrintWords Go.Proofs.YtjgpggjjgimibaaW.PrintLast Go.Proofs.YtjgpggjjgimibaaW.PrintMore
attribute [local go_sem] max2_int min2_int max_two min_two max_three min_three max_four min_four   -- for this text's walks alone
set_option linter.unusedVariables false
set_option linter.unusedSimpArgs false
end Go.Proofs.Ytjgpggjjgimibaa.V

-- Written by wip/tools/gp.py, a program of this session round the kit's printer. Lean checks it.
namespace Go.Proofs.Ytjgpggjjgimibaa.Z
open Go.RowKit Go.Proofs.Ytjgpggjjgimibaa.Q Go.Proofs.Ytjgpggjjgimibaa.X Go.Proofs.Ytjgpggjjgimibaa.V Go.Proofs.YtjgpggjjgimibaaW.PrintWords Go.Proofs.YtjgpggjjgimibaaW.PrintLast Go.Proofs.YtjgpggjjgimibaaW.PrintMore
attribute [local go_sem] max2_int min2_int max_two min_two max_three min_three max_four min_four   -- for this text's walks alone
set_option linter.unusedVariables false
set_option linter.unusedSimpArgs false




-- the values' own types

end Go.Proofs.Ytjgpggjjgimibaa.Z

-- Written by wip/tools/gp.py, a program of this session round the kit's printer. Lean checks it.
namespace Go.Proofs.Ytjgpggjjgimibaa.Z
open Go.RowKit Go.Proofs.Ytjgpggjjgimibaa.Q Go.Proofs.Ytjgpggjjgimibaa.X Go.Proofs.Ytjgpggjjgimibaa.V Go.Proofs.YtjgpggjjgimibaaW.PrintWords Go.Proofs.YtjgpggjjgimibaaW.PrintLast Go.Proofs.YtjgpggjjgimibaaW.PrintMore
attribute [local go_sem] max2_int min2_int max_two min_two max_three min_three max_four min_four   -- for this text's walks alone
set_option linter.unusedVariables false
set_option linter.unusedSimpArgs false

/-! ### merkhetlaw18_tooMany: function 31 (given) -/
def merkhetlaw18_tooMany.f (l0 : List S42) : Option Bool := if l0.length ≤ 1759218604441 ∧ (∀ x ∈ l0, L.fitS x) then some (L.tooB l0) else none
theorem merkhetlaw18_tooMany.calls (A0 : Option Addr) (c0 : Nat) (l0 : List (S42)) (r : Bool) (w : World) (hr0 : Kd.C k42 w A0 l0.length l0) (hc0 : l0.length ≤ c0) (h : merkhetlaw18_tooMany.f l0 = some r) :
    Calls Try.prog 31 #[.slice A0 l0.length c0] w fun e w' => e = .returned (.bool r) ∧ Below w.heap.size w w' := by
  unfold merkhetlaw18_tooMany.f at h
  split at h
  · rename_i hl
    obtain rfl := Option.some.inj h
    exact L.too_calls l0 hl.1 hl.2 A0 c0 w hr0 hc0
  · exact absurd h (by simp)

end Go.Proofs.Ytjgpggjjgimibaa.Z

-- Written by wip/tools/gp.py, a program of this session round the kit's printer. Lean checks it.
namespace Go.Proofs.Ytjgpggjjgimibaa.Q
open Go.RowKit Go.Proofs.YtjgpggjjgimibaaW.PrintWords Go.Proofs.YtjgpggjjgimibaaW.PrintLast Go.Proofs.YtjgpggjjgimibaaW.PrintMore
attribute [local go_sem] max2_int min2_int max_two min_two max_three min_three max_four min_four   -- for this text's walks alone
set_option linter.unusedVariables false
set_option linter.unusedSimpArgs false

/-! ### merkhetref09_Hosts: function 41 -/
mutual
def merkhetref09_Hosts.l0 : Nat → List (S42) → List ByteArray → Int → Option (List ByteArray)
  | 0, _, _, _ => none
  | k + 1, x0, x3, x4 => if x4 < (x0.length : Int) then (if 0 ≤ x4 then ((merkhetref09_Place.f k x3 ((rd_T42 x0 x4).f4)).bind fun t168 => (if t168 ≥ 0 then (merkhetref09_Hosts.l0 k x0 x3 (wrap64 (x4 + 1))) else (merkhetref09_Hosts.l1 k x0 x3 x4 (x3.length : Int)))) else (none)) else (some x3)
def merkhetref09_Hosts.l1 : Nat → List (S42) → List ByteArray → Int → Int → Option (List ByteArray)
  | 0, _, _, _, _ => none
  | k + 1, x0, x3, x4, x5 => if x5 > 0 then (if 0 ≤ (wrap64 (x5 - 1)) then (if (wrap64 (x5 - 1)) < (x3.length : Int) then (if 0 ≤ x4 then (if x4 < (x0.length : Int) then ((merkhetref01_Text.f k (rdOf ByteArray.empty x3 (wrap64 (x5 - 1))) ((rd_T42 x0 x4).f4)).bind fun t171 => (if t171 > 0 then (merkhetref09_Hosts.l1 k x0 x3 x4 (wrap64 (x5 - 1))) else ((some (([] : List ByteArray) : List ByteArray)).bind fun y172 => (if 0 ≤ x5 then (if x5 ≤ (x3.length : Int) then ((some (x3.drop (x5 : Int).toNat : List ByteArray)).bind fun y175 => (if y172.length + y175.length < 8796093022208 then ((some (y172 ++ y175 : List ByteArray)).bind fun y179 => ((some (x3.take (x5 : Int).toNat : List ByteArray)).bind fun y182 => (if y182.length < 8796093022208 then ((some (y182 ++ [(rd_T42 x0 x4).f4] : List ByteArray)).bind fun y186 => (if y186.length + y179.length < 8796093022208 then (merkhetref09_Hosts.l0 k x0 (y186 ++ y179) (wrap64 (x4 + 1))) else (none))) else (none)))) else (none))) else (none)) else (none))))) else (none)) else (none)) else (none)) else (none)) else ((some (([] : List ByteArray) : List ByteArray)).bind fun y192 => (if 0 ≤ x5 then (if x5 ≤ (x3.length : Int) then ((some (x3.drop (x5 : Int).toNat : List ByteArray)).bind fun y195 => (if y192.length + y195.length < 8796093022208 then ((some (y192 ++ y195 : List ByteArray)).bind fun y199 => ((some (x3.take (x5 : Int).toNat : List ByteArray)).bind fun y202 => (if 0 ≤ x4 then (if x4 < (x0.length : Int) then (if y202.length < 8796093022208 then ((some (y202 ++ [(rd_T42 x0 x4).f4] : List ByteArray)).bind fun y206 => (if y206.length + y199.length < 8796093022208 then (merkhetref09_Hosts.l0 k x0 (y206 ++ y199) (wrap64 (x4 + 1))) else (none))) else (none)) else (none)) else (none)))) else (none))) else (none)) else (none)))
end
def merkhetref09_Hosts.f (k : Nat) (l0 : List (S42)) : Option (List ByteArray) := merkhetref09_Hosts.l0 k l0 (([] : List ByteArray)) 0
theorem merkhetref09_Hosts.mono_l : ∀ k, (∀ y0 y1 y2, LeO (merkhetref09_Hosts.l0 k y0 y1 y2) (merkhetref09_Hosts.l0 (k + 1) y0 y1 y2)) ∧ (∀ y0 y1 y2 y3, LeO (merkhetref09_Hosts.l1 k y0 y1 y2 y3) (merkhetref09_Hosts.l1 (k + 1) y0 y1 y2 y3))
  | 0 => ⟨fun _ _ _ r h => by simp [merkhetref09_Hosts.l0] at h, fun _ _ _ _ r h => by simp [merkhetref09_Hosts.l1] at h⟩
  | k + 1 => by
    obtain ⟨ih0, ih1⟩ := merkhetref09_Hosts.mono_l k
    refine ⟨?_, ?_⟩
    · intro y0 y1 y2
      unfold merkhetref09_Hosts.l0
      repeat' first
      | (with_reducible exact ih0 _ _ _)
      | (with_reducible exact ih1 _ _ _ _)
      | (with_reducible exact merkhetref01_Text.mono _ _ _)
      | (with_reducible exact merkhetref09_Place.mono _ _ _)
      | (with_reducible exact LeO.refl _)
      | (with_reducible exact LeO.none _)
      | (with_reducible refine LeO.ite ?_ ?_)
      | (with_reducible refine LeO.bind ?_ (fun _ => ?_))
      | exact ih0 _ _ _
      | exact ih1 _ _ _ _
      | exact merkhetref01_Text.mono _ _ _
      | exact merkhetref09_Place.mono _ _ _
      | exact LeO.none _
      | refine LeO.ite ?_ ?_
      | refine LeO.bind ?_ (fun _ => ?_)
    · intro y0 y1 y2 y3
      unfold merkhetref09_Hosts.l1
      repeat' first
      | (with_reducible exact ih0 _ _ _)
      | (with_reducible exact ih1 _ _ _ _)
      | (with_reducible exact merkhetref01_Text.mono _ _ _)
      | (with_reducible exact merkhetref09_Place.mono _ _ _)
      | (with_reducible exact LeO.refl _)
      | (with_reducible exact LeO.none _)
      | (with_reducible refine LeO.ite ?_ ?_)
      | (with_reducible refine LeO.bind ?_ (fun _ => ?_))
      | exact ih0 _ _ _
      | exact ih1 _ _ _ _
      | exact merkhetref01_Text.mono _ _ _
      | exact merkhetref09_Place.mono _ _ _
      | exact LeO.none _
      | refine LeO.ite ?_ ?_
      | refine LeO.bind ?_ (fun _ => ?_)
theorem merkhetref09_Hosts.mono : ∀ a0 k, LeO (merkhetref09_Hosts.f k a0) (merkhetref09_Hosts.f (k + 1) a0) := by
  intro a0 k
  obtain ⟨ih0, ih1⟩ := merkhetref09_Hosts.mono_l k
  unfold merkhetref09_Hosts.f
  repeat' first
      | (with_reducible exact ih0 _ _ _)
      | (with_reducible exact ih1 _ _ _ _)
      | (with_reducible exact merkhetref01_Text.mono _ _ _)
      | (with_reducible exact merkhetref09_Place.mono _ _ _)
      | (with_reducible exact LeO.refl _)
      | (with_reducible exact LeO.none _)
      | (with_reducible refine LeO.ite ?_ ?_)
      | (with_reducible refine LeO.bind ?_ (fun _ => ?_))
      | exact ih0 _ _ _
      | exact ih1 _ _ _ _
      | exact merkhetref01_Text.mono _ _ _
      | exact merkhetref09_Place.mono _ _ _
      | exact LeO.none _
      | refine LeO.ite ?_ ?_
      | refine LeO.bind ?_ (fun _ => ?_)
def merkhetref09_Hosts.T7 : Bool × List (List Nat × List Nat) := (true, [([], []), ([0], [0]), ([1], [1]), ([2], [2]), ([2], [2]), ([4, 2], [2, 4]), ([3, 5, 2], [2, 3, 5]), ([6, 2], [2, 6]), ([2], [2]), ([2], [2]), ([8, 9, 2], [2, 8, 9]), ([10, 2], [2, 10]), ([11, 2], [2, 11]), ([7, 12, 2, 2], [2, 7, 12]), ([13, 2], [2, 13]), ([2, 14], [2, 14])])
def merkhetref09_Hosts.B7 : List Nat := [0, 1, 3, 7, 7, 23, 63, 127, 7, 7, 775, 1799, 3847, 8191, 16383, 32767]
theorem merkhetref09_Hosts.tab7 : rtab .any (opsOf Try.f41 7) = merkhetref09_Hosts.T7 := by kernel_rfl
theorem merkhetref09_Hosts.bits7 : waitsOk merkhetref09_Hosts.T7.2 merkhetref09_Hosts.B7 = true := by kernel_rfl
def merkhetref09_Hosts.T10 : Bool × List (List Nat × List Nat) := (true, [([], []), ([], []), ([0, 1], [0, 1]), ([], []), ([], []), ([3, 4], [3, 4]), ([5], [5]), ([6], [6]), ([7], [7]), ([2, 8], [2, 8]), ([], []), ([9, 10, 9], [9, 10]), ([11, 11, 0, 1, 2, 3, 4, 5, 6, 7, 8, 9, 10, 11], [0, 11])])
def merkhetref09_Hosts.B10 : List Nat := [0, 0, 3, 0, 0, 24, 56, 120, 248, 511, 0, 2047, 4095]
theorem merkhetref09_Hosts.tab10 : rtab .any (opsOf Try.f41 10) = merkhetref09_Hosts.T10 := by kernel_rfl
theorem merkhetref09_Hosts.bits10 : waitsOk merkhetref09_Hosts.T10.2 merkhetref09_Hosts.B10 = true := by kernel_rfl
set_option maxHeartbeats 8000000 in
set_option maxRecDepth 100000 in
theorem merkhetref09_Hosts.calls (k : Nat) (A0 : Option Addr) (c0 : Nat) (l0 : List (S42)) (r : List ByteArray) (w : World) (hr0 : Kd.C k42 w A0 l0.length l0) (hc0 : l0.length ≤ c0) (h : merkhetref09_Hosts.f k l0 = some r) :
    Calls Try.prog 41 #[.slice A0 l0.length c0] w fun e w' => ∃ v0_ : Value, e = .returned (v0_) ∧ Kd.R Kd.string 9 w' w.heap.size (fun _ => True) v0_ r ∧ Below w.heap.size w w' := by
  have HR0 := Aside0.mk hr0
  have HC0 := Aside0.mk hc0
  clear hr0 hc0
  have HB := Aside0.mk (Below.refl w.heap.size w)
  have H : (merkhetref09_Hosts.l0 k l0 (([] : List ByteArray)) 0) = some r := h
  clear h
  obtain ⟨y164, hy164⟩ : ∃ y_ : List ByteArray, y_ = (([] : List ByteArray)) := ⟨_, rfl⟩
  replace H : (merkhetref09_Hosts.l0 k l0 y164 0) = some r := by first | (rw [hy164]; with_reducible exact H) | (have H2_ := (Option.bind_some _ _).symm.trans H; rw [hy164]; with_reducible exact H2_) | (have H2_ := (Option.bind_some _ _).symm.trans H; with_reducible exact H2_) | with_reducible exact H | (rw [hy164]; exact H) | exact H
  have Ny164 := Aside0.mk hy164
  clear hy164
  have H' := Aside0.mk H
  clear H
  go_enter Try.func41, Try.ntmps41
  go_wp2_with (first | ((with_reducible refine gate_dst (N := 7) rfl ?_); refine Kd.R_lit Kd.string _ 9 ?hg (N := 7) ?hd (xs := ([] : List ByteArray)) (inner := []) (ok := fun _ => True) (okp := fun _ => True) ?hr ?hp (fun _ hk => hk) trivial (Below.refl _ _) (Nat.le_refl _) (by simp) ?_; (case hd => rfl); (case hg => rfl); (case hr => first | (go_simp; done) | (go_simp; rfl)); (case hp => exact (Reps.none _ _)); intro v165 w2 ho3 hb hg_ hnew_; clear hg_ hnew_; (first | rw [← Ny164.out] at ho3 | (simp only [Int.reduceToNat] at ho3; rw [← Ny164.out] at ho3)); have n0_ := Aside0.mk (Kd.R_lower ho3 (below_size (by repeat (first | (with_reducible first | exact HB.out | apply below_alloc | apply pw_below_drewN | apply below_drew1) | exact HB.out)))); have n1_ := Aside0.mk (below_step (by repeat (first | (with_reducible first | exact HB.out | apply below_alloc | apply pw_below_drewN | apply below_drew1) | exact HB.out)) hb); clear HB; have HO166 := n0_; have HB := n1_; clear n0_ n1_; clear hb ho3))
  go_loopg [3, 4] k (fun kq v3 v4 w' => ∃ (x3_1 : List ByteArray) (x4_1 : Int), v4 = .int .i64 x4_1 ∧ Aside0 (merkhetref09_Hosts.l0 kq l0 x3_1 x4_1 = some r) ∧ Aside0 (kq ≤ k) ∧ Aside0 (Kd.R Kd.string 9 w' w.heap.size (fun _ => True) v3 x3_1) ∧ Aside0 (Below w.heap.size w w'))
  case atStart => exact ⟨(y164), (0), (by first | rfl | (simp; done) | (simp [*]; done)), H', ⟨Nat.le_refl _⟩, ⟨by (with_reducible repeat (first | apply Kd.R_alloc | apply Kd.R_drewN | apply Kd.R_drew)); exact HO166.out⟩, ⟨by repeat (first | (with_reducible first | exact HB.out | apply below_alloc | apply pw_below_drewN | apply below_drew1) | exact HB.out)⟩⟩
  case round =>
    clear H'
    (try clear p2)
    obtain ⟨x3_1, x4_1, rfl, HA, HK1, HO_3, HB⟩ := hrel
    cases gk with
    | zero => exact absurd HA.out (by simp [merkhetref09_Hosts.l0])
    | succ k1 =>
      have H := HA.out
      clear HA
      simp only [merkhetref09_Hosts.l0] at H
      by_cases c4 : x4_1 < (l0.length : Int)
      · rw [if_pos c4] at H
        have c4b0 : decide (x4_1 < (l0.length : Int)) = true := decide_eq_true c4
        clear c4
        by_cases c5 : 0 ≤ x4_1
        · rw [if_pos c5] at H
          have c5b0 : decide (0 ≤ x4_1) = true := decide_eq_true c5
          clear c5
          replace H := Option.bind_eq_some_iff.mp H
          obtain ⟨t168, A60, H⟩ := H
          replace H : (if t168 ≥ 0 then (merkhetref09_Hosts.l0 k1 l0 x3_1 (wrap64 (x4_1 + 1))) else (merkhetref09_Hosts.l1 k1 l0 x3_1 x4_1 (x3_1.length : Int))) = some r := H
          have A6 := Aside0.mk A60
          clear A60
          by_cases c7 : t168 ≥ 0
          · rw [if_pos c7] at H
            have c7b0 : decide (0 ≤ t168) = true := decide_eq_true c7
            clear c7
            have H' := Aside0.mk H
            clear H
            have p167 : 0 ≤ (x4_1 : Int) := of_decide_eq_true (by first | (with_reducible assumption) | assumption)
            have q167 : x4_1 < (l0.length : Int) := of_decide_eq_true (by first | (with_reducible assumption) | assumption)
            obtain ⟨ad167, e167, hx167_0, hx167_1, hx167_2, hx167_3, hx167_4, hx167_5, hx167_6, hx167_7⟩ := at_T42 HR0.out x4_1 p167 q167
            cases e167
            replace hx167_0 := (HB.out.cell (World.block_lt_of_cell? w _ hx167_0)).trans hx167_0
            replace hx167_1 := (HB.out.cell (World.block_lt_of_cell? w _ hx167_1)).trans hx167_1
            replace hx167_2 := (HB.out.cell (World.block_lt_of_cell? w _ hx167_2)).trans hx167_2
            replace hx167_3 := (HB.out.cell (World.block_lt_of_cell? w _ hx167_3)).trans hx167_3
            replace hx167_4 := (HB.out.cell (World.block_lt_of_cell? w _ hx167_4)).trans hx167_4
            replace hx167_5 := (HB.out.cell (World.block_lt_of_cell? w _ hx167_5)).trans hx167_5
            replace hx167_6 := (HB.out.cell (World.block_lt_of_cell? w _ hx167_6)).trans hx167_6
            replace hx167_7 := (HB.out.cell (World.block_lt_of_cell? w _ hx167_7)).trans hx167_7
            replace p167 := eq_true p167
            replace q167 := eq_true q167
            obtain ⟨Ao8, co8, eo8⟩ := Kd.R_slice HO_3.out
            subst eo8
            go_wp2_with (first | ((with_reducible refine gate_callee (f := 42) rfl ?_); refine goesL_ (some 20) rfl rfl Try.func42 (by kernel_rfl) rfl #[.slice Ao8 x3_1.length co8, .string ((rd_T42 l0 x4_1).f4)] rfl (by (try simp only [List.map_toArray, List.map_cons, List.map_nil]); first | done | rfl | (simp only [List.length_drop, List.length_take]; rfl)) ?_; (with_reducible refine (merkhetref09_Place.calls k1 _ _ x3_1 ((rd_T42 l0 x4_1).f4) t168 _ ?side1 ?side2 A6.out).mono ?_); (case side1 => repeat (first | exact (Kd.R_reads' HO_3.out).2.2 | (with_reducible refine Kd.C_alloc ?_ _) | (with_reducible refine Kd.C_drewN ?_ _) | (with_reducible refine Kd.C_drew ?_))); (case side2 => exact (Kd.R_reads' HO_3.out).2.1); rintro e w' ⟨rfl, ⟨nd, rfl⟩⟩; refine ⟨_, rfl, ?_⟩))
            go_roundg k1
            case measure => have := HK1.out; omega
            case rel => exact ⟨(x3_1), (wrap64 (x4_1 + 1)), (by first | rfl | (simp; done) | (simp [*]; done)), H', ⟨by have := HK1.out; omega⟩, ⟨by (with_reducible repeat (first | apply Kd.R_alloc | apply Kd.R_drewN | apply Kd.R_drew)); exact HO_3.out⟩, ⟨by repeat (first | (with_reducible first | exact HB.out | apply below_alloc | apply pw_below_drewN | apply below_drew1) | exact HB.out)⟩⟩
          · rw [if_neg c7] at H
            have c7b0 : decide (0 ≤ t168) = false := decide_eq_false c7
            clear c7
            have H' := Aside0.mk H
            clear H
            have p167 : 0 ≤ (x4_1 : Int) := of_decide_eq_true (by first | (with_reducible assumption) | assumption)
            have q167 : x4_1 < (l0.length : Int) := of_decide_eq_true (by first | (with_reducible assumption) | assumption)
            obtain ⟨ad167, e167, hx167_0, hx167_1, hx167_2, hx167_3, hx167_4, hx167_5, hx167_6, hx167_7⟩ := at_T42 HR0.out x4_1 p167 q167
            cases e167
            replace hx167_0 := (HB.out.cell (World.block_lt_of_cell? w _ hx167_0)).trans hx167_0
            replace hx167_1 := (HB.out.cell (World.block_lt_of_cell? w _ hx167_1)).trans hx167_1
            replace hx167_2 := (HB.out.cell (World.block_lt_of_cell? w _ hx167_2)).trans hx167_2
            replace hx167_3 := (HB.out.cell (World.block_lt_of_cell? w _ hx167_3)).trans hx167_3
            replace hx167_4 := (HB.out.cell (World.block_lt_of_cell? w _ hx167_4)).trans hx167_4
            replace hx167_5 := (HB.out.cell (World.block_lt_of_cell? w _ hx167_5)).trans hx167_5
            replace hx167_6 := (HB.out.cell (World.block_lt_of_cell? w _ hx167_6)).trans hx167_6
            replace hx167_7 := (HB.out.cell (World.block_lt_of_cell? w _ hx167_7)).trans hx167_7
            replace p167 := eq_true p167
            replace q167 := eq_true q167
            obtain ⟨Ao9, co9, eo9⟩ := Kd.R_slice HO_3.out
            subst eo9
            go_wp2_with (first | ((with_reducible refine gate_callee (f := 42) rfl ?_); refine goesL_ (some 20) rfl rfl Try.func42 (by kernel_rfl) rfl #[.slice Ao9 x3_1.length co9, .string ((rd_T42 l0 x4_1).f4)] rfl (by (try simp only [List.map_toArray, List.map_cons, List.map_nil]); first | done | rfl | (simp only [List.length_drop, List.length_take]; rfl)) ?_; (with_reducible refine (merkhetref09_Place.calls k1 _ _ x3_1 ((rd_T42 l0 x4_1).f4) t168 _ ?side1 ?side2 A6.out).mono ?_); (case side1 => repeat (first | exact (Kd.R_reads' HO_3.out).2.2 | (with_reducible refine Kd.C_alloc ?_ _) | (with_reducible refine Kd.C_drewN ?_ _) | (with_reducible refine Kd.C_drew ?_))); (case side2 => exact (Kd.R_reads' HO_3.out).2.1); rintro e w' ⟨rfl, ⟨nd, rfl⟩⟩; refine ⟨_, rfl, ?_⟩))
            go_loopg [5] k1 (fun kq v5 w' => ∃ (x5_2 : Int), v5 = .int .i64 x5_2 ∧ Aside0 (merkhetref09_Hosts.l1 kq l0 x3_1 x4_1 x5_2 = some r) ∧ Aside0 (kq ≤ k1) ∧ Aside0 (Kd.R Kd.string 9 w' w.heap.size (fun _ => True) (.slice Ao9 x3_1.length co9) x3_1) ∧ Aside0 (Below w.heap.size w w'))
            case atStart => exact ⟨((x3_1.length : Int)), (by first | rfl | (simp; done) | (simp [*]; done)), H', ⟨Nat.le_refl _⟩, ⟨by (with_reducible repeat (first | apply Kd.R_alloc | apply Kd.R_drewN | apply Kd.R_drew)); exact HO_3.out⟩, ⟨by repeat (first | (with_reducible first | exact HB.out | apply below_alloc | apply pw_below_drewN | apply below_drew1) | exact HB.out)⟩⟩
            case round =>
              clear H'
              (try clear p1); (try clear q1); (try clear hx1); (try clear p2); (try clear c4); (try clear c4b0); (try clear c5); (try clear c5b0); (try clear p6); (try clear c7); (try clear c7b0); (try clear hx167_0); (try clear hx167_1); (try clear hx167_2); (try clear hx167_3); (try clear hx167_4); (try clear hx167_5); (try clear hx167_6); (try clear hx167_7); (try clear p167); (try clear p2); (try clear q167)
              obtain ⟨x5_2, rfl, HA, HK2, HO_3, HB⟩ := hrel
              cases gk with
              | zero => exact absurd HA.out (by simp [merkhetref09_Hosts.l1])
              | succ k2 =>
                have H := HA.out
                clear HA
                simp only [merkhetref09_Hosts.l1] at H
                by_cases c10 : x5_2 > 0
                · rw [if_pos c10] at H
                  have c10b0 : decide (0 < x5_2) = true := decide_eq_true c10
                  clear c10
                  obtain ⟨ji11, hji11⟩ : ∃ j_ : Int, (wrap64 (x5_2 - 1)) = j_ := ⟨_, rfl⟩
                  replace H : (if 0 ≤ (ji11) then (if (ji11) < (x3_1.length : Int) then (if 0 ≤ x4_1 then (if x4_1 < (l0.length : Int) then ((merkhetref01_Text.f k2 (rdOf ByteArray.empty x3_1 (ji11)) ((rd_T42 l0 x4_1).f4)).bind fun t171 => (if t171 > 0 then (merkhetref09_Hosts.l1 k2 l0 x3_1 x4_1 ji11) else ((some (([] : List ByteArray) : List ByteArray)).bind fun y172 => (if 0 ≤ x5_2 then (if x5_2 ≤ (x3_1.length : Int) then ((some (x3_1.drop (x5_2 : Int).toNat : List ByteArray)).bind fun y175 => (if y172.length + y175.length < 8796093022208 then ((some (y172 ++ y175 : List ByteArray)).bind fun y179 => ((some (x3_1.take (x5_2 : Int).toNat : List ByteArray)).bind fun y182 => (if y182.length < 8796093022208 then ((some (y182 ++ [(rd_T42 l0 x4_1).f4] : List ByteArray)).bind fun y186 => (if y186.length + y179.length < 8796093022208 then (merkhetref09_Hosts.l0 k2 l0 (y186 ++ y179) (wrap64 (x4_1 + 1))) else (none))) else (none)))) else (none))) else (none)) else (none))))) else (none)) else (none)) else (none)) else (none)) = some r := by first | (rw [hji11] at H; exact H) | (simp only [hji11] at H ⊢; exact H)
                  have hji11w : (IntKind.i64.wrap (x5_2 - 1)) = ji11 := (i64_w _).trans hji11
                  by_cases c12 : 0 ≤ (ji11)
                  · rw [if_pos c12] at H
                    have c12b0 : decide (0 ≤ (ji11)) = true := decide_eq_true c12
                    clear c12
                    by_cases c13 : (ji11) < (x3_1.length : Int)
                    · rw [if_pos c13] at H
                      have c13b0 : decide ((ji11) < (x3_1.length : Int)) = true := decide_eq_true c13
                      clear c13
                      by_cases c14 : 0 ≤ x4_1
                      · rw [if_pos c14] at H
                        have c14b0 : decide (0 ≤ x4_1) = true := decide_eq_true c14
                        clear c14
                        by_cases c15 : x4_1 < (l0.length : Int)
                        · rw [if_pos c15] at H
                          have c15b0 : decide (x4_1 < (l0.length : Int)) = true := decide_eq_true c15
                          clear c15
                          replace H := Option.bind_eq_some_iff.mp H
                          obtain ⟨t171, A160, H⟩ := H
                          replace H : (if t171 > 0 then (merkhetref09_Hosts.l1 k2 l0 x3_1 x4_1 ji11) else ((some (([] : List ByteArray) : List ByteArray)).bind fun y172 => (if 0 ≤ x5_2 then (if x5_2 ≤ (x3_1.length : Int) then ((some (x3_1.drop (x5_2 : Int).toNat : List ByteArray)).bind fun y175 => (if y172.length + y175.length < 8796093022208 then ((some (y172 ++ y175 : List ByteArray)).bind fun y179 => ((some (x3_1.take (x5_2 : Int).toNat : List ByteArray)).bind fun y182 => (if y182.length < 8796093022208 then ((some (y182 ++ [(rd_T42 l0 x4_1).f4] : List ByteArray)).bind fun y186 => (if y186.length + y179.length < 8796093022208 then (merkhetref09_Hosts.l0 k2 l0 (y186 ++ y179) (wrap64 (x4_1 + 1))) else (none))) else (none)))) else (none))) else (none)) else (none)))) = some r := H
                          have A16 := Aside0.mk A160
                          clear A160
                          by_cases c17 : t171 > 0
                          · rw [if_pos c17] at H
                            have c17b0 : decide (0 < t171) = true := decide_eq_true c17
                            clear c17
                            have H' := Aside0.mk H
                            clear H
                            try go_wp2
                            have n0_ := Aside0.mk (Kd.R_drew HO_3.out)
                            have n1_ := Aside0.mk (below_drew1 HB.out)
                            clear HO_3
                            clear HB
                            have HO_3 := n0_
                            have HB := n1_
                            clear n0_ n1_
                            have p169 : 0 ≤ ((ji11) : Int) := of_decide_eq_true (by first | (with_reducible assumption) | assumption)
                            have q169 : (ji11) < (x3_1.length : Int) := of_decide_eq_true (by first | (with_reducible assumption) | assumption)
                            obtain ⟨ad169, e169, hx169_0⟩ := Kd.at_string (Kd.R_reads' HO_3.out).2.2 (ji11) p169 q169
                            cases e169
                            replace p169 := eq_true p169
                            replace q169 := eq_true q169
                            have p170 : 0 ≤ (x4_1 : Int) := of_decide_eq_true (by first | (with_reducible assumption) | assumption)
                            have q170 : x4_1 < (l0.length : Int) := of_decide_eq_true (by first | (with_reducible assumption) | assumption)
                            obtain ⟨ad170, e170, hx170_0, hx170_1, hx170_2, hx170_3, hx170_4, hx170_5, hx170_6, hx170_7⟩ := at_T42 HR0.out x4_1 p170 q170
                            have hw170_7 := hx170_7
                            have hw170_6 := hx170_6
                            have hw170_5 := hx170_5
                            have hw170_4 := hx170_4
                            have hw170_3 := hx170_3
                            have hw170_2 := hx170_2
                            have hw170_1 := hx170_1
                            have hw170_0 := hx170_0
                            obtain rfl : ad167 = ad170 := (by injection e170)
                            replace hx170_0 := (HB.out.cell (World.block_lt_of_cell? w _ hx170_0)).trans hx170_0
                            replace hx170_1 := (HB.out.cell (World.block_lt_of_cell? w _ hx170_1)).trans hx170_1
                            replace hx170_2 := (HB.out.cell (World.block_lt_of_cell? w _ hx170_2)).trans hx170_2
                            replace hx170_3 := (HB.out.cell (World.block_lt_of_cell? w _ hx170_3)).trans hx170_3
                            replace hx170_4 := (HB.out.cell (World.block_lt_of_cell? w _ hx170_4)).trans hx170_4
                            replace hx170_5 := (HB.out.cell (World.block_lt_of_cell? w _ hx170_5)).trans hx170_5
                            replace hx170_6 := (HB.out.cell (World.block_lt_of_cell? w _ hx170_6)).trans hx170_6
                            replace hx170_7 := (HB.out.cell (World.block_lt_of_cell? w _ hx170_7)).trans hx170_7
                            replace p170 := eq_true p170
                            replace q170 := eq_true q170
                            refine start_ (n := 16) (S := fun w' => w'.cell? (ad169.add ((ji11)).toNat) = some (.string (rdOf ByteArray.empty x3_1 (ji11))) ∧ w'.cell? (ad167.add ((x4_1).toNat * 8)) = some (.int .u64 ((rd_T42 l0 x4_1).f0)) ∧ w'.cell? ⟨(ad167.add ((x4_1).toNat * 8)).block, (ad167.add ((x4_1).toNat * 8)).off + 1, none⟩ = some (.int .u64 ((rd_T42 l0 x4_1).f1)) ∧ w'.cell? ⟨(ad167.add ((x4_1).toNat * 8)).block, (ad167.add ((x4_1).toNat * 8)).off + 2, none⟩ = some (.int .u64 ((rd_T42 l0 x4_1).f2)) ∧ w'.cell? ⟨(ad167.add ((x4_1).toNat * 8)).block, (ad167.add ((x4_1).toNat * 8)).off + 3, none⟩ = some (.int .u8 ((rd_T42 l0 x4_1).f3)) ∧ w'.cell? ⟨(ad167.add ((x4_1).toNat * 8)).block, (ad167.add ((x4_1).toNat * 8)).off + 4, none⟩ = some (.string ((rd_T42 l0 x4_1).f4)) ∧ w'.cell? ⟨(ad167.add ((x4_1).toNat * 8)).block, (ad167.add ((x4_1).toNat * 8)).off + 5, none⟩ = some (.string ((rd_T42 l0 x4_1).f5)) ∧ w'.cell? ⟨(ad167.add ((x4_1).toNat * 8)).block, (ad167.add ((x4_1).toNat * 8)).off + 6, none⟩ = some (.int .i64 ((rd_T42 l0 x4_1).f6)) ∧ w'.cell? ⟨(ad167.add ((x4_1).toNat * 8)).block, (ad167.add ((x4_1).toNat * 8)).off + 7, none⟩ = some (.int .i64 ((rd_T42 l0 x4_1).f7))) (ds := []) #[false, false, false, false, false, false, false, false, false, false, false, false, false, false, false, false] (by kernel_rfl) rfl rfl ⟨hx169_0, ((HB.out.cell (World.block_lt_of_cell? w _ hw170_0)).trans hw170_0), ((HB.out.cell (World.block_lt_of_cell? w _ hw170_1)).trans hw170_1), ((HB.out.cell (World.block_lt_of_cell? w _ hw170_2)).trans hw170_2), ((HB.out.cell (World.block_lt_of_cell? w _ hw170_3)).trans hw170_3), ((HB.out.cell (World.block_lt_of_cell? w _ hw170_4)).trans hw170_4), ((HB.out.cell (World.block_lt_of_cell? w _ hw170_5)).trans hw170_5), ((HB.out.cell (World.block_lt_of_cell? w _ hw170_6)).trans hw170_6), ((HB.out.cell (World.block_lt_of_cell? w _ hw170_7)).trans hw170_7)⟩ (fun hHeld => ?_); refine with_tabW merkhetref09_Hosts.tab7 merkhetref09_Hosts.bits7 (fun HT_ HW_ => ?_)
                            generalize wr.drew = w18 at HO_3 HB hx169_0 hx170_0 hx170_1 hx170_2 hx170_3 hx170_4 hx170_5 hx170_6 hx170_7 hHeld ⊢
                            refine pure_ (i := 0) (N := some 24) (v := ?_) (a' := ?_) #[true, false, false, false, false, false, false, false, false, false, false, false, false, false, false, false] rfl rfl (any_of HT_.out (by kernel_rfl)) (fun _ _ _ h => h) (Or.inl ⟨by rfl, ?_⟩) ?_ ?_
                            rotate_left
                            · intro w'
                              go_simp
                              with_reducible rfl
                            rotate_left
                            · simp only [Act.put, List.setIfInBounds_toArray, List.set_cons_zero, List.set_cons_succ, i64_w, i32_w]
                              rfl
                            refine pure_ (i := 1) (N := some 25) (v := ?_) (a' := ?_) #[true, true, false, false, false, false, false, false, false, false, false, false, false, false, false, false] rfl rfl (any_of HT_.out (by kernel_rfl)) (fun _ _ _ h => h) (Or.inl ⟨by rfl, ?_⟩) ?_ ?_
                            rotate_left
                            · intro w'
                              go_simp
                              with_reducible rfl
                            rotate_left
                            · simp only [Act.put, List.setIfInBounds_toArray, List.set_cons_zero, List.set_cons_succ, i64_w, i32_w]
                              rfl
                            refine pure_ (i := 2) (N := some 26) (v := ?_) (a' := ?_) #[true, true, true, false, false, false, false, false, false, false, false, false, false, false, false, false] rfl rfl (any_of HT_.out (by kernel_rfl)) (fun _ _ _ h => h) (Or.inl ⟨by rfl, ?_⟩) ?_ ?_
                            rotate_left
                            · intro w'
                              go_simp
                              with_reducible rfl
                            rotate_left
                            · simp only [Act.put, List.setIfInBounds_toArray, List.set_cons_zero, List.set_cons_succ, i64_w, i32_w]
                              rfl
                            refine pure_ (i := 3) (N := some 27) (v := ?_) (a' := ?_) #[true, true, true, true, false, false, false, false, false, false, false, false, false, false, false, false] rfl rfl (any_of HT_.out (by kernel_rfl)) (fun _ _ _ h => h) (Or.inl ⟨by rfl, ?_⟩) ?_ ?_
                            rotate_left
                            · intro w'
                              go_simp
                              with_reducible rfl
                            rotate_left
                            · simp only [Act.put, List.setIfInBounds_toArray, List.set_cons_zero, List.set_cons_succ, i64_w, i32_w]
                              rfl
                            refine pure_ (i := 4) (N := some 28) (v := ?_) (a' := ?_) #[true, true, true, true, true, false, false, false, false, false, false, false, false, false, false, false] rfl rfl (any_of HT_.out (by kernel_rfl)) (fun _ _ _ h => h) (Or.inl ⟨by rfl, ?_⟩) ?_ ?_
                            rotate_left
                            · intro w'
                              go_simp
                              with_reducible rfl
                            rotate_left
                            · simp only [Act.put, List.setIfInBounds_toArray, List.set_cons_zero, List.set_cons_succ, i64_w, i32_w]
                              rfl
                            refine pure_ (i := 5) (N := some 29) (v := ?_) (a' := ?_) #[true, true, true, true, true, true, false, false, false, false, false, false, false, false, false, false] rfl rfl (any_of HT_.out (by kernel_rfl)) (fun _ _ _ h => h) (Or.inl ⟨by rfl, ?_⟩) ?_ ?_
                            rotate_left
                            · intro w'
                              go_simp
                              with_reducible rfl
                            rotate_left
                            · simp only [Act.put, List.setIfInBounds_toArray, List.set_cons_zero, List.set_cons_succ, i64_w, i32_w]
                              rfl
                            refine pure_ (i := 6) (N := some 30) (v := ?_) (a' := ?_) #[true, true, true, true, true, true, true, false, false, false, false, false, false, false, false, false] rfl rfl (any_of HT_.out (by kernel_rfl)) (fun _ _ _ h => h) (Or.inl ⟨by rfl, ?_⟩) ?_ ?_
                            rotate_left
                            · intro w'
                              go_simp
                              with_reducible rfl
                            rotate_left
                            · simp only [Act.put, List.setIfInBounds_toArray, List.set_cons_zero, List.set_cons_succ, i64_w, i32_w]
                              rfl
                            refine pure_ (i := 8) (N := some 32) (v := ?_) (a' := ?_) #[true, true, true, true, true, true, true, false, true, false, false, false, false, false, false, false] rfl rfl (any_of HT_.out (by kernel_rfl)) (fun _ _ _ h => h) (Or.inl ⟨by rfl, ?_⟩) ?_ ?_
                            rotate_left
                            · intro w'
                              go_simp
                              with_reducible rfl
                            rotate_left
                            · simp only [Act.put, List.setIfInBounds_toArray, List.set_cons_zero, List.set_cons_succ, i64_w, i32_w]
                              rfl
                            refine pure_ (i := 9) (N := some 33) (v := ?_) (a' := ?_) #[true, true, true, true, true, true, true, false, true, true, false, false, false, false, false, false] rfl rfl (any_of HT_.out (by kernel_rfl)) (fun _ _ _ h => h) (Or.inl ⟨by rfl, ?_⟩) ?_ ?_
                            rotate_left
                            · intro w'
                              go_simp
                              with_reducible rfl
                            rotate_left
                            · simp only [Act.put, List.setIfInBounds_toArray, List.set_cons_zero, List.set_cons_succ, i64_w, i32_w]
                              rfl
                            refine pure_ (i := 10) (N := some 34) (v := ?_) (a' := ?_) #[true, true, true, true, true, true, true, false, true, true, true, false, false, false, false, false] rfl rfl (any_of HT_.out (by kernel_rfl)) (fun _ _ _ h => h) (Or.inl ⟨by rfl, ?_⟩) ?_ ?_
                            rotate_left
                            · intro w'
                              go_simp
                              with_reducible rfl
                            rotate_left
                            · simp only [Act.put, List.setIfInBounds_toArray, List.set_cons_zero, List.set_cons_succ, i64_w, i32_w]
                              rfl
                            refine pure_ (i := 11) (N := some 35) (v := ?_) (a' := ?_) #[true, true, true, true, true, true, true, false, true, true, true, true, false, false, false, false] rfl rfl (any_of HT_.out (by kernel_rfl)) (fun _ _ _ h => h) (Or.inl ⟨by rfl, ?_⟩) ?_ ?_
                            rotate_left
                            · intro w'
                              go_simp
                              with_reducible rfl
                            rotate_left
                            · simp only [Act.put, List.setIfInBounds_toArray, List.set_cons_zero, List.set_cons_succ, i64_w, i32_w]
                              rfl
                            refine take_ (i := 7) (N := some 31) (v := ?_) (a' := ?_) #[true, true, true, true, true, true, true, true, true, true, true, true, false, false, false, false] rfl rfl (take_ofW HT_.out HW_.out (by kernel_rfl)) (fun _ _ _ h => h) (Or.inl ⟨by rfl, ?_⟩) hHeld ?_ ?_
                            rotate_left
                            · rintro w' ⟨s0, s1, s2, s3, s4, s5, s6, s7, s8⟩
                              go_simp
                              with_reducible rfl
                            rotate_left
                            · simp only [Act.put, List.setIfInBounds_toArray, List.set_cons_zero, List.set_cons_succ, i64_w, i32_w]
                              rfl
                            refine take_ (i := 12) (N := some 36) (v := ?_) (a' := ?_) #[true, true, true, true, true, true, true, true, true, true, true, true, true, false, false, false] rfl rfl (take_ofW HT_.out HW_.out (by kernel_rfl)) (fun _ _ _ h => h) (Or.inl ⟨by rfl, ?_⟩) hHeld ?_ ?_
                            rotate_left
                            · rintro w' ⟨s0, s1, s2, s3, s4, s5, s6, s7, s8⟩
                              go_simp
                              with_reducible rfl
                            rotate_left
                            · simp only [Act.put, List.setIfInBounds_toArray, List.set_cons_zero, List.set_cons_succ, i64_w, i32_w]
                              rfl
                            refine one_ (i := 13) (N := some 37) #[true, true, true, true, true, true, true, true, true, true, true, true, true, true, false, false] rfl rfl (one_of HT_.out (by kernel_rfl)) (by decide) (fun K hK => ?_)
                            refine goes_ Try.func60 (by kernel_rfl) rfl #[.string (rdOf ByteArray.empty x3_1 (ji11)), .string ((rd_T42 l0 x4_1).f4)] (by rfl) rfl rfl (by (try simp only [List.map_toArray, List.map_cons, List.map_nil]); first | done | (simp only [hji11]; rfl) | rfl | (simp only [List.length_drop, List.length_take]; rfl)) ?_
                            with_reducible refine (merkhetref01_Text.calls k2 (rdOf ByteArray.empty x3_1 (ji11)) ((rd_T42 l0 x4_1).f4) t171 _ A16.out).mono ?_
                            rintro e w' ⟨rfl, ⟨nd, rfl⟩⟩
                            refine ⟨_, rfl, ?_⟩
                            refine hK.out _ _ ⟨hHeld.1, ((HB.out.cell (World.block_lt_of_cell? w _ hw170_0)).trans hw170_0), ((HB.out.cell (World.block_lt_of_cell? w _ hw170_1)).trans hw170_1), ((HB.out.cell (World.block_lt_of_cell? w _ hw170_2)).trans hw170_2), ((HB.out.cell (World.block_lt_of_cell? w _ hw170_3)).trans hw170_3), ((HB.out.cell (World.block_lt_of_cell? w _ hw170_4)).trans hw170_4), ((HB.out.cell (World.block_lt_of_cell? w _ hw170_5)).trans hw170_5), ((HB.out.cell (World.block_lt_of_cell? w _ hw170_6)).trans hw170_6), ((HB.out.cell (World.block_lt_of_cell? w _ hw170_7)).trans hw170_7)⟩ (fun hHeld => ?_)
                            clear hK K
                            refine norm_ (a' := ?_) ?_ ?_
                            rotate_left
                            · show Act.put _ (some 37) _ = _
                              simp only [Act.put, List.setIfInBounds_toArray, List.set_cons_zero, List.set_cons_succ, i64_w, i32_w]
                              rfl
                            refine pure_ (i := 14) (N := some 38) (v := ?_) (a' := ?_) #[true, true, true, true, true, true, true, true, true, true, true, true, true, true, true, false] rfl rfl (any_of HT_.out (by kernel_rfl)) (fun _ _ _ h => h) (Or.inl ⟨by rfl, ?_⟩) ?_ ?_
                            rotate_left
                            · intro w'
                              go_simp
                              with_reducible rfl
                            rotate_left
                            · simp only [Act.put, List.setIfInBounds_toArray, List.set_cons_zero, List.set_cons_succ, i64_w, i32_w]
                              rfl
                            refine pure_ (i := 15) (N := some 39) (v := ?_) (a' := ?_) #[true, true, true, true, true, true, true, true, true, true, true, true, true, true, true, true] rfl rfl (any_of HT_.out (by kernel_rfl)) (fun _ _ _ h => h) (Or.inl ⟨by rfl, ?_⟩) ?_ ?_
                            rotate_left
                            · intro w'
                              go_simp
                              with_reducible rfl
                            rotate_left
                            · simp only [Act.put, List.setIfInBounds_toArray, List.set_cons_zero, List.set_cons_succ, i64_w, i32_w]
                              rfl
                            refine done_ (done_of HT_.out (by kernel_rfl)) ?_
                            try go_wp2
                            go_roundg k2
                            case measure => have := HK1.out; have := HK2.out; omega
                            case rel => exact ⟨(ji11), (by first | rfl | (simp; done) | (simp only [← hji11] <;> (first | rfl | simp)) | (simp [*]; done)), H', ⟨by have := HK1.out; have := HK2.out; omega⟩, ⟨by (with_reducible repeat (first | apply Kd.R_alloc | apply Kd.R_drewN | apply Kd.R_drew)); exact HO_3.out⟩, ⟨by repeat (first | (with_reducible first | exact HB.out | apply below_alloc | apply pw_below_drewN | apply below_drew1) | exact HB.out)⟩⟩
                          · rw [if_neg c17] at H
                            have c17b0 : decide (0 < t171) = false := decide_eq_false c17
                            clear c17
                            obtain ⟨y172, hy172⟩ : ∃ y_ : List ByteArray, y_ = (([] : List ByteArray)) := ⟨_, rfl⟩
                            replace H : (if 0 ≤ x5_2 then (if x5_2 ≤ (x3_1.length : Int) then ((some (x3_1.drop (x5_2 : Int).toNat : List ByteArray)).bind fun y175 => (if y172.length + y175.length < 8796093022208 then ((some (y172 ++ y175 : List ByteArray)).bind fun y179 => ((some (x3_1.take (x5_2 : Int).toNat : List ByteArray)).bind fun y182 => (if y182.length < 8796093022208 then ((some (y182 ++ [(rd_T42 l0 x4_1).f4] : List ByteArray)).bind fun y186 => (if y186.length + y179.length < 8796093022208 then (merkhetref09_Hosts.l0 k2 l0 (y186 ++ y179) (wrap64 (x4_1 + 1))) else (none))) else (none)))) else (none))) else (none)) else (none)) = some r := by first | (rw [hy172]; with_reducible exact H) | (have H2_ := (Option.bind_some _ _).symm.trans H; rw [hy172]; with_reducible exact H2_) | (have H2_ := (Option.bind_some _ _).symm.trans H; with_reducible exact H2_) | with_reducible exact H | (rw [hy172]; exact H) | exact H
                            have Ny172 := Aside0.mk hy172
                            clear hy172
                            by_cases c19 : 0 ≤ x5_2
                            · rw [if_pos c19] at H
                              have c19b0 := eq_true c19
                              have c19b1 : decide (0 ≤ x5_2) = true := decide_eq_true c19
                              clear c19
                              by_cases c20 : x5_2 ≤ (x3_1.length : Int)
                              · rw [if_pos c20] at H
                                have c20b0 := eq_true c20
                                have c20b1 : decide (x5_2 ≤ (x3_1.length : Int)) = true := decide_eq_true c20
                                clear c20
                                obtain ⟨y175, hy175⟩ : ∃ y_ : List ByteArray, y_ = (x3_1.drop (x5_2 : Int).toNat) := ⟨_, rfl⟩
                                replace H : (if y172.length + y175.length < 8796093022208 then ((some (y172 ++ y175 : List ByteArray)).bind fun y179 => ((some (x3_1.take (x5_2 : Int).toNat : List ByteArray)).bind fun y182 => (if y182.length < 8796093022208 then ((some (y182 ++ [(rd_T42 l0 x4_1).f4] : List ByteArray)).bind fun y186 => (if y186.length + y179.length < 8796093022208 then (merkhetref09_Hosts.l0 k2 l0 (y186 ++ y179) (wrap64 (x4_1 + 1))) else (none))) else (none)))) else (none)) = some r := by first | (rw [hy175]; with_reducible exact H) | (have H2_ := (Option.bind_some _ _).symm.trans H; rw [hy175]; with_reducible exact H2_) | (have H2_ := (Option.bind_some _ _).symm.trans H; with_reducible exact H2_) | with_reducible exact H | (rw [hy175]; exact H) | exact H
                                have Ny175 := Aside0.mk hy175
                                clear hy175
                                by_cases c21 : y172.length + y175.length < 8796093022208
                                · rw [if_pos c21] at H
                                  have LMc21 := Aside0.mk c21
                                  clear c21
                                  obtain ⟨y179, hy179⟩ : ∃ y_ : List ByteArray, y_ = (y172 ++ y175) := ⟨_, rfl⟩
                                  replace H : ((some (x3_1.take (x5_2 : Int).toNat : List ByteArray)).bind fun y182 => (if y182.length < 8796093022208 then ((some (y182 ++ [(rd_T42 l0 x4_1).f4] : List ByteArray)).bind fun y186 => (if y186.length + y179.length < 8796093022208 then (merkhetref09_Hosts.l0 k2 l0 (y186 ++ y179) (wrap64 (x4_1 + 1))) else (none))) else (none))) = some r := by first | (rw [hy179]; with_reducible exact H) | (have H2_ := (Option.bind_some _ _).symm.trans H; rw [hy179]; with_reducible exact H2_) | (have H2_ := (Option.bind_some _ _).symm.trans H; with_reducible exact H2_) | with_reducible exact H | (rw [hy179]; exact H) | exact H
                                  have Ny179 := Aside0.mk hy179
                                  clear hy179
                                  have c22b0 := eq_true (of_decide_eq_true (by first | (with_reducible assumption) | assumption) : x5_2 ≤ (x3_1.length : Int))
                                  obtain ⟨y182, hy182⟩ : ∃ y_ : List ByteArray, y_ = (x3_1.take (x5_2 : Int).toNat) := ⟨_, rfl⟩
                                  replace H : (if y182.length < 8796093022208 then ((some (y182 ++ [(rd_T42 l0 x4_1).f4] : List ByteArray)).bind fun y186 => (if y186.length + y179.length < 8796093022208 then (merkhetref09_Hosts.l0 k2 l0 (y186 ++ y179) (wrap64 (x4_1 + 1))) else (none))) else (none)) = some r := by first | (rw [hy182]; with_reducible exact H) | (have H2_ := (Option.bind_some _ _).symm.trans H; rw [hy182]; with_reducible exact H2_) | (have H2_ := (Option.bind_some _ _).symm.trans H; with_reducible exact H2_) | with_reducible exact H | (rw [hy182]; exact H) | exact H
                                  have Ny182 := Aside0.mk hy182
                                  clear hy182
                                  by_cases c23 : y182.length < 8796093022208
                                  · rw [if_pos c23] at H
                                    have LMc23 := Aside0.mk c23
                                    clear c23
                                    obtain ⟨y186, hy186⟩ : ∃ y_ : List ByteArray, y_ = (y182 ++ [(rd_T42 l0 x4_1).f4]) := ⟨_, rfl⟩
                                    replace H : (if y186.length + y179.length < 8796093022208 then (merkhetref09_Hosts.l0 k2 l0 (y186 ++ y179) (wrap64 (x4_1 + 1))) else (none)) = some r := by first | (rw [hy186]; with_reducible exact H) | (have H2_ := (Option.bind_some _ _).symm.trans H; rw [hy186]; with_reducible exact H2_) | (have H2_ := (Option.bind_some _ _).symm.trans H; with_reducible exact H2_) | with_reducible exact H | (rw [hy186]; exact H) | exact H
                                    have Ny186 := Aside0.mk hy186
                                    clear hy186
                                    by_cases c24 : y186.length + y179.length < 8796093022208
                                    · rw [if_pos c24] at H
                                      have LMc24 := Aside0.mk c24
                                      clear c24
                                      obtain ⟨y189, hy189⟩ : ∃ y_ : List ByteArray, y_ = (y186 ++ y179) := ⟨_, rfl⟩
                                      replace H : (merkhetref09_Hosts.l0 k2 l0 y189 (wrap64 (x4_1 + 1))) = some r := by first | (rw [hy189]; with_reducible exact H) | (have H2_ := (Option.bind_some _ _).symm.trans H; rw [hy189]; with_reducible exact H2_) | (have H2_ := (Option.bind_some _ _).symm.trans H; with_reducible exact H2_) | with_reducible exact H | (rw [hy189]; exact H) | exact H
                                      have Ny189 := Aside0.mk hy189
                                      clear hy189
                                      have H' := Aside0.mk H
                                      clear H
                                      try go_wp2
                                      have n0_ := Aside0.mk (Kd.R_drew HO_3.out)
                                      have n1_ := Aside0.mk (below_drew1 HB.out)
                                      clear HO_3
                                      clear HB
                                      have HO_3 := n0_
                                      have HB := n1_
                                      clear n0_ n1_
                                      have p169 : 0 ≤ ((ji11) : Int) := of_decide_eq_true (by first | (with_reducible assumption) | assumption)
                                      have q169 : (ji11) < (x3_1.length : Int) := of_decide_eq_true (by first | (with_reducible assumption) | assumption)
                                      obtain ⟨ad169, e169, hx169_0⟩ := Kd.at_string (Kd.R_reads' HO_3.out).2.2 (ji11) p169 q169
                                      cases e169
                                      replace p169 := eq_true p169
                                      replace q169 := eq_true q169
                                      have p170 : 0 ≤ (x4_1 : Int) := of_decide_eq_true (by first | (with_reducible assumption) | assumption)
                                      have q170 : x4_1 < (l0.length : Int) := of_decide_eq_true (by first | (with_reducible assumption) | assumption)
                                      obtain ⟨ad170, e170, hx170_0, hx170_1, hx170_2, hx170_3, hx170_4, hx170_5, hx170_6, hx170_7⟩ := at_T42 HR0.out x4_1 p170 q170
                                      have hw170_7 := hx170_7
                                      have hw170_6 := hx170_6
                                      have hw170_5 := hx170_5
                                      have hw170_4 := hx170_4
                                      have hw170_3 := hx170_3
                                      have hw170_2 := hx170_2
                                      have hw170_1 := hx170_1
                                      have hw170_0 := hx170_0
                                      obtain rfl : ad167 = ad170 := (by injection e170)
                                      replace hx170_0 := (HB.out.cell (World.block_lt_of_cell? w _ hx170_0)).trans hx170_0
                                      replace hx170_1 := (HB.out.cell (World.block_lt_of_cell? w _ hx170_1)).trans hx170_1
                                      replace hx170_2 := (HB.out.cell (World.block_lt_of_cell? w _ hx170_2)).trans hx170_2
                                      replace hx170_3 := (HB.out.cell (World.block_lt_of_cell? w _ hx170_3)).trans hx170_3
                                      replace hx170_4 := (HB.out.cell (World.block_lt_of_cell? w _ hx170_4)).trans hx170_4
                                      replace hx170_5 := (HB.out.cell (World.block_lt_of_cell? w _ hx170_5)).trans hx170_5
                                      replace hx170_6 := (HB.out.cell (World.block_lt_of_cell? w _ hx170_6)).trans hx170_6
                                      replace hx170_7 := (HB.out.cell (World.block_lt_of_cell? w _ hx170_7)).trans hx170_7
                                      replace p170 := eq_true p170
                                      replace q170 := eq_true q170
                                      refine start_ (n := 16) (S := fun w' => w'.cell? (ad169.add ((ji11)).toNat) = some (.string (rdOf ByteArray.empty x3_1 (ji11))) ∧ w'.cell? (ad167.add ((x4_1).toNat * 8)) = some (.int .u64 ((rd_T42 l0 x4_1).f0)) ∧ w'.cell? ⟨(ad167.add ((x4_1).toNat * 8)).block, (ad167.add ((x4_1).toNat * 8)).off + 1, none⟩ = some (.int .u64 ((rd_T42 l0 x4_1).f1)) ∧ w'.cell? ⟨(ad167.add ((x4_1).toNat * 8)).block, (ad167.add ((x4_1).toNat * 8)).off + 2, none⟩ = some (.int .u64 ((rd_T42 l0 x4_1).f2)) ∧ w'.cell? ⟨(ad167.add ((x4_1).toNat * 8)).block, (ad167.add ((x4_1).toNat * 8)).off + 3, none⟩ = some (.int .u8 ((rd_T42 l0 x4_1).f3)) ∧ w'.cell? ⟨(ad167.add ((x4_1).toNat * 8)).block, (ad167.add ((x4_1).toNat * 8)).off + 4, none⟩ = some (.string ((rd_T42 l0 x4_1).f4)) ∧ w'.cell? ⟨(ad167.add ((x4_1).toNat * 8)).block, (ad167.add ((x4_1).toNat * 8)).off + 5, none⟩ = some (.string ((rd_T42 l0 x4_1).f5)) ∧ w'.cell? ⟨(ad167.add ((x4_1).toNat * 8)).block, (ad167.add ((x4_1).toNat * 8)).off + 6, none⟩ = some (.int .i64 ((rd_T42 l0 x4_1).f6)) ∧ w'.cell? ⟨(ad167.add ((x4_1).toNat * 8)).block, (ad167.add ((x4_1).toNat * 8)).off + 7, none⟩ = some (.int .i64 ((rd_T42 l0 x4_1).f7))) (ds := []) #[false, false, false, false, false, false, false, false, false, false, false, false, false, false, false, false] (by kernel_rfl) rfl rfl ⟨hx169_0, ((HB.out.cell (World.block_lt_of_cell? w _ hw170_0)).trans hw170_0), ((HB.out.cell (World.block_lt_of_cell? w _ hw170_1)).trans hw170_1), ((HB.out.cell (World.block_lt_of_cell? w _ hw170_2)).trans hw170_2), ((HB.out.cell (World.block_lt_of_cell? w _ hw170_3)).trans hw170_3), ((HB.out.cell (World.block_lt_of_cell? w _ hw170_4)).trans hw170_4), ((HB.out.cell (World.block_lt_of_cell? w _ hw170_5)).trans hw170_5), ((HB.out.cell (World.block_lt_of_cell? w _ hw170_6)).trans hw170_6), ((HB.out.cell (World.block_lt_of_cell? w _ hw170_7)).trans hw170_7)⟩ (fun hHeld => ?_); refine with_tabW merkhetref09_Hosts.tab7 merkhetref09_Hosts.bits7 (fun HT_ HW_ => ?_)
                                      generalize wr.drew = w25 at HO_3 HB hx169_0 hx170_0 hx170_1 hx170_2 hx170_3 hx170_4 hx170_5 hx170_6 hx170_7 hHeld ⊢
                                      refine pure_ (i := 0) (N := some 24) (v := ?_) (a' := ?_) #[true, false, false, false, false, false, false, false, false, false, false, false, false, false, false, false] rfl rfl (any_of HT_.out (by kernel_rfl)) (fun _ _ _ h => h) (Or.inl ⟨by rfl, ?_⟩) ?_ ?_
                                      rotate_left
                                      · intro w'
                                        go_simp
                                        with_reducible rfl
                                      rotate_left
                                      · simp only [Act.put, List.setIfInBounds_toArray, List.set_cons_zero, List.set_cons_succ, i64_w, i32_w]
                                        rfl
                                      refine pure_ (i := 1) (N := some 25) (v := ?_) (a' := ?_) #[true, true, false, false, false, false, false, false, false, false, false, false, false, false, false, false] rfl rfl (any_of HT_.out (by kernel_rfl)) (fun _ _ _ h => h) (Or.inl ⟨by rfl, ?_⟩) ?_ ?_
                                      rotate_left
                                      · intro w'
                                        go_simp
                                        with_reducible rfl
                                      rotate_left
                                      · simp only [Act.put, List.setIfInBounds_toArray, List.set_cons_zero, List.set_cons_succ, i64_w, i32_w]
                                        rfl
                                      refine pure_ (i := 2) (N := some 26) (v := ?_) (a' := ?_) #[true, true, true, false, false, false, false, false, false, false, false, false, false, false, false, false] rfl rfl (any_of HT_.out (by kernel_rfl)) (fun _ _ _ h => h) (Or.inl ⟨by rfl, ?_⟩) ?_ ?_
                                      rotate_left
                                      · intro w'
                                        go_simp
                                        with_reducible rfl
                                      rotate_left
                                      · simp only [Act.put, List.setIfInBounds_toArray, List.set_cons_zero, List.set_cons_succ, i64_w, i32_w]
                                        rfl
                                      refine pure_ (i := 3) (N := some 27) (v := ?_) (a' := ?_) #[true, true, true, true, false, false, false, false, false, false, false, false, false, false, false, false] rfl rfl (any_of HT_.out (by kernel_rfl)) (fun _ _ _ h => h) (Or.inl ⟨by rfl, ?_⟩) ?_ ?_
                                      rotate_left
                                      · intro w'
                                        go_simp
                                        with_reducible rfl
                                      rotate_left
                                      · simp only [Act.put, List.setIfInBounds_toArray, List.set_cons_zero, List.set_cons_succ, i64_w, i32_w]
                                        rfl
                                      refine pure_ (i := 4) (N := some 28) (v := ?_) (a' := ?_) #[true, true, true, true, true, false, false, false, false, false, false, false, false, false, false, false] rfl rfl (any_of HT_.out (by kernel_rfl)) (fun _ _ _ h => h) (Or.inl ⟨by rfl, ?_⟩) ?_ ?_
                                      rotate_left
                                      · intro w'
                                        go_simp
                                        with_reducible rfl
                                      rotate_left
                                      · simp only [Act.put, List.setIfInBounds_toArray, List.set_cons_zero, List.set_cons_succ, i64_w, i32_w]
                                        rfl
                                      refine pure_ (i := 5) (N := some 29) (v := ?_) (a' := ?_) #[true, true, true, true, true, true, false, false, false, false, false, false, false, false, false, false] rfl rfl (any_of HT_.out (by kernel_rfl)) (fun _ _ _ h => h) (Or.inl ⟨by rfl, ?_⟩) ?_ ?_
                                      rotate_left
                                      · intro w'
                                        go_simp
                                        with_reducible rfl
                                      rotate_left
                                      · simp only [Act.put, List.setIfInBounds_toArray, List.set_cons_zero, List.set_cons_succ, i64_w, i32_w]
                                        rfl
                                      refine pure_ (i := 6) (N := some 30) (v := ?_) (a' := ?_) #[true, true, true, true, true, true, true, false, false, false, false, false, false, false, false, false] rfl rfl (any_of HT_.out (by kernel_rfl)) (fun _ _ _ h => h) (Or.inl ⟨by rfl, ?_⟩) ?_ ?_
                                      rotate_left
                                      · intro w'
                                        go_simp
                                        with_reducible rfl
                                      rotate_left
                                      · simp only [Act.put, List.setIfInBounds_toArray, List.set_cons_zero, List.set_cons_succ, i64_w, i32_w]
                                        rfl
                                      refine pure_ (i := 8) (N := some 32) (v := ?_) (a' := ?_) #[true, true, true, true, true, true, true, false, true, false, false, false, false, false, false, false] rfl rfl (any_of HT_.out (by kernel_rfl)) (fun _ _ _ h => h) (Or.inl ⟨by rfl, ?_⟩) ?_ ?_
                                      rotate_left
                                      · intro w'
                                        go_simp
                                        with_reducible rfl
                                      rotate_left
                                      · simp only [Act.put, List.setIfInBounds_toArray, List.set_cons_zero, List.set_cons_succ, i64_w, i32_w]
                                        rfl
                                      refine pure_ (i := 9) (N := some 33) (v := ?_) (a' := ?_) #[true, true, true, true, true, true, true, false, true, true, false, false, false, false, false, false] rfl rfl (any_of HT_.out (by kernel_rfl)) (fun _ _ _ h => h) (Or.inl ⟨by rfl, ?_⟩) ?_ ?_
                                      rotate_left
                                      · intro w'
                                        go_simp
                                        with_reducible rfl
                                      rotate_left
                                      · simp only [Act.put, List.setIfInBounds_toArray, List.set_cons_zero, List.set_cons_succ, i64_w, i32_w]
                                        rfl
                                      refine pure_ (i := 10) (N := some 34) (v := ?_) (a' := ?_) #[true, true, true, true, true, true, true, false, true, true, true, false, false, false, false, false] rfl rfl (any_of HT_.out (by kernel_rfl)) (fun _ _ _ h => h) (Or.inl ⟨by rfl, ?_⟩) ?_ ?_
                                      rotate_left
                                      · intro w'
                                        go_simp
                                        with_reducible rfl
                                      rotate_left
                                      · simp only [Act.put, List.setIfInBounds_toArray, List.set_cons_zero, List.set_cons_succ, i64_w, i32_w]
                                        rfl
                                      refine pure_ (i := 11) (N := some 35) (v := ?_) (a' := ?_) #[true, true, true, true, true, true, true, false, true, true, true, true, false, false, false, false] rfl rfl (any_of HT_.out (by kernel_rfl)) (fun _ _ _ h => h) (Or.inl ⟨by rfl, ?_⟩) ?_ ?_
                                      rotate_left
                                      · intro w'
                                        go_simp
                                        with_reducible rfl
                                      rotate_left
                                      · simp only [Act.put, List.setIfInBounds_toArray, List.set_cons_zero, List.set_cons_succ, i64_w, i32_w]
                                        rfl
                                      refine take_ (i := 7) (N := some 31) (v := ?_) (a' := ?_) #[true, true, true, true, true, true, true, true, true, true, true, true, false, false, false, false] rfl rfl (take_ofW HT_.out HW_.out (by kernel_rfl)) (fun _ _ _ h => h) (Or.inl ⟨by rfl, ?_⟩) hHeld ?_ ?_
                                      rotate_left
                                      · rintro w' ⟨s0, s1, s2, s3, s4, s5, s6, s7, s8⟩
                                        go_simp
                                        with_reducible rfl
                                      rotate_left
                                      · simp only [Act.put, List.setIfInBounds_toArray, List.set_cons_zero, List.set_cons_succ, i64_w, i32_w]
                                        rfl
                                      refine take_ (i := 12) (N := some 36) (v := ?_) (a' := ?_) #[true, true, true, true, true, true, true, true, true, true, true, true, true, false, false, false] rfl rfl (take_ofW HT_.out HW_.out (by kernel_rfl)) (fun _ _ _ h => h) (Or.inl ⟨by rfl, ?_⟩) hHeld ?_ ?_
                                      rotate_left
                                      · rintro w' ⟨s0, s1, s2, s3, s4, s5, s6, s7, s8⟩
                                        go_simp
                                        with_reducible rfl
                                      rotate_left
                                      · simp only [Act.put, List.setIfInBounds_toArray, List.set_cons_zero, List.set_cons_succ, i64_w, i32_w]
                                        rfl
                                      refine one_ (i := 13) (N := some 37) #[true, true, true, true, true, true, true, true, true, true, true, true, true, true, false, false] rfl rfl (one_of HT_.out (by kernel_rfl)) (by decide) (fun K hK => ?_)
                                      refine goes_ Try.func60 (by kernel_rfl) rfl #[.string (rdOf ByteArray.empty x3_1 (ji11)), .string ((rd_T42 l0 x4_1).f4)] (by rfl) rfl rfl (by (try simp only [List.map_toArray, List.map_cons, List.map_nil]); first | done | (simp only [hji11]; rfl) | rfl | (simp only [List.length_drop, List.length_take]; rfl)) ?_
                                      with_reducible refine (merkhetref01_Text.calls k2 (rdOf ByteArray.empty x3_1 (ji11)) ((rd_T42 l0 x4_1).f4) t171 _ A16.out).mono ?_
                                      rintro e w' ⟨rfl, ⟨nd, rfl⟩⟩
                                      refine ⟨_, rfl, ?_⟩
                                      refine hK.out _ _ ⟨hHeld.1, ((HB.out.cell (World.block_lt_of_cell? w _ hw170_0)).trans hw170_0), ((HB.out.cell (World.block_lt_of_cell? w _ hw170_1)).trans hw170_1), ((HB.out.cell (World.block_lt_of_cell? w _ hw170_2)).trans hw170_2), ((HB.out.cell (World.block_lt_of_cell? w _ hw170_3)).trans hw170_3), ((HB.out.cell (World.block_lt_of_cell? w _ hw170_4)).trans hw170_4), ((HB.out.cell (World.block_lt_of_cell? w _ hw170_5)).trans hw170_5), ((HB.out.cell (World.block_lt_of_cell? w _ hw170_6)).trans hw170_6), ((HB.out.cell (World.block_lt_of_cell? w _ hw170_7)).trans hw170_7)⟩ (fun hHeld => ?_)
                                      clear hK K
                                      refine norm_ (a' := ?_) ?_ ?_
                                      rotate_left
                                      · show Act.put _ (some 37) _ = _
                                        simp only [Act.put, List.setIfInBounds_toArray, List.set_cons_zero, List.set_cons_succ, i64_w, i32_w]
                                        rfl
                                      refine pure_ (i := 14) (N := some 38) (v := ?_) (a' := ?_) #[true, true, true, true, true, true, true, true, true, true, true, true, true, true, true, false] rfl rfl (any_of HT_.out (by kernel_rfl)) (fun _ _ _ h => h) (Or.inl ⟨by rfl, ?_⟩) ?_ ?_
                                      rotate_left
                                      · intro w'
                                        go_simp
                                        with_reducible rfl
                                      rotate_left
                                      · simp only [Act.put, List.setIfInBounds_toArray, List.set_cons_zero, List.set_cons_succ, i64_w, i32_w]
                                        rfl
                                      refine pure_ (i := 15) (N := some 39) (v := ?_) (a' := ?_) #[true, true, true, true, true, true, true, true, true, true, true, true, true, true, true, true] rfl rfl (any_of HT_.out (by kernel_rfl)) (fun _ _ _ h => h) (Or.inl ⟨by rfl, ?_⟩) ?_ ?_
                                      rotate_left
                                      · intro w'
                                        go_simp
                                        with_reducible rfl
                                      rotate_left
                                      · simp only [Act.put, List.setIfInBounds_toArray, List.set_cons_zero, List.set_cons_succ, i64_w, i32_w]
                                        rfl
                                      refine done_ (done_of HT_.out (by kernel_rfl)) ?_
                                      try go_wp2_with (first | ((with_reducible refine gate_dst (N := 42) rfl ?_); refine Kd.R_lit Kd.string _ 9 ?hg (N := 42) ?hd (xs := ([] : List ByteArray)) (inner := []) (ok := fun _ => True) (okp := fun _ => True) ?hr ?hp (fun _ hk => hk) trivial (Below.refl _ _) (Nat.le_refl _) (by simp) ?_; (case hd => rfl); (case hg => rfl); (case hr => first | (go_simp; done) | (go_simp; rfl)); (case hp => exact (Reps.none _ _)); intro v173 w26 ho27 hb hg_ hnew_; clear hg_ hnew_; (first | rw [← Ny172.out] at ho27 | (simp only [Int.reduceToNat] at ho27; rw [← Ny172.out] at ho27)); have n0_ := Aside0.mk (Kd.R_elder' (by (with_reducible repeat (first | apply Kd.R_alloc | apply Kd.R_drewN | apply Kd.R_drew)); exact HO_3.out) (Kd.R_base ho27) hb); have n1_ := Aside0.mk (Kd.R_lower (Kd.R_new' ho27 (Kd.R_lt (by (with_reducible repeat (first | apply Kd.R_alloc | apply Kd.R_drewN | apply Kd.R_drew)); exact HO_3.out))) (below_size (by repeat (first | (with_reducible first | exact HB.out | apply below_alloc | apply pw_below_drewN | apply below_drew1) | exact HB.out)))); have n2_ := Aside0.mk (below_step (by repeat (first | (with_reducible first | exact HB.out | apply below_alloc | apply pw_below_drewN | apply below_drew1) | exact HB.out)) hb); clear HO_3; clear HB; have HO_3 := n0_; have HO174 := n1_; have HB := n2_; clear n0_ n1_ n2_; clear hb ho27; have q28 : (x5_2 : Int) ≤ ((x3_1.length : Int) : Int) := of_decide_eq_true (by first | (with_reducible assumption) | assumption); obtain ⟨i028, hi028, _, hsz28, _⟩ := info_parts info9; have hroom28 : x3_1.length ≤ co9 := (Kd.R_reads' HO_3.out).2.1; have hC28 : Kd.C Kd.string _ (some ad169) x3_1.length x3_1 := (Kd.R_reads' HO_3.out).2.2; have q028 : (0 : Int) ≤ (x5_2 : Int) := of_decide_eq_true (by first | (with_reducible assumption) | assumption); have hcut28 := cut_from (P := Try.prog) 61 9 .i64 Try.underlying61 hi028 1 hsz28 (some ad169) x3_1.length co9 x5_2 q028 q28; have hr28 := Kd.C_drop (m := (x5_2 : Int).toNat) (c := co9) hC28 (by omega) hroom28; obtain ⟨A28, hA28⟩ : ∃ A1, A1 = (if co9 = (x5_2 : Int).toNat then (some ad169) else ((some ad169) : Option Addr).map (·.add ((x5_2 : Int).toNat * 1))) := ⟨_, rfl⟩; obtain ⟨c28, hc28⟩ : ∃ c1, c1 = co9 - (x5_2 : Int).toNat := ⟨_, rfl⟩; have hy28 : y175.length = x3_1.length - (x5_2 : Int).toNat := (by rw [Ny175.out, List.length_drop] <;> omega); rw [show (x3_1).drop (x5_2 : Int).toNat = y175 from Ny175.out.symm] at hr28; replace hr28 : Kd.C Kd.string _ A28 y175.length y175 := (by rw [hA28]; exact hr28); rw [← hy28, ← hA28, ← hc28] at hcut28; have HR178 := Aside0.mk hr28; have HC178 := Aside0.mk (show y175.length ≤ c28 from by rw [hy28, hc28]; exact Nat.sub_le_sub_right hroom28 _); clear hr28 hC28 hroom28 hi028 hsz28 hc28; have KY28 := Aside0.mk hy28; have KA28 := Aside0.mk hA28; clear hy28 hA28; have KL28 := Aside0.mk (show (x5_2 : Int).toNat ≤ x3_1.length from by omega); replace q28 := eq_true q28) | ((with_reducible refine gate_builtin (b := .append) (xs := #[.tmp 42, .tmp 45]) rfl ?_); at_builtin; refine Kd.R_append_rows Kd.string (w0 := w) w.heap.size rfl (.tmp 42) (.tmp 45) 61 9 (.string ⟨#[]⟩) 16 rfl Try.underlying61 info9 rfl (by decide) (by omega) v173 y172 y175 _ _ _ (fun k_ => some k_ ≠ (.slice (some ad169) x3_1.length co9 : Value).ownBlock) (fun _ => False) rfl rfl ?aO ?aR (fun _ _ h => h) (fun _ h => h.elim) ?aF ?aB ?aS ?aL ?_; (case aR => repeat (first | exact (by repeat (first | (with_reducible exact HR178.out) | (with_reducible refine Kd.C_alloc ?_ _) | (with_reducible refine Kd.C_drewN ?_ _) | (with_reducible refine Kd.C_drew ?_) | exact HR178.out)) | (with_reducible refine Kd.C_alloc ?_ _) | (with_reducible refine Kd.C_drewN ?_ _) | (with_reducible refine Kd.C_drew ?_))); (case aB => exact (by repeat (first | (with_reducible first | exact HB.out | apply below_alloc | apply pw_below_drewN | apply below_drew1) | exact HB.out))); (case aF => exact (fun k_ hk => Kd.fresh' (Kd.R_lt (by (with_reducible repeat (first | apply Kd.R_alloc | apply Kd.R_drewN | apply Kd.R_drew)); exact HO_3.out)) k_ hk)); (case aO => exact (by (with_reducible repeat (first | apply Kd.R_alloc | apply Kd.R_drewN | apply Kd.R_drew)); exact Kd.R_mono HO174.out (fun _ hk => hk.2))); (case aS => exact (below_size (by repeat (first | (with_reducible first | exact HB.out | apply below_alloc | apply pw_below_drewN | apply below_drew1) | exact HB.out)))); (case aL => have := LMc21.out; omega); intro v180 w29 ho hb hg hat; rw [← Ny179.out] at ho; have n0_ := Aside0.mk (Kd.R_after (ok := (fun _ => True)) (by (with_reducible repeat (first | apply Kd.R_alloc | apply Kd.R_drewN | apply Kd.R_drew)); exact HO_3.out) hg hat); have n1_ := Aside0.mk (hb); have n2_ := Aside0.mk ((show Kd.C Kd.string w29 A28 y175.length y175 from by rw [Ny175.out, KA28.out]; exact Kd.C_drop (m := (x5_2 : Int).toNat) (c := co9) ((Kd.R_reads' (Kd.R_after (ok := (fun _ => True)) (by (with_reducible repeat (first | apply Kd.R_alloc | apply Kd.R_drewN | apply Kd.R_drew)); exact HO_3.out) hg hat)).2.2) KL28.out ((Kd.R_reads' (Kd.R_after (ok := (fun _ => True)) (by (with_reducible repeat (first | apply Kd.R_alloc | apply Kd.R_drewN | apply Kd.R_drew)); exact HO_3.out) hg hat)).2.1))); have n3_ := Aside0.mk (ho); clear HO_3; clear HB; clear HR178; clear HO174; have HO_3 := n0_; have HB := n1_; have HR178 := n2_; have HO181 := n3_; clear n0_ n1_ n2_ n3_; clear ho hb hg hat))
                                      have n0_ := Aside0.mk (Kd.R_drew HO_3.out)
                                      have n1_ := Aside0.mk (Kd.R_drew HO181.out)
                                      have n2_ := Aside0.mk (Kd.C_drew HR178.out)
                                      have n3_ := Aside0.mk (below_drew1 HB.out)
                                      clear HO_3
                                      clear HO181
                                      clear HR178
                                      clear HB
                                      have HO_3 := n0_
                                      have HO181 := n1_
                                      have HR178 := n2_
                                      have HB := n3_
                                      clear n0_ n1_ n2_ n3_
                                      have q31 : (x5_2 : Int) ≤ ((x3_1.length : Int) : Int) := of_decide_eq_true (by first | (with_reducible assumption) | assumption)
                                      obtain ⟨i031, hi031, _, hsz31, _⟩ := info_parts info9
                                      have hcut31 := cut_to (P := Try.prog) 61 9 .i64 Try.underlying61 hi031 (some ad169) x3_1.length co9 x5_2 (of_decide_eq_true (by first | (with_reducible assumption) | assumption)) q31 (Kd.R_reads' HO_3.out).2.1
                                      have hr31 := Kd.R_take (m := (x5_2 : Int).toNat) HO_3.out (by omega)
                                      have hy31 : y182.length = (x5_2 : Int).toNat := (by rw [Ny182.out, List.length_take]; omega)
                                      rw [← Ny182.out] at hr31
                                      rw [← hy31] at hr31 hcut31
                                      clear hy31 hi031 hsz31 HO_3
                                      have HO184 := Aside0.mk hr31
                                      clear hr31
                                      replace q31 := eq_true q31
                                      have p185 : 0 ≤ (x4_1 : Int) := of_decide_eq_true (by first | (with_reducible assumption) | assumption)
                                      have q185 : x4_1 < (l0.length : Int) := of_decide_eq_true (by first | (with_reducible assumption) | assumption)
                                      obtain ⟨ad185, e185, hx185_0, hx185_1, hx185_2, hx185_3, hx185_4, hx185_5, hx185_6, hx185_7⟩ := at_T42 HR0.out x4_1 p185 q185
                                      have hw185_7 := hx185_7
                                      have hw185_6 := hx185_6
                                      have hw185_5 := hx185_5
                                      have hw185_4 := hx185_4
                                      have hw185_3 := hx185_3
                                      have hw185_2 := hx185_2
                                      have hw185_1 := hx185_1
                                      have hw185_0 := hx185_0
                                      obtain rfl : ad167 = ad185 := (by injection e185)
                                      replace hx185_0 := (HB.out.cell (World.block_lt_of_cell? w _ hx185_0)).trans hx185_0
                                      replace hx185_1 := (HB.out.cell (World.block_lt_of_cell? w _ hx185_1)).trans hx185_1
                                      replace hx185_2 := (HB.out.cell (World.block_lt_of_cell? w _ hx185_2)).trans hx185_2
                                      replace hx185_3 := (HB.out.cell (World.block_lt_of_cell? w _ hx185_3)).trans hx185_3
                                      replace hx185_4 := (HB.out.cell (World.block_lt_of_cell? w _ hx185_4)).trans hx185_4
                                      replace hx185_5 := (HB.out.cell (World.block_lt_of_cell? w _ hx185_5)).trans hx185_5
                                      replace hx185_6 := (HB.out.cell (World.block_lt_of_cell? w _ hx185_6)).trans hx185_6
                                      replace hx185_7 := (HB.out.cell (World.block_lt_of_cell? w _ hx185_7)).trans hx185_7
                                      replace p185 := eq_true p185
                                      replace q185 := eq_true q185
                                      refine start_ (n := 13) (S := fun w' => w'.cell? (ad167.add ((x4_1).toNat * 8)) = some (.int .u64 ((rd_T42 l0 x4_1).f0)) ∧ w'.cell? ⟨(ad167.add ((x4_1).toNat * 8)).block, (ad167.add ((x4_1).toNat * 8)).off + 1, none⟩ = some (.int .u64 ((rd_T42 l0 x4_1).f1)) ∧ w'.cell? ⟨(ad167.add ((x4_1).toNat * 8)).block, (ad167.add ((x4_1).toNat * 8)).off + 2, none⟩ = some (.int .u64 ((rd_T42 l0 x4_1).f2)) ∧ w'.cell? ⟨(ad167.add ((x4_1).toNat * 8)).block, (ad167.add ((x4_1).toNat * 8)).off + 3, none⟩ = some (.int .u8 ((rd_T42 l0 x4_1).f3)) ∧ w'.cell? ⟨(ad167.add ((x4_1).toNat * 8)).block, (ad167.add ((x4_1).toNat * 8)).off + 4, none⟩ = some (.string ((rd_T42 l0 x4_1).f4)) ∧ w'.cell? ⟨(ad167.add ((x4_1).toNat * 8)).block, (ad167.add ((x4_1).toNat * 8)).off + 5, none⟩ = some (.string ((rd_T42 l0 x4_1).f5)) ∧ w'.cell? ⟨(ad167.add ((x4_1).toNat * 8)).block, (ad167.add ((x4_1).toNat * 8)).off + 6, none⟩ = some (.int .i64 ((rd_T42 l0 x4_1).f6)) ∧ w'.cell? ⟨(ad167.add ((x4_1).toNat * 8)).block, (ad167.add ((x4_1).toNat * 8)).off + 7, none⟩ = some (.int .i64 ((rd_T42 l0 x4_1).f7))) (ds := []) #[false, false, false, false, false, false, false, false, false, false, false, false, false] (by kernel_rfl) rfl rfl ⟨((HB.out.cell (World.block_lt_of_cell? w _ hw185_0)).trans hw185_0), ((HB.out.cell (World.block_lt_of_cell? w _ hw185_1)).trans hw185_1), ((HB.out.cell (World.block_lt_of_cell? w _ hw185_2)).trans hw185_2), ((HB.out.cell (World.block_lt_of_cell? w _ hw185_3)).trans hw185_3), ((HB.out.cell (World.block_lt_of_cell? w _ hw185_4)).trans hw185_4), ((HB.out.cell (World.block_lt_of_cell? w _ hw185_5)).trans hw185_5), ((HB.out.cell (World.block_lt_of_cell? w _ hw185_6)).trans hw185_6), ((HB.out.cell (World.block_lt_of_cell? w _ hw185_7)).trans hw185_7)⟩ (fun hHeld => ?_); refine with_tabW merkhetref09_Hosts.tab10 merkhetref09_Hosts.bits10 (fun HT_ HW_ => ?_)
                                      generalize w29.drew = w30 at HO_3 HO181 HR178 HB HO184 hx185_0 hx185_1 hx185_2 hx185_3 hx185_4 hx185_5 hx185_6 hx185_7 hHeld ⊢
                                      refine pure_ (i := 0) (N := some 47) (v := ?_) (a' := ?_) #[true, false, false, false, false, false, false, false, false, false, false, false, false] rfl rfl (any_of HT_.out (by kernel_rfl)) (fun _ _ _ h => h) (Or.inl ⟨by rfl, ?_⟩) ?_ ?_
                                      rotate_left
                                      · intro w'
                                        go_simp
                                        with_reducible rfl
                                      rotate_left
                                      · simp only [Act.put, List.setIfInBounds_toArray, List.set_cons_zero, List.set_cons_succ, i64_w, i32_w]
                                        rfl
                                      refine pure_ (i := 1) (N := some 48) (v := ?_) (a' := ?_) #[true, true, false, false, false, false, false, false, false, false, false, false, false] rfl rfl (any_of HT_.out (by kernel_rfl)) (fun _ _ _ h => h) (Or.inl ⟨by rfl, ?_⟩) ?_ ?_
                                      rotate_left
                                      · intro w'
                                        go_simp
                                        with_reducible rfl
                                      rotate_left
                                      · simp only [Act.put, List.setIfInBounds_toArray, List.set_cons_zero, List.set_cons_succ, i64_w, i32_w]
                                        rfl
                                      refine pure_ (i := 2) (N := some 49) (v := ?_) (a' := ?_) #[true, true, true, false, false, false, false, false, false, false, false, false, false] rfl rfl (any_of HT_.out (by kernel_rfl)) (fun _ _ _ h => h) (Or.inl ⟨by rfl, ?_⟩) ?_ ?_
                                      rotate_left
                                      · intro w'
                                        go_simp
                                        with_reducible rfl
                                      rotate_left
                                      · simp only [Act.put, List.setIfInBounds_toArray, List.set_cons_zero, List.set_cons_succ, i64_w, i32_w]
                                        rfl
                                      refine pure_ (i := 3) (N := some 50) (v := ?_) (a' := ?_) #[true, true, true, true, false, false, false, false, false, false, false, false, false] rfl rfl (any_of HT_.out (by kernel_rfl)) (fun _ _ _ h => h) (Or.inl ⟨by rfl, ?_⟩) ?_ ?_
                                      rotate_left
                                      · intro w'
                                        go_simp
                                        with_reducible rfl
                                      rotate_left
                                      · simp only [Act.put, List.setIfInBounds_toArray, List.set_cons_zero, List.set_cons_succ, i64_w, i32_w]
                                        rfl
                                      refine pure_ (i := 4) (N := some 51) (v := ?_) (a' := ?_) #[true, true, true, true, true, false, false, false, false, false, false, false, false] rfl rfl (any_of HT_.out (by kernel_rfl)) (fun _ _ _ h => h) (Or.inl ⟨by rfl, ?_⟩) ?_ ?_
                                      rotate_left
                                      · intro w'
                                        go_simp
                                        with_reducible rfl
                                      rotate_left
                                      · simp only [Act.put, List.setIfInBounds_toArray, List.set_cons_zero, List.set_cons_succ, i64_w, i32_w]
                                        rfl
                                      refine pure_ (i := 5) (N := some 52) (v := ?_) (a' := ?_) #[true, true, true, true, true, true, false, false, false, false, false, false, false] rfl rfl (any_of HT_.out (by kernel_rfl)) (fun _ _ _ h => h) (Or.inl ⟨by rfl, ?_⟩) ?_ ?_
                                      rotate_left
                                      · intro w'
                                        go_simp
                                        with_reducible rfl
                                      rotate_left
                                      · simp only [Act.put, List.setIfInBounds_toArray, List.set_cons_zero, List.set_cons_succ, i64_w, i32_w]
                                        rfl
                                      refine pure_ (i := 6) (N := some 53) (v := ?_) (a' := ?_) #[true, true, true, true, true, true, true, false, false, false, false, false, false] rfl rfl (any_of HT_.out (by kernel_rfl)) (fun _ _ _ h => h) (Or.inl ⟨by rfl, ?_⟩) ?_ ?_
                                      rotate_left
                                      · intro w'
                                        go_simp
                                        with_reducible rfl
                                      rotate_left
                                      · simp only [Act.put, List.setIfInBounds_toArray, List.set_cons_zero, List.set_cons_succ, i64_w, i32_w]
                                        rfl
                                      refine pure_ (i := 10) (N := some 57) (v := ?_) (a' := ?_) #[true, true, true, true, true, true, true, false, false, false, true, false, false] rfl rfl (any_of HT_.out (by kernel_rfl)) (fun _ _ _ h => h) (Or.inl ⟨by rfl, ?_⟩) ?_ ?_
                                      rotate_left
                                      · intro w'
                                        go_simp
                                        with_reducible rfl
                                      rotate_left
                                      · simp only [Act.put, List.setIfInBounds_toArray, List.set_cons_zero, List.set_cons_succ, i64_w, i32_w]
                                        rfl
                                      refine take_ (i := 7) (N := some 54) (v := ?_) (a' := ?_) #[true, true, true, true, true, true, true, true, false, false, true, false, false] rfl rfl (take_ofW HT_.out HW_.out (by kernel_rfl)) (fun _ _ _ h => h) (Or.inl ⟨by rfl, ?_⟩) hHeld ?_ ?_
                                      rotate_left
                                      · rintro w' ⟨s0, s1, s2, s3, s4, s5, s6, s7⟩
                                        go_simp
                                        with_reducible rfl
                                      rotate_left
                                      · simp only [Act.put, List.setIfInBounds_toArray, List.set_cons_zero, List.set_cons_succ, i64_w, i32_w]
                                        rfl
                                      refine one_ (i := 8) (N := some 55) #[true, true, true, true, true, true, true, true, true, false, true, false, false] rfl rfl (one_of HT_.out (by kernel_rfl)) (by decide) (fun K hK => ?_)
                                      refine value_ (w1 := ?_) (v := ?_) (by rfl) rfl ?_ ?_
                                      rotate_left 2
                                      · go_simp
                                        constructor
                                        · rfl
                                        · rfl
                                      refine hK.out _ _ ⟨(World.cell?_alloc_lt _ _ _ (World.block_lt_of_cell? _ _ (((HB.out.cell (World.block_lt_of_cell? w _ hw185_0)).trans hw185_0)))).trans (((HB.out.cell (World.block_lt_of_cell? w _ hw185_0)).trans hw185_0)), (World.cell?_alloc_lt _ _ _ (World.block_lt_of_cell? _ _ (((HB.out.cell (World.block_lt_of_cell? w _ hw185_1)).trans hw185_1)))).trans (((HB.out.cell (World.block_lt_of_cell? w _ hw185_1)).trans hw185_1)), (World.cell?_alloc_lt _ _ _ (World.block_lt_of_cell? _ _ (((HB.out.cell (World.block_lt_of_cell? w _ hw185_2)).trans hw185_2)))).trans (((HB.out.cell (World.block_lt_of_cell? w _ hw185_2)).trans hw185_2)), (World.cell?_alloc_lt _ _ _ (World.block_lt_of_cell? _ _ (((HB.out.cell (World.block_lt_of_cell? w _ hw185_3)).trans hw185_3)))).trans (((HB.out.cell (World.block_lt_of_cell? w _ hw185_3)).trans hw185_3)), (World.cell?_alloc_lt _ _ _ (World.block_lt_of_cell? _ _ (((HB.out.cell (World.block_lt_of_cell? w _ hw185_4)).trans hw185_4)))).trans (((HB.out.cell (World.block_lt_of_cell? w _ hw185_4)).trans hw185_4)), (World.cell?_alloc_lt _ _ _ (World.block_lt_of_cell? _ _ (((HB.out.cell (World.block_lt_of_cell? w _ hw185_5)).trans hw185_5)))).trans (((HB.out.cell (World.block_lt_of_cell? w _ hw185_5)).trans hw185_5)), (World.cell?_alloc_lt _ _ _ (World.block_lt_of_cell? _ _ (((HB.out.cell (World.block_lt_of_cell? w _ hw185_6)).trans hw185_6)))).trans (((HB.out.cell (World.block_lt_of_cell? w _ hw185_6)).trans hw185_6)), (World.cell?_alloc_lt _ _ _ (World.block_lt_of_cell? _ _ (((HB.out.cell (World.block_lt_of_cell? w _ hw185_7)).trans hw185_7)))).trans (((HB.out.cell (World.block_lt_of_cell? w _ hw185_7)).trans hw185_7))⟩ (fun hHeld => ?_)
                                      clear hK K
                                      refine norm_ (a' := ?_) ?_ ?_
                                      rotate_left
                                      · show Act.put _ (some 55) _ = _
                                        simp only [Act.put, List.setIfInBounds_toArray, List.set_cons_zero, List.set_cons_succ, i64_w, i32_w]
                                        rfl
                                      refine one_ (i := 9) (N := some 56) #[true, true, true, true, true, true, true, true, true, true, true, false, false] rfl rfl (one_of HT_.out (by kernel_rfl)) (by decide) (fun K hK => ?_)
                                      refine Kd.R_append_step Kd.string (w0 := w) w.heap.size (by rfl) (.tmp 49) (.tmp 55) 61 9 (.string ⟨#[]⟩) 16 rfl Try.underlying61 info9 rfl (by decide) (by omega) (.slice (some ad169) y182.length co9) y182 ((rd_T42 l0 x4_1).f4) [.string ((rd_T42 l0 x4_1).f4)] (fun k_ => some k_ ≠ (v180 : Value).ownBlock) (fun _ => False) rfl rfl ?aP (fun _ hk => hk.elim) ?aF ?aO ?aB ?aS ?aL ?_
                                      (case aP => exact rfl)
                                      (case aB => exact (by repeat (first | (with_reducible first | exact HB.out | apply below_alloc | apply pw_below_drewN | apply below_drew1) | exact HB.out)))
                                      (case aF => exact (fun k_ hk => Kd.fresh' (Kd.R_lt (by (with_reducible repeat (first | apply Kd.R_alloc | apply Kd.R_drewN | apply Kd.R_drew)); exact HO181.out)) k_ hk))
                                      (case aO => exact (by (with_reducible repeat (first | apply Kd.R_alloc | apply Kd.R_drewN | apply Kd.R_drew)); exact Kd.R_mono HO184.out (fun _ hk => hk.2)))
                                      (case aS => exact (below_size (by repeat (first | (with_reducible first | exact HB.out | apply below_alloc | apply pw_below_drewN | apply below_drew1) | exact HB.out))))
                                      (case aL => have := LMc23.out; omega)
                                      intro v187 w32 ho hb hg hat
                                      rw [← Ny186.out] at ho
                                      have n0_ := Aside0.mk (Kd.R_after (ok := (fun _ => True)) (by (with_reducible repeat (first | apply Kd.R_alloc | apply Kd.R_drewN | apply Kd.R_drew)); exact Kd.R_mono HO181.out (fun _ hk => ⟨trivial, by first | exact hk | exact fun h_ => hk (h_.trans (own_len _ _ _ _ _))⟩)) hg hat)
                                      have n1_ := Aside0.mk (hb)
                                      have n2_ := Aside0.mk (ho)
                                      clear HO181
                                      clear HB
                                      clear HO184
                                      have HO181 := n0_
                                      have HB := n1_
                                      have HO188 := n2_
                                      clear n0_ n1_ n2_
                                      clear ho hb hg hat
                                      obtain ⟨Ao34, co34, eo34⟩ := Kd.R_slice HO181.out
                                      (first | subst eo34 | (injection eo34 with f1_ f2_ f3_; have f4_ := f1_.symm; have f5_ := f3_.symm; clear f1_ f2_ f3_; subst f4_; subst f5_))
                                      refine hK.out _ _ ⟨((HB.out.cell (World.block_lt_of_cell? w _ hw185_0)).trans hw185_0), ((HB.out.cell (World.block_lt_of_cell? w _ hw185_1)).trans hw185_1), ((HB.out.cell (World.block_lt_of_cell? w _ hw185_2)).trans hw185_2), ((HB.out.cell (World.block_lt_of_cell? w _ hw185_3)).trans hw185_3), ((HB.out.cell (World.block_lt_of_cell? w _ hw185_4)).trans hw185_4), ((HB.out.cell (World.block_lt_of_cell? w _ hw185_5)).trans hw185_5), ((HB.out.cell (World.block_lt_of_cell? w _ hw185_6)).trans hw185_6), ((HB.out.cell (World.block_lt_of_cell? w _ hw185_7)).trans hw185_7)⟩ (fun hHeld => ?_)
                                      clear hK K
                                      refine norm_ (a' := ?_) ?_ ?_
                                      rotate_left
                                      · show Act.put _ (some 56) _ = _
                                        simp only [Act.put, List.setIfInBounds_toArray, List.set_cons_zero, List.set_cons_succ, i64_w, i32_w]
                                        rfl
                                      refine one_ (i := 11) (N := some 58) #[true, true, true, true, true, true, true, true, true, true, true, true, false] rfl rfl (one_of HT_.out (by kernel_rfl)) (by decide) (fun K hK => ?_)
                                      refine Kd.R_append_rows_step Kd.string (w0 := w) w.heap.size (by rfl) (.tmp 56) (.tmp 57) 61 9 (.string ⟨#[]⟩) 16 rfl Try.underlying61 info9 rfl (by decide) (by omega) v187 y186 y179 _ _ _ (fun k_ => some k_ ≠ (.slice Ao34 y179.length co34 : Value).ownBlock) (fun _ => False) rfl rfl ?aO ?aR (fun _ _ h => h) (fun _ h => h.elim) ?aF ?aB ?aS ?aL ?_
                                      (case aR => repeat (first | exact (Kd.R_reads' HO181.out).2.2 | (with_reducible refine Kd.C_alloc ?_ _) | (with_reducible refine Kd.C_drewN ?_ _) | (with_reducible refine Kd.C_drew ?_)))
                                      (case aB => exact (by repeat (first | (with_reducible first | exact HB.out | apply below_alloc | apply pw_below_drewN | apply below_drew1) | exact HB.out)))
                                      (case aF => exact (fun k_ hk => Kd.fresh' (Kd.R_lt (by (with_reducible repeat (first | apply Kd.R_alloc | apply Kd.R_drewN | apply Kd.R_drew)); exact HO181.out)) k_ hk))
                                      (case aO => exact (by (with_reducible repeat (first | apply Kd.R_alloc | apply Kd.R_drewN | apply Kd.R_drew)); exact HO188.out))
                                      (case aS => exact (below_size (by repeat (first | (with_reducible first | exact HB.out | apply below_alloc | apply pw_below_drewN | apply below_drew1) | exact HB.out))))
                                      (case aL => have := LMc24.out; omega)
                                      intro v190 w33 ho hb hg hat
                                      rw [← Ny189.out] at ho
                                      have n0_ := Aside0.mk (Kd.R_after (ok := (fun _ => True)) (by (with_reducible repeat (first | apply Kd.R_alloc | apply Kd.R_drewN | apply Kd.R_drew)); exact HO181.out) hg hat)
                                      have n1_ := Aside0.mk (hb)
                                      have n2_ := Aside0.mk (ho)
                                      clear HO181
                                      clear HB
                                      clear HO188
                                      have HO181 := n0_
                                      have HB := n1_
                                      have HO191 := n2_
                                      clear n0_ n1_ n2_
                                      clear ho hb hg hat
                                      refine hK.out _ _ ⟨((HB.out.cell (World.block_lt_of_cell? w _ hw185_0)).trans hw185_0), ((HB.out.cell (World.block_lt_of_cell? w _ hw185_1)).trans hw185_1), ((HB.out.cell (World.block_lt_of_cell? w _ hw185_2)).trans hw185_2), ((HB.out.cell (World.block_lt_of_cell? w _ hw185_3)).trans hw185_3), ((HB.out.cell (World.block_lt_of_cell? w _ hw185_4)).trans hw185_4), ((HB.out.cell (World.block_lt_of_cell? w _ hw185_5)).trans hw185_5), ((HB.out.cell (World.block_lt_of_cell? w _ hw185_6)).trans hw185_6), ((HB.out.cell (World.block_lt_of_cell? w _ hw185_7)).trans hw185_7)⟩ (fun hHeld => ?_)
                                      clear hK K
                                      refine norm_ (a' := ?_) ?_ ?_
                                      rotate_left
                                      · show Act.put _ (some 58) _ = _
                                        simp only [Act.put, List.setIfInBounds_toArray, List.set_cons_zero, List.set_cons_succ, i64_w, i32_w]
                                        rfl
                                      refine pure_ (i := 12) (N := some 3) (v := ?_) (a' := ?_) #[true, true, true, true, true, true, true, true, true, true, true, true, true] rfl rfl (any_of HT_.out (by kernel_rfl)) (fun _ _ _ h => h) (Or.inl ⟨by rfl, ?_⟩) ?_ ?_
                                      rotate_left
                                      · intro w'
                                        go_simp
                                        with_reducible rfl
                                      rotate_left
                                      · simp only [Act.put, List.setIfInBounds_toArray, List.set_cons_zero, List.set_cons_succ, i64_w, i32_w]
                                        rfl
                                      refine done_ (done_of HT_.out (by kernel_rfl)) ?_
                                      try go_wp2
                                      go_roundg k2
                                      case measure => have := HK1.out; have := HK2.out; omega
                                      case rel => exact ⟨(y189), (wrap64 (x4_1 + 1)), (by first | rfl | (simp; done) | (simp [*]; done)), H', ⟨by have := HK1.out; have := HK2.out; omega⟩, ⟨by (with_reducible repeat (first | apply Kd.R_alloc | apply Kd.R_drewN | apply Kd.R_drew)); exact Kd.R_mono HO191.out (fun _ hk => trivial)⟩, ⟨by repeat (first | (with_reducible first | exact HB.out | apply below_alloc | apply pw_below_drewN | apply below_drew1) | exact HB.out)⟩⟩
                                    · rw [if_neg c24] at H
                                      exact absurd H (by simp)
                                  · rw [if_neg c23] at H
                                    exact absurd H (by simp)
                                · rw [if_neg c21] at H
                                  exact absurd H (by simp)
                              · rw [if_neg c20] at H
                                exact absurd H (by simp)
                            · rw [if_neg c19] at H
                              exact absurd H (by simp)
                        · rw [if_neg c15] at H
                          exact absurd H (by simp)
                      · rw [if_neg c14] at H
                        exact absurd H (by simp)
                    · rw [if_neg c13] at H
                      exact absurd H (by simp)
                  · rw [if_neg c12] at H
                    exact absurd H (by simp)
                · rw [if_neg c10] at H
                  have c10b0 : decide (0 < x5_2) = false := decide_eq_false c10
                  clear c10
                  obtain ⟨y192, hy192⟩ : ∃ y_ : List ByteArray, y_ = (([] : List ByteArray)) := ⟨_, rfl⟩
                  replace H : (if 0 ≤ x5_2 then (if x5_2 ≤ (x3_1.length : Int) then ((some (x3_1.drop (x5_2 : Int).toNat : List ByteArray)).bind fun y195 => (if y192.length + y195.length < 8796093022208 then ((some (y192 ++ y195 : List ByteArray)).bind fun y199 => ((some (x3_1.take (x5_2 : Int).toNat : List ByteArray)).bind fun y202 => (if 0 ≤ x4_1 then (if x4_1 < (l0.length : Int) then (if y202.length < 8796093022208 then ((some (y202 ++ [(rd_T42 l0 x4_1).f4] : List ByteArray)).bind fun y206 => (if y206.length + y199.length < 8796093022208 then (merkhetref09_Hosts.l0 k2 l0 (y206 ++ y199) (wrap64 (x4_1 + 1))) else (none))) else (none)) else (none)) else (none)))) else (none))) else (none)) else (none)) = some r := by first | (rw [hy192]; with_reducible exact H) | (have H2_ := (Option.bind_some _ _).symm.trans H; rw [hy192]; with_reducible exact H2_) | (have H2_ := (Option.bind_some _ _).symm.trans H; with_reducible exact H2_) | with_reducible exact H | (rw [hy192]; exact H) | exact H
                  have Ny192 := Aside0.mk hy192
                  clear hy192
                  by_cases c35 : 0 ≤ x5_2
                  · rw [if_pos c35] at H
                    have c35b0 := eq_true c35
                    have c35b1 : decide (0 ≤ x5_2) = true := decide_eq_true c35
                    clear c35
                    by_cases c36 : x5_2 ≤ (x3_1.length : Int)
                    · rw [if_pos c36] at H
                      have c36b0 := eq_true c36
                      have c36b1 : decide (x5_2 ≤ (x3_1.length : Int)) = true := decide_eq_true c36
                      clear c36
                      obtain ⟨y195, hy195⟩ : ∃ y_ : List ByteArray, y_ = (x3_1.drop (x5_2 : Int).toNat) := ⟨_, rfl⟩
                      replace H : (if y192.length + y195.length < 8796093022208 then ((some (y192 ++ y195 : List ByteArray)).bind fun y199 => ((some (x3_1.take (x5_2 : Int).toNat : List ByteArray)).bind fun y202 => (if 0 ≤ x4_1 then (if x4_1 < (l0.length : Int) then (if y202.length < 8796093022208 then ((some (y202 ++ [(rd_T42 l0 x4_1).f4] : List ByteArray)).bind fun y206 => (if y206.length + y199.length < 8796093022208 then (merkhetref09_Hosts.l0 k2 l0 (y206 ++ y199) (wrap64 (x4_1 + 1))) else (none))) else (none)) else (none)) else (none)))) else (none)) = some r := by first | (rw [hy195]; with_reducible exact H) | (have H2_ := (Option.bind_some _ _).symm.trans H; rw [hy195]; with_reducible exact H2_) | (have H2_ := (Option.bind_some _ _).symm.trans H; with_reducible exact H2_) | with_reducible exact H | (rw [hy195]; exact H) | exact H
                      have Ny195 := Aside0.mk hy195
                      clear hy195
                      by_cases c37 : y192.length + y195.length < 8796093022208
                      · rw [if_pos c37] at H
                        have LMc37 := Aside0.mk c37
                        clear c37
                        obtain ⟨y199, hy199⟩ : ∃ y_ : List ByteArray, y_ = (y192 ++ y195) := ⟨_, rfl⟩
                        replace H : ((some (x3_1.take (x5_2 : Int).toNat : List ByteArray)).bind fun y202 => (if 0 ≤ x4_1 then (if x4_1 < (l0.length : Int) then (if y202.length < 8796093022208 then ((some (y202 ++ [(rd_T42 l0 x4_1).f4] : List ByteArray)).bind fun y206 => (if y206.length + y199.length < 8796093022208 then (merkhetref09_Hosts.l0 k2 l0 (y206 ++ y199) (wrap64 (x4_1 + 1))) else (none))) else (none)) else (none)) else (none))) = some r := by first | (rw [hy199]; with_reducible exact H) | (have H2_ := (Option.bind_some _ _).symm.trans H; rw [hy199]; with_reducible exact H2_) | (have H2_ := (Option.bind_some _ _).symm.trans H; with_reducible exact H2_) | with_reducible exact H | (rw [hy199]; exact H) | exact H
                        have Ny199 := Aside0.mk hy199
                        clear hy199
                        have c38b0 := eq_true (of_decide_eq_true (by first | (with_reducible assumption) | assumption) : x5_2 ≤ (x3_1.length : Int))
                        obtain ⟨y202, hy202⟩ : ∃ y_ : List ByteArray, y_ = (x3_1.take (x5_2 : Int).toNat) := ⟨_, rfl⟩
                        replace H : (if 0 ≤ x4_1 then (if x4_1 < (l0.length : Int) then (if y202.length < 8796093022208 then ((some (y202 ++ [(rd_T42 l0 x4_1).f4] : List ByteArray)).bind fun y206 => (if y206.length + y199.length < 8796093022208 then (merkhetref09_Hosts.l0 k2 l0 (y206 ++ y199) (wrap64 (x4_1 + 1))) else (none))) else (none)) else (none)) else (none)) = some r := by first | (rw [hy202]; with_reducible exact H) | (have H2_ := (Option.bind_some _ _).symm.trans H; rw [hy202]; with_reducible exact H2_) | (have H2_ := (Option.bind_some _ _).symm.trans H; with_reducible exact H2_) | with_reducible exact H | (rw [hy202]; exact H) | exact H
                        have Ny202 := Aside0.mk hy202
                        clear hy202
                        by_cases c39 : 0 ≤ x4_1
                        · rw [if_pos c39] at H
                          have c39b0 : decide (0 ≤ x4_1) = true := decide_eq_true c39
                          clear c39
                          by_cases c40 : x4_1 < (l0.length : Int)
                          · rw [if_pos c40] at H
                            have c40b0 : decide (x4_1 < (l0.length : Int)) = true := decide_eq_true c40
                            clear c40
                            by_cases c41 : y202.length < 8796093022208
                            · rw [if_pos c41] at H
                              have LMc41 := Aside0.mk c41
                              clear c41
                              obtain ⟨y206, hy206⟩ : ∃ y_ : List ByteArray, y_ = (y202 ++ [(rd_T42 l0 x4_1).f4]) := ⟨_, rfl⟩
                              replace H : (if y206.length + y199.length < 8796093022208 then (merkhetref09_Hosts.l0 k2 l0 (y206 ++ y199) (wrap64 (x4_1 + 1))) else (none)) = some r := by first | (rw [hy206]; with_reducible exact H) | (have H2_ := (Option.bind_some _ _).symm.trans H; rw [hy206]; with_reducible exact H2_) | (have H2_ := (Option.bind_some _ _).symm.trans H; with_reducible exact H2_) | with_reducible exact H | (rw [hy206]; exact H) | exact H
                              have Ny206 := Aside0.mk hy206
                              clear hy206
                              by_cases c42 : y206.length + y199.length < 8796093022208
                              · rw [if_pos c42] at H
                                have LMc42 := Aside0.mk c42
                                clear c42
                                obtain ⟨y209, hy209⟩ : ∃ y_ : List ByteArray, y_ = (y206 ++ y199) := ⟨_, rfl⟩
                                replace H : (merkhetref09_Hosts.l0 k2 l0 y209 (wrap64 (x4_1 + 1))) = some r := by first | (rw [hy209]; with_reducible exact H) | (have H2_ := (Option.bind_some _ _).symm.trans H; rw [hy209]; with_reducible exact H2_) | (have H2_ := (Option.bind_some _ _).symm.trans H; with_reducible exact H2_) | with_reducible exact H | (rw [hy209]; exact H) | exact H
                                have Ny209 := Aside0.mk hy209
                                clear hy209
                                have H' := Aside0.mk H
                                clear H
                                try go_wp2
                                have n0_ := Aside0.mk (Kd.R_drew HO_3.out)
                                have n1_ := Aside0.mk (below_drew1 HB.out)
                                clear HO_3
                                clear HB
                                have HO_3 := n0_
                                have HB := n1_
                                clear n0_ n1_
                                refine start_ (n := 16) (S := fun w' => True) (ds := []) #[false, false, false, false, false, false, false, false, false, false, false, false, false, false, false, false] (by kernel_rfl) rfl rfl trivial (fun hHeld => ?_); refine with_tabW merkhetref09_Hosts.tab7 merkhetref09_Hosts.bits7 (fun HT_ HW_ => ?_)
                                generalize wr.drew = w43 at HO_3 HB hHeld ⊢
                                refine pure_ (i := 0) (N := some 24) (v := ?_) (a' := ?_) #[true, false, false, false, false, false, false, false, false, false, false, false, false, false, false, false] rfl rfl (any_of HT_.out (by kernel_rfl)) (fun _ _ _ h => h) (Or.inl ⟨by rfl, ?_⟩) ?_ ?_
                                rotate_left
                                · intro w'
                                  go_simp
                                  with_reducible rfl
                                rotate_left
                                · simp only [Act.put, List.setIfInBounds_toArray, List.set_cons_zero, List.set_cons_succ, i64_w, i32_w]
                                  rfl
                                refine pure_ (i := 1) (N := some 25) (v := ?_) (a' := ?_) #[true, true, false, false, false, false, false, false, false, false, false, false, false, false, false, false] rfl rfl (any_of HT_.out (by kernel_rfl)) (fun _ _ _ h => h) (Or.inl ⟨by rfl, ?_⟩) ?_ ?_
                                rotate_left
                                · intro w'
                                  go_simp
                                  with_reducible rfl
                                rotate_left
                                · simp only [Act.put, List.setIfInBounds_toArray, List.set_cons_zero, List.set_cons_succ, i64_w, i32_w]
                                  rfl
                                refine pure_ (i := 2) (N := some 26) (v := ?_) (a' := ?_) #[true, true, true, false, false, false, false, false, false, false, false, false, false, false, false, false] rfl rfl (any_of HT_.out (by kernel_rfl)) (fun _ _ _ h => h) (Or.inl ⟨by rfl, ?_⟩) ?_ ?_
                                rotate_left
                                · intro w'
                                  go_simp
                                  with_reducible rfl
                                rotate_left
                                · simp only [Act.put, List.setIfInBounds_toArray, List.set_cons_zero, List.set_cons_succ, i64_w, i32_w]
                                  rfl
                                refine pure_ (i := 3) (N := some 27) (v := undef) (a' := ?_) #[true, true, true, true, false, false, false, false, false, false, false, false, false, false, false, false] rfl rfl (any_of HT_.out (by kernel_rfl)) (fun _ _ _ h => h) (Or.inr ⟨by rfl, rfl⟩) ?_ ?_
                                rotate_left
                                · simp only [Act.put, List.setIfInBounds_toArray, List.set_cons_zero, List.set_cons_succ, i64_w, i32_w]
                                  rfl
                                refine pure_ (i := 4) (N := some 28) (v := undef) (a' := ?_) #[true, true, true, true, true, false, false, false, false, false, false, false, false, false, false, false] rfl rfl (any_of HT_.out (by kernel_rfl)) (fun _ _ _ h => h) (Or.inr ⟨by rfl, rfl⟩) ?_ ?_
                                rotate_left
                                · simp only [Act.put, List.setIfInBounds_toArray, List.set_cons_zero, List.set_cons_succ, i64_w, i32_w]
                                  rfl
                                refine pure_ (i := 5) (N := some 29) (v := undef) (a' := ?_) #[true, true, true, true, true, true, false, false, false, false, false, false, false, false, false, false] rfl rfl (any_of HT_.out (by kernel_rfl)) (fun _ _ _ h => h) (Or.inr ⟨by rfl, rfl⟩) ?_ ?_
                                rotate_left
                                · simp only [Act.put, List.setIfInBounds_toArray, List.set_cons_zero, List.set_cons_succ, i64_w, i32_w]
                                  rfl
                                refine pure_ (i := 6) (N := some 30) (v := undef) (a' := ?_) #[true, true, true, true, true, true, true, false, false, false, false, false, false, false, false, false] rfl rfl (any_of HT_.out (by kernel_rfl)) (fun _ _ _ h => h) (Or.inr ⟨by rfl, rfl⟩) ?_ ?_
                                rotate_left
                                · simp only [Act.put, List.setIfInBounds_toArray, List.set_cons_zero, List.set_cons_succ, i64_w, i32_w]
                                  rfl
                                refine pure_ (i := 7) (N := some 31) (v := undef) (a' := ?_) #[true, true, true, true, true, true, true, true, false, false, false, false, false, false, false, false] rfl rfl (any_of HT_.out (by kernel_rfl)) (fun _ _ _ h => h) (Or.inr ⟨by rfl, rfl⟩) ?_ ?_
                                rotate_left
                                · simp only [Act.put, List.setIfInBounds_toArray, List.set_cons_zero, List.set_cons_succ, i64_w, i32_w]
                                  rfl
                                refine pure_ (i := 8) (N := some 32) (v := undef) (a' := ?_) #[true, true, true, true, true, true, true, true, true, false, false, false, false, false, false, false] rfl rfl (any_of HT_.out (by kernel_rfl)) (fun _ _ _ h => h) (Or.inr ⟨by rfl, rfl⟩) ?_ ?_
                                rotate_left
                                · simp only [Act.put, List.setIfInBounds_toArray, List.set_cons_zero, List.set_cons_succ, i64_w, i32_w]
                                  rfl
                                refine pure_ (i := 9) (N := some 33) (v := undef) (a' := ?_) #[true, true, true, true, true, true, true, true, true, true, false, false, false, false, false, false] rfl rfl (any_of HT_.out (by kernel_rfl)) (fun _ _ _ h => h) (Or.inr ⟨by rfl, rfl⟩) ?_ ?_
                                rotate_left
                                · simp only [Act.put, List.setIfInBounds_toArray, List.set_cons_zero, List.set_cons_succ, i64_w, i32_w]
                                  rfl
                                refine pure_ (i := 10) (N := some 34) (v := undef) (a' := ?_) #[true, true, true, true, true, true, true, true, true, true, true, false, false, false, false, false] rfl rfl (any_of HT_.out (by kernel_rfl)) (fun _ _ _ h => h) (Or.inr ⟨by rfl, rfl⟩) ?_ ?_
                                rotate_left
                                · simp only [Act.put, List.setIfInBounds_toArray, List.set_cons_zero, List.set_cons_succ, i64_w, i32_w]
                                  rfl
                                refine pure_ (i := 11) (N := some 35) (v := undef) (a' := ?_) #[true, true, true, true, true, true, true, true, true, true, true, true, false, false, false, false] rfl rfl (any_of HT_.out (by kernel_rfl)) (fun _ _ _ h => h) (Or.inr ⟨by rfl, rfl⟩) ?_ ?_
                                rotate_left
                                · simp only [Act.put, List.setIfInBounds_toArray, List.set_cons_zero, List.set_cons_succ, i64_w, i32_w]
                                  rfl
                                refine pure_ (i := 12) (N := some 36) (v := undef) (a' := ?_) #[true, true, true, true, true, true, true, true, true, true, true, true, true, false, false, false] rfl rfl (any_of HT_.out (by kernel_rfl)) (fun _ _ _ h => h) (Or.inr ⟨by rfl, rfl⟩) ?_ ?_
                                rotate_left
                                · simp only [Act.put, List.setIfInBounds_toArray, List.set_cons_zero, List.set_cons_succ, i64_w, i32_w]
                                  rfl
                                refine pure_ (i := 13) (N := some 37) (v := undef) (a' := ?_) #[true, true, true, true, true, true, true, true, true, true, true, true, true, true, false, false] rfl rfl (any_of HT_.out (by kernel_rfl)) (fun _ _ _ h => h) (Or.inr ⟨by rfl, rfl⟩) ?_ ?_
                                rotate_left
                                · simp only [Act.put, List.setIfInBounds_toArray, List.set_cons_zero, List.set_cons_succ, i64_w, i32_w]
                                  rfl
                                refine pure_ (i := 14) (N := some 38) (v := undef) (a' := ?_) #[true, true, true, true, true, true, true, true, true, true, true, true, true, true, true, false] rfl rfl (any_of HT_.out (by kernel_rfl)) (fun _ _ _ h => h) (Or.inr ⟨by rfl, rfl⟩) ?_ ?_
                                rotate_left
                                · simp only [Act.put, List.setIfInBounds_toArray, List.set_cons_zero, List.set_cons_succ, i64_w, i32_w]
                                  rfl
                                refine pure_ (i := 15) (N := some 39) (v := ?_) (a' := ?_) #[true, true, true, true, true, true, true, true, true, true, true, true, true, true, true, true] rfl rfl (any_of HT_.out (by kernel_rfl)) (fun _ _ _ h => h) (Or.inl ⟨by rfl, ?_⟩) ?_ ?_
                                rotate_left
                                · intro w'
                                  go_simp
                                  with_reducible rfl
                                rotate_left
                                · simp only [Act.put, List.setIfInBounds_toArray, List.set_cons_zero, List.set_cons_succ, i64_w, i32_w]
                                  rfl
                                refine done_ (done_of HT_.out (by kernel_rfl)) ?_
                                try go_wp2_with (first | ((with_reducible refine gate_dst (N := 42) rfl ?_); refine Kd.R_lit Kd.string _ 9 ?hg (N := 42) ?hd (xs := ([] : List ByteArray)) (inner := []) (ok := fun _ => True) (okp := fun _ => True) ?hr ?hp (fun _ hk => hk) trivial (Below.refl _ _) (Nat.le_refl _) (by simp) ?_; (case hd => rfl); (case hg => rfl); (case hr => first | (go_simp; done) | (go_simp; rfl)); (case hp => exact (Reps.none _ _)); intro v193 w44 ho45 hb hg_ hnew_; clear hg_ hnew_; (first | rw [← Ny192.out] at ho45 | (simp only [Int.reduceToNat] at ho45; rw [← Ny192.out] at ho45)); have n0_ := Aside0.mk (Kd.R_elder' (by (with_reducible repeat (first | apply Kd.R_alloc | apply Kd.R_drewN | apply Kd.R_drew)); exact HO_3.out) (Kd.R_base ho45) hb); have n1_ := Aside0.mk (Kd.R_lower (Kd.R_new' ho45 (Kd.R_lt (by (with_reducible repeat (first | apply Kd.R_alloc | apply Kd.R_drewN | apply Kd.R_drew)); exact HO_3.out))) (below_size (by repeat (first | (with_reducible first | exact HB.out | apply below_alloc | apply pw_below_drewN | apply below_drew1) | exact HB.out)))); have n2_ := Aside0.mk (below_step (by repeat (first | (with_reducible first | exact HB.out | apply below_alloc | apply pw_below_drewN | apply below_drew1) | exact HB.out)) hb); clear HO_3; clear HB; have HO_3 := n0_; have HO194 := n1_; have HB := n2_; clear n0_ n1_ n2_; clear hb ho45; have q46 : (x5_2 : Int) ≤ ((x3_1.length : Int) : Int) := of_decide_eq_true (by first | (with_reducible assumption) | assumption); obtain ⟨i046, hi046, _, hsz46, _⟩ := info_parts info9; have hroom46 : x3_1.length ≤ co9 := (Kd.R_reads' HO_3.out).2.1; have hC46 : Kd.C Kd.string _ Ao9 x3_1.length x3_1 := (Kd.R_reads' HO_3.out).2.2; have q046 : (0 : Int) ≤ (x5_2 : Int) := of_decide_eq_true (by first | (with_reducible assumption) | assumption); have hcut46 := cut_from (P := Try.prog) 61 9 .i64 Try.underlying61 hi046 1 hsz46 Ao9 x3_1.length co9 x5_2 q046 q46; have hr46 := Kd.C_drop (m := (x5_2 : Int).toNat) (c := co9) hC46 (by omega) hroom46; obtain ⟨A46, hA46⟩ : ∃ A1, A1 = (if co9 = (x5_2 : Int).toNat then Ao9 else (Ao9 : Option Addr).map (·.add ((x5_2 : Int).toNat * 1))) := ⟨_, rfl⟩; obtain ⟨c46, hc46⟩ : ∃ c1, c1 = co9 - (x5_2 : Int).toNat := ⟨_, rfl⟩; have hy46 : y195.length = x3_1.length - (x5_2 : Int).toNat := (by rw [Ny195.out, List.length_drop] <;> omega); rw [show (x3_1).drop (x5_2 : Int).toNat = y195 from Ny195.out.symm] at hr46; replace hr46 : Kd.C Kd.string _ A46 y195.length y195 := (by rw [hA46]; exact hr46); rw [← hy46, ← hA46, ← hc46] at hcut46; have HR198 := Aside0.mk hr46; have HC198 := Aside0.mk (show y195.length ≤ c46 from by rw [hy46, hc46]; exact Nat.sub_le_sub_right hroom46 _); clear hr46 hC46 hroom46 hi046 hsz46 hc46; have KY46 := Aside0.mk hy46; have KA46 := Aside0.mk hA46; clear hy46 hA46; have KL46 := Aside0.mk (show (x5_2 : Int).toNat ≤ x3_1.length from by omega); replace q46 := eq_true q46) | ((with_reducible refine gate_builtin (b := .append) (xs := #[.tmp 42, .tmp 45]) rfl ?_); at_builtin; refine Kd.R_append_rows Kd.string (w0 := w) w.heap.size rfl (.tmp 42) (.tmp 45) 61 9 (.string ⟨#[]⟩) 16 rfl Try.underlying61 info9 rfl (by decide) (by omega) v193 y192 y195 _ _ _ (fun k_ => some k_ ≠ (.slice Ao9 x3_1.length co9 : Value).ownBlock) (fun _ => False) rfl rfl ?aO ?aR (fun _ _ h => h) (fun _ h => h.elim) ?aF ?aB ?aS ?aL ?_; (case aR => repeat (first | exact (by repeat (first | (with_reducible exact HR198.out) | (with_reducible refine Kd.C_alloc ?_ _) | (with_reducible refine Kd.C_drewN ?_ _) | (with_reducible refine Kd.C_drew ?_) | exact HR198.out)) | (with_reducible refine Kd.C_alloc ?_ _) | (with_reducible refine Kd.C_drewN ?_ _) | (with_reducible refine Kd.C_drew ?_))); (case aB => exact (by repeat (first | (with_reducible first | exact HB.out | apply below_alloc | apply pw_below_drewN | apply below_drew1) | exact HB.out))); (case aF => exact (fun k_ hk => Kd.fresh' (Kd.R_lt (by (with_reducible repeat (first | apply Kd.R_alloc | apply Kd.R_drewN | apply Kd.R_drew)); exact HO_3.out)) k_ hk)); (case aO => exact (by (with_reducible repeat (first | apply Kd.R_alloc | apply Kd.R_drewN | apply Kd.R_drew)); exact Kd.R_mono HO194.out (fun _ hk => hk.2))); (case aS => exact (below_size (by repeat (first | (with_reducible first | exact HB.out | apply below_alloc | apply pw_below_drewN | apply below_drew1) | exact HB.out)))); (case aL => have := LMc37.out; omega); intro v200 w47 ho hb hg hat; rw [← Ny199.out] at ho; have n0_ := Aside0.mk (Kd.R_after (ok := (fun _ => True)) (by (with_reducible repeat (first | apply Kd.R_alloc | apply Kd.R_drewN | apply Kd.R_drew)); exact HO_3.out) hg hat); have n1_ := Aside0.mk (hb); have n2_ := Aside0.mk ((show Kd.C Kd.string w47 A46 y195.length y195 from by rw [Ny195.out, KA46.out]; exact Kd.C_drop (m := (x5_2 : Int).toNat) (c := co9) ((Kd.R_reads' (Kd.R_after (ok := (fun _ => True)) (by (with_reducible repeat (first | apply Kd.R_alloc | apply Kd.R_drewN | apply Kd.R_drew)); exact HO_3.out) hg hat)).2.2) KL46.out ((Kd.R_reads' (Kd.R_after (ok := (fun _ => True)) (by (with_reducible repeat (first | apply Kd.R_alloc | apply Kd.R_drewN | apply Kd.R_drew)); exact HO_3.out) hg hat)).2.1))); have n3_ := Aside0.mk (ho); clear HO_3; clear HB; clear HR198; clear HO194; have HO_3 := n0_; have HB := n1_; have HR198 := n2_; have HO201 := n3_; clear n0_ n1_ n2_ n3_; clear ho hb hg hat))
                                have n0_ := Aside0.mk (Kd.R_drew HO_3.out)
                                have n1_ := Aside0.mk (Kd.R_drew HO201.out)
                                have n2_ := Aside0.mk (Kd.C_drew HR198.out)
                                have n3_ := Aside0.mk (below_drew1 HB.out)
                                clear HO_3
                                clear HO201
                                clear HR198
                                clear HB
                                have HO_3 := n0_
                                have HO201 := n1_
                                have HR198 := n2_
                                have HB := n3_
                                clear n0_ n1_ n2_ n3_
                                have q49 : (x5_2 : Int) ≤ ((x3_1.length : Int) : Int) := of_decide_eq_true (by first | (with_reducible assumption) | assumption)
                                obtain ⟨i049, hi049, _, hsz49, _⟩ := info_parts info9
                                have hcut49 := cut_to (P := Try.prog) 61 9 .i64 Try.underlying61 hi049 Ao9 x3_1.length co9 x5_2 (of_decide_eq_true (by first | (with_reducible assumption) | assumption)) q49 (Kd.R_reads' HO_3.out).2.1
                                have hr49 := Kd.R_take (m := (x5_2 : Int).toNat) HO_3.out (by omega)
                                have hy49 : y202.length = (x5_2 : Int).toNat := (by rw [Ny202.out, List.length_take]; omega)
                                rw [← Ny202.out] at hr49
                                rw [← hy49] at hr49 hcut49
                                clear hy49 hi049 hsz49 HO_3
                                have HO204 := Aside0.mk hr49
                                clear hr49
                                replace q49 := eq_true q49
                                have p205 : 0 ≤ (x4_1 : Int) := of_decide_eq_true (by first | (with_reducible assumption) | assumption)
                                have q205 : x4_1 < (l0.length : Int) := of_decide_eq_true (by first | (with_reducible assumption) | assumption)
                                obtain ⟨ad205, e205, hx205_0, hx205_1, hx205_2, hx205_3, hx205_4, hx205_5, hx205_6, hx205_7⟩ := at_T42 HR0.out x4_1 p205 q205
                                have hw205_7 := hx205_7
                                have hw205_6 := hx205_6
                                have hw205_5 := hx205_5
                                have hw205_4 := hx205_4
                                have hw205_3 := hx205_3
                                have hw205_2 := hx205_2
                                have hw205_1 := hx205_1
                                have hw205_0 := hx205_0
                                obtain rfl : ad167 = ad205 := (by injection e205)
                                replace hx205_0 := (HB.out.cell (World.block_lt_of_cell? w _ hx205_0)).trans hx205_0
                                replace hx205_1 := (HB.out.cell (World.block_lt_of_cell? w _ hx205_1)).trans hx205_1
                                replace hx205_2 := (HB.out.cell (World.block_lt_of_cell? w _ hx205_2)).trans hx205_2
                                replace hx205_3 := (HB.out.cell (World.block_lt_of_cell? w _ hx205_3)).trans hx205_3
                                replace hx205_4 := (HB.out.cell (World.block_lt_of_cell? w _ hx205_4)).trans hx205_4
                                replace hx205_5 := (HB.out.cell (World.block_lt_of_cell? w _ hx205_5)).trans hx205_5
                                replace hx205_6 := (HB.out.cell (World.block_lt_of_cell? w _ hx205_6)).trans hx205_6
                                replace hx205_7 := (HB.out.cell (World.block_lt_of_cell? w _ hx205_7)).trans hx205_7
                                replace p205 := eq_true p205
                                replace q205 := eq_true q205
                                refine start_ (n := 13) (S := fun w' => w'.cell? (ad167.add ((x4_1).toNat * 8)) = some (.int .u64 ((rd_T42 l0 x4_1).f0)) ∧ w'.cell? ⟨(ad167.add ((x4_1).toNat * 8)).block, (ad167.add ((x4_1).toNat * 8)).off + 1, none⟩ = some (.int .u64 ((rd_T42 l0 x4_1).f1)) ∧ w'.cell? ⟨(ad167.add ((x4_1).toNat * 8)).block, (ad167.add ((x4_1).toNat * 8)).off + 2, none⟩ = some (.int .u64 ((rd_T42 l0 x4_1).f2)) ∧ w'.cell? ⟨(ad167.add ((x4_1).toNat * 8)).block, (ad167.add ((x4_1).toNat * 8)).off + 3, none⟩ = some (.int .u8 ((rd_T42 l0 x4_1).f3)) ∧ w'.cell? ⟨(ad167.add ((x4_1).toNat * 8)).block, (ad167.add ((x4_1).toNat * 8)).off + 4, none⟩ = some (.string ((rd_T42 l0 x4_1).f4)) ∧ w'.cell? ⟨(ad167.add ((x4_1).toNat * 8)).block, (ad167.add ((x4_1).toNat * 8)).off + 5, none⟩ = some (.string ((rd_T42 l0 x4_1).f5)) ∧ w'.cell? ⟨(ad167.add ((x4_1).toNat * 8)).block, (ad167.add ((x4_1).toNat * 8)).off + 6, none⟩ = some (.int .i64 ((rd_T42 l0 x4_1).f6)) ∧ w'.cell? ⟨(ad167.add ((x4_1).toNat * 8)).block, (ad167.add ((x4_1).toNat * 8)).off + 7, none⟩ = some (.int .i64 ((rd_T42 l0 x4_1).f7))) (ds := []) #[false, false, false, false, false, false, false, false, false, false, false, false, false] (by kernel_rfl) rfl rfl ⟨((HB.out.cell (World.block_lt_of_cell? w _ hw205_0)).trans hw205_0), ((HB.out.cell (World.block_lt_of_cell? w _ hw205_1)).trans hw205_1), ((HB.out.cell (World.block_lt_of_cell? w _ hw205_2)).trans hw205_2), ((HB.out.cell (World.block_lt_of_cell? w _ hw205_3)).trans hw205_3), ((HB.out.cell (World.block_lt_of_cell? w _ hw205_4)).trans hw205_4), ((HB.out.cell (World.block_lt_of_cell? w _ hw205_5)).trans hw205_5), ((HB.out.cell (World.block_lt_of_cell? w _ hw205_6)).trans hw205_6), ((HB.out.cell (World.block_lt_of_cell? w _ hw205_7)).trans hw205_7)⟩ (fun hHeld => ?_); refine with_tabW merkhetref09_Hosts.tab10 merkhetref09_Hosts.bits10 (fun HT_ HW_ => ?_)
                                generalize w47.drew = w48 at HO_3 HO201 HR198 HB HO204 hx205_0 hx205_1 hx205_2 hx205_3 hx205_4 hx205_5 hx205_6 hx205_7 hHeld ⊢
                                refine pure_ (i := 0) (N := some 47) (v := ?_) (a' := ?_) #[true, false, false, false, false, false, false, false, false, false, false, false, false] rfl rfl (any_of HT_.out (by kernel_rfl)) (fun _ _ _ h => h) (Or.inl ⟨by rfl, ?_⟩) ?_ ?_
                                rotate_left
                                · intro w'
                                  go_simp
                                  with_reducible rfl
                                rotate_left
                                · simp only [Act.put, List.setIfInBounds_toArray, List.set_cons_zero, List.set_cons_succ, i64_w, i32_w]
                                  rfl
                                refine pure_ (i := 1) (N := some 48) (v := ?_) (a' := ?_) #[true, true, false, false, false, false, false, false, false, false, false, false, false] rfl rfl (any_of HT_.out (by kernel_rfl)) (fun _ _ _ h => h) (Or.inl ⟨by rfl, ?_⟩) ?_ ?_
                                rotate_left
                                · intro w'
                                  go_simp
                                  with_reducible rfl
                                rotate_left
                                · simp only [Act.put, List.setIfInBounds_toArray, List.set_cons_zero, List.set_cons_succ, i64_w, i32_w]
                                  rfl
                                refine pure_ (i := 2) (N := some 49) (v := ?_) (a' := ?_) #[true, true, true, false, false, false, false, false, false, false, false, false, false] rfl rfl (any_of HT_.out (by kernel_rfl)) (fun _ _ _ h => h) (Or.inl ⟨by rfl, ?_⟩) ?_ ?_
                                rotate_left
                                · intro w'
                                  go_simp
                                  with_reducible rfl
                                rotate_left
                                · simp only [Act.put, List.setIfInBounds_toArray, List.set_cons_zero, List.set_cons_succ, i64_w, i32_w]
                                  rfl
                                refine pure_ (i := 3) (N := some 50) (v := ?_) (a' := ?_) #[true, true, true, true, false, false, false, false, false, false, false, false, false] rfl rfl (any_of HT_.out (by kernel_rfl)) (fun _ _ _ h => h) (Or.inl ⟨by rfl, ?_⟩) ?_ ?_
                                rotate_left
                                · intro w'
                                  go_simp
                                  with_reducible rfl
                                rotate_left
                                · simp only [Act.put, List.setIfInBounds_toArray, List.set_cons_zero, List.set_cons_succ, i64_w, i32_w]
                                  rfl
                                refine pure_ (i := 4) (N := some 51) (v := ?_) (a' := ?_) #[true, true, true, true, true, false, false, false, false, false, false, false, false] rfl rfl (any_of HT_.out (by kernel_rfl)) (fun _ _ _ h => h) (Or.inl ⟨by rfl, ?_⟩) ?_ ?_
                                rotate_left
                                · intro w'
                                  go_simp
                                  with_reducible rfl
                                rotate_left
                                · simp only [Act.put, List.setIfInBounds_toArray, List.set_cons_zero, List.set_cons_succ, i64_w, i32_w]
                                  rfl
                                refine pure_ (i := 5) (N := some 52) (v := ?_) (a' := ?_) #[true, true, true, true, true, true, false, false, false, false, false, false, false] rfl rfl (any_of HT_.out (by kernel_rfl)) (fun _ _ _ h => h) (Or.inl ⟨by rfl, ?_⟩) ?_ ?_
                                rotate_left
                                · intro w'
                                  go_simp
                                  with_reducible rfl
                                rotate_left
                                · simp only [Act.put, List.setIfInBounds_toArray, List.set_cons_zero, List.set_cons_succ, i64_w, i32_w]
                                  rfl
                                refine pure_ (i := 6) (N := some 53) (v := ?_) (a' := ?_) #[true, true, true, true, true, true, true, false, false, false, false, false, false] rfl rfl (any_of HT_.out (by kernel_rfl)) (fun _ _ _ h => h) (Or.inl ⟨by rfl, ?_⟩) ?_ ?_
                                rotate_left
                                · intro w'
                                  go_simp
                                  with_reducible rfl
                                rotate_left
                                · simp only [Act.put, List.setIfInBounds_toArray, List.set_cons_zero, List.set_cons_succ, i64_w, i32_w]
                                  rfl
                                refine pure_ (i := 10) (N := some 57) (v := ?_) (a' := ?_) #[true, true, true, true, true, true, true, false, false, false, true, false, false] rfl rfl (any_of HT_.out (by kernel_rfl)) (fun _ _ _ h => h) (Or.inl ⟨by rfl, ?_⟩) ?_ ?_
                                rotate_left
                                · intro w'
                                  go_simp
                                  with_reducible rfl
                                rotate_left
                                · simp only [Act.put, List.setIfInBounds_toArray, List.set_cons_zero, List.set_cons_succ, i64_w, i32_w]
                                  rfl
                                refine take_ (i := 7) (N := some 54) (v := ?_) (a' := ?_) #[true, true, true, true, true, true, true, true, false, false, true, false, false] rfl rfl (take_ofW HT_.out HW_.out (by kernel_rfl)) (fun _ _ _ h => h) (Or.inl ⟨by rfl, ?_⟩) hHeld ?_ ?_
                                rotate_left
                                · rintro w' ⟨s0, s1, s2, s3, s4, s5, s6, s7⟩
                                  go_simp
                                  with_reducible rfl
                                rotate_left
                                · simp only [Act.put, List.setIfInBounds_toArray, List.set_cons_zero, List.set_cons_succ, i64_w, i32_w]
                                  rfl
                                refine one_ (i := 8) (N := some 55) #[true, true, true, true, true, true, true, true, true, false, true, false, false] rfl rfl (one_of HT_.out (by kernel_rfl)) (by decide) (fun K hK => ?_)
                                refine value_ (w1 := ?_) (v := ?_) (by rfl) rfl ?_ ?_
                                rotate_left 2
                                · go_simp
                                  constructor
                                  · rfl
                                  · rfl
                                refine hK.out _ _ ⟨(World.cell?_alloc_lt _ _ _ (World.block_lt_of_cell? _ _ (((HB.out.cell (World.block_lt_of_cell? w _ hw205_0)).trans hw205_0)))).trans (((HB.out.cell (World.block_lt_of_cell? w _ hw205_0)).trans hw205_0)), (World.cell?_alloc_lt _ _ _ (World.block_lt_of_cell? _ _ (((HB.out.cell (World.block_lt_of_cell? w _ hw205_1)).trans hw205_1)))).trans (((HB.out.cell (World.block_lt_of_cell? w _ hw205_1)).trans hw205_1)), (World.cell?_alloc_lt _ _ _ (World.block_lt_of_cell? _ _ (((HB.out.cell (World.block_lt_of_cell? w _ hw205_2)).trans hw205_2)))).trans (((HB.out.cell (World.block_lt_of_cell? w _ hw205_2)).trans hw205_2)), (World.cell?_alloc_lt _ _ _ (World.block_lt_of_cell? _ _ (((HB.out.cell (World.block_lt_of_cell? w _ hw205_3)).trans hw205_3)))).trans (((HB.out.cell (World.block_lt_of_cell? w _ hw205_3)).trans hw205_3)), (World.cell?_alloc_lt _ _ _ (World.block_lt_of_cell? _ _ (((HB.out.cell (World.block_lt_of_cell? w _ hw205_4)).trans hw205_4)))).trans (((HB.out.cell (World.block_lt_of_cell? w _ hw205_4)).trans hw205_4)), (World.cell?_alloc_lt _ _ _ (World.block_lt_of_cell? _ _ (((HB.out.cell (World.block_lt_of_cell? w _ hw205_5)).trans hw205_5)))).trans (((HB.out.cell (World.block_lt_of_cell? w _ hw205_5)).trans hw205_5)), (World.cell?_alloc_lt _ _ _ (World.block_lt_of_cell? _ _ (((HB.out.cell (World.block_lt_of_cell? w _ hw205_6)).trans hw205_6)))).trans (((HB.out.cell (World.block_lt_of_cell? w _ hw205_6)).trans hw205_6)), (World.cell?_alloc_lt _ _ _ (World.block_lt_of_cell? _ _ (((HB.out.cell (World.block_lt_of_cell? w _ hw205_7)).trans hw205_7)))).trans (((HB.out.cell (World.block_lt_of_cell? w _ hw205_7)).trans hw205_7))⟩ (fun hHeld => ?_)
                                clear hK K
                                refine norm_ (a' := ?_) ?_ ?_
                                rotate_left
                                · show Act.put _ (some 55) _ = _
                                  simp only [Act.put, List.setIfInBounds_toArray, List.set_cons_zero, List.set_cons_succ, i64_w, i32_w]
                                  rfl
                                refine one_ (i := 9) (N := some 56) #[true, true, true, true, true, true, true, true, true, true, true, false, false] rfl rfl (one_of HT_.out (by kernel_rfl)) (by decide) (fun K hK => ?_)
                                refine Kd.R_append_step Kd.string (w0 := w) w.heap.size (by rfl) (.tmp 49) (.tmp 55) 61 9 (.string ⟨#[]⟩) 16 rfl Try.underlying61 info9 rfl (by decide) (by omega) (.slice Ao9 y202.length co9) y202 ((rd_T42 l0 x4_1).f4) [.string ((rd_T42 l0 x4_1).f4)] (fun k_ => some k_ ≠ (v200 : Value).ownBlock) (fun _ => False) rfl rfl ?aP (fun _ hk => hk.elim) ?aF ?aO ?aB ?aS ?aL ?_
                                (case aP => exact rfl)
                                (case aB => exact (by repeat (first | (with_reducible first | exact HB.out | apply below_alloc | apply pw_below_drewN | apply below_drew1) | exact HB.out)))
                                (case aF => exact (fun k_ hk => Kd.fresh' (Kd.R_lt (by (with_reducible repeat (first | apply Kd.R_alloc | apply Kd.R_drewN | apply Kd.R_drew)); exact HO201.out)) k_ hk))
                                (case aO => exact (by (with_reducible repeat (first | apply Kd.R_alloc | apply Kd.R_drewN | apply Kd.R_drew)); exact Kd.R_mono HO204.out (fun _ hk => hk.2)))
                                (case aS => exact (below_size (by repeat (first | (with_reducible first | exact HB.out | apply below_alloc | apply pw_below_drewN | apply below_drew1) | exact HB.out))))
                                (case aL => have := LMc41.out; omega)
                                intro v207 w50 ho hb hg hat
                                rw [← Ny206.out] at ho
                                have n0_ := Aside0.mk (Kd.R_after (ok := (fun _ => True)) (by (with_reducible repeat (first | apply Kd.R_alloc | apply Kd.R_drewN | apply Kd.R_drew)); exact Kd.R_mono HO201.out (fun _ hk => ⟨trivial, by first | exact hk | exact fun h_ => hk (h_.trans (own_len _ _ _ _ _))⟩)) hg hat)
                                have n1_ := Aside0.mk (hb)
                                have n2_ := Aside0.mk (ho)
                                clear HO201
                                clear HB
                                clear HO204
                                have HO201 := n0_
                                have HB := n1_
                                have HO208 := n2_
                                clear n0_ n1_ n2_
                                clear ho hb hg hat
                                obtain ⟨Ao52, co52, eo52⟩ := Kd.R_slice HO201.out
                                (first | subst eo52 | (injection eo52 with f1_ f2_ f3_; have f4_ := f1_.symm; have f5_ := f3_.symm; clear f1_ f2_ f3_; subst f4_; subst f5_))
                                refine hK.out _ _ ⟨((HB.out.cell (World.block_lt_of_cell? w _ hw205_0)).trans hw205_0), ((HB.out.cell (World.block_lt_of_cell? w _ hw205_1)).trans hw205_1), ((HB.out.cell (World.block_lt_of_cell? w _ hw205_2)).trans hw205_2), ((HB.out.cell (World.block_lt_of_cell? w _ hw205_3)).trans hw205_3), ((HB.out.cell (World.block_lt_of_cell? w _ hw205_4)).trans hw205_4), ((HB.out.cell (World.block_lt_of_cell? w _ hw205_5)).trans hw205_5), ((HB.out.cell (World.block_lt_of_cell? w _ hw205_6)).trans hw205_6), ((HB.out.cell (World.block_lt_of_cell? w _ hw205_7)).trans hw205_7)⟩ (fun hHeld => ?_)
                                clear hK K
                                refine norm_ (a' := ?_) ?_ ?_
                                rotate_left
                                · show Act.put _ (some 56) _ = _
                                  simp only [Act.put, List.setIfInBounds_toArray, List.set_cons_zero, List.set_cons_succ, i64_w, i32_w]
                                  rfl
                                refine one_ (i := 11) (N := some 58) #[true, true, true, true, true, true, true, true, true, true, true, true, false] rfl rfl (one_of HT_.out (by kernel_rfl)) (by decide) (fun K hK => ?_)
                                refine Kd.R_append_rows_step Kd.string (w0 := w) w.heap.size (by rfl) (.tmp 56) (.tmp 57) 61 9 (.string ⟨#[]⟩) 16 rfl Try.underlying61 info9 rfl (by decide) (by omega) v207 y206 y199 _ _ _ (fun k_ => some k_ ≠ (.slice Ao52 y199.length co52 : Value).ownBlock) (fun _ => False) rfl rfl ?aO ?aR (fun _ _ h => h) (fun _ h => h.elim) ?aF ?aB ?aS ?aL ?_
                                (case aR => repeat (first | exact (Kd.R_reads' HO201.out).2.2 | (with_reducible refine Kd.C_alloc ?_ _) | (with_reducible refine Kd.C_drewN ?_ _) | (with_reducible refine Kd.C_drew ?_)))
                                (case aB => exact (by repeat (first | (with_reducible first | exact HB.out | apply below_alloc | apply pw_below_drewN | apply below_drew1) | exact HB.out)))
                                (case aF => exact (fun k_ hk => Kd.fresh' (Kd.R_lt (by (with_reducible repeat (first | apply Kd.R_alloc | apply Kd.R_drewN | apply Kd.R_drew)); exact HO201.out)) k_ hk))
                                (case aO => exact (by (with_reducible repeat (first | apply Kd.R_alloc | apply Kd.R_drewN | apply Kd.R_drew)); exact HO208.out))
                                (case aS => exact (below_size (by repeat (first | (with_reducible first | exact HB.out | apply below_alloc | apply pw_below_drewN | apply below_drew1) | exact HB.out))))
                                (case aL => have := LMc42.out; omega)
                                intro v210 w51 ho hb hg hat
                                rw [← Ny209.out] at ho
                                have n0_ := Aside0.mk (Kd.R_after (ok := (fun _ => True)) (by (with_reducible repeat (first | apply Kd.R_alloc | apply Kd.R_drewN | apply Kd.R_drew)); exact HO201.out) hg hat)
                                have n1_ := Aside0.mk (hb)
                                have n2_ := Aside0.mk (ho)
                                clear HO201
                                clear HB
                                clear HO208
                                have HO201 := n0_
                                have HB := n1_
                                have HO211 := n2_
                                clear n0_ n1_ n2_
                                clear ho hb hg hat
                                refine hK.out _ _ ⟨((HB.out.cell (World.block_lt_of_cell? w _ hw205_0)).trans hw205_0), ((HB.out.cell (World.block_lt_of_cell? w _ hw205_1)).trans hw205_1), ((HB.out.cell (World.block_lt_of_cell? w _ hw205_2)).trans hw205_2), ((HB.out.cell (World.block_lt_of_cell? w _ hw205_3)).trans hw205_3), ((HB.out.cell (World.block_lt_of_cell? w _ hw205_4)).trans hw205_4), ((HB.out.cell (World.block_lt_of_cell? w _ hw205_5)).trans hw205_5), ((HB.out.cell (World.block_lt_of_cell? w _ hw205_6)).trans hw205_6), ((HB.out.cell (World.block_lt_of_cell? w _ hw205_7)).trans hw205_7)⟩ (fun hHeld => ?_)
                                clear hK K
                                refine norm_ (a' := ?_) ?_ ?_
                                rotate_left
                                · show Act.put _ (some 58) _ = _
                                  simp only [Act.put, List.setIfInBounds_toArray, List.set_cons_zero, List.set_cons_succ, i64_w, i32_w]
                                  rfl
                                refine pure_ (i := 12) (N := some 3) (v := ?_) (a' := ?_) #[true, true, true, true, true, true, true, true, true, true, true, true, true] rfl rfl (any_of HT_.out (by kernel_rfl)) (fun _ _ _ h => h) (Or.inl ⟨by rfl, ?_⟩) ?_ ?_
                                rotate_left
                                · intro w'
                                  go_simp
                                  with_reducible rfl
                                rotate_left
                                · simp only [Act.put, List.setIfInBounds_toArray, List.set_cons_zero, List.set_cons_succ, i64_w, i32_w]
                                  rfl
                                refine done_ (done_of HT_.out (by kernel_rfl)) ?_
                                try go_wp2
                                go_roundg k2
                                case measure => have := HK1.out; have := HK2.out; omega
                                case rel => exact ⟨(y209), (wrap64 (x4_1 + 1)), (by first | rfl | (simp; done) | (simp [*]; done)), H', ⟨by have := HK1.out; have := HK2.out; omega⟩, ⟨by (with_reducible repeat (first | apply Kd.R_alloc | apply Kd.R_drewN | apply Kd.R_drew)); exact Kd.R_mono HO211.out (fun _ hk => trivial)⟩, ⟨by repeat (first | (with_reducible first | exact HB.out | apply below_alloc | apply pw_below_drewN | apply below_drew1) | exact HB.out)⟩⟩
                              · rw [if_neg c42] at H
                                exact absurd H (by simp)
                            · rw [if_neg c41] at H
                              exact absurd H (by simp)
                          · rw [if_neg c40] at H
                            exact absurd H (by simp)
                        · rw [if_neg c39] at H
                          exact absurd H (by simp)
                      · rw [if_neg c37] at H
                        exact absurd H (by simp)
                    · rw [if_neg c36] at H
                      exact absurd H (by simp)
                  · rw [if_neg c35] at H
                    exact absurd H (by simp)
        · rw [if_neg c5] at H
          exact absurd H (by simp)
      · rw [if_neg c4] at H
        have c4b0 : decide (x4_1 < (l0.length : Int)) = false := decide_eq_false c4
        clear c4
        obtain rfl := Option.some.inj H
        go_wp2
        go_ret
        exact ⟨_, by first | rfl | (simp [errW_none, errW_some] <;> rfl) | (simp [*, errW_none, errW_some] <;> rfl), by (with_reducible repeat (first | apply Kd.R_alloc | apply Kd.R_drewN | apply Kd.R_drew)); exact HO_3.out, by repeat (first | (with_reducible first | exact HB.out | apply below_alloc | apply pw_below_drewN | apply below_drew1) | exact HB.out)⟩

end Go.Proofs.Ytjgpggjjgimibaa.Q

