/- Texts joined by wip/tools/merge.py: CycW UpR RightG KidP RowP GDat RowM RowG RowH Qx9 Qx12 Qx2 Qx13 Qx17 PairR RpcG ShfA ShfB ShfC Vx0 Rx0 FldV BndV Vx3 Vx4 Vx5. -/
import Derived.Test.YtgknjgionicncaaGreatJVerdictRight12
import Derived.Test.YtgknjgionicncaaGreatJVerdictRight24
import Derived.WalkMore
import Derived.Test.YtgknjgionicncaaGreatJVerdictRight22
import Derived.Test.YtgknjgionicncaaGreatJVerdictRight1
import Derived.WalkArith
import Derived.Maps.OwnRows
import Derived.Maps.AppendAt
import Derived.Test.YtgknjgionicncaaGreatProg
import Derived.Maps.RangeWalk
import Derived.Laws.EntriesVeiled
import Derived.Below
import Derived.Deep.Draws
import Derived.Deep.AppendLies
import Derived.OwnWalk
import Derived.Laws.BytesArg
import Derived.Laws.MakeOwn
import Derived.Laws.OwnMore
import Derived.Deep.OwnRows
import Derived.Tactics
import Derived.Lib.ConvBytes
import Derived.Laws.Slices
import Derived.WalkKit
import Derived.KernelRfl
import Derived.RowKit3
import Derived.Deep.LoopGhost
import Derived.Deep.QuietTactic
import Derived.BigQuiet
import Derived.WideLaws
import Derived.Deep.DeepCutAuto
import Derived.Deep.CutBlock
import Derived.Deep.RegionHeld3
import Derived.Laws.Rows
import Derived.Lib.AppendStr
import Derived.ArgAppend
import Derived.Laws.IdiomCopy
import Derived.OrdersHeld
import Derived.Laws.BitsLemmas
import Derived.RowKit
import Derived.Test.YtgknjgionicncaaGreatJVerdictRight0
import Derived.Test.YtgknjgionicncaaGreatJVerdictRight13
import Derived.Test.YtgknjgionicncaaGreatJVerdictRight14
import Derived.Test.YtgknjgionicncaaGreatJVerdictRight2
import Derived.Test.YtgknjgionicncaaGreatJVerdictRight3
import Derived.Test.YtgknjgionicncaaGreatJVerdictRight4
import Derived.Test.YtgknjgionicncaaGreatJVerdictRight5
import Derived.Test.YtgknjgionicncaaGreatJVerdictRight6
import Derived.Test.YtgknjgionicncaaGreatJVerdictRight7
import Derived.Test.YtgknjgionicncaaGreatJVerdictRight8
import Derived.Test.YtgknjgionicncaaGreatJVerdictRight9
import Derived.Test.YtgknjgionicncaaGreatJVerdictRight15
import Derived.Test.YtgknjgionicncaaGreatJVerdictRight16
import Derived.Test.YtgknjgionicncaaGreatJVerdictRight17
import Derived.Test.YtgknjgionicncaaGreatJVerdictRight18
import Derived.Test.YtgknjgionicncaaGreatJVerdictRight19
import Derived.Test.YtgknjgionicncaaGreatJVerdictRight20
import Derived.Test.YtgknjgionicncaaGreatJVerdictRight21
import Derived.Test.YtgknjgionicncaaGreatJVerdictRight10
import Derived.Test.YtgknjgionicncaaGreatJVerdictRight11
namespace Go.Proofs.YtgknjgionicncaaGreat.L
open Go.RowKit Go.Proofs.YtgknjgionicncaaGreat.Q Go.Proofs.YtgknjgionicncaaGreatW.PrintWords Go.Proofs.YtgknjgionicncaaGreatW.PrintLast Go.Proofs.YtgknjgionicncaaGreatW.PrintMore Go.Proofs.YtgknjgionicncaaGreatW.Lib Go.Proofs.YtgknjgionicncaaGreatW.MapB
set_option linter.unusedVariables false
set_option maxHeartbeats 1000000 in
set_option maxRecDepth 100000 in
theorem cycles_right (ps : List Int) (hp : inR ps.length ps) (hl : ps.length ≤ 1000000) (A0 : Option Addr) (c0 B : Nat) (w0 w : World) (hr0 : Kd.C (Kd.int .i64) w0 A0 ps.length ps) (hb0 : Below w0.heap.size w0 w) (hBb : w0.heap.size ≤ B) (hbox : Boxed w B 4 (.bool true)) :
  Calls Tryz.prog 106 #[.slice A0 ps.length c0, .func (.func 126) #[] #[.pointer (some ⟨B, 0, none⟩)]] w fun e w' => e = .returned (.tuple #[]) ∧ Boxed w' B 4 (.bool (decide ((cycZ ps ps.length).2 = []))) ∧ Below w0.heap.size w0 w' := by
 have hmk := print_make 43 3 .i64 8 Tryz.underlying43 (by kernel_rfl) (by omega) ps.length (by omega)
 have HR0 := Aside0.mk hr0
 have HB0 := Aside0.mk (fun o => below_alloc hb0 o)
 have HX := Aside0.mk (fun o => hbox.alloc o)
 have HBg := Aside0.mk hbox.lt
 have HP := Aside0.mk hp
 have HL := Aside0.mk hl
 have HI := Aside0.mk (cyc_inv hp)
 have hn0 : decide ((ps.length : Int) < 0) = false := decide_eq_false (by omega)
 have hnm : decide ((9223372036854775807 : Int) < (ps.length : Int)) = false := decide_eq_false (by omega)
 clear hr0 hb0 hbox hp hl
 go_enter Tryz.func106, Tryz.ntmps106
 go_wp2_with fail
 have HG0 : Aside0 (rowB (w.alloc (.cells (madeCells #[Value.int .i64 0] ps.length) 3)) w.heap.size (cycZ ps 0).1) := ⟨by
  show _ = some (Obj.cells ((List.replicate ps.length (0 : Int)).map (Value.int .i64)).toArray 3 (0, 0))
  rw [List.map_replicate]
  exact heap_made w _ _ _⟩
 generalize hgg : w.heap.size = g at *
 have HWg := Aside0.mk (show w0.heap.size ≤ g from by have := HBg.out; omega)
 go_loopg [12] ps.length (fun kq v12 w' => ∃ x : Nat, v12 = .int .i64 (x : Int) ∧ Aside0 (x + kq = ps.length) ∧ Aside0 (rowB w' g (cycZ ps x).1) ∧ Aside0 (Boxed w' B 4 (.bool (decide ((cycZ ps x).2 = [])))) ∧ Aside0 (Below w0.heap.size w0 w'))
 case atStart => exact ⟨0, rfl, ⟨by omega⟩, HG0, ⟨HX.out _⟩, ⟨HB0.out _⟩⟩
 case round =>
  clear HG0 HB0 HX
  obtain ⟨x, rfl, HK, HG, HX, HB⟩ := hrel
  by_cases c1 : (x : Int) < (ps.length : Int)
  ·have c1b := decide_eq_true c1
   have HI1 := Aside0.mk (HI.out x (by omega)).1
   have HW1 := Aside0.mk (show wrap64 ((x : Int) + 1) = ((x + 1 : Nat) : Int) from by unfold wrap64; have := HL.out; omega)
   have HN := Aside0.mk (show cycZ ps (x + 1) = roundC ps (cycZ ps x) (x : Int) from rfl)
   have C1 := Aside0.mk c1
   replace c1 := eq_true c1
   obtain ⟨k1, rfl⟩ : ∃ k1, gk = k1 + 1 := ⟨gk - 1, by have := HK.out; have := C1.out; omega⟩
   go_wp2_with fail
   apply wp_scope_straight
   go_wp2_with fail
   apply wp_label
   rename_i hK
   refine hK _ _ ?_
   clear hK
   apply wp_seq_k
   intro _ _
   go_cut [6] (fun v6 wc => ∃ (a : Int) (st : List Int), v6 = .int .i64 a ∧ Aside0 (go1 ps (ps.length + 1) (cycZ ps x).1 (x : Int) = (st, a)) ∧ Aside0 (rowB wc g st) ∧ Aside0 (Boxed wc B 4 (.bool (decide ((roundC ps (cycZ ps x) (x : Int)).2 = [])))) ∧ Aside0 (Below w0.heap.size w0 wc))
   case first =>
    go_wp2_with fail
    go_loopg [6] (ps.length + 1) (fun kq v6 w' => ∃ (a : Int) (st : List Int), v6 = .int .i64 a ∧ Aside0 (go1 ps kq st a = go1 ps (ps.length + 1) (cycZ ps x).1 (x : Int) ∧ a < ps.length ∧ st.length = ps.length ∧ zeros st < kq ∧ ∀ j : Int, 0 ≤ j → j < ps.length → rd st j = 0 ∨ rd st j = 1 ∨ rd st j = 2) ∧ Aside0 (rowB w' g st) ∧ Aside0 (Boxed w' B 4 (.bool (decide ((cycZ ps x).2 = [])))) ∧ Aside0 (Below w0.heap.size w0 w'))
    case atStart => exact ⟨x, _, rfl, ⟨rfl, by have := C1.out; omega, HI1.out.len, by have := zeros_le (cycZ ps x).1; have := HI1.out.len; omega, fun j j0 j1 => (HI1.out.two j j0 j1).elim .inl (fun h => .inr (.inr h))⟩, HG, HX, HB⟩
    case round =>
     clear HG HX HB
     obtain ⟨a, st, rfl, HA, HG, HX, HB⟩ := hrel
     obtain ⟨kf, rfl⟩ : ∃ kf, gk = kf + 1 := ⟨gk - 1, by have := HA.out.2.2.2.1; omega⟩
     by_cases c2 : a < 0
     ·have c2b := decide_eq_true c2
      have H1 : Aside0 (go1 ps (ps.length + 1) (cycZ ps x).1 (x : Int) = (st, a)) := ⟨by rw [← HA.out.1]; unfold go1; rw [if_neg (by omega)]⟩
      have H2 : Aside0 ((roundC ps (cycZ ps x) (x : Int)).2 = (cycZ ps x).2) := ⟨by unfold roundC; dsimp only; rw [H1.out]; dsimp only; rw [if_neg (by omega)]⟩
      replace c2 := eq_true c2
      go_wp2_with fail
      go_meet
      case rel => exact ⟨a, st, rfl, H1, HG, ⟨by rw [H2.out]; exact HX.out⟩, HB⟩
     ·have c2b := decide_eq_false c2
      have p2 : 0 ≤ a := by omega
      have c3 : a < (ps.length : Int) := HA.out.2.1
      have hcell := rowB_cell HG.out p2 (by rw [HA.out.2.2.1]; exact c3)
      have hcol := HA.out.2.2.2.2 a p2 c3
      replace c2 := eq_false c2
      replace p2 := eq_true p2
      replace c3 := eq_true c3
      rcases hcol with hv | hv | hv
      ·have H1 : Aside0 (go1 ps kf (st.set a.toNat 1) (rd ps a) = go1 ps (ps.length + 1) (cycZ ps x).1 (x : Int)) := ⟨by rw [← HA.out.1, go1_on ⟨of_eq_true p2, hv⟩]⟩
       have HZ := Aside0.mk (zeros_set (of_eq_true p2) (by rw [HA.out.2.2.1]; exact of_eq_true c3) hv)
       have HR := Aside0.mk (inR_rd HP.out (of_eq_true p2) (of_eq_true c3))
       have HS := Aside0.mk (rowB_set HG.out a.toNat 1)
       have hgs := grownBy_set wr g a.toNat (.int .i64 1)
       have HXs := Aside0.mk (HX.out.kept hgs (fun e => by have h := Option.some.inj e; have := HBg.out; omega))
       have HBs := Aside0.mk (HB.out.grown hgs HB.out.size (fun j hj => by cases hj; exact HWg.out))
       have hfz := rowB_frozen HG.out a.toNat
       have HSet := Aside0.mk (fun (j : Int) (hj : 0 ≤ j) => rdC_set st a j 1 (of_eq_true p2) (by rw [HA.out.2.2.1]; exact of_eq_true c3) hj)
       obtain ⟨ad, e1, hx⟩ := Kd.at_int (Kd.C_below HR0.out HBs.out) a (of_eq_true p2) (of_eq_true c3)
       cases e1
       clear hgs
       rw [hv] at hcell
       go_wp2_with fail
       go_roundg kf
       case measure => omega
       case rel => exact ⟨rd ps a, st.set a.toNat 1, rfl, ⟨H1.out, HR.out.2, by rw [List.length_set]; exact HA.out.2.2.1, by have := HZ.out; have := HA.out.2.2.2.1; omega, fun j j0 j1 => by
        rw [HSet.out j j0]
        split
        ·exact .inr (.inl rfl)
        ·exact HA.out.2.2.2.2 j j0 j1⟩, HS, HXs, HBs⟩
      ·have H1 : Aside0 (go1 ps (ps.length + 1) (cycZ ps x).1 (x : Int) = (st, a)) := ⟨by rw [← HA.out.1, go1_stop (by omega)]⟩
       have H2 : Aside0 ((roundC ps (cycZ ps x) (x : Int)).2 ≠ []) := ⟨by unfold roundC; dsimp only; rw [H1.out]; dsimp only; rw [if_pos ⟨of_eq_true p2, hv⟩]; simp⟩
       rw [hv] at hcell
       go_wp2_with (go_at_call 126; refine (no_calls _ _ _ _ HX.out).mono ?_; rintro e w3 ⟨rfl, hb3, hg3⟩; have HX3 := Aside0.mk hb3; have HG3 := Aside0.mk (rowB_kept HG.out hg3 (fun e => by have h := Option.some.inj e; have := HBg.out; omega)); have HB3 := Aside0.mk (HB.out.grown hg3 HB.out.size (fun j hj => by cases hj; exact hBb)); clear hb3 hg3)
       go_meet
       case rel => exact ⟨a, st, rfl, H1, HG3, ⟨by rw [decide_eq_false H2.out]; exact HX3.out⟩, HB3⟩
      ·have H1 : Aside0 (go1 ps (ps.length + 1) (cycZ ps x).1 (x : Int) = (st, a)) := ⟨by rw [← HA.out.1, go1_stop (by omega)]⟩
       have H2 : Aside0 ((roundC ps (cycZ ps x) (x : Int)).2 = (cycZ ps x).2) := ⟨by unfold roundC; dsimp only; rw [H1.out]; dsimp only; rw [if_neg (by omega)]⟩
       rw [hv] at hcell
       go_wp2_with fail
       go_meet
       case rel => exact ⟨a, st, rfl, H1, HG, ⟨by rw [H2.out]; exact HX.out⟩, HB⟩
   case rest =>
    obtain ⟨a, st, rfl, H1, HG2, HX2, HB2⟩ := hcut
    obtain ⟨w5, rfl⟩ : ∃ w5 : World, w5 = wc := ⟨_, rfl⟩
    have HLen := Aside0.mk (show st.length = ps.length by have h := go1_len ps (ps.length + 1) (cycZ ps x).1 (x : Int); rw [H1.out] at h; exact h.trans HI1.out.len)
    clear HG HX HB
    go_wp2_with fail
    go_loopg [6] (ps.length + 1) (fun kq v6 w' => ∃ (a : Int) (sb : List Int), v6 = .int .i64 a ∧ Aside0 (go2 ps kq sb a = go2 ps (ps.length + 1) st (x : Int) ∧ a < ps.length ∧ sb.length = ps.length ∧ ones sb < kq) ∧ Aside0 (rowB w' g sb) ∧ Aside0 (Boxed w' B 4 (.bool (decide ((roundC ps (cycZ ps x) (x : Int)).2 = [])))) ∧ Aside0 (Below w0.heap.size w0 w'))
    case atStart => exact ⟨x, st, rfl, ⟨rfl, by have := C1.out; omega, HLen.out, by have : ones st ≤ st.length := List.countP_le_length; have := HLen.out; omega⟩, HG2, HX2, HB2⟩
    case round =>
     clear HG2 HX2 HB2
     obtain ⟨a, sb, rfl, HA, HG, HX, HB⟩ := hrel
     obtain ⟨kf, rfl⟩ : ∃ kf, gk = kf + 1 := ⟨gk - 1, by have := HA.out.2.2.2; omega⟩
     by_cases c2 : a < 0
     ·have c2b := decide_eq_true c2
      have HE := Aside0.mk (show (cycZ ps (x + 1)).1 = sb from by rw [HN.out]; unfold roundC; dsimp only; rw [H1.out]; dsimp only; rw [← HA.out.1, go2_stop (fun h => by omega)])
      have c2g : decide (0 ≤ a) = false := decide_eq_false (by omega)
      have c2h : (0 ≤ a) = False := eq_false (by omega)
      clear c2 c2b
      go_wp2_with fail
      rw [Exit.noGoto_normal]
      go_wp2_with fail
      go_roundg k1
      case measure => omega
      case rel => exact ⟨x + 1, by rw [HW1.out], ⟨by have := HK.out; omega⟩, ⟨by rw [HE.out]; exact HG.out⟩, ⟨by rw [HN.out]; exact HX.out⟩, HB⟩
     ·have c2b := decide_eq_false c2
      have p2 : 0 ≤ a := by omega
      have c3 : a < (ps.length : Int) := HA.out.2.1
      have hcell := rowB_cell HG.out p2 (by rw [HA.out.2.2.1]; exact c3)
      by_cases hv : rd sb a = 1
      ·have H3 : Aside0 (go2 ps kf (sb.set a.toNat 2) (rd ps a) = go2 ps (ps.length + 1) st (x : Int)) := ⟨by rw [← HA.out.1, go2_on ⟨p2, hv⟩]⟩
       have HZ := Aside0.mk (ones_set p2 (by rw [HA.out.2.2.1]; exact c3) hv)
       have HR := Aside0.mk (inR_rd HP.out p2 c3)
       have HS := Aside0.mk (rowB_set HG.out a.toNat 2)
       have hgs := grownBy_set wr g a.toNat (.int .i64 2)
       have HXs := Aside0.mk (HX.out.kept hgs (fun e => by have h := Option.some.inj e; have := HBg.out; omega))
       have HBs := Aside0.mk (HB.out.grown hgs HB.out.size (fun j hj => by cases hj; exact HWg.out))
       have hfz := rowB_frozen HG.out a.toNat
       obtain ⟨ad, e1, hx⟩ := Kd.at_int (Kd.C_below HR0.out HBs.out) a p2 c3
       cases e1
       clear hgs
       replace c2 := eq_false c2
       replace p2 := eq_true p2
       replace c3 := eq_true c3
       rw [hv] at hcell
       go_wp2_with fail
       go_roundg kf
       case measure => omega
       case rel => exact ⟨rd ps a, sb.set a.toNat 2, rfl, ⟨H3.out, HR.out.2, by rw [List.length_set]; exact HA.out.2.2.1, by have := HZ.out; have := HA.out.2.2.2; omega⟩, HS, HXs, HBs⟩
      ·have hvb := decide_eq_false hv
       have HE := Aside0.mk (show (cycZ ps (x + 1)).1 = sb from by rw [HN.out]; unfold roundC; dsimp only; rw [H1.out]; dsimp only; rw [← HA.out.1, go2_stop (fun h => hv h.2)])
       replace c2 := eq_false c2
       replace p2 := eq_true p2
       replace c3 := eq_true c3
       generalize hq : rd sb a = q at *
       go_wp2_with fail
       rw [Exit.noGoto_normal]
       go_wp2_with fail
       go_roundg k1
       case measure => omega
       case rel => exact ⟨x + 1, by rw [HW1.out], ⟨by have := HK.out; omega⟩, ⟨by rw [HE.out]; exact HG.out⟩, ⟨by rw [HN.out]; exact HX.out⟩, HB⟩
  ·have c1b := decide_eq_false c1
   have hx : x = ps.length := by have := HK.out; omega
   subst hx
   go_wp2
   go_end0
   exact ⟨rfl, HX.out, HB.out⟩
end Go.Proofs.YtgknjgionicncaaGreat.L
namespace Go.Proofs.YtgknjgionicncaaGreat.L
open Go.RowKit Go.Proofs.YtgknjgionicncaaGreat.Q Go.Proofs.YtgknjgionicncaaGreatW.PrintWords Go.Proofs.YtgknjgionicncaaGreatW.Lib
set_option linter.unusedVariables false
def rightB (ps : List Int) : Bool := ps.all (fun p => decide (-1 ≤ p) && decide (p < ps.length)) && (List.range ps.length).all (fun i : Nat => decide (upL ps i (ps.length + 1) < 0))
theorem rightB_cyc {ps : List Int} (hp : inR ps.length ps) : rightB ps = decide ((cycZ ps ps.length).2 = []) := by
 rw [Bool.eq_iff_iff, decide_eq_true_eq, cyc_none hp]
 unfold rightB
 rw [Bool.and_eq_true, List.all_eq_true, List.all_eq_true]
 constructor
 ·rintro ⟨_, h⟩ a a0 a1
  have := h a.toNat (List.mem_range.2 (by omega))
  rw [decide_eq_true_eq, show ((a.toNat : Nat) : Int) = a by omega] at this
  exact ⟨_, this⟩
 ·intro h
  refine ⟨fun p hm => by have := hp.2 p hm; simp only [Bool.and_eq_true, decide_eq_true_eq]; exact this, fun i hi => ?_⟩
  have hi' := List.mem_range.1 hi
  rw [decide_eq_true_eq]
  exact (ends_in hp (by omega)).1 (h i (by omega) (by omega))
end Go.Proofs.YtgknjgionicncaaGreat.L
namespace Go.Proofs.YtgknjgionicncaaGreat.L
open Go.RowKit Go.Proofs.YtgknjgionicncaaGreat.Q Go.Proofs.YtgknjgionicncaaGreatW.PrintWords Go.Proofs.YtgknjgionicncaaGreatW.PrintLast Go.Proofs.YtgknjgionicncaaGreatW.PrintMore Go.Proofs.YtgknjgionicncaaGreatW.Lib Go.Proofs.YtgknjgionicncaaGreatW.MapB
set_option linter.unusedVariables false
def okP (n : Nat) (p : Int) : Bool := decide (-1 ≤ p) && decide (p < n)
theorem rightB_bad {ps : List Int} {x : Int} (h0 : 0 ≤ x) (h1 : x < ps.length) (hb : okP ps.length (rd ps x) = false) : rightB ps = false := by
 have hlt : x.toNat < ps.length := by omega
 have e : rd ps x = ps[x.toNat] := by simp [rd, List.getD, hlt]
 rw [e] at hb
 unfold rightB
 rw [Bool.and_eq_false_iff]
 left
 rw [Bool.eq_false_iff]
 intro h
 have := List.all_eq_true.1 h ps[x.toNat] (List.getElem_mem hlt)
 unfold okP at hb
 rw [hb] at this
 cases this
set_option maxHeartbeats 1000000 in
set_option maxRecDepth 100000 in
theorem right_calls (ps : List Int) (hl : ps.length ≤ 1000000) (A0 : Option Addr) (c0 : Nat) (w : World) (hr0 : Kd.C (Kd.int .i64) w A0 ps.length ps) (hc0 : ps.length ≤ c0) :
  Calls Tryz.prog 89 #[.slice A0 ps.length c0] w fun e w' => e = .returned (.bool (rightB ps)) ∧ Below w.heap.size w w' := by
 have hmf : ∀ (fn : Fn) (first cap : Array Value) (w : World), (Instr.makeFunc fn first cap).run Tryz.prog w = .ok (.func fn first cap) w := fun _ _ _ _ => rfl
 have HR0 := Aside0.mk hr0
 have HL := Aside0.mk hl
 have HB0 := Aside0.mk (Below.refl w.heap.size w)
 have QC := Aside0.mk (fun hp B w1 h1 h2 h3 => cycles_right ps hp hl A0 c0 B w w1 hr0 h1 h2 h3)
 clear hr0 hl hc0
 go_enter Tryz.func89, Tryz.ntmps89
 go_wp2_with fail
 go_loopg [8] ps.length (fun kq v8 w' => ∃ x8 : Int, v8 = .int .i64 x8 ∧ Aside0 (0 ≤ x8 ∧ x8 + kq = ps.length ∧ ∀ j : Nat, (j : Int) < x8 → okP ps.length (rd ps j) = true) ∧ Aside0 (w' = w))
 case atStart => exact ⟨0, rfl, ⟨by omega, by omega, fun j hj => by omega⟩, ⟨rfl⟩⟩
 case round =>
  obtain ⟨x8, rfl, HK, HW⟩ := hrel
  obtain rfl := HW.out
  by_cases c1 : x8 < (ps.length : Int)
  ·have c1b := decide_eq_true c1
   have p1 : 0 ≤ x8 := HK.out.1
   obtain ⟨ad1, e1, hx0⟩ := Kd.at_int HR0.out x8 p1 c1
   cases e1
   have W1 := Aside0.mk (show wrap64 (x8 + 1) = x8 + 1 from by unfold wrap64; have := HL.out; omega)
   have HBad := Aside0.mk (fun h => rightB_bad (ps := ps) (x := x8) p1 c1 h)
   have P1 := Aside0.mk p1
   have Q1 := Aside0.mk c1
   obtain ⟨k1, rfl⟩ : ∃ k1, gk = k1 + 1 := ⟨gk - 1, by have := HK.out; omega⟩
   replace p1 := eq_true p1
   replace c1 := eq_true c1
   generalize hq : rd ps x8 = p at *
   have HQ := Aside0.mk hq
   clear hq
   by_cases c2 : p < -1
   ·have c2b := decide_eq_true c2
    have HF := Aside0.mk (HBad.out (by unfold okP; rw [decide_eq_false (by omega)]; rfl))
    replace c2 := eq_true c2
    go_wp2_with fail
    go_ret
    exact ⟨by rw [HF.out]; rfl, HB0.out⟩
   ·have c2b := decide_eq_false c2
    by_cases c3 : (ps.length : Int) ≤ p
    ·have c3b := decide_eq_true c3
     have HF := Aside0.mk (HBad.out (by unfold okP; rw [decide_eq_false (show ¬ p < ps.length by omega)]; simp))
     replace c2 := eq_false c2
     replace c3 := eq_true c3
     go_wp2_with fail
     go_ret
     exact ⟨by rw [HF.out]; rfl, HB0.out⟩
    ·have c3b := decide_eq_false c3
     have HO := Aside0.mk (show okP ps.length p = true from by unfold okP; rw [decide_eq_true (show -1 ≤ p by omega), decide_eq_true (show p < ps.length by omega)]; rfl)
     replace c2 := eq_false c2
     replace c3 := eq_false c3
     go_wp2_with fail
     go_roundg k1
     case measure => omega
     case rel => exact ⟨x8 + 1, by rw [W1.out], ⟨by have := P1.out; omega, by have := HK.out; omega, fun j hj => by
      by_cases e : (j : Int) = x8
      ·rw [e, HQ.out]; exact HO.out
      ·exact HK.out.2.2 j (by omega)⟩, ⟨rfl⟩⟩
  ·have c1b := decide_eq_false c1
   have hin : inR ps.length ps := ⟨rfl, fun p hp => by
    obtain ⟨j, hj, rfl⟩ := List.getElem_of_mem hp
    have h := HK.out.2.2 j (by have := HK.out; omega)
    have e : rd ps (j : Int) = ps[j] := by simp [rd, List.getD, hj]
    rw [e] at h
    unfold okP at h
    rw [Bool.and_eq_true, decide_eq_true_eq, decide_eq_true_eq] at h
    exact h⟩
   have QR := Aside0.mk (QC.out hin wr.heap.size (wr.alloc (.cells #[.bool true] 4)) (below_alloc HB0.out _) (Nat.le_refl _) (Boxed.new _ _ _))
   have HE := Aside0.mk (rightB_cyc hin)
   clear hin QC c1
   go_wp2_with (go_at_call 106; refine QR.out.mono ?_; rintro e w1 ⟨rfl, hb, hbl⟩; have hcb := hb.cell; have HB := Aside0.mk hbl; clear hb hbl)
   go_ret
   exact ⟨by rw [HE.out]; rfl, HB.out⟩
end Go.Proofs.YtgknjgionicncaaGreat.L
namespace Go.Proofs.YtgknjgionicncaaGreat.L
open Go.RowKit Go.Proofs.YtgknjgionicncaaGreatW.PrintWords Go.Proofs.YtgknjgionicncaaGreatW.Lib
set_option linter.unusedVariables false
def kidsL (ps : List Int) (x : Int) : Nat → List Int
 | 0 => []
 | k + 1 => if rd ps (k : Int) = x then kidsL ps x k ++ [(k : Int)] else kidsL ps x k
theorem kidsL_len (ps : List Int) (x : Int) : ∀ k, (kidsL ps x k).length ≤ k
 | 0 => Nat.le_refl _
 | k + 1 => by
  have := kidsL_len ps x k
  unfold kidsL
  split
  ·rw [List.length_append, List.length_singleton]; omega
  ·omega
theorem kidsL_mem (ps : List Int) (x y : Int) : ∀ k, y ∈ kidsL ps x k ↔ 0 ≤ y ∧ y < k ∧ rd ps y = x
 | 0 => by simp only [kidsL, List.not_mem_nil, false_iff]; omega
 | k + 1 => by
  have ih := kidsL_mem ps x y k
  unfold kidsL
  split
  ·rename_i c
   rw [List.mem_append, List.mem_singleton, ih]
   constructor
   ·rintro (h | h)
    ·exact ⟨h.1, by omega, h.2.2⟩
    ·rw [h]; exact ⟨by omega, by omega, c⟩
   ·rintro ⟨h0, h1, h2⟩
    by_cases e : y = (k : Int)
    ·exact .inr e
    ·exact .inl ⟨h0, by omega, h2⟩
  ·rename_i c
   rw [ih]
   constructor
   ·rintro h
    exact ⟨h.1, by omega, h.2.2⟩
   ·rintro ⟨h0, h1, h2⟩
    refine ⟨h0, ?_, h2⟩
    by_cases e : y = (k : Int)
    ·rw [e] at h2; exact absurd h2 c
    ·omega
end Go.Proofs.YtgknjgionicncaaGreat.L
namespace Go.Proofs.YtgknjgionicncaaGreat.L
open Go.RowKit Go.Proofs.YtgknjgionicncaaGreat.Q Go.Proofs.YtgknjgionicncaaGreatW.PrintWords Go.Proofs.YtgknjgionicncaaGreatW.Lib
set_option linter.unusedVariables false
abbrev Item := S75
def rowF (ps : List Int) : Nat → Int → Int → List Item
 | 0, _, _ => []
 | f + 1, p, d => (kidsL ps p ps.length).flatMap (fun i => (⟨i, d, p⟩ : Item) :: rowF ps f i (d + 1))
def rowL (ps : List Int) : List Item := if rightB ps = true then rowF ps (ps.length + 1) (-1) 0 else []
def deepP (ps : List Int) : Nat → Int → Prop
 | 0, p => kidsL ps p ps.length = []
 | f + 1, p => ∀ i ∈ kidsL ps p ps.length, deepP ps f i
theorem kid_iff {ps : List Int} {p i : Int} : i ∈ kidsL ps p ps.length ↔ 0 ≤ i ∧ i < ps.length ∧ rd ps i = p := kidsL_mem ps p i ps.length
theorem Walk.snoc {ps : List Int} {q : Int} {L : List Int} {i : Int} (h : Walk ps q L i) (h0 : 0 ≤ i) : Walk ps q (L ++ [i]) (rd ps i) := h.app (.step h0 (.none _))
theorem deep_of (ps : List Int) : ∀ (f : Nat) (p : Int), (∀ (q : Int) L, 0 ≤ q → q < ps.length → Walk ps q L p → L.length ≠ f + 1) → deepP ps f p
 | 0, p, h => by
  show kidsL ps p ps.length = []
  cases hk : kidsL ps p ps.length with
  | nil => rfl
  | cons i K =>
   have hi : i ∈ kidsL ps p ps.length := by rw [hk]; exact List.mem_cons_self ..
   obtain ⟨h0, h1, h2⟩ := kid_iff.1 hi
   have := (Walk.none i : Walk ps i [] i).snoc h0
   rw [h2] at this
   exact absurd rfl (h i _ h0 h1 this)
 | f + 1, p, h => by
  intro i hi
  obtain ⟨h0, h1, h2⟩ := kid_iff.1 hi
  refine deep_of ps f i (fun q L q0 q1 hw hl => ?_)
  have := hw.snoc h0
  rw [h2] at this
  exact h q _ q0 q1 this (by rw [List.length_append, List.length_singleton, hl])
theorem Walk.nonneg {ps : List Int} {q : Int} {L : List Int} {b : Int} (h : Walk ps q L b) : ∀ j, j < L.length → 0 ≤ upL ps q j := by
 induction h with
 | none a => intro j hj; simp at hj
 | @step a L b h0 _ ih =>
  intro j hj
  cases j with
  | zero => exact h0
  | succ j =>
   show 0 ≤ (if a < 0 then a else upL ps (rd ps a) j)
   rw [if_neg (by omega)]
   exact ih j (by rw [List.length_cons] at hj; omega)
def ancB (ps : List Int) (p x : Int) (m : Nat) : Bool := decide (0 ≤ upL ps x (m - 1)) && decide (upL ps x m = p)
def ancN (ps : List Int) (p x : Int) : Nat → Nat
 | 0 => 0
 | f + 1 => ancN ps p x f + (if ancB ps p x (f + 1) = true then 1 else 0)
theorem upL_succ (ps : List Int) (x : Int) (m : Nat) (h : 0 ≤ upL ps x m) : upL ps x (m + 1) = rd ps (upL ps x m) := by
 rw [upL_add ps m 1 x]
 show (if upL ps x m < 0 then upL ps x m else upL ps (rd ps (upL ps x m)) 0) = _
 rw [if_neg (by omega)]; rfl
theorem kidsL_nodup (ps : List Int) (p : Int) : ∀ k, (kidsL ps p k).Nodup
 | 0 => List.nodup_nil
 | k + 1 => by
  have ih := kidsL_nodup ps p k
  unfold kidsL
  split
  ·refine List.nodup_append.2 ⟨ih, by simp, ?_⟩
   intro a ha b hb
   rw [List.mem_singleton] at hb
   have := (kidsL_mem ps p a k).1 ha
   omega
  ·exact ih
def placeN (l : List Item) (x : Int) : Nat := l.countP (fun it => decide (it.f0 = x))
theorem placeN_flat (x : Int) (g : Int → List Item) : ∀ K : List Int, placeN (K.flatMap g) x = (K.map fun i => placeN (g i) x).sum
 | [] => rfl
 | i :: K => by
  have := placeN_flat x g K
  unfold placeN at *
  rw [List.flatMap_cons, List.countP_append, this]; simp
theorem sum_zero {K : List Int} {f : Int → Nat} (h : ∀ i ∈ K, f i = 0) : (K.map f).sum = 0 := by
 induction K with
 | nil => rfl
 | cons a K ih => simp [h a (List.mem_cons_self ..), ih (fun i hi => h i (List.mem_cons_of_mem _ hi))]
theorem sum_one {K : List Int} (nd : K.Nodup) (c : Int) (P : Int → Bool) (hP : ∀ i, P i = true → i = c) : (K.map fun i => if P i = true then 1 else 0).sum = if c ∈ K ∧ P c = true then 1 else 0 := by
 induction K with
 | nil => simp
 | cons a K ih =>
  obtain ⟨n1, n2⟩ := List.nodup_cons.1 nd
  simp only [List.map_cons, List.sum_cons]
  rw [ih n2]
  by_cases hc : c = a
  ·subst hc
   by_cases hp : P c = true
   ·rw [if_pos hp, if_neg (fun h => n1 h.1), if_pos ⟨List.mem_cons_self .., hp⟩]
   ·rw [if_neg hp, if_neg (fun h => hp h.2), if_neg (fun h => hp h.2)]
  ·have hpa : ¬ P a = true := fun h => hc (hP a h).symm
   rw [if_neg hpa, Nat.zero_add]
   by_cases hm : c ∈ K ∧ P c = true
   ·rw [if_pos hm, if_pos ⟨List.mem_cons_of_mem _ hm.1, hm.2⟩]
   ·rw [if_neg hm, if_neg (fun h => hm ⟨(List.mem_cons.1 h.1).resolve_left hc, h.2⟩)]
theorem sum_add (K : List Int) (f g : Int → Nat) : (K.map fun i => f i + g i).sum = (K.map f).sum + (K.map g).sum := by
 induction K with
 | nil => rfl
 | cons a K ih => simp only [List.map_cons, List.sum_cons]; omega
theorem anc_kids (ps : List Int) (p x : Int) (h0 : 0 ≤ x) (h1 : x < ps.length) (hin : inR ps.length ps) : ∀ f : Nat, ((kidsL ps p ps.length).map fun i => ancN ps i x f).sum + (if ancB ps p x 1 = true then 1 else 0) = ancN ps p x (f + 1)
 | 0 => by
  rw [sum_zero (f := fun i => ancN ps i x 0) (fun i _ => rfl)]
  simp [ancN]
 | f + 1 => by
  have ih := anc_kids ps p x h0 h1 hin f
  have e : (fun i => ancN ps i x (f + 1)) = fun i => ancN ps i x f + (if ancB ps i x (f + 1) = true then 1 else 0) := rfl
  rw [e, sum_add]
  have e2 : ancN ps p x (f + 1 + 1) = ancN ps p x (f + 1) + (if ancB ps p x (f + 1 + 1) = true then 1 else 0) := rfl
  rw [e2, ← ih]
  have key : ((kidsL ps p ps.length).map fun i => if ancB ps i x (f + 1) = true then 1 else 0).sum = if ancB ps p x (f + 1 + 1) = true then 1 else 0 := by
   rw [sum_one (kidsL_nodup ps p _) (upL ps x (f + 1)) (fun i => ancB ps i x (f + 1)) (fun i hi => by
    unfold ancB at hi
    rw [Bool.and_eq_true, decide_eq_true_eq, decide_eq_true_eq] at hi
    exact hi.2.symm)]
   have hiff : (upL ps x (f + 1) ∈ kidsL ps p ps.length ∧ ancB ps (upL ps x (f + 1)) x (f + 1) = true) ↔ ancB ps p x (f + 1 + 1) = true := by
    unfold ancB
    simp only [Nat.add_sub_cancel, Bool.and_eq_true, decide_eq_true_eq, and_true]
    constructor
    ·rintro ⟨hk, h⟩
     obtain ⟨k0, k1, k2⟩ := kid_iff.1 hk
     exact ⟨k0, by rw [upL_succ ps x (f + 1) k0]; exact k2⟩
    ·rintro ⟨k0, k1⟩
     rw [upL_succ ps x (f + 1) k0] at k1
     have hprev : 0 ≤ upL ps x f := by
      rcases Int.lt_or_le (upL ps x f) 0 with c | c
      ·have := upL_more ps f x c 1
       omega
      ·exact c
     have hlt : ∀ m : Nat, 0 ≤ upL ps x m → upL ps x m < ps.length := by
      intro m
      induction m with
      | zero => intro _; exact h1
      | succ m ihm =>
       intro hm
       have hp0 : 0 ≤ upL ps x m := by
        rcases Int.lt_or_le (upL ps x m) 0 with c | c
        ·have := upL_more ps m x c 1
         omega
        ·exact c
       rw [upL_succ ps x m hp0]
       exact (inR_rd hin hp0 (ihm hp0)).2
     exact ⟨kid_iff.2 ⟨k0, hlt _ k0, k1⟩, hprev⟩
   by_cases c : ancB ps p x (f + 1 + 1) = true
   ·rw [if_pos c, if_pos (hiff.2 c)]
   ·rw [if_neg c, if_neg (fun h => c (hiff.1 h))]
  rw [key]
  omega
theorem row_count (ps : List Int) (hin : inR ps.length ps) (x : Int) (h0 : 0 ≤ x) (h1 : x < ps.length) : ∀ (f : Nat) (p d : Int), placeN (rowF ps f p d) x = ancN ps p x f
 | 0, p, d => rfl
 | f + 1, p, d => by
  unfold rowF
  rw [placeN_flat, ← anc_kids ps p x h0 h1 hin f]
  have e : (fun i => placeN ((⟨i, d, p⟩ : Item) :: rowF ps f i (d + 1)) x) = fun i => ancN ps i x f + (if decide (i = x) = true then 1 else 0) := by
   funext i
   have := row_count ps hin x h0 h1 f i (d + 1)
   unfold placeN at *
   rw [List.countP_cons, this]
  rw [e, sum_add, sum_one (kidsL_nodup ps p _) x (fun i => decide (i = x)) (fun i hi => by simpa using hi)]
  congr 1
  have hiff : (x ∈ kidsL ps p ps.length ∧ decide (x = x) = true) ↔ ancB ps p x 1 = true := by
   unfold ancB
   simp only [Nat.sub_self, Bool.and_eq_true, decide_eq_true_eq, and_true]
   rw [kid_iff, upL_succ ps x 0 h0]
   show _ ↔ 0 ≤ x ∧ rd ps x = p
   constructor
   ·rintro ⟨_, _, h⟩; exact ⟨h0, h⟩
   ·rintro ⟨_, h⟩; exact ⟨h0, h1, h⟩
  by_cases c : ancB ps p x 1 = true
  ·rw [if_pos c, if_pos (hiff.2 c)]
  ·rw [if_neg c, if_neg (fun h => c (hiff.1 h))]
theorem anc_one (ps : List Int) (x : Int) (hm1 : ∀ m, -1 ≤ upL ps x m) (h0 : 0 ≤ x) : ∀ f, ancN ps (-1) x f = if upL ps x f < 0 then 1 else 0
 | 0 => by
  have : ¬ upL ps x 0 < 0 := by show ¬ x < 0; omega
  rw [if_neg this]; rfl
 | f + 1 => by
  have ih := anc_one ps x hm1 h0 f
  show ancN ps (-1) x f + (if ancB ps (-1) x (f + 1) = true then 1 else 0) = _
  rw [ih]
  unfold ancB
  rw [Nat.add_sub_cancel]
  by_cases c : upL ps x f < 0
  ·have h2 := upL_more ps f x c 1
   rw [if_pos c, if_pos h2, if_neg (by rw [decide_eq_false (show ¬ 0 ≤ upL ps x f by omega)]; simp)]
  ·rw [if_neg c, decide_eq_true (show 0 ≤ upL ps x f by omega), Bool.true_and]
   have := hm1 (f + 1)
   by_cases d : upL ps x (f + 1) < 0
   ·rw [if_pos d, if_pos (decide_eq_true (by omega))]
   ·rw [if_neg d, if_neg (by rw [decide_eq_true_eq]; omega)]
theorem up_low {ps : List Int} (hin : inR ps.length ps) {x : Int} (h0 : -1 ≤ x) (h1 : x < ps.length) : ∀ m : Nat, -1 ≤ upL ps x m ∧ upL ps x m < ps.length
 | 0 => ⟨h0, h1⟩
 | m + 1 => by
  obtain ⟨a, b⟩ := up_low hin h0 h1 m
  rcases Int.lt_or_le (upL ps x m) 0 with c | c
  ·have := upL_neg ps c 1
   rw [upL_add ps m 1 x, this]
   exact ⟨a, b⟩
  ·rw [upL_succ ps x m c]
   exact inR_rd hin c b
theorem rightB_in {ps : List Int} (h : rightB ps = true) : inR ps.length ps := by
 refine ⟨rfl, fun p hp => ?_⟩
 unfold rightB at h
 rw [Bool.and_eq_true] at h
 have := List.all_eq_true.1 h.1 p hp
 simpa using this
theorem rightB_ends {ps : List Int} (h : rightB ps = true) {x : Int} (h0 : 0 ≤ x) (h1 : x < ps.length) : upL ps x (ps.length + 1) < 0 := by
 unfold rightB at h
 rw [Bool.and_eq_true] at h
 have := List.all_eq_true.1 h.2 x.toNat (List.mem_range.2 (by omega))
 rw [decide_eq_true_eq, show ((x.toNat : Nat) : Int) = x by omega] at this
 exact this
theorem rowL_count {ps : List Int} (h : rightB ps = true) {x : Int} (h0 : 0 ≤ x) (h1 : x < ps.length) : placeN (rowL ps) x = 1 := by
 have hin := rightB_in h
 unfold rowL
 rw [if_pos h, row_count ps hin x h0 h1, anc_one ps x (fun m => (up_low hin (by omega) h1 m).1) h0, if_pos (rightB_ends h h0 h1)]
theorem row_in {ps : List Int} : ∀ (f : Nat) (p d : Int), ∀ it ∈ rowF ps f p d, 0 ≤ it.f0 ∧ it.f0 < ps.length ∧ it.f2 = rd ps it.f0
 | 0, p, d, it, h => by cases h
 | f + 1, p, d, it, h => by
  unfold rowF at h
  obtain ⟨i, hi, hit⟩ := List.mem_flatMap.1 h
  obtain ⟨k0, k1, k2⟩ := kid_iff.1 hi
  rcases List.mem_cons.1 hit with e | e
  ·rw [e]; exact ⟨k0, k1, k2.symm⟩
  ·exact row_in f i (d + 1) it e
theorem count_len : ∀ (n : Nat) (l : List Int), (∀ x ∈ l, 0 ≤ x ∧ x < (n : Int)) → (∀ x : Int, 0 ≤ x → x < n → l.countP (fun y => decide (y = x)) = 1) → l.Perm ((List.range n).map fun i : Nat => (i : Int)) := by
 intro n l h1 h2
 refine List.perm_iff_count.2 fun x => ?_
 have hn : ((List.range n).map fun i : Nat => (i : Int)).Nodup := by
  rw [List.nodup_iff_pairwise_ne, List.pairwise_map]
  exact (List.nodup_range.imp fun h => by omega)
 have hc : ∀ m : List Int, m.count x = m.countP (fun y => decide (y = x)) := fun m => by
  unfold List.count
  congr 1
 by_cases c : 0 ≤ x ∧ x < n
 ·rw [hc, h2 x c.1 c.2]
  have hm : x ∈ (List.range n).map fun i : Nat => (i : Int) := List.mem_map.2 ⟨x.toNat, List.mem_range.2 (by omega), by omega⟩
  have a := List.count_pos_iff.2 hm
  have b := List.nodup_iff_count.1 hn x
  omega
 ·rw [List.count_eq_zero_of_not_mem (fun h => c (h1 x h)), List.count_eq_zero_of_not_mem (fun h => ?_)]
  obtain ⟨i, hi, rfl⟩ := List.mem_map.1 h
  exact c ⟨by omega, by have := List.mem_range.1 hi; omega⟩
theorem rowL_places {ps : List Int} (h : rightB ps = true) : ((rowL ps).map (·.f0)).Perm ((List.range ps.length).map fun i : Nat => (i : Int)) := by
 refine count_len ps.length _ (fun x hx => ?_) (fun x h0 h1 => ?_)
 ·obtain ⟨it, hit, rfl⟩ := List.mem_map.1 hx
  unfold rowL at hit
  rw [if_pos h] at hit
  have := row_in _ _ _ it hit
  exact ⟨this.1, this.2.1⟩
 ·rw [List.countP_map]
  exact rowL_count h h0 h1
theorem rowL_len {ps : List Int} (h : rightB ps = true) : (rowL ps).length = ps.length := by
 have := (rowL_places h).length_eq
 simpa using this
theorem deep_root {ps : List Int} (h : rightB ps = true) : deepP ps (ps.length + 1) (-1) := by
 refine deep_of ps _ _ (fun q L q0 q1 hw hl => ?_)
 have h1 := hw.nonneg (ps.length + 1) (by omega)
 have := rightB_ends h q0 q1
 omega
end Go.Proofs.YtgknjgionicncaaGreat.L
namespace Go.Proofs.YtgknjgionicncaaGreat.L
open Go.RowKit Go.Proofs.YtgknjgionicncaaGreatW.PrintWords Go.Proofs.YtgknjgionicncaaGreatW.PrintLast Go.Proofs.YtgknjgionicncaaGreatW.PrintMore Go.Proofs.YtgknjgionicncaaGreatW.MapB Go.Maps Go.WideMaps Go.ChangeMaps Go.MapKept Go.ChangeShapes
open Go.WideElems (Fit)
set_option linter.unusedVariables false
def gDat (zs : List Int) : DataW Unit := if zs = [] then .nil else .slice (lits .i64 zs) []
theorem lits_inj {a b : List Int} (h : lits (H := Unit) .i64 a = lits .i64 b) : a = b := by
 unfold lits at h
 exact (List.map_inj_right (fun x y hxy => by injection hxy with h; injection h)).1 h
theorem gDat_row {w : World} {base : Nat} {e : TypeId} {v : Value} {zs gs : List Int} (ho : w.ownsInts base e .i64 v zs) (h : gDat gs = rowDatum (H := Unit) .i64 v zs) : zs = gs := by
 unfold gDat at h
 rcases ho.datum (H := Unit) with ⟨hd, rfl⟩ | hd
 ·rw [hd] at h
  by_cases e : gs = []
  ·exact e.symm
  ·rw [if_neg e] at h; cases h
 ·rw [hd] at h
  by_cases e : gs = []
  ·rw [if_pos e] at h; cases h
  ·rw [if_neg e] at h
   injection h with h
   exact (lits_inj h).symm
theorem zeroRow (w : World) : (zeroValue 43).run Tryz.prog w = .ok (.slice none 0 0) w := by kernel_rfl
theorem look_det {H : Type} {P : Program} {k e t : TypeId} {R : Value → Option (DataW H × List MemPlace)} {es : Array MapEntry} {clock : Nat} {w w' : World} {b : Nat} (K : Keyed P k) (ht : P.underlying t = some (.map k e)) {z : Value} (hz : ∀ w, (zeroValue e).run P w = .ok z w)
  (hb : w.heap[b]? = some (.map es clock)) (hb' : w'.heap[b]? = some (.map es clock)) (F : Fit P k R es clock) {key : Value} {kl : Lit} (hkey : keyOf P k key = some kl) {v : Value} (hrun : (Instr.lookup t (.map (some b)) key false).run P w = .ok v w) :
  (Instr.lookup t (.map (some b)) key false).run P w' = .ok v w' := by
 have same : ∀ (a : MapEntry), a ∈ es.toList → ∀ (c : MapEntry), c ∈ es.toList → a.key = key → c.key = key → a = c := by
  intro a ha c hc e1 e2
  obtain ⟨i, hi, rfl⟩ := List.getElem_of_mem ha
  obtain ⟨j, hj, rfl⟩ := List.getElem_of_mem hc
  have hp := List.pairwise_iff_getElem.1 ((stamped_iff es clock).1 F.stamped).2.2
  rcases Nat.lt_trichotomy i j with h | h | h
  ·exact absurd (e1.trans e2.symm) (hp i j hi hj h)
  ·subst h; rfl
  ·exact absurd (e2.trans e1.symm) (hp j i hj hi h)
 rcases Maps.fit_look false K ht (hz w) hb F hkey with ⟨h1, h2, _⟩ | ⟨e0, y, hm, hke, h1, _⟩
 ·rcases Maps.fit_look false K ht (hz w') hb' F hkey with ⟨h3, _, _⟩ | ⟨e1, y, hm, hke, _, _⟩
  ·rw [h1] at hrun
   injection hrun with hrun
   rw [h3, hrun]
  ·exact absurd hke (h2 e1 hm)
 ·rcases Maps.fit_look false K ht (hz w') hb' F hkey with ⟨_, h2, _⟩ | ⟨e1, y', hm', hke', h3, _⟩
  ·exact absurd hke (h2 e0 hm)
  ·rw [h1] at hrun
   injection hrun with hrun
   rw [h3, ← hrun, same e0 hm e1 hm' hke hke']
theorem heap_alloc_old (w : World) (o : Obj) (b : Nat) (h : b < w.heap.size) : (w.alloc o).heap[b]? = w.heap[b]? := (MapKept.heap_alloc w o).2 b h
theorem step_append_at {P : Program} {ops : Array Oper} {o : Oper} {a : Act} {w : World} {Q : Exit → Act → World → Prop} {K : Act → World → Prop} (hw : Region.wanted o (yielded ops a.tmps) = true) (s x : Operand) (t : TypeId)
  (ho : o.op = .call { callee := .builtin .append, args := #[s, x], argTypes := #[t, t] })
  (base : Nat) (e : TypeId) (i : TypeInfo) (z : Value) (size bytes : Nat) (ht : P.underlying t = some (.slice e)) (hi : P.info? e = some i) (hz : i.zero = some z)
  (hsize : i.size = size) (hby : i.bytes = bytes) (hzs : z.cells.size = size) (hsz : 0 < size)
  (v : Value) (n : Nat) (xs : List Value) (hs : a.eval s = v) (hown : w.ownsRow base e size v n xs)
  (ad : Addr) (m c : Nat) (news : List Value) (hx : a.eval x = .slice (some ad) m c) (hl : news.length = m * size) (hnews : ∀ j u, news[j]? = some u → w.cell? (ad.add j) = some u) (h1 : ∀ u ∈ news, u.oneCell' = true)
  (h63 : n + m ≤ maxLen) (hbytes : (n + m) * bytes ≤ 140737488355328) (hbase : base ≤ w.heap.size)
  (h : ∀ v' w', w'.ownsRow base e size v' (n + m) (xs ++ news) → w.grownBy w' v.ownBlock → (v'.ownBlock = v.ownBlock ∨ v'.ownBlock = some w.heap.size) → K (a.put o.dst v') w') :
  if Region.wanted o (yielded ops a.tmps) = true then Oper.wp P o a w K Q else K (a.put o.dst undef) w := by
 rw [if_pos hw]
 obtain ⟨v', w', hr, q1, q2, _, q4⟩ := run_append_own_at (P := P) (w := w) base t o.type e i z size bytes ht hi hz hsize hby hzs hsz v n xs hown ad m c news hl hnews h1 h63 hbytes hbase
 unfold Oper.wp execOp
 simp only [ho, resolve, invoke, builtin, Sem.run_bind, Sem.run_pure, Result.andThen_ok, List.map_toArray, List.map_cons, List.map_nil, hs, hx, hr]
 exact h v' w' q1 q2 q4
end Go.Proofs.YtgknjgionicncaaGreat.L
namespace Go.Proofs.YtgknjgionicncaaGreat.L
open Go.RowKit Go.Proofs.YtgknjgionicncaaGreat.Q Go.Proofs.YtgknjgionicncaaGreatW.PrintWords Go.Proofs.YtgknjgionicncaaGreatW.Lib Go.Maps Go.ChangeShapes
set_option linter.unusedVariables false
abbrev keyZ (i : Int) : Lit := .int .i64 i
theorem keyZ_is (i : Int) : WideAt.IsKeyLit (keyZ i) := trivial
theorem keyZ_inj {i j : Int} (h : keyZ i = keyZ j) : i = j := by injection h
def mapK (ps : List Int) : Nat → DataW Unit
 | 0 => .map []
 | k + 1 => (mapK ps k).put (keyZ (rd ps (k : Int))) (.slice (lits .i64 (kidsL ps (rd ps (k : Int)) (k + 1))) [])
theorem mapK_tidy (ps : List Int) : ∀ k, Tidy (mapK ps k)
 | 0 => tidy_empty
 | k + 1 => (mapK_tidy ps k).put (keyZ_is _) _
theorem mapK_at (ps : List Int) (p : Int) : ∀ k, (mapK ps k).atKey (keyZ p) .nil = gDat (kidsL ps p k)
 | 0 => by simp [mapK, kidsL, gDat, DataW.atKey]
 | k + 1 => by
  have h1 := mapK_at ps p k
  show ((mapK ps k).put (keyZ (rd ps (k : Int))) (.slice (lits .i64 (kidsL ps (rd ps (k : Int)) (k + 1))) [])).atKey (keyZ p) .nil = _
  by_cases e : rd ps (k : Int) = p
  ·rw [e, atKey_put_same (mapK_tidy ps k).isMap (keyZ_is _)]
   have e2 : kidsL ps p (k + 1) = kidsL ps p k ++ [(k : Int)] := by
    show (if _ then _ else _) = _
    rw [if_pos e]
   unfold gDat
   rw [e2, if_neg (by simp)]
  ·rw [atKey_put_other (fun h => e (keyZ_inj h).symm)]
   have e2 : kidsL ps p (k + 1) = kidsL ps p k := by
    show (if _ then _ else _) = _
    rw [if_neg e]
   rw [e2]
   exact h1
theorem mapK_next (ps : List Int) (k : Nat) : (mapK ps k).put (keyZ (rd ps (k : Int))) (.slice (lits .i64 (kidsL ps (rd ps (k : Int)) k ++ [(k : Int)])) []) = mapK ps (k + 1) := by
 have e2 : kidsL ps (rd ps (k : Int)) (k + 1) = kidsL ps (rd ps (k : Int)) k ++ [(k : Int)] := by
  show (if _ then _ else _) = _
  rw [if_pos rfl]
 show _ = (mapK ps k).put (keyZ (rd ps (k : Int))) (.slice (lits .i64 (kidsL ps (rd ps (k : Int)) (k + 1))) [])
 rw [e2]
end Go.Proofs.YtgknjgionicncaaGreat.L
namespace Go.Proofs.YtgknjgionicncaaGreat.L
open Go.RowKit Go.Proofs.YtgknjgionicncaaGreat.Q Go.Proofs.YtgknjgionicncaaGreatW.PrintWords Go.Proofs.YtgknjgionicncaaGreatW.PrintLast Go.Proofs.YtgknjgionicncaaGreatW.PrintMore Go.Proofs.YtgknjgionicncaaGreatW.Lib Go.Proofs.YtgknjgionicncaaGreatW.MapB
set_option linter.unusedVariables false
set_option linter.unusedSimpArgs false
structure RowSt (w0 wM : World) (Bo : Nat) (xs : List Item) (W : World) : Prop where
 old : ∀ k, k < wM.heap.size → k ≠ Bo → W.heap[k]? = wM.heap[k]?
 size : wM.heap.size ≤ W.heap.size
 out : ∃ v, Boxed W Bo 60 v ∧ Kd.R k75 75 W w0.heap.size (fun k => wM.heap.size ≤ k) v xs
 below : Below w0.heap.size w0 W
structure RowIn (w0 wM : World) (Bk Bo Bb bm : Nat) (ps : List Int) : Prop where
 kids : Boxed wM Bk 123 (.map (some bm))
 fn : Boxed wM Bb 124 (.func (.func 108) #[] #[.pointer (some ⟨Bk, 0, none⟩), .pointer (some ⟨Bo, 0, none⟩), .pointer (some ⟨Bb, 0, none⟩)])
 ne1 : Bk ≠ Bo
 ne2 : Bb ≠ Bo
 lt : Bo < wM.heap.size
 ge : w0.heap.size ≤ Bo
 look : ∀ p : Int, -1 ≤ p → p < ps.length → ∃ A c, ∀ W : World, (∀ k, k < wM.heap.size → k ≠ Bo → W.heap[k]? = wM.heap[k]?) → (Instr.lookup 123 (.map (some bm)) (.int .i64 p) false).run Tryz.prog W = .ok (.slice A (kidsL ps p ps.length).length c) W ∧ Kd.C (Kd.int .i64) W A (kidsL ps p ps.length).length (kidsL ps p ps.length)
theorem boxed_old {W wM : World} {B Bo : Nat} {t : TypeId} {v : Value} (h : Boxed wM B t v) (hne : B ≠ Bo) (ho : ∀ k, k < wM.heap.size → k ≠ Bo → W.heap[k]? = wM.heap[k]?) : Boxed W B t v := (ho B h.lt hne).trans h
set_option maxHeartbeats 2000000 in
set_option maxRecDepth 100000 in
theorem row_body (ps : List Int) (w0 wM : World) (Bk Bo Bb bm : Nat) (hI : RowIn w0 wM Bk Bo Bb bm ps) (p d : Int) (hp0 : -1 ≤ p) (hp1 : p < ps.length) (hd0 : 0 ≤ d) (hd1 : d ≤ 2000000) (sub : Int → List Item)
  (hsub : ∀ i ∈ kidsL ps p ps.length, ∀ (xs : List Item) (w : World), xs.length + (sub i).length ≤ 1000000 → RowSt w0 wM Bo xs w → Calls Tryz.prog 108 #[.int .i64 i, .int .i64 (d + 1), .pointer (some ⟨Bk, 0, none⟩), .pointer (some ⟨Bo, 0, none⟩), .pointer (some ⟨Bb, 0, none⟩)] w fun e w' => e = .returned (.tuple #[]) ∧ RowSt w0 wM Bo (xs ++ sub i) w')
  (xs : List Item) (w : World) (hlen : xs.length + ((kidsL ps p ps.length).flatMap fun i => (⟨i, d, p⟩ : Item) :: sub i).length ≤ 1000000) (hst : RowSt w0 wM Bo xs w) :
  Calls Tryz.prog 108 #[.int .i64 p, .int .i64 d, .pointer (some ⟨Bk, 0, none⟩), .pointer (some ⟨Bo, 0, none⟩), .pointer (some ⟨Bb, 0, none⟩)] w fun e w' => e = .returned (.tuple #[]) ∧ RowSt w0 wM Bo (xs ++ (kidsL ps p ps.length).flatMap fun i => (⟨i, d, p⟩ : Item) :: sub i) w' := by
 obtain ⟨A1, c1', hlk⟩ := hI.look p hp0 hp1
 have hlook := (hlk w hst.old).1
 have hbk := (boxed_old hI.kids hI.ne1 hst.old).cell
 have HLk := Aside0.mk (fun W h => (hlk W h).2)
 have HI := Aside0.mk hI
 have HS0 := Aside0.mk hst
 have HLen := Aside0.mk hlen
 have HSub := Aside0.mk hsub
 have HD := Aside0.mk (And.intro hd0 hd1)
 have HDw := Aside0.mk (show wrap64 (d + 1) = d + 1 from by unfold wrap64; omega)
 have HKl := Aside0.mk (kidsL_len ps p ps.length)
 have HKb := Aside0.mk (show (kidsL ps p ps.length).length ≤ 1000000 from by
  have h : (kidsL ps p ps.length).length ≤ ((kidsL ps p ps.length).flatMap fun i => (⟨i, d, p⟩ : Item) :: sub i).length := by
   generalize kidsL ps p ps.length = K
   induction K with
   | nil => simp
   | cons a K ih => rw [List.flatMap_cons, List.length_append, List.length_cons, List.length_cons]; omega
  omega)
 clear hlk hI hst hlen hsub hd0 hd1 hp0 hp1
 generalize kidsL ps p ps.length = K at *
 go_enter Tryz.func108, Tryz.ntmps108
 go_wp2_with fail
 go_loopg [13] K.length (fun kq v13 w' => ∃ x : Nat, v13 = .int .i64 (x : Int) ∧ Aside0 (x + kq = K.length) ∧ Aside0 (RowSt w0 wM Bo (xs ++ (K.take x).flatMap fun i => (⟨i, d, p⟩ : Item) :: sub i) w'))
 case atStart => exact ⟨0, rfl, ⟨by omega⟩, ⟨by rw [List.take_zero, List.flatMap_nil, List.append_nil]; exact HS0.out⟩⟩
 case round =>
  clear HS0 hbk hlook
  obtain ⟨x, rfl, HK, HS⟩ := hrel
  by_cases c1 : (x : Int) < (K.length : Int)
  ·have c1b := decide_eq_true c1
   have hxl : x < K.length := by omega
   have p1 : (0 : Int) ≤ (x : Int) := by omega
   obtain ⟨ad1, e1, hx⟩ := Kd.at_int (HLk.out _ HS.out.old) (x : Int) p1 c1
   cases e1
   rw [Int.toNat_natCast] at hx
   have hr : rd K (x : Int) = K[x] := by simp [rd, List.getD, hxl]
   have HMem := Aside0.mk (show rd K (x : Int) ∈ K from by rw [hr]; exact List.getElem_mem hxl)
   have HNx := Aside0.mk (show (xs ++ (K.take (x + 1)).flatMap fun i => (⟨i, d, p⟩ : Item) :: sub i) = (xs ++ (K.take x).flatMap fun i => (⟨i, d, p⟩ : Item) :: sub i) ++ [(⟨rd K (x : Int), d, p⟩ : Item)] ++ sub (rd K (x : Int)) from by
    rw [List.take_succ_eq_append_getElem hxl, List.flatMap_append, hr]
    simp)
   have HLe := Aside0.mk (show (xs ++ (K.take (x + 1)).flatMap fun i => (⟨i, d, p⟩ : Item) :: sub i).length ≤ 1000000 from by
    have h : ((K.take (x + 1)).flatMap fun i => (⟨i, d, p⟩ : Item) :: sub i).length ≤ (K.flatMap fun i => (⟨i, d, p⟩ : Item) :: sub i).length := by
     have e : K.flatMap (fun i => (⟨i, d, p⟩ : Item) :: sub i) = ((K.take (x + 1)).flatMap fun i => (⟨i, d, p⟩ : Item) :: sub i) ++ ((K.drop (x + 1)).flatMap fun i => (⟨i, d, p⟩ : Item) :: sub i) := by rw [← List.flatMap_append, List.take_append_drop]
     rw [e, List.length_append]
     omega
    have := HLen.out
    rw [List.length_append]
    omega)
   rw [HNx.out] at HLe
   have QS := Aside0.mk (HSub.out _ HMem.out)
   have W1 := Aside0.mk (show wrap64 ((x : Int) + 1) = ((x + 1 : Nat) : Int) from by unfold wrap64; have := HKb.out; omega)
   obtain ⟨k1, rfl⟩ : ∃ k1, gk = k1 + 1 := ⟨gk - 1, by have := HK.out; omega⟩
   generalize rd K (x : Int) = i at *
   generalize hys : (xs ++ (K.take x).flatMap fun i => (⟨i, d, p⟩ : Item) :: sub i) = ys at *
   clear hys hr hxl
   obtain ⟨v, hbx, hR⟩ := HS.out.out
   obtain ⟨Av, cv, rfl⟩ := Kd.R_slice hR
   have hbo := hbx.cell
   have HBx := Aside0.mk hbx
   have HR := Aside0.mk hR
   have hdw := HDw.out
   clear hbx hR
   replace p1 := eq_true p1
   replace c1 := eq_true c1
   go_wp2_with (first
    | ((with_reducible refine gate_builtin (b := .append) (xs := #[.tmp 17, .tmp 22]) rfl ?_); at_builtin; go_loud (refine Kd.R_append k75 (w0 := w0) w0.heap.size rfl (.tmp 17) (.tmp 22) 60 75 (.agg #[.int .i64 0, .int .i64 0, .int .i64 0]) 24 rfl Tryz.underlying60 (by kernel_rfl) rfl (by decide) (by omega) (.slice Av ys.length cv) ys (⟨i, d, p⟩ : Item) [.int .i64 i, .int .i64 d, .int .i64 p] (fun k_ => wM.heap.size ≤ k_) (fun _ => False) rfl rfl ?aP (fun _ hk => hk.elim) ?aF ?aO ?aB ?aS ?aL ?_; (case aP => exact k75_mkM _ _ _ (⟨i, d, p⟩ : Item)); (case aB => exact HS.out.below); (case aF => exact (fun k_ hk => Nat.le_trans HS.out.size hk)); (case aO => exact HR.out); (case aS => exact HS.out.below.size); (case aL => have := HLe.out; simp only [List.length_append, List.length_singleton] at this; omega); intro v1 w1 ho hb hg hat; obtain ⟨B1, d1, rfl⟩ := Kd.R_slice ho; have hel : (ys ++ [(⟨i, d, p⟩ : Item)]).length = ys.length + 1 := (by simp); rw [hel] at ho; have hne : ∀ k_, k_ < wM.heap.size → some k_ ≠ (Value.slice Av ys.length cv).ownBlock := (fun k_ hk e => by have h := HR.out.1 k_ e.symm; omega); have HBl := Aside0.mk (HBx.out.kept hg (hne Bo HI.out.lt)); have hcl := HBl.out.cell; have hfl := HBl.out.frozen; have hset := grownBy_setCell' w1 Bo (.slice B1 (ys.length + 1) d1); have hold : ∀ k_, k_ < wM.heap.size → k_ ≠ Bo → (w1.setCell ⟨Bo, 0, none⟩ (.slice B1 (ys.length + 1) d1)).heap[k_]? = wM.heap[k_]? := (fun k_ h1 h2 => (hset.block k_ (Nat.lt_of_lt_of_le h1 (Nat.le_trans HS.out.size hg.size)) (fun e => h2 (Option.some.inj e))).trans ((hg.block k_ (Nat.lt_of_lt_of_le h1 HS.out.size) (hne k_ h1)).trans (HS.out.old k_ h1 h2))); have RS := Aside0.mk (show RowSt w0 wM Bo (ys ++ [(⟨i, d, p⟩ : Item)]) (w1.setCell ⟨Bo, 0, none⟩ (.slice B1 (ys.length + 1) d1)) from ⟨hold, Nat.le_trans HS.out.size (Nat.le_trans hg.size hset.size), ⟨_, HBl.out.set _, Kd.R_grown ho hset (fun k_ hk e => by have := Option.some.inj e; have := HI.out.lt; omega)⟩, hb.grown hset hb.size (fun j hj => by cases hj; exact HI.out.ge)⟩); have hbb := (boxed_old HI.out.fn HI.out.ne2 RS.out.old).cell; clear ho hb hg hat hset hold hne hel))
    | (go_at_call 108; go_loud (refine (QS.out _ _ ?qb RS.out).mono ?_; (case qb => have := HLe.out; rw [List.length_append] at this; exact this); rintro e w2 ⟨rfl, hst2⟩; have HS2 := Aside0.mk hst2; clear hst2)))
   go_roundg k1
   case measure => omega
   case rel => exact ⟨x + 1, by rw [W1.out], ⟨by have := HK.out; omega⟩, ⟨by rw [HNx.out]; exact HS2.out⟩⟩
  ·have c1b := decide_eq_false c1
   have ex : x = K.length := by have := HK.out; omega
   subst ex
   have hs := HS.out
   rw [List.take_length] at hs
   have HS3 := Aside0.mk hs
   clear hs c1
   go_wp2_with fail
   go_end0
   exact ⟨rfl, HS3.out⟩
theorem row1_calls (ps : List Int) (w0 wM : World) (Bk Bo Bb bm : Nat) (hI : RowIn w0 wM Bk Bo Bb bm ps) : ∀ (f : Nat) (p d : Int), deepP ps f p → -1 ≤ p → p < ps.length → 0 ≤ d → d + f ≤ 2000000 → ∀ (xs : List Item) (w : World), xs.length + (rowF ps f p d).length ≤ 1000000 → RowSt w0 wM Bo xs w →
  Calls Tryz.prog 108 #[.int .i64 p, .int .i64 d, .pointer (some ⟨Bk, 0, none⟩), .pointer (some ⟨Bo, 0, none⟩), .pointer (some ⟨Bb, 0, none⟩)] w fun e w' => e = .returned (.tuple #[]) ∧ RowSt w0 wM Bo (xs ++ rowF ps f p d) w'
 | 0, p, d, hdeep, hp0, hp1, hd0, hd1, xs, w, hlen, hst => by
  have hk : kidsL ps p ps.length = [] := hdeep
  have h := row_body ps w0 wM Bk Bo Bb bm hI p d hp0 hp1 hd0 (by omega) (fun _ => []) (fun i hi => by rw [hk] at hi; cases hi) xs w (by rw [hk]; simpa [rowF] using hlen) hst
  rw [hk] at h
  exact h
 | f + 1, p, d, hdeep, hp0, hp1, hd0, hd1, xs, w, hlen, hst =>
  row_body ps w0 wM Bk Bo Bb bm hI p d hp0 hp1 hd0 (by omega) (fun i => rowF ps f i (d + 1)) (fun i hi xs w hl hs => row1_calls ps w0 wM Bk Bo Bb bm hI f i (d + 1) (hdeep i hi) (by have := (kid_iff.1 hi).1; omega) (kid_iff.1 hi).2.1 (by omega) (by omega) xs w hl hs) xs w hlen hst
end Go.Proofs.YtgknjgionicncaaGreat.L
namespace Go.Proofs.YtgknjgionicncaaGreat.L
open Go.RowKit Go.Proofs.YtgknjgionicncaaGreat.Q Go.Proofs.YtgknjgionicncaaGreatW.PrintWords Go.Proofs.YtgknjgionicncaaGreatW.PrintLast Go.Proofs.YtgknjgionicncaaGreatW.PrintMore Go.Proofs.YtgknjgionicncaaGreatW.Lib Go.Proofs.YtgknjgionicncaaGreatW.MapB Go.Maps Go.ChangeMaps Go.MapKept
open Go.WideMaps hiding rd
set_option linter.unusedVariables false
set_option linter.unusedSimpArgs false
theorem own_R {W : World} {base b2 : Nat} {v : Value} {zs : List Int} (h : W.ownsRow base 3 1 v zs.length (zs.map (Value.int .i64))) : Kd.R (Kd.int .i64) 3 W base (fun _ => True) v zs := by
 refine ⟨fun _ _ => trivial, zs.map (Value.int .i64), h, ⟨by show _ = zs.length * 1; simp, fun j p hp => ?_⟩⟩
 show (((zs.map (Value.int .i64)).drop (j * 1)).take 1) = [.int .i64 p]
 rw [Nat.mul_one]
 obtain ⟨hj, rfl⟩ := List.getElem?_eq_some_iff.1 hp
 rw [List.drop_eq_getElem_cons (by simpa using hj)]
 simp
theorem lawI : Keyed Tryz.prog 3 := int_keyed Tryz.underlying3
set_option maxHeartbeats 8000000 in
set_option maxRecDepth 100000 in
theorem frow_calls (ps : List Int) (hl : ps.length ≤ 1000000) (A0 : Option Addr) (c0 : Nat) (w : World) (hr0 : Kd.C (Kd.int .i64) w A0 ps.length ps) (hc0 : ps.length ≤ c0) :
  Calls Tryz.prog 61 #[.slice A0 ps.length c0] w fun e w' => ∃ v : Value, e = .returned v ∧ Kd.R k75 75 w' w.heap.size (fun _ => True) v (rowL ps) ∧ Below w.heap.size w w' := by
 have hmm := @run_makeMap Tryz.prog
 have hmf : ∀ (fn : Fn) (first cap : Array Value) (w : World), (Instr.makeFunc fn first cap).run Tryz.prog w = .ok (.func fn first cap) w := fun _ _ _ _ => rfl
 have QR := Aside0.mk (right_calls ps hl A0 c0 w hr0 hc0)
 have HR0 := Aside0.mk hr0
 have HL := Aside0.mk hl
 obtain ⟨i0, hi, hz0, hz1, hz2⟩ := info_parts infoI
 have HI := Aside0.mk (And.intro hi (And.intro hz0 (And.intro hz1 hz2)))
 clear hr0 hc0 hl hi hz0 hz1 hz2
 cases hb : rightB ps with
 | false =>
  rw [hb] at QR
  have HE := Aside0.mk (show rowL ps = [] from by unfold rowL; rw [hb]; simp)
  clear hb
  go_enter Tryz.func61, Tryz.ntmps61
  go_wp2_with (go_at_call 89; refine QR.out.mono ?_; rintro e w1 ⟨rfl, hb⟩; have HB1 := Aside0.mk hb; clear hb)
  go_ret
  exact ⟨_, rfl, by rw [HE.out]; exact Kd.R_nil _ _ _ _ _, HB1.out⟩
 | true =>
  rw [hb] at QR
  have HRt := Aside0.mk hb
  clear hb
  go_enter Tryz.func61, Tryz.ntmps61
  go_wp2_with (go_at_call 89; refine QR.out.mono ?_; rintro e w1 ⟨rfl, hb⟩; have HB1 := Aside0.mk hb; clear hb)
  have HG0 := Aside0.mk (World.ownsGroups_made (H := Unit) w1 Tryz.prog 3 3 .i64)
  have HN0 := Aside0.mk (World.grownBy_alloc (w1.alloc (.map #[] 0)) (.cells #[.map (some w1.heap.size)] 123) none)
  have HX0 : Aside0 (Boxed ((w1.alloc (.map #[] 0)).alloc (.cells #[.map (some w1.heap.size)] 123)) (w1.heap.size + 1) 123 (.map (some w1.heap.size))) := ⟨by
   have h := Boxed.new (w1.alloc (.map #[] 0)) 123 (.map (some w1.heap.size))
   rw [show (w1.alloc (.map #[] 0)).heap.size = w1.heap.size + 1 by simp] at h
   exact h⟩
  have HB20 := Aside0.mk (below_alloc (below_alloc HB1.out (.map #[] 0)) (.cells #[.map (some w1.heap.size)] 123))
  have HS0 := Aside0.mk (show w1.heap.size + 1 < ((w1.alloc (.map #[] 0)).alloc (.cells #[.map (some w1.heap.size)] 123)).heap.size from by simp)
  have HWb := Aside0.mk HB1.out.size
  generalize w1.heap.size = bm at *
  go_loopg [14] ps.length (fun kq v14 w' => ∃ x14 : Int, v14 = .int .i64 x14 ∧ Aside0 (0 ≤ x14 ∧ x14 + kq = ps.length) ∧ Aside0 (∃ wg : World, wg.ownsGroups (H := Unit) Tryz.prog 3 (bm + 1) 3 .i64 bm x14.toNat (mapK ps x14.toNat) ∧ wg.grownBy w' none) ∧ Aside0 (Boxed w' (bm + 1) 123 (.map (some bm))) ∧ Aside0 (Below w.heap.size w w') ∧ Aside0 (bm + 1 < w'.heap.size))
  case atStart => exact ⟨0, rfl, ⟨by omega, by omega⟩, ⟨_, HG0.out, HN0.out⟩, HX0, HB20, HS0⟩
  case round =>
   clear HG0 HN0 HX0 HB20 HS0
   obtain ⟨x14, rfl, HK, HGx, HX, HB2, HS⟩ := hrel
   obtain ⟨wg, hgr, hgn⟩ := HGx.out
   have HG := Aside0.mk hgr
   have HGn := Aside0.mk hgn
   clear HGx hgr hgn
   by_cases c1 : x14 < (ps.length : Int)
   ·have c1b := decide_eq_true c1
    have p1 : 0 ≤ x14 := HK.out.1
    obtain ⟨ad1, e1, hx⟩ := Kd.at_int HR0.out x14 p1 c1
    cases e1
    replace hx := zc HB2.out hx
    have P1 := Aside0.mk p1
    have Q1 := Aside0.mk c1
    have hin := inR_rd (rightB_in HRt.out) p1 c1
    have hxl : x14.toNat < 1759218604441 := by have := HL.out; omega
    have HPx := Aside0.mk (show rd ps x14 = rd ps x14 from rfl)
    generalize hp : rd ps x14 = p at hx hin
    replace HPx : Aside0 (rd ps x14 = p) := ⟨hp⟩
    have hkey := keyOf_int_mk Tryz.underlying3 (show (Lit.int .i64 p).wf = true from WalkArith.wf_i64 (by have := HL.out; omega))
    obtain ⟨v, zs, hrun, hat, hoi, hzl, hback⟩ := HG.out.at lawI Tryz.underlying123 (zeroRow _) (show x14.toNat < 9223372036854775807 by omega) hkey
    have hzs : zs = kidsL ps p x14.toNat := gDat_row hoi ((mapK_at ps p x14.toNat).symm.trans hat)
    obtain ⟨es, clock, hbE, FE, _⟩ := HG.out
    have HDet : Aside0 (∀ w', w'.heap[bm]? = some (.map es clock) → (Instr.lookup 123 (.map (some bm)) (.int .i64 p) false).run Tryz.prog w' = .ok v w') := ⟨fun w' hb' => look_det lawI Tryz.underlying123 zeroRow hbE hb' FE hkey hrun⟩
    have HZs := Aside0.mk hzs
    have HOi := Aside0.mk hoi
    have HZl := Aside0.mk hzl
    have HBack := Aside0.mk hback
    have HbE := Aside0.mk ((HGn.out.block bm (Array.getElem?_eq_some_iff.1 hbE).1 (by simp)).trans hbE)
    have HXl := Aside0.mk hxl
    have HGr := Aside0.mk (show wg.grownBy wr.drew none from ⟨HGn.out.os, HGn.out.tape, HGn.out.output, HGn.out.size, HGn.out.block⟩)
    clear hzs hoi hzl hback hbE FE hrun hat hkey hxl hin hp
    replace p1 := eq_true p1
    replace c1 := eq_true c1
    have W1 := Aside0.mk (show wrap64 (x14 + 1) = x14 + 1 from by unfold wrap64; have := HL.out; have := P1.out; have := Q1.out; omega)
    obtain ⟨k1, rfl⟩ : ∃ k1, gk = k1 + 1 := ⟨gk - 1, by have := HK.out; have := Q1.out; omega⟩
    go_wp2_with fail
    have HB2' := Aside0.mk (below_drew HB2.out)
    clear HB2 hx
    have HB2 := HB2'
    clear HB2'
    refine start_ (n := 9) (S := fun w' => w'.cell? ⟨bm + 1, 0, none⟩ = some (.map (some bm)) ∧ w'.heap[bm]? = some (.map es clock)) (ds := [8]) #[false, false, false, false, false, false, false, false, false] (by kernel_rfl) rfl rfl ⟨HX.out.cell, HbE.out⟩ (fun hHeld => ?_)
    have HLtB := Aside0.mk (show bm + 1 < wr.drew.heap.size from HS.out)
    have HXd := Aside0.mk (show Boxed wr.drew (bm + 1) 123 (.map (some bm)) from HX.out)
    generalize wr.drew = W2 at *
    refine zp 1 (some 20) ?_
    refine zp 3 (some 22) ?_
    refine zp 5 (some 24) ?_
    refine zt2 0 (some 19) ?_
    refine zt2 2 (some 21) ?_
    refine take_ (i := 4) (N := some 23) (v := ?_) (a' := ?_) #[true, true, true, true, true, true, false, false, false] rfl rfl (by kernel_rfl) (fun _ _ _ h => h) (Or.inl ⟨by rfl, ?_⟩) hHeld ?_ ?_
    rotate_left
    ·rintro w' ⟨s0, s1⟩
     have hq := HDet.out w' s1
     go_simp
     with_reducible rfl
    rotate_left
    ·exact zS
    refine z1 6 (some 25) (fun K hK => ?_)
    refine value_ (w1 := ?_) (v := ?_) (by rfl) rfl ?_ ?_
    rotate_left 2
    ·go_simp
     constructor
     ·rfl
     ·rfl
    refine hK.out _ _ ⟨(World.cell?_alloc_lt _ _ _ (World.block_lt_of_cell? _ _ hHeld.1)).trans hHeld.1, (heap_alloc_old _ _ _ (by have := HLtB.out; omega)).trans hHeld.2⟩ (fun hHeld2 => ?_)
    clear hK K
    refine norm_ (a' := ?_) ?_ ?_
    rotate_left
    ·show Act.put _ (some 25) _ = _
     simp only [Act.put, List.setIfInBounds_toArray, List.set_cons_zero, List.set_cons_succ, i64_w, i32_w]
     rfl
    refine z1 7 (some 26) (fun K hK => ?_)
    have hoi2 := (HOi.out.kept HGr.out (by cases v.ownBlock <;> simp)).alloc (.cells #[.int .i64 x14] 3)
    refine step_append_at (by rfl) (.tmp 23) (.tmp 25) 43 rfl (bm + 1) 3 i0 (.int .i64 0) 1 8 Tryz.underlying43 HI.out.1 HI.out.2.1 HI.out.2.2.1 HI.out.2.2.2 rfl (by decide) v zs.length (zs.map (Value.int .i64)) rfl hoi2.1 ⟨W2.heap.size, 0, none⟩ 1 1 [.int .i64 x14] (by rfl) rfl (cell_one_new _ _ _) (ints_oneCell .i64 [x14]) (by have h1 := HZl.out; have h2 := HXl.out; show zs.length + 1 ≤ 9223372036854775807; omega) (by have h1 := HZl.out; have h2 := HXl.out; omega) (by have := HLtB.out; simp; omega) ?_
    intro v' w3 hown' hgrow hloc
    have hne : ∀ b, v.ownBlock = some b → bm + 1 ≤ b ∧ b < wg.heap.size := fun b hb => HOi.out.1.lt b hb
    have hsz2 : wg.heap.size ≤ W2.heap.size := HGr.out.size
    have hnx : some (bm + 1) ≠ v.ownBlock := fun h => by
     obtain ⟨cells, hc⟩ := own_typed (HOi.out.kept HGr.out (by cases v.ownBlock <;> simp)).1 (bm + 1) h.symm
     have h2 : W2.heap[bm + 1]? = _ := HXd.out
     rw [hc] at h2
     have h3 := Option.some.inj h2
     injection h3 with _ h4
     exact absurd h4 (by decide)
    have hbm : w3.heap[bm]? = some (.map es clock) := (hgrow.block bm (by simp; have := HLtB.out; omega) (fun h => by have := hne _ h.symm; omega)).trans hHeld2.2
    have hX3 : Boxed w3 (bm + 1) 123 (.map (some bm)) := (HXd.out.alloc _).kept hgrow hnx
    have hwf : (Lit.int .i64 x14).wf = true := WalkArith.wf_i64 (by have := HXl.out; have := P1.out; omega)
    have happ := hoi2.appended hown' hwf
    have hgall : wg.grownBy w3 v.ownBlock := ((HGr.out.but _).trans ((World.grownBy_alloc W2 _ none).but _)).trans hgrow
    have hgall2 : W2.grownBy w3 v.ownBlock := ((World.grownBy_alloc W2 _ none).but _).trans hgrow
    obtain ⟨w4, hrun4, hown4, hgr4⟩ := HBack.out w3 v' (zs ++ [x14]) hgall happ (by have := HZl.out; simp; omega) (hloc.imp id (fun h => ⟨_, h, by simp; omega⟩))
    have hB4 : Below w.heap.size w w4 := HB2.out.groups (HOi.out.kept HGr.out (by cases v.ownBlock <;> simp)) hgall2 hgr4 HB2.out.size (by have := HWb.out; omega) (by have := HWb.out; omega)
    have hS4 : bm + 1 < w4.heap.size := Nat.lt_of_lt_of_le HLtB.out (Nat.le_trans hgall2.size hgr4.size)
    have hX4 : Boxed w4 (bm + 1) 123 (.map (some bm)) := hX3.kept hgr4 (fun e => by have := Option.some.inj e; omega)
    have hD4 : (mapK ps x14.toNat).put (keyZ p) (rowDatum (H := Unit) .i64 v' (zs ++ [x14])) = mapK ps (x14.toNat + 1) := by
     rw [happ.datum_pos (H := Unit) (by simp), HZs.out, ← HPx.out]
     have h := mapK_next ps x14.toNat
     rw [show ((x14.toNat : Nat) : Int) = x14 by have := P1.out; omega] at h
     exact h
    rw [hD4] at hown4
    have HG4 := Aside0.mk hown4
    have HB4 := Aside0.mk hB4
    have HS4 := Aside0.mk hS4
    have HX4 := Aside0.mk hX4
    have HRun4 := Aside0.mk hrun4
    refine hK.out _ _ ⟨hX3.cell, hbm⟩ (fun hHeld3 => ?_)
    clear hK K hbm happ hgall hgall2 hown4 hB4 hS4 hD4 hrun4 hown' hgrow hloc hne hoi2 hgr4 hwf hHeld hHeld2 hX3 hX4 hnx
    refine norm_ (a' := ?_) ?_ ?_
    rotate_left
    ·show Act.put _ (some 26) _ = _
     simp only [Act.put, List.setIfInBounds_toArray, List.set_cons_zero, List.set_cons_succ, i64_w, i32_w]
     rfl
    refine z9 8 none (fun K hK => ?_)
    refine skip_ (w1 := w4) (by rfl) rfl ?_ ?_
    ·have h4 := HRun4.out
     go_simp
     try simp [h4, Result.andThen]
    refine hK.out _ _ ?_
    clear hK K
    refine done_ (by kernel_rfl) ?_
    try go_wp2
    go_roundg k1
    case measure => omega
    case rel => exact ⟨x14 + 1, by rw [W1.out], ⟨by have := P1.out; omega, by have := HK.out; omega⟩, ⟨w4, by rw [show (x14 + 1).toNat = x14.toNat + 1 by have := P1.out; omega]; exact HG4.out, World.grownBy.refl _ _⟩, HX4, HB4, HS4⟩
   ·have c1b := decide_eq_false c1
    have ex : x14.toNat = ps.length := by have := HK.out; omega
    have hg := HG.out
    rw [ex] at hg
    have hgn := HGn.out
    have HWs := Aside0.mk HS.out
    clear c1 HG HGn HK
    obtain ⟨Bo, hBo⟩ : ∃ Bo, Bo = wr.heap.size := ⟨_, rfl⟩
    obtain ⟨fv, hfv⟩ : ∃ fv : Value, fv = .func (.func 108) #[] #[.pointer (some ⟨bm + 1, 0, none⟩), .pointer (some ⟨Bo, 0, none⟩), .pointer (some ⟨Bo + 1, 0, none⟩)] := ⟨_, rfl⟩
    obtain ⟨wM, hwM⟩ : ∃ wM : World, wM = (wr.alloc (.cells #[.slice none 0 0] 60)).alloc (.cells #[fv] 124) := ⟨_, rfl⟩
    have hsz : wM.heap.size = Bo + 1 + 1 := by rw [hwM, hBo]; simp
    have hold : ∀ k, k < Bo → wM.heap[k]? = wr.heap[k]? := fun k hk => by
     rw [hwM]
     exact (heap_alloc_old _ _ k (by simp; omega)).trans (heap_alloc_old _ _ k (by omega))
    have hBoS := HS.out
    have hI : RowIn w wM (bm + 1) Bo (Bo + 1) bm ps := by
     refine ⟨(hold (bm + 1) (by omega)).trans HX.out, ?_, by omega, by omega, by omega, by rw [hBo]; exact HB2.out.size, ?_⟩
     ·have h := Boxed.new (wr.alloc (.cells #[.slice none 0 0] 60)) 124 fv
      rw [show (wr.alloc (.cells #[.slice none 0 0] 60)).heap.size = Bo + 1 by rw [hBo]; simp, ← hwM] at h
      rw [hfv] at h
      exact h
     ·intro p hp0 hp1
      obtain ⟨v, zs, hrun, hat, hoi, hzl, _⟩ := hg.at lawI Tryz.underlying123 (zeroRow _) (show ps.length < 9223372036854775807 by have := HL.out; omega) (keyOf_int_mk Tryz.underlying3 (show (Lit.int .i64 p).wf = true from WalkArith.wf_i64 (by have := HL.out; omega)))
      have hzs : zs = kidsL ps p ps.length := gDat_row hoi ((mapK_at ps p ps.length).symm.trans hat)
      obtain ⟨es, clock, hbE, FE, _⟩ := hg
      have hlt := hoi.1.lt
      obtain ⟨Ar, cr, rfl⟩ := Kd.R_slice (own_R (b2 := 0) hoi.1)
      rw [← hzs]
      refine ⟨Ar, cr, fun W hW => ⟨?_, ?_⟩⟩
      ·refine look_det lawI Tryz.underlying123 zeroRow hbE ?_ FE (keyOf_int_mk Tryz.underlying3 (show (Lit.int .i64 p).wf = true from WalkArith.wf_i64 (by have := HL.out; omega))) hrun
       have hb := (Array.getElem?_eq_some_iff.1 hbE).1
       have hb2 := hgn.size
       exact (hW bm (by omega) (by omega)).trans ((hold bm (by omega)).trans ((hgn.block bm hb (by simp)).trans hbE))
      ·have hmv := own_move (w1 := W) hoi.1 (fun k hk => by
        have h1 := (hlt k hk).2
        have h2 := hgn.size
        exact (hW k (by omega) (by omega)).trans ((hold k (by omega)).trans (hgn.block k h1 (by simp))))
       exact (Kd.R_reads' (own_R (b2 := 0) hmv)).2.2
    have hst : RowSt w wM Bo [] wM := by
     refine ⟨fun _ _ _ => rfl, Nat.le_refl _, ⟨.slice none 0 0, ?_, Kd.R_nil _ _ _ _ _⟩, ?_⟩
     ·rw [hwM]
      have h := (Boxed.new wr 60 (.slice none 0 0)).alloc (.cells #[fv] 124)
      rw [← hBo] at h
      exact h
     ·rw [hwM]; exact below_alloc (below_alloc HB2.out _) _
    have hrow : rowF ps (ps.length + 1) (-1) 0 = rowL ps := by unfold rowL; rw [if_pos HRt.out]
    have QC := row1_calls ps w wM (bm + 1) Bo (Bo + 1) bm hI (ps.length + 1) (-1) 0 (deep_root HRt.out) (by omega) (by omega) (by omega) (by have := HL.out; omega) [] wM (by rw [hrow, rowL_len HRt.out]; have := HL.out; simp; omega) hst
    rw [hrow, List.nil_append, hwM, hfv, hBo] at QC
    have QC2 := Aside0.mk QC
    clear QC hst hI hold hsz hrow hg hgn ex hBoS hwM hfv hBo
    go_wp2_with (go_at_call 108; refine QC2.out.mono ?_; rintro e w2 ⟨rfl, hs2⟩; obtain ⟨v2, hb2, hR2⟩ := hs2.out; obtain ⟨A2, d2, rfl⟩ := Kd.R_slice hR2; have hc2 := hb2.cell; have HR2 := Aside0.mk hR2; have HB4 := Aside0.mk hs2.below; clear hs2 hb2 hR2)
    go_ret
    exact ⟨_, rfl, Kd.R_mono HR2.out (fun _ _ => trivial), HB4.out⟩
end Go.Proofs.YtgknjgionicncaaGreat.L
namespace Go.Proofs.YtgknjgionicncaaGreat.Q
open Go.RowKit Go.Proofs.YtgknjgionicncaaGreatW.PrintWords Go.Proofs.YtgknjgionicncaaGreatW.PrintLast Go.Proofs.YtgknjgionicncaaGreatW.PrintMore
attribute [local go_sem] max2_int min2_int max_two min_two max_three min_three max_four min_four
set_option linter.unusedVariables false
set_option linter.unusedSimpArgs false
theorem eqA57 (d : Nat) (w : World) (x0 y0 : Int) (x1 y1 : Int) :
  (Op.equalIn (d + 2) 57 (.agg #[.int .i64 x0, .int .i64 x1]) (.agg #[.int .i64 y0, .int .i64 y1])).run Tryz.prog w = .ok (x0 == y0 && (x1 == y1)) w := by
 refine eqA_of Tryz.underlying57 (by kernel_rfl) ?_
 refine eqf_cons (by rfl) (by go_simp; rfl) (by go_simp; rfl) (by go_simp) ?_
 exact eqf_last (by rfl) (by go_simp; rfl) (by go_simp; rfl) (by go_simp)
theorem eqA72 (d : Nat) (w : World) (x0 y0 : Int) (x1 y1 : Int) (x2 y2 : Int) (x3 y3 : Int) (x4 y4 : Int) (x5 y5 : Bool) :
  (Op.equalIn (d + 3) 72 (.agg #[.int .i64 x0, .int .i64 x1, .int .i64 x2, .int .i64 x3, .int .i64 x4, .bool x5]) (.agg #[.int .i64 y0, .int .i64 y1, .int .i64 y2, .int .i64 y3, .int .i64 y4, .bool y5])).run Tryz.prog w = .ok (x0 == y0 && (x1 == y1 && (x2 == y2 && ((x3 == y3 && (x4 == y4)) && (x5 == y5))))) w := by
 refine eqA_of Tryz.underlying72 (by kernel_rfl) ?_
 refine eqf_cons (by rfl) (by go_simp; rfl) (by go_simp; rfl) (by go_simp) ?_
 refine eqf_cons (by rfl) (by go_simp; rfl) (by go_simp; rfl) (by go_simp) ?_
 refine eqf_cons (by rfl) (by go_simp; rfl) (by go_simp; rfl) (by go_simp) ?_
 refine eqf_cons (by rfl) (by go_simp) (by go_simp) (eqA57 (d + 0) w _ _ _ _) ?_
 exact eqf_last (by rfl) (by go_simp; rfl) (by go_simp; rfl) (by go_simp)
attribute [local go_sem high] eqA72
end Go.Proofs.YtgknjgionicncaaGreat.Q
namespace Go.Proofs.YtgknjgionicncaaGreat.L
open Go.RowKit Go.Proofs.YtgknjgionicncaaGreat.Q Go.Proofs.YtgknjgionicncaaGreatW.PrintWords Go.Proofs.YtgknjgionicncaaGreatW.PrintLast Go.Proofs.YtgknjgionicncaaGreatW.PrintMore Go.Proofs.YtgknjgionicncaaGreatW.Lib
set_option linter.unusedVariables false
instance (n : Nat) : DecidablePred (inP n) := fun ps => by unfold inP; infer_instance
def pairAt (l : List S36) (ps : List Int) (i : Int) : List S57 :=
 if 0 ≤ rd ps i ∧ (rd_T36 l i).f3 = 2 ∧ (rd_T36 l (rd ps i)).f3 = 1 ∧ mayS (rd_T36 l i) = true ∧ mayS (rd_T36 l (rd ps i)) = true then [⟨rd ps i, i⟩] else []
def pairsB (l : List S36) (ps : List Int) : List S57 :=
 if l.length = ps.length ∧ inP l.length ps then (List.range l.length).flatMap (fun i : Nat => pairAt l ps i) else []
theorem flat_le {α β : Type} (f : α → List β) (h : ∀ x, (f x).length ≤ 1) : ∀ l : List α, (l.flatMap f).length ≤ l.length
 | [] => by simp
 | x :: l => by
  have h1 := flat_le f h l
  have h2 := h x
  rw [List.flatMap_cons, List.length_append, List.length_cons]
  omega
theorem pairAt_le (l : List S36) (ps : List Int) (i : Int) : (pairAt l ps i).length ≤ 1 := by unfold pairAt; split <;> simp
theorem pairsB_length (l : List S36) (ps : List Int) : (pairsB l ps).length ≤ l.length := by
 unfold pairsB
 split
 ·have := flat_le (fun i : Nat => pairAt l ps i) (fun i => pairAt_le l ps i) (List.range l.length)
  rwa [List.length_range] at this
 ·simp
end Go.Proofs.YtgknjgionicncaaGreat.L
namespace Go.Proofs.YtgknjgionicncaaGreat.L
open Go.RowKit Go.Proofs.YtgknjgionicncaaGreat.Q Go.Proofs.YtgknjgionicncaaGreatW.PrintWords Go.Proofs.YtgknjgionicncaaGreatW.PrintLast Go.Proofs.YtgknjgionicncaaGreatW.PrintMore Go.Proofs.YtgknjgionicncaaGreatW.MapB Go.Proofs.YtgknjgionicncaaGreatW.Lib
set_option linter.unusedVariables false
set_option linter.unusedSimpArgs false
theorem pairs_next (l : List S36) (ps : List Int) (x : Int) (h0 : 0 ≤ x) : (List.range (x + 1).toNat).flatMap (fun i : Nat => pairAt l ps i) = (List.range x.toNat).flatMap (fun i : Nat => pairAt l ps i) ++ pairAt l ps x := by
 rw [show (x + 1).toNat = x.toNat + 1 by omega, List.range_succ, List.flatMap_append]
 simp [show max x 0 = x by omega]
theorem pairs_le (l : List S36) (ps : List Int) (n : Nat) : ((List.range n).flatMap (fun i : Nat => pairAt l ps i)).length ≤ n := by
 have := flat_le (fun i : Nat => pairAt l ps i) (fun i => pairAt_le l ps i) (List.range n)
 rwa [List.length_range] at this
set_option maxHeartbeats 8000000 in
set_option maxRecDepth 100000 in
theorem rpc_calls (l : List S36) (hl : l.length ≤ 1000000) (hf : ∀ s ∈ l, fitS s) (ps : List Int) (hps : ps.length ≤ 1000000) (A0 A1 : Option Addr) (c0 c1_ : Nat) (w : World) (hr0 : Kd.C k36 w A0 l.length l) (hr1 : Kd.C (Kd.int .i64) w A1 ps.length ps) :
  Calls Tryz.prog 63 #[.slice A0 l.length c0, .slice A1 ps.length c1_] w fun e w' => ∃ v : Value, e = .returned v ∧ Kd.R k57 57 w' w.heap.size (fun _ => True) v (pairsB l ps) ∧ Below w.heap.size w w' := by
 have HB0 := Aside0.mk (Below.refl w.heap.size w)
 by_cases he : ¬ (ps.length = l.length)
 ·have hv : pairsB l ps = [] := by unfold pairsB; rw [if_neg (fun h => he h.1.symm)]
  rw [hv]
  have b1 : (((ps.length : Nat) : Int) != ((l.length : Nat) : Int)) = true := by rw [bne_iff_ne]; omega
  clear hr0 hr1 hf hv he
  go_enter Tryz.func63, Tryz.ntmps63
  go_wp2_with fail
  go_ret
  exact ⟨_, rfl, Kd.R_nil _ _ _ _ _, HB0.out⟩
 replace he := Decidable.not_not.1 he
 have b1 : (((ps.length : Nat) : Int) != ((l.length : Nat) : Int)) = false := by rw [he]; simp
 have HEq := Aside0.mk he
 have HR0 := Aside0.mk hr0
 have HR1 := Aside0.mk hr1
 have HL := Aside0.mk hl
 have QF := Aside0.mk (fun (i : Int) (B : Nat) (W : World) (hb : Below w.heap.size w W) hc => found_calls mayS l (mayS_ev l hf) i A0 c0 B W (Kd.C_below hr0 hb) hc)
 clear hr0 hr1 hf he hl
 go_enter Tryz.func63, Tryz.ntmps63
 go_wp2_with fail
 go_loopg [22] ps.length (fun kq v22 w' => ∃ x22 : Int, v22 = .int .i64 x22 ∧ Aside0 (0 ≤ x22 ∧ x22 + kq = ps.length) ∧ Aside0 (∀ o ∈ ps.take x22.toNat, -1 ≤ o ∧ o < (l.length : Int)) ∧ Aside0 (Below w.heap.size w w'))
 case atStart => exact ⟨0, rfl, ⟨by omega, by omega⟩, ⟨by simp⟩, HB0⟩
 case round =>
  obtain ⟨x22, rfl, HK, HO, HB⟩ := hrel
  by_cases c1 : x22 < (ps.length : Int)
  ·have c1b := decide_eq_true c1
   have p1 : 0 ≤ x22 := HK.out.1
   obtain ⟨ad, e1, hx⟩ := Kd.at_int HR1.out x22 p1 c1
   cases e1
   replace hx := zc HB.out hx
   have hit : x22.toNat < ps.length := by omega
   have hev : rd ps x22 = ps[x22.toNat] := by simp [rd, List.getD, hit]
   have HM := Aside0.mk (show rd ps x22 ∈ ps by rw [hev]; exact List.getElem_mem _)
   have HNx := Aside0.mk (show ps.take (x22 + 1).toNat = ps.take x22.toNat ++ [rd ps x22] from by
    rw [show (x22 + 1).toNat = x22.toNat + 1 by omega, List.take_succ_eq_append_getElem hit, hev])
   have P1 := Aside0.mk p1
   have Q1 := Aside0.mk c1
   have W1 := Aside0.mk (show wrap64 (x22 + 1) = x22 + 1 from by unfold wrap64; have := HL.out; have := HEq.out; have := P1.out; have := Q1.out; omega)
   clear hit hev
   generalize rd ps x22 = o at *
   replace p1 := eq_true p1
   replace c1 := eq_true c1
   obtain ⟨k1, rfl⟩ : ∃ k1, gk = k1 + 1 := ⟨gk - 1, by have := HK.out; have := Q1.out; omega⟩
   have bad : ¬ (-1 ≤ o ∧ o < (l.length : Int)) → pairsB l ps = [] := by
    intro h
    unfold pairsB
    rw [if_neg (fun h2 => h (h2.2 _ HM.out))]
   by_cases d1 : o < -1
   ·have d1b := decide_eq_true d1
    have HBd := Aside0.mk (bad (by omega))
    clear d1 bad
    go_wp2_with fail
    go_ret
    exact ⟨_, rfl, by rw [HBd.out]; exact Kd.R_nil _ _ _ _ _, HB.out⟩
   by_cases d2 : (l.length : Int) ≤ o
   ·have d1b := decide_eq_false d1
    have d2b := decide_eq_true d2
    have HBd := Aside0.mk (bad (by omega))
    clear d1 d2 bad
    go_wp2_with fail
    go_ret
    exact ⟨_, rfl, by rw [HBd.out]; exact Kd.R_nil _ _ _ _ _, HB.out⟩
   have d1b := decide_eq_false d1
   have d2b := decide_eq_false d2
   have HOo := Aside0.mk (show -1 ≤ o ∧ o < (l.length : Int) from ⟨by omega, by omega⟩)
   clear d1 d2 bad
   go_wp2_with fail
   go_roundg k1
   case measure => omega
   case rel => exact ⟨x22 + 1, by rw [W1.out], ⟨by have := P1.out; omega, by have := HK.out; omega⟩, ⟨by
    rw [HNx.out]
    intro y hy
    rcases List.mem_append.1 hy with h | h
    ·exact HO.out y h
    ·rw [List.mem_singleton.1 h]; exact HOo.out⟩, HB⟩
  ·have c1b := decide_eq_false c1
   have hx : x22.toNat = ps.length := by have := HK.out; omega
   have ha := HO.out
   rw [hx, List.take_length] at ha
   have HV := Aside0.mk (show pairsB l ps = (List.range l.length).flatMap (fun i : Nat => pairAt l ps i) from by unfold pairsB; rw [if_pos ⟨HEq.out.symm, ha⟩])
   have HIn := Aside0.mk ha
   clear c1 hx ha HO HK
   go_wp2_with (go_at_call 111; refine (finder_calls A0 _ c0 _).mono ?_; rintro e w1 ⟨B, rfl, hcl, hb⟩; have HB1 := Aside0.mk (below_step HB.out hb); have HC1 := Aside0.mk hcl; clear hb hcl)
   go_loopg [8, 39] ps.length (fun kq v8 v39 w' => ∃ x39 : Int, v39 = .int .i64 x39 ∧ Aside0 (0 ≤ x39 ∧ x39 + kq = ps.length) ∧ Aside0 (Kd.R k57 57 w' w.heap.size (fun k => k ≠ B) v8 ((List.range x39.toNat).flatMap (fun i : Nat => pairAt l ps i))) ∧ Aside0 (w'.cell? ⟨B, 0, none⟩ = some (.slice A0 l.length c0)) ∧ Aside0 (Below w.heap.size w w'))
   case atStart => exact ⟨0, rfl, ⟨by omega, by omega⟩, ⟨Kd.R_nil _ _ _ _ _⟩, HC1, HB1⟩
   case round =>
    clear HC1 HB1 HB
    obtain ⟨x39, rfl, HK, HO, HC, HB⟩ := hrel
    by_cases c1 : x39 < (ps.length : Int)
    ·have c2b := decide_eq_true c1
     have p1 : 0 ≤ x39 := HK.out.1
     obtain ⟨ad, e1, hx⟩ := Kd.at_int HR1.out x39 p1 c1
     cases e1
     replace hx := zc HB.out hx
     have hri := inP_rd (ps := ps) (by rw [HEq.out]; exact HIn.out) x39 p1 c1
     have HNx := Aside0.mk (pairs_next l ps x39 p1)
     have HLe := Aside0.mk (pairs_le l ps x39.toNat)
     have hX : findS mayS l x39 = if mayS (rd_T36 l x39) = true then (rd_T36 l x39, true) else (z36, false) := by
      unfold findS
      by_cases hm : mayS (rd_T36 l x39) = true
      ·rw [if_pos ⟨p1, by rw [HEq.out] at c1; exact c1, hm⟩, if_pos hm]
      ·rw [if_neg (fun h => hm h.2.2), if_neg hm]
     have hY : findS mayS l (rd ps x39) = if 0 ≤ rd ps x39 ∧ mayS (rd_T36 l (rd ps x39)) = true then (rd_T36 l (rd ps x39), true) else (z36, false) := by
      unfold findS
      rw [HEq.out] at hri
      by_cases hm : 0 ≤ rd ps x39 ∧ mayS (rd_T36 l (rd ps x39)) = true
      ·rw [if_pos ⟨hm.1, hri.2, hm.2⟩, if_pos hm]
      ·rw [if_neg (fun h => hm ⟨h.1, h.2.2⟩), if_neg hm]
     have HPA := Aside0.mk (show pairAt l ps x39 = if (findS mayS l x39).2 = true ∧ (findS mayS l (rd ps x39)).2 = true ∧ (findS mayS l x39).1.f3 = 2 ∧ (findS mayS l (rd ps x39)).1.f3 = 1 then [⟨rd ps x39, x39⟩] else [] from by
      unfold pairAt
      rw [hX, hY]
      by_cases h1 : mayS (rd_T36 l x39) = true
      ·rw [if_pos h1]
       by_cases h2 : 0 ≤ rd ps x39 ∧ mayS (rd_T36 l (rd ps x39)) = true
       ·rw [if_pos h2]
        simp only [h1, h2, true_and, and_true]
       ·rw [if_neg h2, if_neg (fun h => h2 ⟨h.1, h.2.2.2.2⟩), if_neg (fun h => by cases h.2.1)]
      ·rw [if_neg h1, if_neg (fun h => h1 h.2.2.2.1), if_neg (fun h => by cases h.1)])
     have QX := Aside0.mk (QF.out x39)
     have QY := Aside0.mk (QF.out (rd ps x39))
     have P1 := Aside0.mk p1
     have Q1 := Aside0.mk c1
     have W1 := Aside0.mk (show wrap64 (x39 + 1) = x39 + 1 from by unfold wrap64; have := HL.out; have := HEq.out; have := P1.out; have := Q1.out; omega)
     clear hX hY hri
     generalize findS mayS l x39 = X at *
     generalize findS mayS l (rd ps x39) = Y at *
     generalize rd ps x39 = p at *
     obtain ⟨x, bx⟩ := X
     obtain ⟨y, bY⟩ := Y
     dsimp only at *
     generalize hac : (List.range x39.toNat).flatMap (fun i : Nat => pairAt l ps i) = acc at *
     clear hac
     replace p1 := eq_true p1
     replace c1 := eq_true c1
     obtain ⟨k1, rfl⟩ : ∃ k1, gk = k1 + 1 := ⟨gk - 1, by have := HK.out; have := Q1.out; omega⟩
     have fin : ∀ (b1 b2 b3 b4 : Bool), bx = b1 → bY = b2 → ((x.f3 : Int) == 2) = b3 → ((y.f3 : Int) == 1) = b4 → (b1 && (b2 && (b3 && b4))) = decide (bx = true ∧ bY = true ∧ x.f3 = 2 ∧ y.f3 = 1) := by
      intro b1 b2 b3 b4 e1 e2 e3 e4
      subst e1 e2 e3 e4
      rw [Bool.eq_iff_iff]
      simp
     obtain ⟨b3, h3⟩ : ∃ b3, ((x.f3 : Int) == 2) = b3 := ⟨_, rfl⟩
     obtain ⟨b4, h4⟩ : ∃ b4, ((y.f3 : Int) == 1) = b4 := ⟨_, rfl⟩
     have hfin := fin bx bY b3 b4 rfl rfl h3 h4
     have HPB := Aside0.mk (show pairAt l ps x39 = if (bx && (bY && (b3 && b4))) = true then [⟨p, x39⟩] else [] from by
      rw [HPA.out, hfin]
      by_cases h : bx = true ∧ bY = true ∧ x.f3 = 2 ∧ y.f3 = 1
      ·rw [if_pos h, decide_eq_true h]; rfl
      ·rw [if_neg h, decide_eq_false h]; rfl)
     clear HPA fin hfin
     cases bx <;> cases bY <;> cases b3 <;> cases b4
     all_goals
      go_wp2_with (first
       | (go_at_call 138; (with_reducible refine (QX.out B wr HB.out HC.out).mono ?_); rintro e w2 ⟨rfl, hb⟩; have HB2 := Aside0.mk (below_step HB.out hb); have HC2 := Aside0.mk ((hb.cell (World.block_lt_of_cell? _ _ HC.out)).trans HC.out); have HO2 := Aside0.mk (Kd.R_below HO.out hb); clear hb QX)
       | (go_at_call 138; (with_reducible refine (QY.out B _ (below_alloc HB2.out _) (((below_alloc (Below.refl w2.heap.size w2) _).cell (World.block_lt_of_cell? w2 _ HC2.out)).trans HC2.out)).mono ?_); rintro e w3 ⟨rfl, hb⟩; have HB3 := Aside0.mk (below_step (below_alloc HB2.out _) hb); have HC3 := Aside0.mk ((hb.cell (World.block_lt_of_cell? _ _ (((below_alloc (Below.refl w2.heap.size w2) (.cells #[.int .u64 x.f0, .int .u64 x.f1, .int .u64 x.f2, .int .u8 x.f3, .string x.f4, .string x.f5, .int .i64 x.f6, .int .i64 x.f7] 36)).cell (World.block_lt_of_cell? w2 _ HC2.out)).trans HC2.out))).trans (((below_alloc (Below.refl w2.heap.size w2) (.cells #[.int .u64 x.f0, .int .u64 x.f1, .int .u64 x.f2, .int .u8 x.f3, .string x.f4, .string x.f5, .int .i64 x.f6, .int .i64 x.f7] 36)).cell (World.block_lt_of_cell? w2 _ HC2.out)).trans HC2.out)); have HO3 := Aside0.mk (Kd.R_below (Kd.R_alloc HO2.out _) hb); have bx3 := (hb.block w2.heap.size (by simp)).trans (MapKept.heap_alloc w2 _).1; have j3 : w3.cell? ⟨w2.heap.size, 3, none⟩ = some (.int .u8 x.f3) := (blk_cell bx3 3).trans rfl; have i3 := fun o => ((below_alloc (Below.refl w3.heap.size w3) o).cell (World.block_lt_of_cell? w3 _ j3)).trans j3; clear hb bx3 QY)
       | ((with_reducible refine gate_builtin (b := .append) (xs := #[.tmp 70, .tmp 74]) rfl ?_); at_builtin; refine Kd.R_append k57 (w0 := w) w.heap.size rfl (.tmp 70) (.tmp 74) 47 57 (.agg #[.int .i64 0, .int .i64 0]) 16 rfl Tryz.underlying47 (by kernel_rfl) rfl (by decide) (by omega) u8 acc ⟨p, x39⟩ [.int .i64 p, .int .i64 x39] (fun k => k ≠ B) (fun _ => False) rfl ?aX ?aP (fun _ hk => hk.elim) ?aF ?aO ?aB ?aS ?aL ?_; (case aX => first | rfl | (go_simp; done) | (simp; done)); (case aP => exact k57_mkM _ _ _ ⟨p, x39⟩); (case aB => exact below_alloc HB3.out _); (case aF => exact (fun k hk h => by have h1 : B < w3.heap.size := World.block_lt_of_cell? w3 _ HC3.out; have h2 : w3.heap.size ≤ k := Nat.le_trans (by simp) hk; omega)); (case aO => exact Kd.R_alloc HO3.out _); (case aS => exact (below_alloc HB3.out _).size); (case aL => have := HLe.out; have := HL.out; have := HEq.out; have := Q1.out; omega); intro v4 w4 ho hb hg hat; have HO4 := Aside0.mk ho; have HB4 := Aside0.mk hb; have HC4 := Aside0.mk (show w4.cell? ⟨B, 0, none⟩ = some (.slice A0 l.length c0) from hg.cell (((below_alloc (Below.refl w3.heap.size w3) _).cell (World.block_lt_of_cell? w3 _ HC3.out)).trans HC3.out) (fun h => HO3.out.1 B h.symm rfl)); clear ho hb hg hat))
      go_roundg k1
      case measure => omega
      case rel => exact ⟨x39 + 1, by rw [W1.out], ⟨by have := P1.out; omega, by have := HK.out; omega⟩, ⟨by rw [HNx.out, HPB.out]; first | exact HO4.out | exact (List.append_nil acc).symm ▸ Kd.R_alloc HO3.out _⟩, by first | exact HC4 | exact ⟨((below_alloc (Below.refl w3.heap.size w3) _).cell (World.block_lt_of_cell? w3 _ HC3.out)).trans HC3.out⟩, by first | exact HB4 | exact ⟨below_alloc HB3.out _⟩⟩
    ·have c2b := decide_eq_false c1
     have hx : x39.toNat = l.length := by have := HK.out; have := HEq.out; omega
     have ho := HO.out
     rw [hx] at ho
     have HO2 := Aside0.mk ho
     clear ho hx c1
     go_wp2_with fail
     go_ret
     exact ⟨_, rfl, by rw [HV.out]; exact Kd.R_mono HO2.out (fun _ _ => trivial), HB.out⟩
theorem mayS_calls (s : S36) (h : fitS s) (w : World) : Calls Tryz.prog 55 #[.agg #[.int .u64 s.f0, .int .u64 s.f1, .int .u64 s.f2, .int .u8 s.f3, .string s.f4, .string s.f5, .int .i64 s.f6, .int .i64 s.f7]] w fun e w' => e = .returned (.bool (mayS s)) ∧ Below w.heap.size w w' := by
 obtain ⟨k, hk⟩ := Ev.rounds (may_ev s.f0 s.f1 s.f2 s.f3 s.f4 s.f5 s.f6 s.f7 h.2.1 h.2.2)
 exact span_May.calls k _ _ _ _ _ _ _ _ _ w hk
set_option maxRecDepth 100000 in
theorem notmay_calls (s : S36) (h : fitS s) (w : World) : Calls Tryz.prog 148 #[.agg #[.int .u64 s.f0, .int .u64 s.f1, .int .u64 s.f2, .int .u8 s.f3, .string s.f4, .string s.f5, .int .i64 s.f6, .int .i64 s.f7]] w fun e w' => e = .returned (.bool (!mayS s)) ∧ Below w.heap.size w w' := by
 have HB := Aside0.mk (Below.refl w.heap.size w)
 have QM := Aside0.mk (mayS_calls s h)
 clear h
 go_enter Tryz.func148, Tryz.ntmps148
 go_wp2_with (go_at_call 55; refine (QM.out _).mono ?_; rintro e w1 ⟨rfl, hb⟩; have HB1 := Aside0.mk (below_step (below_alloc HB.out _) hb); clear hb)
 go_ret
 exact ⟨rfl, HB1.out⟩
set_option maxHeartbeats 4000000 in
set_option maxRecDepth 100000 in
theorem may_index  (es : List S36) (hn : es.length ≤ 1000000000) (A0 : Option Addr) (c0 : Nat) (w : World) (hr0 : Kd.C k36 w A0 es.length es)
  (QL0 : ∀ e ∈ es, ∀ W, Below w.heap.size w W → Calls Tryz.prog 148 #[.agg #[.int .u64 e.f0, .int .u64 e.f1, .int .u64 e.f2, .int .u8 e.f3, .string e.f4, .string e.f5, .int .i64 e.f6, .int .i64 e.f7]] W fun r w' => r = .returned (.bool ((fun s => !mayS s) e)) ∧ Below W.heap.size W w') :
  Calls Tryz.prog 127 #[.slice A0 es.length c0, .func (.func 148) #[] #[]] w fun r w' => ∃ i : Int, r = .returned (.int .i64 i) ∧ decide (0 ≤ i) = es.any (fun s => !mayS s) ∧ Below w.heap.size w w' := by
 have HB0 := Aside0.mk (Below.refl w.heap.size w)
 have HR0 := Aside0.mk hr0
 have HN := Aside0.mk hn
 have QL := Aside0.mk QL0
 clear hr0 hn QL0
 generalize hpp : (fun s => !mayS s) = pp at *
 clear hpp
 go_enter Tryz.func127, Tryz.ntmps127
 go_wp2_with fail
 go_loopg [8] es.length (fun kq v8 w' => ∃ x8 : Int, v8 = .int .i64 x8 ∧ Aside0 (0 ≤ x8 ∧ x8 + kq = es.length) ∧ Aside0 (∀ e ∈ es.take x8.toNat, pp e = false) ∧ Aside0 (Below w.heap.size w w'))
 case atStart => exact ⟨0, rfl, ⟨by omega, by omega⟩, ⟨by simp⟩, HB0⟩
 case round =>
  obtain ⟨x8, rfl, HK, HA, HB⟩ := hrel
  by_cases c1 : x8 < (es.length : Int)
  ·have c1b := decide_eq_true c1
   have p1 : 0 ≤ x8 := HK.out.1
   obtain ⟨ad, e1, hx0, hx1, hx2, hx3, hx4, hx5, hx6, hx7⟩ := at_T36 HR0.out x8 p1 c1
   cases e1
   replace hx0 := zc HB.out hx0
   replace hx1 := zc HB.out hx1
   replace hx2 := zc HB.out hx2
   replace hx3 := zc HB.out hx3
   replace hx4 := zc HB.out hx4
   replace hx5 := zc HB.out hx5
   replace hx6 := zc HB.out hx6
   replace hx7 := zc HB.out hx7
   have hit : x8.toNat < es.length := by omega
   have hev : rd_T36 es x8 = es[x8.toNat] := by simp [rd_T36, List.getD, hit]
   have hem : rd_T36 es x8 ∈ es := by rw [hev]; exact List.getElem_mem _
   have HE := Aside0.mk (show es.take (x8 + 1).toNat = es.take x8.toNat ++ [rd_T36 es x8] from by
    rw [show (x8 + 1).toNat = x8.toNat + 1 by omega, List.take_succ_eq_append_getElem hit, hev])
   have QE := Aside0.mk (QL.out _ hem wr HB.out)
   have HM := Aside0.mk hem
   have P1 := Aside0.mk p1
   have Q1 := Aside0.mk c1
   have W1 := Aside0.mk (show wrap64 (x8 + 1) = x8 + 1 from by unfold wrap64; have := HN.out; have := P1.out; have := Q1.out; omega)
   clear hev hem hit
   generalize rd_T36 es x8 = e at *
   replace p1 := eq_true p1
   replace c1 := eq_true c1
   obtain ⟨k1, rfl⟩ : ∃ k1, gk = k1 + 1 := ⟨gk - 1, by have := HK.out; have := Q1.out; omega⟩
   cases hq : pp e with
   | false =>
    rw [hq] at QE
    have HQ := Aside0.mk hq
    clear hq
    go_wp2_with (go_at_call 148; refine QE.out.mono ?_; rintro r w1 ⟨rfl, hb⟩; have HB1 := Aside0.mk (below_step HB.out hb); clear hb)
    go_roundg k1
    case measure => omega
    case rel => exact ⟨x8 + 1, by rw [W1.out], ⟨by have := P1.out; omega, by have := HK.out; omega⟩, ⟨by
     rw [HE.out]
     intro y hy
     rcases List.mem_append.1 hy with h | h
     ·exact HA.out y h
     ·rw [List.mem_singleton.1 h]; exact HQ.out⟩, HB1⟩
   | true =>
    rw [hq] at QE
    have HQ := Aside0.mk hq
    clear hq
    go_wp2_with (go_at_call 148; refine QE.out.mono ?_; rintro r w1 ⟨rfl, hb⟩; have HB1 := Aside0.mk (below_step HB.out hb); clear hb)
    go_ret
    refine ⟨x8, rfl, ?_, HB1.out⟩
    rw [decide_eq_true P1.out]
    exact (List.any_eq_true.2 ⟨e, HM.out, HQ.out⟩).symm
  ·have c1b := decide_eq_false c1
   have hx : x8.toNat = es.length := by have := HK.out; omega
   have ha := HA.out
   rw [hx, List.take_length] at ha
   have HAll := Aside0.mk ha
   clear ha hx c1
   go_wp2_with fail
   go_ret
   refine ⟨-1, rfl, ?_, HB.out⟩
   exact (List.any_eq_false.2 (fun e he => by rw [HAll.out e he]; simp)).symm
set_option maxHeartbeats 2000000 in
set_option maxRecDepth 100000 in
theorem may_contains  (es : List S36) (hn : es.length ≤ 1000000000) (A0 : Option Addr) (c0 : Nat) (w : World) (hr0 : Kd.C k36 w A0 es.length es)
  (QL0 : ∀ e ∈ es, ∀ W, Below w.heap.size w W → Calls Tryz.prog 148 #[.agg #[.int .u64 e.f0, .int .u64 e.f1, .int .u64 e.f2, .int .u8 e.f3, .string e.f4, .string e.f5, .int .i64 e.f6, .int .i64 e.f7]] W fun r w' => r = .returned (.bool ((fun s => !mayS s) e)) ∧ Below W.heap.size W w') :
  Calls Tryz.prog 90 #[.slice A0 es.length c0, .func (.func 148) #[] #[]] w fun r w' => r = .returned (.bool (es.any (fun s => !mayS s))) ∧ Below w.heap.size w w' := by
 have HB0 := Aside0.mk (Below.refl w.heap.size w)
 have QI := Aside0.mk (may_index  es hn A0 c0 w hr0 QL0)
 clear hn hr0 QL0
 go_enter Tryz.func90, Tryz.ntmps90
 go_wp2_with (go_at_call 127; refine QI.out.mono ?_; rintro r w1 ⟨i, rfl, hd, hb⟩; have HD := Aside0.mk hd; have HB2 := Aside0.mk hb; clear hb hd)
 go_ret
 refine ⟨?_, HB2.out⟩
 rw [← HD.out]
 rfl
theorem not_any (l : List S36) : (!l.any (fun s => !mayS s)) = l.all mayS := by
 induction l with
 | nil => rfl
 | cons x l ih => rw [List.any_cons, List.all_cons, Bool.not_or, ih, Bool.not_not]
theorem smay_calls (l : List S36) (hf : ∀ s ∈ l, fitS s) (hn : l.length ≤ 1000000000) (A0 : Option Addr) (c0 : Nat) (w : World) (hr0 : Kd.C k36 w A0 l.length l) :
  Calls Tryz.prog 119 #[.slice A0 l.length c0] w fun e w' => e = .returned (.bool (mayA l)) ∧ Below w.heap.size w w' := by
 have QC := Aside0.mk (may_contains l hn A0 c0 w hr0 (fun e he W hb => notmay_calls e (hf e he) W))
 clear hf hn hr0
 go_enter Tryz.func119, Tryz.ntmps119
 go_wp2_with (go_at_call 90; refine QC.out.mono ?_; rintro e w1 ⟨rfl, hb⟩; have HB1 := Aside0.mk hb; clear hb)
 go_ret
 refine ⟨?_, HB1.out⟩
 rw [show mayA l = (!l.any (fun s => !mayS s)) from (not_any l).symm]
 rfl
theorem keep1s {w : World} {a : Addr} {v : Value} {o1 : Obj} (h : w.cell? a = some v) : (w.alloc o1).cell? a = some v :=
 ((below_alloc (Below.refl w.heap.size w) o1).cell (World.block_lt_of_cell? w _ h)).trans h
def beyondB (o : Int) : Bool := decide (288230376151711744 < o) || decide (o < -288230376151711744)
theorem beyond_calls (o : Int) (w : World) : Calls Tryz.prog 118 #[.int .i64 o] w fun e w' => e = .returned (.bool (beyondB o)) ∧ Below w.heap.size w w' := by
 have HB := Aside0.mk (Below.refl w.heap.size w)
 by_cases c1 : 288230376151711744 < o
 ·have c1b := decide_eq_true c1
  have hv := Aside0.mk (show beyondB o = true from by unfold beyondB; rw [c1b]; rfl)
  clear c1
  go_enter Tryz.func118, Tryz.ntmps118
  go_wp2_with fail
  go_ret
  exact ⟨by rw [hv.out]; rfl, HB.out⟩
 by_cases c2 : o < -288230376151711744
 ·have c1b := decide_eq_false c1
  have c2b := decide_eq_true c2
  have hv := Aside0.mk (show beyondB o = true from by unfold beyondB; rw [c1b, c2b]; rfl)
  clear c1 c2
  go_enter Tryz.func118, Tryz.ntmps118
  go_wp2_with fail
  go_ret
  exact ⟨by rw [hv.out]; rfl, HB.out⟩
 have c1b := decide_eq_false c1
 have c2b := decide_eq_false c2
 have hv := Aside0.mk (show beyondB o = false from by unfold beyondB; rw [c1b, c2b]; rfl)
 clear c1 c2
 go_enter Tryz.func118, Tryz.ntmps118
 go_wp2_with fail
 go_ret
 exact ⟨by rw [hv.out]; rfl, HB.out⟩
set_option maxHeartbeats 4000000 in
set_option maxRecDepth 100000 in
theorem beyond_index  (es : List Int) (hn : es.length ≤ 1000000000) (A0 : Option Addr) (c0 : Nat) (w : World) (hr0 : Kd.C (Kd.int .i64) w A0 es.length es)
  (QL0 : ∀ e ∈ es, ∀ W, Below w.heap.size w W → Calls Tryz.prog 118 #[.int .i64 e] W fun r w' => r = .returned (.bool (beyondB e)) ∧ Below W.heap.size W w') :
  Calls Tryz.prog 92 #[.slice A0 es.length c0, .func (.func 118) #[] #[]] w fun r w' => ∃ i : Int, r = .returned (.int .i64 i) ∧ decide (0 ≤ i) = es.any beyondB ∧ Below w.heap.size w w' := by
 have HB0 := Aside0.mk (Below.refl w.heap.size w)
 have HR0 := Aside0.mk hr0
 have HN := Aside0.mk hn
 have QL := Aside0.mk QL0
 clear hr0 hn QL0
 generalize hpp : beyondB = pp at *
 clear hpp
 go_enter Tryz.func92, Tryz.ntmps92
 go_wp2_with fail
 go_loopg [8] es.length (fun kq v8 w' => ∃ x8 : Int, v8 = .int .i64 x8 ∧ Aside0 (0 ≤ x8 ∧ x8 + kq = es.length) ∧ Aside0 (∀ e ∈ es.take x8.toNat, pp e = false) ∧ Aside0 (Below w.heap.size w w'))
 case atStart => exact ⟨0, rfl, ⟨by omega, by omega⟩, ⟨by simp⟩, HB0⟩
 case round =>
  obtain ⟨x8, rfl, HK, HA, HB⟩ := hrel
  by_cases c1 : x8 < (es.length : Int)
  ·have c1b := decide_eq_true c1
   have p1 : 0 ≤ x8 := HK.out.1
   obtain ⟨ad, e1, hx0⟩ := Kd.at_int HR0.out x8 p1 c1
   cases e1
   replace hx0 := zc HB.out hx0
   have hit : x8.toNat < es.length := by omega
   have hev : rd es x8 = es[x8.toNat] := by simp [rd, List.getD, hit]
   have hem : rd es x8 ∈ es := by rw [hev]; exact List.getElem_mem _
   have HE := Aside0.mk (show es.take (x8 + 1).toNat = es.take x8.toNat ++ [rd es x8] from by
    rw [show (x8 + 1).toNat = x8.toNat + 1 by omega, List.take_succ_eq_append_getElem hit, hev])
   have QE := Aside0.mk (QL.out _ hem wr HB.out)
   have HM := Aside0.mk hem
   have P1 := Aside0.mk p1
   have Q1 := Aside0.mk c1
   have W1 := Aside0.mk (show wrap64 (x8 + 1) = x8 + 1 from by unfold wrap64; have := HN.out; have := P1.out; have := Q1.out; omega)
   clear hev hem hit
   generalize rd es x8 = e at *
   replace p1 := eq_true p1
   replace c1 := eq_true c1
   obtain ⟨k1, rfl⟩ : ∃ k1, gk = k1 + 1 := ⟨gk - 1, by have := HK.out; have := Q1.out; omega⟩
   cases hq : pp e with
   | false =>
    rw [hq] at QE
    have HQ := Aside0.mk hq
    clear hq
    go_wp2_with (go_at_call 118; refine QE.out.mono ?_; rintro r w1 ⟨rfl, hb⟩; have HB1 := Aside0.mk (below_step HB.out hb); clear hb)
    go_roundg k1
    case measure => omega
    case rel => exact ⟨x8 + 1, by rw [W1.out], ⟨by have := P1.out; omega, by have := HK.out; omega⟩, ⟨by
     rw [HE.out]
     intro y hy
     rcases List.mem_append.1 hy with h | h
     ·exact HA.out y h
     ·rw [List.mem_singleton.1 h]; exact HQ.out⟩, HB1⟩
   | true =>
    rw [hq] at QE
    have HQ := Aside0.mk hq
    clear hq
    go_wp2_with (go_at_call 118; refine QE.out.mono ?_; rintro r w1 ⟨rfl, hb⟩; have HB1 := Aside0.mk (below_step HB.out hb); clear hb)
    go_ret
    refine ⟨x8, rfl, ?_, HB1.out⟩
    rw [decide_eq_true P1.out]
    exact (List.any_eq_true.2 ⟨e, HM.out, HQ.out⟩).symm
  ·have c1b := decide_eq_false c1
   have hx : x8.toNat = es.length := by have := HK.out; omega
   have ha := HA.out
   rw [hx, List.take_length] at ha
   have HAll := Aside0.mk ha
   clear ha hx c1
   go_wp2_with fail
   go_ret
   refine ⟨-1, rfl, ?_, HB.out⟩
   exact (List.any_eq_false.2 (fun e he => by rw [HAll.out e he]; simp)).symm
set_option maxHeartbeats 2000000 in
set_option maxRecDepth 100000 in
theorem beyond_contains  (es : List Int) (hn : es.length ≤ 1000000000) (A0 : Option Addr) (c0 : Nat) (w : World) (hr0 : Kd.C (Kd.int .i64) w A0 es.length es)
  (QL0 : ∀ e ∈ es, ∀ W, Below w.heap.size w W → Calls Tryz.prog 118 #[.int .i64 e] W fun r w' => r = .returned (.bool (beyondB e)) ∧ Below W.heap.size W w') :
  Calls Tryz.prog 51 #[.slice A0 es.length c0, .func (.func 118) #[] #[]] w fun r w' => r = .returned (.bool (es.any beyondB)) ∧ Below w.heap.size w w' := by
 have HB0 := Aside0.mk (Below.refl w.heap.size w)
 have QI := Aside0.mk (beyond_index  es hn A0 c0 w hr0 QL0)
 clear hn hr0 QL0
 go_enter Tryz.func51, Tryz.ntmps51
 go_wp2_with (go_at_call 92; refine QI.out.mono ?_; rintro r w1 ⟨i, rfl, hd, hb⟩; have HD := Aside0.mk hd; have HB2 := Aside0.mk hb; clear hb hd)
 go_ret
 refine ⟨?_, HB2.out⟩
 rw [← HD.out]
 rfl
def startAt (offs nums : List Int) (s : S36) (i : Int) : Int := wrap64 (s.f6 + rd offs (rd nums i))
set_option maxRecDepth 100000 in
set_option maxHeartbeats 2000000 in
theorem add_calls (offs nums : List Int) (s : S36) (i : Int) (h0 : 0 ≤ i) (h1 : i < nums.length) (h2 : 0 ≤ rd nums i) (h3 : rd nums i < offs.length) (A1 A2 : Option Addr) (c1 c2 B1 B2 : Nat) (w : World)
  (hr1 : Kd.C (Kd.int .i64) w A1 offs.length offs) (hr2 : Kd.C (Kd.int .i64) w A2 nums.length nums) (hc1 : w.cell? ⟨B1, 0, none⟩ = some (.slice A1 offs.length c1)) (hc2 : w.cell? ⟨B2, 0, none⟩ = some (.slice A2 nums.length c2)) :
  Calls Tryz.prog 121 #[.int .i64 i, .agg #[.int .u64 s.f0, .int .u64 s.f1, .int .u64 s.f2, .int .u8 s.f3, .string s.f4, .string s.f5, .int .i64 s.f6, .int .i64 s.f7], .pointer (some ⟨B1, 0, none⟩), .pointer (some ⟨B2, 0, none⟩)] w fun e w' => e = .returned (.int .i64 (startAt offs nums s i)) ∧ Below w.heap.size w w' := by
 have HB := Aside0.mk (Below.refl w.heap.size w)
 obtain ⟨ad2, e2, hn⟩ := Kd.at_int hr2 i h0 h1
 cases e2
 obtain ⟨ad1, e1, ho⟩ := Kd.at_int hr1 (rd nums i) h2 h3
 cases e1
 have hv := Aside0.mk (show startAt offs nums s i = wrap64 (s.f6 + rd offs (rd nums i)) from rfl)
 clear hr1 hr2
 generalize startAt offs nums s i = z at *
 generalize rd offs (rd nums i) = o at *
 generalize rd nums i = j at *
 have k1 := fun q => keep1s (o1 := q) hc1
 have k2 := fun q => keep1s (o1 := q) hc2
 have k3 := fun q => keep1s (o1 := q) hn
 have k4 := fun q => keep1s (o1 := q) ho
 replace h0 := eq_true h0
 replace h1 := eq_true h1
 replace h2 := eq_true h2
 replace h3 := eq_true h3
 clear hc1 hc2 hn ho
 go_enter Tryz.func121, Tryz.ntmps121
 go_wp2_with fail
 go_quiet (fail)
 go_wp2_with fail
 go_ret
 exact ⟨by rw [hv.out]; rfl, pw_below_drewN (below_alloc HB.out _) _⟩
set_option maxHeartbeats 4000000 in
set_option maxRecDepth 100000 in
theorem each_calls (g : Int → Int) (l0 : List S36) (hl : l0.length ≤ 1759218604441) (A0 : Option Addr) (c0 B1 B2 : Nat) (w : World) (hr0 : Kd.C k36 w A0 l0.length l0)
  (QA0 : ∀ (i : Int) (s : S36), 0 ≤ i → i < l0.length → rd_T36 l0 i = s → ∀ W, Below w.heap.size w W → Calls Tryz.prog 121 #[.int .i64 i, .agg #[.int .u64 s.f0, .int .u64 s.f1, .int .u64 s.f2, .int .u8 s.f3, .string s.f4, .string s.f5, .int .i64 s.f6, .int .i64 s.f7], .pointer (some ⟨B1, 0, none⟩), .pointer (some ⟨B2, 0, none⟩)] W fun e w' => e = .returned (.int .i64 (g i)) ∧ Below W.heap.size W w') :
  Calls Tryz.prog 120 #[.slice A0 l0.length c0, .func (.func 121) #[] #[.pointer (some ⟨B1, 0, none⟩), .pointer (some ⟨B2, 0, none⟩)]] w fun e w' => ∃ v : Value, e = .returned v ∧ Kd.R (Kd.int .i64) 2 w' w.heap.size (fun _ => True) v ((List.range l0.length).map (fun i : Nat => g i)) ∧ Below w.heap.size w w' := by
 have HR0 := Aside0.mk hr0
 have HL := Aside0.mk hl
 have QA := Aside0.mk QA0
 have HB0 := Aside0.mk (Below.refl w.heap.size w)
 have hlen : ((List.range l0.length).map (fun i : Nat => g i)).length = l0.length := by simp
 have hnext : ∀ x : Int, 0 ≤ x → x < l0.length → ((List.range l0.length).map (fun i : Nat => g i)).take (x + 1).toNat = ((List.range l0.length).map (fun i : Nat => g i)).take x.toNat ++ [g x] := by
  intro x h0 h1
  have hx : x.toNat < l0.length := by omega
  rw [show (x + 1).toNat = x.toNat + 1 by omega, List.take_succ_eq_append_getElem (by rw [hlen]; exact hx)]
  simp [show max x 0 = x from by omega]
 have NX := Aside0.mk hnext
 have HLen := Aside0.mk hlen
 clear hr0 hl QA0 hlen hnext
 generalize (List.range l0.length).map (fun i : Nat => g i) = ns at *
 go_enter Tryz.func120, Tryz.ntmps120
 go_wp2_with fail
 go_loopg [5, 10] l0.length (fun kq v5 v10 w' => ∃ x10 : Int, v10 = .int .i64 x10 ∧ Aside0 (0 ≤ x10 ∧ x10 + kq = l0.length) ∧ Aside0 (Kd.R (Kd.int .i64) 2 w' w.heap.size (fun _ => True) v5 (ns.take x10.toNat)) ∧ Aside0 (Below w.heap.size w w'))
 case atStart => exact ⟨0, rfl, ⟨by omega, by omega⟩, ⟨Kd.R_nil _ _ _ _ _⟩, HB0⟩
 case round =>
  obtain ⟨x10, rfl, HK, HO, HB⟩ := hrel
  by_cases c1 : x10 < (l0.length : Int)
  ·have c1b := decide_eq_true c1
   have p1 : 0 ≤ x10 := HK.out.1
   obtain ⟨ad1, e1, hx0, hx1, hx2, hx3, hx4, hx5, hx6, hx7⟩ := at_T36 HR0.out x10 p1 c1
   cases e1
   replace hx0 := zc HB.out hx0
   replace hx1 := zc HB.out hx1
   replace hx2 := zc HB.out hx2
   replace hx3 := zc HB.out hx3
   replace hx4 := zc HB.out hx4
   replace hx5 := zc HB.out hx5
   replace hx6 := zc HB.out hx6
   replace hx7 := zc HB.out hx7
   have QE := Aside0.mk (QA.out x10 _ p1 c1 rfl)
   have P1 := Aside0.mk p1
   have Q1 := Aside0.mk c1
   generalize rd_T36 l0 x10 = s at *
   have HG := Aside0.mk (NX.out x10 p1 c1)
   generalize g x10 = gx at *
   replace p1 := eq_true p1
   replace c1 := eq_true c1
   have W1 := Aside0.mk (show wrap64 (x10 + 1) = x10 + 1 from by unfold wrap64; have := HL.out; have := P1.out; have := Q1.out; omega)
   obtain ⟨k1, rfl⟩ : ∃ k1, gk = k1 + 1 := ⟨gk - 1, by have := HK.out; have := Q1.out; omega⟩
   go_wp2_with (first
    | (go_at_call 121; refine (QE.out _ (below_alloc HB.out _)).mono ?_; rintro e w1 ⟨rfl, hb⟩; have HB1 := Aside0.mk (below_step (below_alloc HB.out _) hb); have HO1 := Aside0.mk (Kd.R_below (Kd.R_alloc HO.out _) hb); clear hb)
    | ((with_reducible refine gate_builtin (b := .append) (xs := #[.tmp 15, .tmp 20]) rfl ?_); at_builtin; refine Kd.R_append (Kd.int .i64) (w0 := w) w.heap.size rfl (.tmp 15) (.tmp 20) 27 2 (.int .i64 0) 8 rfl Tryz.underlying27 (by kernel_rfl) rfl (by decide) (by omega) u5 (ns.take x10.toNat) gx [.int .i64 gx] (fun _ => True) (fun _ => False) rfl ?aX ?aP (fun _ hk => hk.elim) ?aF ?aO ?aB ?aS ?aL ?_; (case aX => first | rfl | (go_simp; done) | (simp; done)); (case aP => exact rfl); (case aB => exact (by repeat (first | (with_reducible first | exact HB1.out | apply below_alloc | apply pw_below_drewN | apply below_drew1) | exact HB1.out))); (case aF => exact (fun _ _ => trivial)); (case aO => exact (zR HO1.out)); (case aS => exact (below_size (by repeat (first | (with_reducible first | exact HB1.out | apply below_alloc | apply pw_below_drewN | apply below_drew1) | exact HB1.out)))); (case aL => have := HL.out; have := Q1.out; simp only [List.length_take]; omega); intro v2 w2 ho hb hg hat; have HO2 := Aside0.mk ho; have HB2 := Aside0.mk hb; clear ho hb hg hat))
   go_roundg k1
   case measure => omega
   case rel => exact ⟨x10 + 1, by rw [W1.out], ⟨by have := P1.out; omega, by have := HK.out; omega⟩, ⟨by rw [HG.out]; exact HO2.out⟩, HB2⟩
  ·have c1b := decide_eq_false c1
   have hx : x10.toNat = ns.length := by have := HK.out; have := HLen.out; omega
   have ho := HO.out
   rw [hx, List.take_length] at ho
   have HO2 := Aside0.mk ho
   clear ho HO
   go_wp2
   go_ret
   exact ⟨_, rfl, HO2.out, HB.out⟩
theorem rd_mem' (l : List Int) (i : Int) (h0 : 0 ≤ i) (h1 : i < l.length) : rd l i ∈ l := by
 have hx : i.toNat < l.length := by omega
 rw [show rd l i = l[i.toNat] by simp [rd, List.getD, hx]]
 exact List.getElem_mem _
theorem results_tmp2 {fn : Func} {a b : Tmp} (h : fn.results = #[.tmp a, .tmp b]) (tmps : Array Value) (P : Program) (w : World) : (results fn tmps).run P w = .ok (.tuple #[tmps.getD a undef, tmps.getD b undef]) w := by
 simp [results, h]
def startsL (l : List S36) (offs : List Int) : List Int := (List.range l.length).map (fun i : Nat => startAt offs (numsL l) (rd_T36 l (i : Int)) i)
def startsB (l : List S36) (offs : List Int) : List Int × Bool := if mayA l = true ∧ offs.length = (hostsB l).length ∧ offs.any beyondB = false then (startsL l offs, true) else ([], false)
theorem numsL_in (l : List S36) : ∀ x ∈ numsL l, 0 ≤ x ∧ x < (hostsB l).length := by
 intro x hx
 unfold numsL at hx
 obtain ⟨s, hs, rfl⟩ := List.mem_map.1 hx
 have h1 : s.f4 ∈ hostsB l := (hostsB_mem l _).2 ⟨s, hs, rfl⟩
 have h2 : numB (hostsB l) s.f4 < (hostsB l).length := List.findIdx_lt_length_of_exists ⟨s.f4, h1, by simp⟩
 exact ⟨by omega, by omega⟩
set_option maxHeartbeats 8000000 in
set_option maxRecDepth 100000 in
theorem starts_calls (l0 : List S36) (l1 : List Int) (hf : ∀ s ∈ l0, fitS s) (hl : l0.length ≤ 1000000000) (hl1 : l1.length ≤ 1000000000) (A0 A1 : Option Addr) (c0 c1_ : Nat) (w : World) (hr0 : Kd.C k36 w A0 l0.length l0) (hc0 : l0.length ≤ c0) (hr1 : Kd.C (Kd.int .i64) w A1 l1.length l1) :
  Calls Tryz.prog 70 #[.slice A0 l0.length c0, .slice A1 l1.length c1_] w fun e w' => ∃ v : Value, e = .returned (.tuple #[v, .bool (startsB l0 l1).2]) ∧ Kd.R (Kd.int .i64) 2 w' w.heap.size (fun _ => True) v (startsB l0 l1).1 ∧ Below w.heap.size w w' := by
 have hmf : ∀ (fn : Fn) (first cap : Array Value) (w : World), (Instr.makeFunc fn first cap).run Tryz.prog w = .ok (.func fn first cap) w := fun _ _ _ _ => rfl
 have HB0 := Aside0.mk (Below.refl w.heap.size w)
 have HR0 := Aside0.mk hr0
 have HR1 := Aside0.mk hr1
 have QM := Aside0.mk (fun (W : World) (hb : Below w.heap.size w W) => smay_calls l0 hf hl A0 c0 W (Kd.C_below hr0 hb))
 have QH := Aside0.mk (fun (W : World) (hb : Below w.heap.size w W) => hosts_calls l0 (by omega) A0 c0 W (Kd.C_below hr0 hb) hc0)
 have QB := Aside0.mk (fun (W : World) (hb : Below w.heap.size w W) => beyond_contains l1 hl1 A1 c1_ W (Kd.C_below hr1 hb) (fun e _ V _ => beyond_calls e V))
 have QN := Aside0.mk (fun (W : World) (hb : Below w.heap.size w W) => nums_calls l0 (by omega) hf A0 c0 W (Kd.C_below hr0 hb) hc0)
 have HNin := Aside0.mk (numsL_in l0)
 have HNl := Aside0.mk (show (numsL l0).length = l0.length by unfold numsL; rw [List.length_map])
 have HL := Aside0.mk hl
 have HSt := Aside0.mk (show startsL l0 l1 = (List.range l0.length).map (fun i : Nat => startAt l1 (numsL l0) (rd_T36 l0 (i : Int)) i) from rfl)
 unfold startsB
 clear hr0 hr1 hf hl hl1 hc0
 cases h1 : mayA l0 with
 | false =>
  rw [h1] at QM
  clear h1
  simp only [Bool.false_eq_true, false_and, if_false]
  go_enter Tryz.func70, Tryz.ntmps70
  go_wp2_with fail
  refine start_ (n := 16) (S := fun W' => Below w.heap.size w W' ∧ W'.cell? ⟨w.heap.size, 0, none⟩ = some (.slice A1 l1.length c1_)) (ds := []) #[false, false, false, false, false, false, false, false, false, false, false, false, false, false, false, false] (by kernel_rfl) rfl rfl ⟨below_drew (below_alloc HB0.out _), own1 w _ _ 0 rfl⟩ (fun hHeld => ?_)
  generalize World.drew _ = W2 at *
  refine zp 0 (some 8) ?_
  refine z1 1 (some 9) (fun K hK => ?_)
  first | (go_at_call 119; (with_reducible refine (QM.out _ hHeld.1).mono ?_); rintro e w4 ⟨rfl, hb⟩) | (go_simp; (go_at_call 119; (with_reducible refine (QM.out _ hHeld.1).mono ?_); rintro e w4 ⟨rfl, hb⟩))
  refine hK.out _ _ (⟨below_step hHeld.1 hb, (hb.cell (World.block_lt_of_cell? _ _ hHeld.2)).trans hHeld.2⟩) (fun hHeld2 => ?_)
  clear hK K hb hHeld
  have hHeld := hHeld2
  clear hHeld2
  try simp only [Act.put, List.setIfInBounds_toArray, List.set_cons_zero, List.set_cons_succ]
  refine zp 2 (some 10) ?_
  refine zp 3 (some 11) ?_
  refine zq 4 (some 12) ?_
  refine zq 5 (some 13) ?_
  refine zq 6 (some 14) ?_
  refine zq 7 (some 15) ?_
  refine zq 8 (some 16) ?_
  refine zq 9 (some 17) ?_
  refine zp 10 (some 18) ?_
  refine zp 11 (some 19) ?_
  refine zq 12 (some 20) ?_
  refine zq 13 (some 21) ?_
  refine zq 14 (some 22) ?_
  refine zp 15 (some 23) ?_
  refine done_ (by kernel_rfl) ?_
  have HBe := Aside0.mk hHeld.1
  clear hHeld
  go_wp2_with fail
  refine bodyPost_ret (results_tmp2 rfl _ _ _) rfl ?_
  exact ⟨_, rfl, Kd.R_nil _ _ _ _ _, HBe.out⟩
 | true =>
 rw [h1] at QM
 clear h1
 by_cases h2 : l1.length = (hostsB l0).length
 rotate_left
 ·have c2b : (((l1.length : Nat) : Int) != (((hostsB l0).length : Nat) : Int)) = true := by rw [bne_iff_ne]; omega
  rw [if_neg (fun h => h2 h.2.1)]
  clear h2
  go_enter Tryz.func70, Tryz.ntmps70
  go_wp2_with fail
  refine start_ (n := 16) (S := fun W' => Below w.heap.size w W' ∧ W'.cell? ⟨w.heap.size, 0, none⟩ = some (.slice A1 l1.length c1_)) (ds := []) #[false, false, false, false, false, false, false, false, false, false, false, false, false, false, false, false] (by kernel_rfl) rfl rfl ⟨below_drew (below_alloc HB0.out _), own1 w _ _ 0 rfl⟩ (fun hHeld => ?_)
  generalize World.drew _ = W2 at *
  refine zp 0 (some 8) ?_
  refine z1 1 (some 9) (fun K hK => ?_)
  first | (go_at_call 119; (with_reducible refine (QM.out _ hHeld.1).mono ?_); rintro e w4 ⟨rfl, hb⟩) | (go_simp; (go_at_call 119; (with_reducible refine (QM.out _ hHeld.1).mono ?_); rintro e w4 ⟨rfl, hb⟩))
  refine hK.out _ _ (⟨below_step hHeld.1 hb, (hb.cell (World.block_lt_of_cell? _ _ hHeld.2)).trans hHeld.2⟩) (fun hHeld2 => ?_)
  clear hK K hb hHeld
  have hHeld := hHeld2
  clear hHeld2
  try simp only [Act.put, List.setIfInBounds_toArray, List.set_cons_zero, List.set_cons_succ]
  refine zp 2 (some 10) ?_
  refine zp 3 (some 11) ?_
  refine zt2 4 (some 12) ?_
  refine zp 5 (some 13) ?_
  refine zp 6 (some 14) ?_
  refine z1 7 (some 15) (fun K hK => ?_)
  first | (go_at_call 59; (with_reducible refine (QH.out _ hHeld.1).mono ?_); rintro e w4 ⟨v4, rfl, ho, hb⟩; obtain ⟨A4, c4, rfl⟩ := Kd.R_slice ho; clear ho) | (go_simp; (go_at_call 59; (with_reducible refine (QH.out _ hHeld.1).mono ?_); rintro e w4 ⟨v4, rfl, ho, hb⟩; obtain ⟨A4, c4, rfl⟩ := Kd.R_slice ho; clear ho))
  refine hK.out _ _ (⟨below_step hHeld.1 hb, (hb.cell (World.block_lt_of_cell? _ _ hHeld.2)).trans hHeld.2⟩) (fun hHeld2 => ?_)
  clear hK K hb hHeld
  have hHeld := hHeld2
  clear hHeld2
  try simp only [Act.put, List.setIfInBounds_toArray, List.set_cons_zero, List.set_cons_succ]
  refine zp 8 (some 16) ?_
  refine zp 9 (some 17) ?_
  refine zp 10 (some 18) ?_
  refine zp 11 (some 19) ?_
  refine zq 12 (some 20) ?_
  refine zq 13 (some 21) ?_
  refine zq 14 (some 22) ?_
  refine zp 15 (some 23) ?_
  refine done_ (by kernel_rfl) ?_
  have HBe := Aside0.mk hHeld.1
  clear hHeld
  go_wp2_with fail
  refine bodyPost_ret (results_tmp2 rfl _ _ _) rfl ?_
  exact ⟨_, rfl, Kd.R_nil _ _ _ _ _, HBe.out⟩
 have c2b : (((l1.length : Nat) : Int) != (((hostsB l0).length : Nat) : Int)) = false := by rw [h2]; simp
 have HH2 := Aside0.mk h2
 cases h3 : l1.any beyondB with
 | true =>
  rw [if_neg (fun h => by cases h.2.2)]
  rw [h3] at QB
  clear h2 h3
  go_enter Tryz.func70, Tryz.ntmps70
  go_wp2_with fail
  refine start_ (n := 16) (S := fun W' => Below w.heap.size w W' ∧ W'.cell? ⟨w.heap.size, 0, none⟩ = some (.slice A1 l1.length c1_)) (ds := []) #[false, false, false, false, false, false, false, false, false, false, false, false, false, false, false, false] (by kernel_rfl) rfl rfl ⟨below_drew (below_alloc HB0.out _), own1 w _ _ 0 rfl⟩ (fun hHeld => ?_)
  generalize World.drew _ = W2 at *
  refine zp 0 (some 8) ?_
  refine z1 1 (some 9) (fun K hK => ?_)
  first | (go_at_call 119; (with_reducible refine (QM.out _ hHeld.1).mono ?_); rintro e w4 ⟨rfl, hb⟩) | (go_simp; (go_at_call 119; (with_reducible refine (QM.out _ hHeld.1).mono ?_); rintro e w4 ⟨rfl, hb⟩))
  refine hK.out _ _ (⟨below_step hHeld.1 hb, (hb.cell (World.block_lt_of_cell? _ _ hHeld.2)).trans hHeld.2⟩) (fun hHeld2 => ?_)
  clear hK K hb hHeld
  have hHeld := hHeld2
  clear hHeld2
  try simp only [Act.put, List.setIfInBounds_toArray, List.set_cons_zero, List.set_cons_succ]
  refine zp 2 (some 10) ?_
  refine zp 3 (some 11) ?_
  refine zt2 4 (some 12) ?_
  refine zp 5 (some 13) ?_
  refine zp 6 (some 14) ?_
  refine z1 7 (some 15) (fun K hK => ?_)
  first | (go_at_call 59; (with_reducible refine (QH.out _ hHeld.1).mono ?_); rintro e w4 ⟨v4, rfl, ho, hb⟩; obtain ⟨A4, c4, rfl⟩ := Kd.R_slice ho; clear ho) | (go_simp; (go_at_call 59; (with_reducible refine (QH.out _ hHeld.1).mono ?_); rintro e w4 ⟨v4, rfl, ho, hb⟩; obtain ⟨A4, c4, rfl⟩ := Kd.R_slice ho; clear ho))
  refine hK.out _ _ (⟨below_step hHeld.1 hb, (hb.cell (World.block_lt_of_cell? _ _ hHeld.2)).trans hHeld.2⟩) (fun hHeld2 => ?_)
  clear hK K hb hHeld
  have hHeld := hHeld2
  clear hHeld2
  try simp only [Act.put, List.setIfInBounds_toArray, List.set_cons_zero, List.set_cons_succ]
  refine zp 8 (some 16) ?_
  refine zp 9 (some 17) ?_
  refine zp 10 (some 18) ?_
  refine zp 11 (some 19) ?_
  refine zt2 12 (some 20) ?_
  refine zp 13 (some 21) ?_
  refine z1 14 (some 22) (fun K hK => ?_)
  first | (go_at_call 51; (with_reducible refine (QB.out _ hHeld.1).mono ?_); rintro e w4 ⟨rfl, hb⟩) | (go_simp; (go_at_call 51; (with_reducible refine (QB.out _ hHeld.1).mono ?_); rintro e w4 ⟨rfl, hb⟩))
  refine hK.out _ _ (⟨below_step hHeld.1 hb, (hb.cell (World.block_lt_of_cell? _ _ hHeld.2)).trans hHeld.2⟩) (fun hHeld2 => ?_)
  clear hK K hb hHeld
  have hHeld := hHeld2
  clear hHeld2
  try simp only [Act.put, List.setIfInBounds_toArray, List.set_cons_zero, List.set_cons_succ]
  refine zp 15 (some 23) ?_
  refine done_ (by kernel_rfl) ?_
  have HBe := Aside0.mk hHeld.1
  clear hHeld
  go_wp2_with fail
  refine bodyPost_ret (results_tmp2 rfl _ _ _) rfl ?_
  exact ⟨_, rfl, Kd.R_nil _ _ _ _ _, HBe.out⟩
 | false =>
  rw [if_pos ⟨rfl, h2, rfl⟩]
  rw [h3] at QB
  rw [HSt.out]
  clear h2 h3 HSt
  generalize numsL l0 = nums at *
  go_enter Tryz.func70, Tryz.ntmps70
  go_wp2_with fail
  refine start_ (n := 16) (S := fun W' => Below w.heap.size w W' ∧ W'.cell? ⟨w.heap.size, 0, none⟩ = some (.slice A1 l1.length c1_)) (ds := []) #[false, false, false, false, false, false, false, false, false, false, false, false, false, false, false, false] (by kernel_rfl) rfl rfl ⟨below_drew (below_alloc HB0.out _), own1 w _ _ 0 rfl⟩ (fun hHeld => ?_)
  generalize World.drew _ = W2 at *
  refine zp 0 (some 8) ?_
  refine z1 1 (some 9) (fun K hK => ?_)
  first | (go_at_call 119; (with_reducible refine (QM.out _ hHeld.1).mono ?_); rintro e w4 ⟨rfl, hb⟩) | (go_simp; (go_at_call 119; (with_reducible refine (QM.out _ hHeld.1).mono ?_); rintro e w4 ⟨rfl, hb⟩))
  refine hK.out _ _ (⟨below_step hHeld.1 hb, (hb.cell (World.block_lt_of_cell? _ _ hHeld.2)).trans hHeld.2⟩) (fun hHeld2 => ?_)
  clear hK K hb hHeld
  have hHeld := hHeld2
  clear hHeld2
  try simp only [Act.put, List.setIfInBounds_toArray, List.set_cons_zero, List.set_cons_succ]
  refine zp 2 (some 10) ?_
  refine zp 3 (some 11) ?_
  refine zt2 4 (some 12) ?_
  refine zp 5 (some 13) ?_
  refine zp 6 (some 14) ?_
  refine z1 7 (some 15) (fun K hK => ?_)
  first | (go_at_call 59; (with_reducible refine (QH.out _ hHeld.1).mono ?_); rintro e w4 ⟨v4, rfl, ho, hb⟩; obtain ⟨A4, c4, rfl⟩ := Kd.R_slice ho; clear ho) | (go_simp; (go_at_call 59; (with_reducible refine (QH.out _ hHeld.1).mono ?_); rintro e w4 ⟨v4, rfl, ho, hb⟩; obtain ⟨A4, c4, rfl⟩ := Kd.R_slice ho; clear ho))
  refine hK.out _ _ (⟨below_step hHeld.1 hb, (hb.cell (World.block_lt_of_cell? _ _ hHeld.2)).trans hHeld.2⟩) (fun hHeld2 => ?_)
  clear hK K hb hHeld
  have hHeld := hHeld2
  clear hHeld2
  try simp only [Act.put, List.setIfInBounds_toArray, List.set_cons_zero, List.set_cons_succ]
  refine zp 8 (some 16) ?_
  refine zp 9 (some 17) ?_
  refine zp 10 (some 18) ?_
  refine zp 11 (some 19) ?_
  refine zt2 12 (some 20) ?_
  refine zp 13 (some 21) ?_
  refine z1 14 (some 22) (fun K hK => ?_)
  first | (go_at_call 51; (with_reducible refine (QB.out _ hHeld.1).mono ?_); rintro e w4 ⟨rfl, hb⟩) | (go_simp; (go_at_call 51; (with_reducible refine (QB.out _ hHeld.1).mono ?_); rintro e w4 ⟨rfl, hb⟩))
  refine hK.out _ _ (⟨below_step hHeld.1 hb, (hb.cell (World.block_lt_of_cell? _ _ hHeld.2)).trans hHeld.2⟩) (fun hHeld2 => ?_)
  clear hK K hb hHeld
  have hHeld := hHeld2
  clear hHeld2
  try simp only [Act.put, List.setIfInBounds_toArray, List.set_cons_zero, List.set_cons_succ]
  refine zp 15 (some 23) ?_
  refine done_ (by kernel_rfl) ?_
  have HBe := Aside0.mk hHeld.1
  have hce := hHeld.2
  clear hHeld
  go_wp2_with (go_at_call 109; (with_reducible refine (QN.out _ HBe.out).mono ?_); rintro e w6 ⟨v6, rfl, ho, hb⟩; obtain ⟨A6, c6, rfl⟩ := Kd.R_slice ho; have HB6 := Aside0.mk (below_step HBe.out hb); have HN6 := Aside0.mk (Kd.R_reads' ho).2.2; have hc6 := (hb.cell (World.block_lt_of_cell? _ _ hce)).trans hce; clear ho hb hce)
  have hA : Below w6.heap.size w6 (w6.alloc (.cells #[.slice A6 nums.length c6] 43)) := below_alloc (Below.refl w6.heap.size w6) _
  have hB2 : (w6.alloc (.cells #[.slice A6 nums.length c6] 43)).cell? ⟨w6.heap.size, 0, none⟩ = some (.slice A6 nums.length c6) := (blk_cell (MapKept.heap_alloc w6 _).1 0).trans rfl
  have hB1 := (hA.cell (World.block_lt_of_cell? w6 _ hc6)).trans hc6
  have HBa := Aside0.mk (below_step HB6.out hA)
  have QE := Aside0.mk (each_calls (fun i => startAt l1 nums (rd_T36 l0 i) i) l0 (by have := HL.out; omega) A0 c0 w.heap.size w6.heap.size _ (Kd.C_below HR0.out HBa.out) (fun i s h0 h1 hs W hb => by
   rw [← hs]
   have hni := HNin.out _ (rd_mem' nums i h0 (by rw [HNl.out]; exact h1))
   exact add_calls l1 nums _ i h0 (by rw [HNl.out]; exact h1) hni.1 (by rw [HH2.out]; exact hni.2) A1 A6 c1_ c6 w.heap.size w6.heap.size W (Kd.C_below HR1.out (below_step HBa.out hb)) (Kd.C_below HN6.out (below_step hA hb)) ((hb.cell (World.block_lt_of_cell? _ _ hB1)).trans hB1) ((hb.cell (World.block_lt_of_cell? _ _ hB2)).trans hB2)))
  clear hA hB1 hB2 hc6
  go_wp2_with (go_at_call 120; (with_reducible refine QE.out.mono ?_); rintro e w7 ⟨v7, rfl, ho, hb⟩; have HO7 := Aside0.mk (Kd.R_lower ho HBa.out.size); have HB7 := Aside0.mk (below_step HBa.out hb); clear ho hb)
  refine bodyPost_ret (results_tmp2 rfl _ _ _) rfl ?_
  exact ⟨_, rfl, HO7.out, HB7.out⟩
end Go.Proofs.YtgknjgionicncaaGreat.L
namespace Go.Proofs.YtgknjgionicncaaGreat.V
open Go.RowKit Go.Proofs.YtgknjgionicncaaGreat.Q Go.Proofs.YtgknjgionicncaaGreat.X Go.Proofs.YtgknjgionicncaaGreatW.PrintWords Go.Proofs.YtgknjgionicncaaGreatW.PrintLast Go.Proofs.YtgknjgionicncaaGreatW.PrintMore
attribute [local go_sem] max2_int min2_int max_two min_two max_three min_three max_four min_four
set_option linter.unusedVariables false
set_option linter.unusedSimpArgs false
end Go.Proofs.YtgknjgionicncaaGreat.V
namespace Go.Proofs.YtgknjgionicncaaGreat.R
open Go.RowKit Go.Proofs.YtgknjgionicncaaGreat.Q Go.Proofs.YtgknjgionicncaaGreat.X Go.Proofs.YtgknjgionicncaaGreat.V Go.Proofs.YtgknjgionicncaaGreatW.PrintWords Go.Proofs.YtgknjgionicncaaGreatW.PrintLast Go.Proofs.YtgknjgionicncaaGreatW.PrintMore
attribute [local go_sem] max2_int min2_int max_two min_two max_three min_three max_four min_four
set_option linter.unusedVariables false
set_option linter.unusedSimpArgs false
end Go.Proofs.YtgknjgionicncaaGreat.R
namespace Go.Proofs.YtgknjgionicncaaGreatW.FldV
open Go Go.RowKit
theorem fld31_0 (a b c d e f : Value) (w : World) : (Instr.field 31 (.agg #[a, b, c, d, e, f]) 0).run Tryz.prog w = .ok a w := by
 have hu := Tryz.underlying31
 simp [Instr.field, run_underlying hu, asAgg, part, Tryz.isAgg3]
end Go.Proofs.YtgknjgionicncaaGreatW.FldV
namespace Go.Proofs.YtgknjgionicncaaGreatW.BndV
open Go.RowKit Go.Proofs.YtgknjgionicncaaGreatW.PrintWords Go.Proofs.YtgknjgionicncaaGreatW.PrintLast
section
variable {P : Program} {ops : Array Oper} {Q : Exit → Act → World → Prop}
theorem gate_tmp (N : Tmp) {rest : List Oper} {o : Oper} {a : Act} {W : World} {ags : Array Operand} {ts : Array TypeId} (_ho : o.op = .call { callee := .value (.tmp N), args := ags, argTypes := ts }) (h : wpList P ops Q (o :: rest) a W) : wpList P ops Q (o :: rest) a W := h
theorem goesB_ {rest : List Oper} {oi : Oper} {a : Act} {w : World} (N : Option Tmp) (hd : oi.dst = N) (hg : oi.guard = none) {f : FuncId} {fn : Func} {x : Operand} {first : Array Value} {ags : Array Operand} {ts : Array TypeId} (hf : P.funcs[f]? = some fn) (hname : (fn.name == "runtime.NumGoroutine") = false) (hb : fn.body.isSome = true) (args : Array Value)
  (hop : oi.op = .call { callee := .value x, args := ags, argTypes := ts }) (hx : a.eval x = .func (.func f) first #[]) (hargs : first ++ ags.map a.eval = args)
  (h : Calls P f args w fun e w' => ∃ v, e = .returned v ∧ wpList P ops Q rest (a.put N v) w') : wpList P ops Q (oi :: rest) a w := by
 refine wpList_plain hg fun K hK => ?_
 have he := enters_ hf hname hb args w
 have hrun : (execOp a.eval oi).run P w = .ok (.enter f args) w := by
  unfold execOp
  simp [hop, resolve, Deferred.ofValue, invoke, hx, hargs, he]
 unfold Oper.wp
 rw [hrun, Oper.upon_enter]
 refine h.mono fun e w'' hh => ?_
 obtain ⟨v, rfl, hk⟩ := hh
 subst hd
 exact hK _ _ hk
end
end Go.Proofs.YtgknjgionicncaaGreatW.BndV
namespace Go.Proofs.YtgknjgionicncaaGreat.V
open Go.RowKit Go.Proofs.YtgknjgionicncaaGreat.Q Go.Proofs.YtgknjgionicncaaGreat.X Go.Proofs.YtgknjgionicncaaGreatW.PrintWords Go.Proofs.YtgknjgionicncaaGreatW.PrintLast Go.Proofs.YtgknjgionicncaaGreatW.PrintMore
attribute [local go_sem] max2_int min2_int max_two min_two max_three min_three max_four min_four
set_option linter.unusedVariables false
set_option linter.unusedSimpArgs false
def clamp_right_1.f (l0 : List S36) : Option Bool := if l0.length ≤ 1000000000 ∧ (∀ s ∈ l0, L.fitS s) then some (l0.any (fun s => !L.mayS s)) else none
theorem clamp_right_1.calls (A0 : Option Addr) (c0 : Nat) (l0 : List (S36)) (r : Bool) (w : World) (hr0 : Kd.C k36 w A0 l0.length l0) (hc0 : l0.length ≤ c0) (h : clamp_right_1.f l0 = some r) :
  Calls Tryz.prog 90 #[.slice A0 l0.length c0, .func (.func 91) #[] #[]] w fun e w' => e = .returned (.bool r) ∧ Below w.heap.size w w' := by
 unfold clamp_right_1.f at h
 split at h
 ·rename_i hl
  obtain rfl := Option.some.inj h
  exact L.cla_contains l0 hl.1 A0 c0 w hr0 (fun e he W hb => L.clamay_calls e (hl.2 e he) W)
 ·cases h
def parent_Right.f (l0 : List Int) : Option Bool := if l0.length ≤ 1000000 then some (L.rightB l0) else none
theorem parent_Right.calls (A0 : Option Addr) (c0 : Nat) (l0 : List Int) (r : Bool) (w : World) (hr0 : Kd.C (Kd.int .i64) w A0 l0.length l0) (hc0 : l0.length ≤ c0) (h : parent_Right.f l0 = some r) :
  Calls Tryz.prog 89 #[.slice A0 l0.length c0] w fun e w' => e = .returned (.bool r) ∧ Below w.heap.size w w' := by
 unfold parent_Right.f at h
 split at h
 ·rename_i hl
  obtain rfl := Option.some.inj h
  exact L.right_calls l0 hl A0 c0 w hr0 hc0
 ·cases h
def clamp_right.f (l0 : List (S36)) (l1 : List Int) : Option (Bool) := if (l0.length : Int) = (l1.length : Int) then ((parent_Right.f l1).bind fun t101 => (if t101 = true then ((clamp_right_1.f l0).bind fun t102 => (some (!t102))) else (some false))) else (some false)
set_option maxHeartbeats 8000000 in
set_option maxRecDepth 100000 in
theorem clamp_right.calls (A0 : Option Addr) (c0 : Nat) (l0 : List (S36)) (A1 : Option Addr) (c1 : Nat) (l1 : List Int) (r : Bool) (w : World) (hr0 : Kd.C k36 w A0 l0.length l0) (hc0 : l0.length ≤ c0) (hr1 : Kd.C (Kd.int .i64) w A1 l1.length l1) (hc1 : l1.length ≤ c1) (h : clamp_right.f l0 l1 = some r) :
  Calls Tryz.prog 50 #[.slice A0 l0.length c0, .slice A1 l1.length c1] w fun e w' => e = .returned (.bool r) ∧ Below w.heap.size w w' := by
 have HR0 := Aside0.mk hr0
 have HC0 := Aside0.mk hc0
 clear hr0 hc0
 have HR1 := Aside0.mk hr1
 have HC1 := Aside0.mk hc1
 clear hr1 hc1
 have HB := Aside0.mk (Below.refl w.heap.size w)
 have H : (if (l0.length : Int) = (l1.length : Int) then ((parent_Right.f l1).bind fun t101 => (if t101 = true then ((clamp_right_1.f l0).bind fun t102 => (some (!t102))) else (some false))) else (some false)) = some r := h
 clear h
 by_cases c3 : (l0.length : Int) = (l1.length : Int)
 ·rw [if_pos c3] at H
  have c3b0 : ((l0.length : Int) == (l1.length : Int)) = true := beq_iff_eq.mpr c3
  have c3b1 : ((l0.length : Int) != (l1.length : Int)) = false := bne_eq_false_iff_eq.mpr c3
  have c3b2 : (l0.length == l1.length) = true := by first | simpa using c3 | (simp at c3 ⊢; omega)
  clear c3
  replace H := Option.bind_eq_some_iff.mp H
  obtain ⟨t101, A40, H⟩ := H
  have A4 := Aside0.mk A40
  clear A40
  by_cases c5 : t101 = true
  ·subst c5
   rw [if_pos rfl] at H
   replace H := Option.bind_eq_some_iff.mp H
   obtain ⟨t102, A60, H⟩ := H
   have A6 := Aside0.mk A60
   clear A60
   obtain rfl := Option.some.inj H
   go_enter Tryz.func50, Tryz.ntmps50
   go_wp2_with (first | (go_at_call 89; (with_reducible refine (parent_Right.calls _ _ l1 true _ ?side1 ?side2 A4.out).mono ?_); (case side1 => exact zC (HR1.out)); (case side2 => exact HC1.out); rintro e w7 ⟨rfl, hb⟩; replace HB := Aside0.mk (below_step zB hb); (try clear hb); (try clear hb2); (try clear hk); (try clear hi)) | (go_at_call 90; (with_reducible refine (clamp_right_1.calls _ _ l0 t102 _ ?side1 ?side2 A6.out).mono ?_); (case side1 => exact zC ((Kd.C_below HR0.out HB.out))); (case side2 => exact HC0.out); rintro e w8 ⟨rfl, hb⟩; replace HB := Aside0.mk (below_step zB hb); (try clear hb); (try clear hb2); (try clear hk); (try clear hi)))
   go_ret
   exact ⟨zV, zB⟩
  ·replace c5 := Bool.eq_false_iff.mpr c5
   subst c5
   rw [if_neg (show ¬ (false = true) by decide)] at H
   obtain rfl := Option.some.inj H
   go_enter Tryz.func50, Tryz.ntmps50
   go_wp2_with (first | (go_at_call 89; (with_reducible refine (parent_Right.calls _ _ l1 false _ ?side1 ?side2 A4.out).mono ?_); (case side1 => exact zC (HR1.out)); (case side2 => exact HC1.out); rintro e w9 ⟨rfl, hb⟩; replace HB := Aside0.mk (below_step zB hb); (try clear hb); (try clear hb2); (try clear hk); (try clear hi)))
   go_ret
   exact ⟨zV, zB⟩
 ·rw [if_neg c3] at H
  have c3b0 : ((l0.length : Int) == (l1.length : Int)) = false := beq_eq_false_iff_ne.mpr c3
  have c3b1 : ((l0.length : Int) != (l1.length : Int)) = true := bne_iff_ne.mpr c3
  have c3b2 : (l0.length == l1.length) = false := by first | simpa using c3 | (simp at c3 ⊢; omega)
  obtain rfl := Option.some.inj H
  go_enter Tryz.func50, Tryz.ntmps50
  go_wp2
  go_ret
  exact ⟨zV, zB⟩
def forest_Row.f (l0 : List Int) : Option (List S75) := if l0.length ≤ 1000000 then some (L.rowL l0) else none
theorem forest_Row.calls (A0 : Option Addr) (c0 : Nat) (l0 : List Int) (r : List S75) (w : World) (hr0 : Kd.C (Kd.int .i64) w A0 l0.length l0) (hc0 : l0.length ≤ c0) (h : forest_Row.f l0 = some r) :
  Calls Tryz.prog 61 #[.slice A0 l0.length c0] w fun e w' => ∃ v0_ : Value, e = .returned (v0_) ∧ Kd.R k75 75 w' w.heap.size (fun _ => True) v0_ r ∧ Below w.heap.size w w' := by
 unfold forest_Row.f at h
 split at h
 ·rename_i hl
  obtain rfl := Option.some.inj h
  exact L.frow_calls l0 hl A0 c0 w hr0 hc0
 ·cases h
def clamp_between_int64.f (a0 : Int) (a1 : Int) (a2 : Int) : Option (Int) := some (mx a1 (mn a0 a2))
set_option maxHeartbeats 8000000 in
set_option maxRecDepth 100000 in
theorem clamp_between_int64.calls (a0 : Int) (a1 : Int) (a2 : Int) (r : Int) (w : World) (h : clamp_between_int64.f a0 a1 a2 = some r) :
  Calls Tryz.prog 144 #[.int .i64 a0, .int .i64 a1, .int .i64 a2] w fun e w' => e = .returned (.int .i64 r) ∧ Below w.heap.size w w' := by
 have HB := Aside0.mk (Below.refl w.heap.size w)
 have H : (some (mx a1 (mn a0 a2))) = some r := h
 clear h
 obtain ⟨ji4, hji4⟩ : ∃ j_ : Int, (mn a0 a2) = j_ := ⟨_, rfl⟩
 replace H : (some (mx a1 (ji4))) = some r := by first | (rw [hji4] at H; exact H) | (simp only [hji4] at H ⊢; exact H)
 have hji4_ : (if a2 < a0 then a2 else a0) = ji4 := hji4
 obtain ⟨ji5, hji5⟩ : ∃ j_ : Int, (mx a1 (ji4)) = j_ := ⟨_, rfl⟩
 replace H : (some ji5) = some r := by first | (rw [hji5] at H; exact H) | (simp only [hji5] at H ⊢; exact H)
 have hji5_ : (if a1 < (ji4) then (ji4) else a1) = ji5 := hji5
 obtain rfl := Option.some.inj H
 go_enter Tryz.func144, Tryz.ntmps144
 go_wp2
 go_ret
 exact ⟨by first | rfl | (simp [errW_none, errW_some] <;> rfl) | (simp only [← hji4, ← hji5]; first | rfl | (simp [errW_none, errW_some] <;> rfl)) | (simp [*, errW_none, errW_some] <;> rfl), zB⟩
def clamp_start.f (a0_0 : Int) (a0_1 : Int) (a0_2 : Int) (a0_3 : Int) (a0_4 : ByteArray) (a0_5 : ByteArray) (a0_6 : Int) (a0_7 : Int) (a1_0 : Int) (a1_1 : Int) (a1_2 : Int) (a1_3 : Int) (a1_4 : ByteArray) (a1_5 : ByteArray) (a1_6 : Int) (a1_7 : Int) (a2 : Int) : Option (Int) := if a0_7 > a1_7 then (some a2) else ((clamp_between_int64.f (wrap64 ((wrap64 (a0_6 + a2)) - a1_6)) a2 (wrap64 ((wrap64 (a2 + a1_7)) - a0_7))).bind fun t105 => (some t105))
set_option maxHeartbeats 8000000 in
set_option maxRecDepth 100000 in
theorem clamp_start.calls (a0_0 : Int) (a0_1 : Int) (a0_2 : Int) (a0_3 : Int) (a0_4 : ByteArray) (a0_5 : ByteArray) (a0_6 : Int) (a0_7 : Int) (a1_0 : Int) (a1_1 : Int) (a1_2 : Int) (a1_3 : Int) (a1_4 : ByteArray) (a1_5 : ByteArray) (a1_6 : Int) (a1_7 : Int) (a2 : Int) (r : Int) (w : World) (h : clamp_start.f a0_0 a0_1 a0_2 a0_3 a0_4 a0_5 a0_6 a0_7 a1_0 a1_1 a1_2 a1_3 a1_4 a1_5 a1_6 a1_7 a2 = some r) :
  Calls Tryz.prog 114 #[.agg #[.int .u64 a0_0, .int .u64 a0_1, .int .u64 a0_2, .int .u8 a0_3, .string a0_4, .string a0_5, .int .i64 a0_6, .int .i64 a0_7], .agg #[.int .u64 a1_0, .int .u64 a1_1, .int .u64 a1_2, .int .u8 a1_3, .string a1_4, .string a1_5, .int .i64 a1_6, .int .i64 a1_7], .int .i64 a2] w fun e w' => e = .returned (.int .i64 r) ∧ Below w.heap.size w w' := by
 have hu36 := Tryz.underlying36
 have HB := Aside0.mk (Below.refl w.heap.size w)
 have H : (if a0_7 > a1_7 then (some a2) else ((clamp_between_int64.f (wrap64 ((wrap64 (a0_6 + a2)) - a1_6)) a2 (wrap64 ((wrap64 (a2 + a1_7)) - a0_7))).bind fun t105 => (some t105))) = some r := h
 clear h
 by_cases c4 : a0_7 > a1_7
 ·rw [if_pos c4] at H
  have c4b0 : decide (a1_7 < a0_7) = true := decide_eq_true c4
  clear c4
  obtain rfl := Option.some.inj H
  go_enter Tryz.func114, Tryz.ntmps114
  go_wp2_with (first | ((with_reducible refine gate_dst (N := 3) rfl ?_); refine zbox (N := 3) (cs := #[.int .u64 a0_0, .int .u64 a0_1, .int .u64 a0_2, .int .u8 a0_3, .string a0_4, .string a0_5, .int .i64 a0_6, .int .i64 a0_7]) (t := 36) ?_; intro gb103 hg w5 hbox hb; have BK103 := Aside0.mk (hbox); have GW103 := Aside0.mk ((by rw [hg]; exact (below_size zB) : w.heap.size ≤ gb103)); have GE103 := Aside0.mk ((by rw [hg]; exact (below_size zB) : w.heap.size ≤ gb103)); replace HB := Aside0.mk (below_step zB hb); clear hb hbox hg) | ((with_reducible refine gate_dst (N := 4) rfl ?_); refine zbox (N := 4) (cs := #[.int .u64 a1_0, .int .u64 a1_1, .int .u64 a1_2, .int .u8 a1_3, .string a1_4, .string a1_5, .int .i64 a1_6, .int .i64 a1_7]) (t := 36) ?_; intro gb104 hg w6 hbox hb; have BK104 := Aside0.mk (hbox); have GW104 := Aside0.mk ((by rw [hg]; exact (below_size (zG GE103.out)) : w.heap.size ≤ gb104)); have GE104 := Aside0.mk ((by rw [hg]; exact (below_size (zG GE103.out)) : w.heap.size ≤ gb104)); replace HB := Aside0.mk (below_step (zG GE103.out) hb); have NB103_104 := Aside0.mk ((by rw [hg]; exact Nat.ne_of_lt (zKl BK103.out) : gb103 ≠ gb104)); have NB104_103 := Aside0.mk ((by rw [hg]; exact Nat.ne_of_gt (zKl BK103.out) : gb104 ≠ gb103)); replace BK103 := Aside0.mk (zKb BK103.out hb); clear hb hbox hg; have hnb7 := NB103_104.out; have hnc7 := NB104_103.out; obtain ⟨hcz8_0, hcz8_1, hcz8_2, hcz8_3, hcz8_4, hcz8_5, hcz8_6, hcz8_7, hfz8_0, hfz8_1, hfz8_2, hfz8_3, hfz8_4, hfz8_5, hfz8_6, hfz8_7⟩ := zb8 BK103.out; obtain ⟨hcz9_0, hcz9_1, hcz9_2, hcz9_3, hcz9_4, hcz9_5, hcz9_6, hcz9_7, hfz9_0, hfz9_1, hfz9_2, hfz9_3, hfz9_4, hfz9_5, hfz9_6, hfz9_7⟩ := zb8 BK104.out))
  go_ret
  exact ⟨zV, zG2 GE103.out GE104.out⟩
 ·rw [if_neg c4] at H
  have c4b0 : decide (a1_7 < a0_7) = false := decide_eq_false c4
  clear c4
  replace H := Option.bind_eq_some_iff.mp H
  obtain ⟨t105, A100, H⟩ := H
  have A10 := Aside0.mk A100
  clear A100
  obtain rfl := Option.some.inj H
  go_enter Tryz.func114, Tryz.ntmps114
  go_wp2_with (first | ((with_reducible refine gate_dst (N := 3) rfl ?_); refine zbox (N := 3) (cs := #[.int .u64 a0_0, .int .u64 a0_1, .int .u64 a0_2, .int .u8 a0_3, .string a0_4, .string a0_5, .int .i64 a0_6, .int .i64 a0_7]) (t := 36) ?_; intro gb103 hg w11 hbox hb; have BK103 := Aside0.mk (hbox); have GW103 := Aside0.mk ((by rw [hg]; exact (below_size zB) : w.heap.size ≤ gb103)); have GE103 := Aside0.mk ((by rw [hg]; exact (below_size zB) : w.heap.size ≤ gb103)); replace HB := Aside0.mk (below_step zB hb); clear hb hbox hg) | ((with_reducible refine gate_dst (N := 4) rfl ?_); refine zbox (N := 4) (cs := #[.int .u64 a1_0, .int .u64 a1_1, .int .u64 a1_2, .int .u8 a1_3, .string a1_4, .string a1_5, .int .i64 a1_6, .int .i64 a1_7]) (t := 36) ?_; intro gb104 hg w12 hbox hb; have BK104 := Aside0.mk (hbox); have GW104 := Aside0.mk ((by rw [hg]; exact (below_size (zG GE103.out)) : w.heap.size ≤ gb104)); have GE104 := Aside0.mk ((by rw [hg]; exact (below_size (zG GE103.out)) : w.heap.size ≤ gb104)); replace HB := Aside0.mk (below_step (zG GE103.out) hb); have NB103_104 := Aside0.mk ((by rw [hg]; exact Nat.ne_of_lt (zKl BK103.out) : gb103 ≠ gb104)); have NB104_103 := Aside0.mk ((by rw [hg]; exact Nat.ne_of_gt (zKl BK103.out) : gb104 ≠ gb103)); replace BK103 := Aside0.mk (zKb BK103.out hb); clear hb hbox hg; have hnb13 := NB103_104.out; have hnc13 := NB104_103.out; obtain ⟨hcz14_0, hcz14_1, hcz14_2, hcz14_3, hcz14_4, hcz14_5, hcz14_6, hcz14_7, hfz14_0, hfz14_1, hfz14_2, hfz14_3, hfz14_4, hfz14_5, hfz14_6, hfz14_7⟩ := zb8 BK103.out; obtain ⟨hcz15_0, hcz15_1, hcz15_2, hcz15_3, hcz15_4, hcz15_5, hcz15_6, hcz15_7, hfz15_0, hfz15_1, hfz15_2, hfz15_3, hfz15_4, hfz15_5, hfz15_6, hfz15_7⟩ := zb8 BK104.out) | ((with_reducible refine gate_callee (f := 144) rfl ?_); refine goesL_ (some 28) rfl rfl Tryz.func144 (by kernel_rfl) rfl #[.int .i64 (wrap64 ((wrap64 (a0_6 + a2)) - a1_6)), .int .i64 a2, .int .i64 (wrap64 ((wrap64 (a2 + a1_7)) - a0_7))] rfl zL ?_; (with_reducible refine (clamp_between_int64.calls (wrap64 ((wrap64 (a0_6 + a2)) - a1_6)) a2 (wrap64 ((wrap64 (a2 + a1_7)) - a0_7)) t105 _ A10.out).mono ?_); rintro e w16 ⟨rfl, hb⟩; refine ⟨_, rfl, ?_⟩; replace BK103 := Aside0.mk (zKb BK103.out hb); replace BK104 := Aside0.mk (zKb BK104.out hb); replace HB := Aside0.mk (below_step (zG2 GE103.out GE104.out) hb); (try clear hb); (try clear hb2); (try clear hk); (try clear hi)))
  go_ret
  exact ⟨zV, zG2 GE103.out GE104.out⟩
def clamp_Starts.l0 : Nat → List (S36) → List Int → List (S75) → Int → Int → Option (List Int × Bool)
 | 0, _, _, _, _, _ => none
 | k + 1, x0, x6, x17, x18, x19 => if x19 < x18 then (if 0 ≤ x19 then (if x19 < (x17.length : Int) then (if 0 ≤ ((rd_T75 x17 x19).f0) then (if ((rd_T75 x17 x19).f0) < (x0.length : Int) then (if ((rd_T75 x17 x19).f0) < (x6.length : Int) then ((some (x6.set (((rd_T75 x17 x19).f0) : Int).toNat ((rd_T36 x0 ((rd_T75 x17 x19).f0)).f6) : List Int)).bind fun y116 => (if ((rd_T75 x17 x19).f2) ≥ 0 then (if 0 ≤ ((rd_T75 x17 x19).f2) then (if ((rd_T75 x17 x19).f2) < (x0.length : Int) then (if ((rd_T75 x17 x19).f2) < (x6.length : Int) then ((clamp_start.f ((rd_T36 x0 ((rd_T75 x17 x19).f0)).f0) ((rd_T36 x0 ((rd_T75 x17 x19).f0)).f1) ((rd_T36 x0 ((rd_T75 x17 x19).f0)).f2) ((rd_T36 x0 ((rd_T75 x17 x19).f0)).f3) ((rd_T36 x0 ((rd_T75 x17 x19).f0)).f4) ((rd_T36 x0 ((rd_T75 x17 x19).f0)).f5) ((rd_T36 x0 ((rd_T75 x17 x19).f0)).f6) ((rd_T36 x0 ((rd_T75 x17 x19).f0)).f7) ((rd_T36 x0 ((rd_T75 x17 x19).f2)).f0) ((rd_T36 x0 ((rd_T75 x17 x19).f2)).f1) ((rd_T36 x0 ((rd_T75 x17 x19).f2)).f2) ((rd_T36 x0 ((rd_T75 x17 x19).f2)).f3) ((rd_T36 x0 ((rd_T75 x17 x19).f2)).f4) ((rd_T36 x0 ((rd_T75 x17 x19).f2)).f5) ((rd_T36 x0 ((rd_T75 x17 x19).f2)).f6) ((rd_T36 x0 ((rd_T75 x17 x19).f2)).f7) (rd y116 ((rd_T75 x17 x19).f2))).bind fun t120 => (clamp_Starts.l0 k x0 (y116.set (((rd_T75 x17 x19).f0) : Int).toNat t120) x17 x18 (wrap64 (x19 + 1)))) else (none)) else (none)) else (none)) else (clamp_Starts.l0 k x0 y116 x17 x18 (wrap64 (x19 + 1))))) else (none)) else (none)) else (none)) else (none)) else (none)) else (some (x6, true))
def clamp_Starts.f (k : Nat) (l0 : List (S36)) (l1 : List Int) : Option (List Int × Bool) := (clamp_right.f l0 l1).bind fun t106 => (if t106 = true then (if 0 ≤ (l0.length : Int) then (if ((l0.length : Int) : Int).toNat ≤ 35184372088832 then ((forest_Row.f l1).bind fun t110 => (clamp_Starts.l0 k l0 (List.replicate ((l0.length : Int) : Int).toNat 0) t110 (t110.length : Int) 0)) else (none)) else (none)) else (some (([] : List Int), false)))
theorem clamp_Starts.mono_l : ∀ k, (∀ y0 y1 y2 y3 y4, LeO (clamp_Starts.l0 k y0 y1 y2 y3 y4) (clamp_Starts.l0 (k + 1) y0 y1 y2 y3 y4))
 | 0 => fun _ _ _ _ _ r h => by simp [clamp_Starts.l0] at h
 | k + 1 => by
  have ih0 := clamp_Starts.mono_l k
  ·intro y0 y1 y2 y3 y4
   unfold clamp_Starts.l0
   exact zM
theorem clamp_Starts.mono : ∀ a0 a1 k, LeO (clamp_Starts.f k a0 a1) (clamp_Starts.f (k + 1) a0 a1) := by
 intro a0 a1 k
 have ih0 := clamp_Starts.mono_l k
 unfold clamp_Starts.f
 exact zM
def clamp_Starts.T7 : Bool × List (List Nat × List Nat) := (true, [([], []), ([], []), ([1], [1]), ([], []), ([], []), ([4], [4]), ([3, 5], [3, 5]), ([6], [6]), ([7], [7]), ([0, 2, 0, 1, 2, 3, 4, 5, 6, 7, 8], [0, 2]), ([9, 8, 0, 1, 2, 3, 4, 5, 6, 7, 8], [8, 9])])
def clamp_Starts.B7 : List Nat := [0, 0, 2, 0, 0, 16, 56, 120, 248, 511, 1023]
theorem clamp_Starts.tab7 : rtab .any (opsOf Tryz.f65 7) = clamp_Starts.T7 := by kernel_rfl
theorem clamp_Starts.bits7 : waitsOk clamp_Starts.T7.2 clamp_Starts.B7 = true := by kernel_rfl
def clamp_Starts.T9 : Bool × List (List Nat × List Nat) := (true, [([], []), ([], []), ([1], [1]), ([], []), ([], []), ([4], [4]), ([3, 5], [3, 5]), ([6], [6]), ([], []), ([], []), ([9], [9]), ([8, 10], [8, 10]), ([11], [11]), ([], []), ([], []), ([14], [14]), ([13, 15], [13, 15]), ([16], [16]), ([7, 12, 17], [7, 12, 17]), ([0, 2, 0, 1, 2, 3, 4, 5, 6, 7, 8, 9, 10, 11, 12, 13, 14, 15, 16, 17, 18], [0, 2]), ([19, 18, 18, 0, 1, 2, 3, 4, 5, 6, 7, 8, 9, 10, 11, 12, 13, 14, 15, 16, 17, 18], [18, 19])])
def clamp_Starts.B9 : List Nat := [0, 0, 2, 0, 0, 16, 56, 120, 0, 0, 512, 1792, 3840, 0, 0, 16384, 57344, 122880, 262136, 524287, 1048575]
theorem clamp_Starts.tab9 : rtab .any (opsOf Tryz.f65 9) = clamp_Starts.T9 := by kernel_rfl
theorem clamp_Starts.bits9 : waitsOk clamp_Starts.T9.2 clamp_Starts.B9 = true := by kernel_rfl
set_option maxHeartbeats 8000000 in
set_option maxRecDepth 100000 in
theorem clamp_Starts.calls (k : Nat) (A0 : Option Addr) (c0 : Nat) (l0 : List (S36)) (A1 : Option Addr) (c1 : Nat) (l1 : List Int) (r1 : List Int) (r2 : Bool) (w : World) (hr0 : Kd.C k36 w A0 l0.length l0) (hc0 : l0.length ≤ c0) (hr1 : Kd.C (Kd.int .i64) w A1 l1.length l1) (hc1 : l1.length ≤ c1) (h : clamp_Starts.f k l0 l1 = some (r1, r2)) :
  Calls Tryz.prog 65 #[.slice A0 l0.length c0, .slice A1 l1.length c1] w fun e w' => ∃ v0_ : Value, e = .returned (.tuple #[v0_, .bool r2]) ∧ Kd.R (Kd.int .i64) 2 w' w.heap.size (fun _ => True) v0_ r1 ∧ Below w.heap.size w w' := by
 have hu75 := Tryz.underlying75
 have hu36 := Tryz.underlying36
 have HR0 := Aside0.mk hr0
 have HC0 := Aside0.mk hc0
 clear hr0 hc0
 have HR1 := Aside0.mk hr1
 have HC1 := Aside0.mk hc1
 clear hr1 hc1
 have HB := Aside0.mk (Below.refl w.heap.size w)
 have H : ((clamp_right.f l0 l1).bind fun t106 => (if t106 = true then (if 0 ≤ (l0.length : Int) then (if ((l0.length : Int) : Int).toNat ≤ 35184372088832 then ((forest_Row.f l1).bind fun t110 => (clamp_Starts.l0 k l0 (List.replicate ((l0.length : Int) : Int).toNat 0) t110 (t110.length : Int) 0)) else (none)) else (none)) else (some (([] : List Int), false)))) = some (r1, r2) := h
 clear h
 replace H := Option.bind_eq_some_iff.mp H
 obtain ⟨t106, A30, H⟩ := H
 have A3 := Aside0.mk A30
 clear A30
 by_cases c4 : t106 = true
 ·subst c4
  rw [if_pos rfl] at H
  obtain ⟨c5, H⟩ := zj H
  have c5b0 := eq_true c5
  have c5b1 : decide (0 ≤ (l0.length : Int)) = true := decide_eq_true c5
  clear c5
  obtain ⟨c6, H⟩ := zj H
  have c6b0 := eq_true c6
  have c6b1 : decide (((l0.length : Int) : Int).toNat ≤ 35184372088832) = true := decide_eq_true c6
  clear c6
  obtain ⟨y107, hy107⟩ : ∃ y_ : List Int, y_ = (List.replicate ((l0.length : Int) : Int).toNat 0) := ⟨_, rfl⟩
  first | (replace H := zo H hy107) | rw [← hy107] at H
  have Ny107 := Aside0.mk hy107
  clear hy107
  replace H := Option.bind_eq_some_iff.mp H
  obtain ⟨t110, A70, H⟩ := H
  have A7 := Aside0.mk A70
  clear A70
  have H' := Aside0.mk H
  clear H
  go_enter Tryz.func65, Tryz.ntmps65
  go_wp2_with (first | ((with_reducible refine gate_callee (f := 50) rfl ?_); refine goesL_ (some 11) rfl rfl Tryz.func50 (by kernel_rfl) rfl #[.slice A0 l0.length c0, .slice A1 l1.length c1] rfl zL ?_; (with_reducible refine (clamp_right.calls _ _ l0 _ _ l1 true _ ?side1 ?side2 ?side3 ?side4 A3.out).mono ?_); (case side1 => exact zC (HR0.out)); (case side2 => exact HC0.out); (case side3 => exact zC (HR1.out)); (case side4 => exact HC1.out); rintro e w8 ⟨rfl, hb⟩; refine ⟨_, rfl, ?_⟩; replace HB := Aside0.mk (below_step zB hb); (try clear hb); (try clear hb2); (try clear hk); (try clear hi)) | ((with_reducible refine gate_dst (N := 15) rfl ?_); refine Kd.R_make (Kd.int .i64) _ 2 rfl (N := 15) rfl 27 _ _ rfl (l0.length : Int) rfl rfl Tryz.underlying27 (.int .i64 0) 8 info2 rfl (by decide) (by omega) 0 (ok := fun _ => True) (okp := fun _ => True) rfl (fun _ hk => hk) trivial (of_decide_eq_true zA) (Nat.le_trans (Nat.mul_le_mul_right _ (of_decide_eq_true zA : (l0.length : Int).toNat ≤ 35184372088832)) (by omega)) (Below.refl _ _) (Nat.le_refl _) ?_; intro v108 w9 ho10 hb hg_ hnew_; clear hg_ hnew_; (first | rw [← Ny107.out] at ho10 | (simp only [Int.reduceToNat] at ho10; rw [← Ny107.out] at ho10)); have HO109 := Aside0.mk (Kd.R_lower ho10 (below_size zB)); replace HB := Aside0.mk (below_step zB hb); clear hb ho10) | ((with_reducible refine gate_callee (f := 61) rfl ?_); refine goesL_ (some 17) rfl rfl Tryz.func61 (by kernel_rfl) rfl #[.slice A1 l1.length c1] rfl zL ?_; (with_reducible refine (forest_Row.calls _ _ l1 t110 _ ?side1 ?side2 A7.out).mono ?_); (case side1 => exact zC ((Kd.C_below HR1.out HB.out))); (case side2 => exact HC1.out); rintro e w11 ⟨v111, rfl, ho0, hb⟩; refine ⟨_, rfl, ?_⟩; replace HO109 := Aside0.mk (Kd.R_below (zR HO109.out) hb); have HO112 := Aside0.mk (Kd.R_lower ho0 (below_size zB)); replace HB := Aside0.mk (below_step zB hb); (try clear hb); (try clear hb2); (try clear hk); (try clear hi); (try clear ho0); obtain ⟨Ao12, co12, eo12⟩ := Kd.R_slice HO112.out; subst eo12))
  go_loopg [19] k (fun kq v19 w' => ∃ (x6_1 : List Int) (x19_1 : Int), v19 = .int .i64 x19_1 ∧ Aside0 (clamp_Starts.l0 kq l0 x6_1 t110 (t110.length : Int) x19_1 = some (r1, r2)) ∧ Aside0 (kq ≤ k) ∧ Aside0 (Kd.R (Kd.int .i64) 2 w' w.heap.size (fun _ => True) v108 x6_1) ∧ Aside0 (Kd.R k75 75 w' w.heap.size (fun _ => True) (.slice Ao12 t110.length co12) t110) ∧ Aside0 (Below w.heap.size w w'))
  case atStart => exact ⟨(y107), (0), zE, H', ⟨Nat.le_refl _⟩, ⟨zR HO109.out⟩, ⟨zR HO112.out⟩, ⟨zB⟩⟩
  case round =>
   clear H'
   (try clear c1); (try clear p2); (try clear c4); (try clear c5); (try clear c5b0); (try clear c5b1); (try clear c6); (try clear c6b0); (try clear c6b1)
   obtain ⟨x6_1, x19_1, rfl, HA, HK1, HO_6, HO_17, HB⟩ := hrel
   cases gk with
   | zero => exact absurd HA.out (by simp [clamp_Starts.l0])
   | succ k1 =>
    have H := HA.out
    clear HA
    simp only [clamp_Starts.l0] at H
    by_cases c13 : x19_1 < (t110.length : Int)
    ·rw [if_pos c13] at H
     have c13b0 := decide_eq_true c13
     clear c13
     obtain ⟨c14b0, H⟩ := zt H
     obtain ⟨c15b0, H⟩ := zt H
     obtain ⟨c16b0, H⟩ := zt H
     obtain ⟨c17b0, H⟩ := zt H
     obtain ⟨c18b0, H⟩ := zt H
     obtain ⟨y116, hy116⟩ : ∃ y_ : List Int, y_ = (x6_1.set (((rd_T75 t110 x19_1).f0) : Int).toNat ((rd_T36 l0 ((rd_T75 t110 x19_1).f0)).f6)) := ⟨_, rfl⟩
     first | (replace H := zo H hy116) | rw [← hy116] at H
     have Ny116 := Aside0.mk hy116
     clear hy116
     by_cases c20 : ((rd_T75 t110 x19_1).f2) ≥ 0
     ·rw [if_pos c20] at H
      have c20b0 : decide (0 ≤ ((rd_T75 t110 x19_1).f2)) = true := decide_eq_true c20
      clear c20
      obtain ⟨c21b0, H⟩ := zt H
      obtain ⟨c22b0, H⟩ := zt H
      obtain ⟨c23b0, H⟩ := zt H
      replace H := Option.bind_eq_some_iff.mp H
      obtain ⟨t120, A240, H⟩ := H
      have A24 := Aside0.mk A240
      clear A240
      obtain ⟨y121, hy121⟩ : ∃ y_ : List Int, y_ = (y116.set (((rd_T75 t110 x19_1).f0) : Int).toNat t120) := ⟨_, rfl⟩
      first | (replace H := zo H hy121) | rw [← hy121] at H
      have Ny121 := Aside0.mk hy121
      clear hy121
      have H' := Aside0.mk H
      clear H
      have p113 : 0 ≤ (x19_1 : Int) := of_decide_eq_true zA
      have q113 : x19_1 < (t110.length : Int) := of_decide_eq_true zA
      obtain ⟨ad113, e113, hx113_0, hx113_1, hx113_2⟩ := at_T75 (Kd.R_reads' HO_17.out).2.2 x19_1 p113 q113
      cases e113
      replace p113 := eq_true p113
      replace q113 := eq_true q113
      try go_wp2_with (first | ((with_reducible refine gate_dst (N := 8) rfl ?_); refine zbox (N := 8) (cs := #[.int .i64 0, .int .i64 0, .int .i64 0]) (t := 75) ?_; intro gb114 hg w26 hbox hb; replace HO_6 := Aside0.mk (Kd.R_below (zR HO_6.out) hb); replace HO_17 := Aside0.mk (Kd.R_below (Kd.R_elderB (zR HO_17.out) gb114 (Nat.le_of_eq hg.symm)) hb); have BK114 := Aside0.mk (hbox); have GW114 := Aside0.mk ((by rw [hg]; exact (below_size zB) : w.heap.size ≤ gb114)); have GE114 := Aside0.mk ((by rw [hg]; exact (below_size zB) : w.heap.size ≤ gb114)); replace HB := Aside0.mk (below_step zB hb); clear hb hbox hg; obtain ⟨hcz27_0, hcz27_1, hcz27_2, hfz27_0, hfz27_1, hfz27_2⟩ := zb3 BK114.out))
      have n0_ : Aside0 (Kd.R (Kd.int .i64) 2 (((w26.setCell ⟨gb114, 0, none⟩ (.int .i64 ((rd_T75 t110 x19_1).f0))).setCell ⟨gb114, 1, none⟩ (.int .i64 ((rd_T75 t110 x19_1).f1))).setCell ⟨gb114, 2, none⟩ (.int .i64 ((rd_T75 t110 x19_1).f2))) w.heap.size (fun _ => True) v108 x6_1) := ⟨Kd.R_mono (zW HO_6.out BK114.out) (fun _ hk => trivial)⟩
      have n1_ : Aside0 (Kd.R k75 75 (((w26.setCell ⟨gb114, 0, none⟩ (.int .i64 ((rd_T75 t110 x19_1).f0))).setCell ⟨gb114, 1, none⟩ (.int .i64 ((rd_T75 t110 x19_1).f1))).setCell ⟨gb114, 2, none⟩ (.int .i64 ((rd_T75 t110 x19_1).f2))) w.heap.size (fun k_ => k_ ≠ gb114) (.slice (some ad113) t110.length co12) t110) := ⟨by (with_reducible repeat (first | apply Kd.R_alloc | apply Kd.R_drewN | apply Kd.R_drew)); exact Kd.R_mono (Kd.R_far (p := ⟨gb114, 2, none⟩) (Kd.R_far (p := ⟨gb114, 1, none⟩) (Kd.R_far (p := ⟨gb114, 0, none⟩) (Kd.R_mono HO_17.out (fun k_ hk => (⟨hk, hk.2⟩ : _ ∧ k_ ≠ gb114))) (fun _ hk => hk.2) (.int .i64 ((rd_T75 t110 x19_1).f0))) (fun _ hk => hk.2) (.int .i64 ((rd_T75 t110 x19_1).f1))) (fun _ hk => hk.2) (.int .i64 ((rd_T75 t110 x19_1).f2))) (fun _ hk => hk.1.2)⟩
      have n2_ : Aside0 ((((w26.setCell ⟨gb114, 0, none⟩ (.int .i64 ((rd_T75 t110 x19_1).f0))).setCell ⟨gb114, 1, none⟩ (.int .i64 ((rd_T75 t110 x19_1).f1))).setCell ⟨gb114, 2, none⟩ (.int .i64 ((rd_T75 t110 x19_1).f2))).heap[gb114]? = some (.cells #[.int .i64 ((rd_T75 t110 x19_1).f0), .int .i64 ((rd_T75 t110 x19_1).f1), .int .i64 ((rd_T75 t110 x19_1).f2)] 75 (0, 0))) := ⟨zP BK114.out⟩
      have n3_ : Aside0 (Below w.heap.size w (((w26.setCell ⟨gb114, 0, none⟩ (.int .i64 ((rd_T75 t110 x19_1).f0))).setCell ⟨gb114, 1, none⟩ (.int .i64 ((rd_T75 t110 x19_1).f1))).setCell ⟨gb114, 2, none⟩ (.int .i64 ((rd_T75 t110 x19_1).f2)))) := ⟨zG GE114.out⟩
      (try clear HO_6); (try clear HO_17); (try clear BK114); (try clear HB)
      generalize (((w26.setCell ⟨gb114, 0, none⟩ (.int .i64 ((rd_T75 t110 x19_1).f0))).setCell ⟨gb114, 1, none⟩ (.int .i64 ((rd_T75 t110 x19_1).f1))).setCell ⟨gb114, 2, none⟩ (.int .i64 ((rd_T75 t110 x19_1).f2))) = w28 at n0_ n1_ n2_ n3_ ⊢
      have HO_6 := n0_
      have HO_17 := n1_
      have BK114 := n2_
      have HB := n3_
      clear n0_ n1_ n2_ n3_
      replace HO_6 := Aside0.mk (Kd.R_drew HO_6.out)
      replace HO_17 := Aside0.mk (Kd.R_drew HO_17.out)
      replace BK114 := Aside0.mk (blk_drew BK114.out)
      replace HB := Aside0.mk (below_drew1 HB.out)
      have p115 : 0 ≤ (((rd_T75 t110 x19_1).f0) : Int) := of_decide_eq_true zA
      have q115 : ((rd_T75 t110 x19_1).f0) < (l0.length : Int) := of_decide_eq_true zA
      obtain ⟨ad115, e115, hx115_0, hx115_1, hx115_2, hx115_3, hx115_4, hx115_5, hx115_6, hx115_7⟩ := at_T36 HR0.out ((rd_T75 t110 x19_1).f0) p115 q115
      have hw115_7 := hx115_7
      have hw115_6 := hx115_6
      have hw115_5 := hx115_5
      have hw115_4 := hx115_4
      have hw115_3 := hx115_3
      have hw115_2 := hx115_2
      have hw115_1 := hx115_1
      have hw115_0 := hx115_0
      cases e115
      replace hx115_0 := zc HB.out hx115_0
      replace hx115_1 := zc HB.out hx115_1
      replace hx115_2 := zc HB.out hx115_2
      replace hx115_3 := zc HB.out hx115_3
      replace hx115_4 := zc HB.out hx115_4
      replace hx115_5 := zc HB.out hx115_5
      replace hx115_6 := zc HB.out hx115_6
      replace hx115_7 := zc HB.out hx115_7
      replace p115 := eq_true p115
      replace q115 := eq_true q115
      have p19 : 0 ≤ (((rd_T75 t110 x19_1).f0) : Int) := of_decide_eq_true zA
      have q19 : (((rd_T75 t110 x19_1).f0) : Int) < ((x6_1.length : Int) : Int) := of_decide_eq_true zA
      obtain ⟨go19, co19, eo19, gb19, gl19, cl19, HG19⟩ := Kd.R_form HO_6.out (by omega)
      (first | cases eo19 | (injection eo19 with ea_ en_ ec_; (first | subst ea_ | (injection ea_ with ea_; subst ea_)); subst ec_; clear en_))
      have GB19 := Aside0.mk gb19
      have GG19 := Aside0.mk HG19
      clear gb19 gl19 HG19
      obtain ⟨hx19_0, hf19_0⟩ := Kd.R_celln 0 HO_6.out (((rd_T75 t110 x19_1).f0) : Int) p19 q19
      replace p19 := eq_true p19
      replace q19 := eq_true q19
      have HP30 := Kd.R_putn HO_6.out (((rd_T75 t110 x19_1).f0) : Int) ((rd_T36 l0 ((rd_T75 t110 x19_1).f0)).f6)
      rw [← Ny116.out] at HP30
      have HQ30 := Aside0.mk HP30
      clear HP30
      refine start_ (n := 11) (S := fun w' => w'.cell? ⟨gb114, 0, none⟩ = some (.int .i64 ((rd_T75 t110 x19_1).f0)) ∧ w'.cell? ⟨gb114, 1, none⟩ = some (.int .i64 ((rd_T75 t110 x19_1).f1)) ∧ w'.cell? ⟨gb114, 2, none⟩ = some (.int .i64 ((rd_T75 t110 x19_1).f2)) ∧ w'.cell? (ad115.add ((((rd_T75 t110 x19_1).f0)).toNat * 8)) = some (.int .u64 ((rd_T36 l0 ((rd_T75 t110 x19_1).f0)).f0)) ∧ w'.cell? ⟨(ad115.add ((((rd_T75 t110 x19_1).f0)).toNat * 8)).block, (ad115.add ((((rd_T75 t110 x19_1).f0)).toNat * 8)).off + 1, none⟩ = some (.int .u64 ((rd_T36 l0 ((rd_T75 t110 x19_1).f0)).f1)) ∧ w'.cell? ⟨(ad115.add ((((rd_T75 t110 x19_1).f0)).toNat * 8)).block, (ad115.add ((((rd_T75 t110 x19_1).f0)).toNat * 8)).off + 2, none⟩ = some (.int .u64 ((rd_T36 l0 ((rd_T75 t110 x19_1).f0)).f2)) ∧ w'.cell? ⟨(ad115.add ((((rd_T75 t110 x19_1).f0)).toNat * 8)).block, (ad115.add ((((rd_T75 t110 x19_1).f0)).toNat * 8)).off + 3, none⟩ = some (.int .u8 ((rd_T36 l0 ((rd_T75 t110 x19_1).f0)).f3)) ∧ w'.cell? ⟨(ad115.add ((((rd_T75 t110 x19_1).f0)).toNat * 8)).block, (ad115.add ((((rd_T75 t110 x19_1).f0)).toNat * 8)).off + 4, none⟩ = some (.string ((rd_T36 l0 ((rd_T75 t110 x19_1).f0)).f4)) ∧ w'.cell? ⟨(ad115.add ((((rd_T75 t110 x19_1).f0)).toNat * 8)).block, (ad115.add ((((rd_T75 t110 x19_1).f0)).toNat * 8)).off + 5, none⟩ = some (.string ((rd_T36 l0 ((rd_T75 t110 x19_1).f0)).f5)) ∧ w'.cell? ⟨(ad115.add ((((rd_T75 t110 x19_1).f0)).toNat * 8)).block, (ad115.add ((((rd_T75 t110 x19_1).f0)).toNat * 8)).off + 6, none⟩ = some (.int .i64 ((rd_T36 l0 ((rd_T75 t110 x19_1).f0)).f6)) ∧ w'.cell? ⟨(ad115.add ((((rd_T75 t110 x19_1).f0)).toNat * 8)).block, (ad115.add ((((rd_T75 t110 x19_1).f0)).toNat * 8)).off + 7, none⟩ = some (.int .i64 ((rd_T36 l0 ((rd_T75 t110 x19_1).f0)).f7))) (ds := [10]) #[false, false, false, false, false, false, false, false, false, false, false] (by kernel_rfl) rfl rfl ⟨(blk_cell BK114.out 0).trans rfl, (blk_cell BK114.out 1).trans rfl, (blk_cell BK114.out 2).trans rfl, (zc HB.out hw115_0 :), (zc HB.out hw115_1 :), (zc HB.out hw115_2 :), (zc HB.out hw115_3 :), (zc HB.out hw115_4 :), (zc HB.out hw115_5 :), (zc HB.out hw115_6 :), (zc HB.out hw115_7 :)⟩ (fun hHeld => ?_); refine with_tabW clamp_Starts.tab7 clamp_Starts.bits7 (fun HT_ HW_ => ?_)
      generalize w28.drew = w29 at HO_6 HO_17 BK114 HB GG19 HQ30 hf19_0 hx115_0 hx115_1 hx115_2 hx115_3 hx115_4 hx115_5 hx115_6 hx115_7 hx19_0 hHeld ⊢
      refine zp 0 (some 23) ?_
      refine zp 1 (some 24) ?_
      refine zp 3 (some 26) ?_
      refine zp 4 (some 27) ?_
      refine zt11 2 (some 25) ?_
      refine zt11 5 (some 28) ?_
      refine zp 6 (some 29) ?_
      refine zp 7 (some 30) ?_
      refine zt11 8 (some 31) ?_
      refine zp 9 (some 32) ?_
      refine z9 10 none (fun K hK => ?_)
      refine skip_ (w1 := ?_) (by rfl) rfl ?_ ?_
      rotate_left
      ·go_simp
       rfl
      refine hK.out _ _ ?_
      clear hK K
      refine done_ (done_of HT_.out (by kernel_rfl)) ?_
      obtain ⟨hcz31_0, hcz31_1, hcz31_2, hfz31_0, hfz31_1, hfz31_2⟩ := zb3 BK114.out
      have hcz31_0s := fun (i_ : Nat) (v_ : Go.Value) => (Go.Proofs.YtgknjgionicncaaGreatW.LabG.far_cell BK114.out GG19.out (by decide) i_ 0 v_).trans hcz31_0
      have hcz31_1s := fun (i_ : Nat) (v_ : Go.Value) => (Go.Proofs.YtgknjgionicncaaGreatW.LabG.far_cell BK114.out GG19.out (by decide) i_ 1 v_).trans hcz31_1
      have hcz31_2s := fun (i_ : Nat) (v_ : Go.Value) => (Go.Proofs.YtgknjgionicncaaGreatW.LabG.far_cell BK114.out GG19.out (by decide) i_ 2 v_).trans hcz31_2
      try go_wp2
      have n0_ : Aside0 (Kd.R (Kd.int .i64) 2 (w29.setCell ⟨go19, (((rd_T75 t110 x19_1).f0) : Int).toNat, none⟩ (.int .i64 ((rd_T36 l0 ((rd_T75 t110 x19_1).f0)).f6))) w.heap.size (fun _ => True) (.slice (some ⟨go19, 0, none⟩) x6_1.length co19) y116) := ⟨zR HQ30.out⟩
      have n1_ : Aside0 (Kd.R k75 75 (w29.setCell ⟨go19, (((rd_T75 t110 x19_1).f0) : Int).toNat, none⟩ (.int .i64 ((rd_T36 l0 ((rd_T75 t110 x19_1).f0)).f6))) w.heap.size (fun k_ => k_ ≠ gb114) (.slice (some ad113) t110.length co12) t110) := ⟨by (with_reducible repeat (first | apply Kd.R_alloc | apply Kd.R_drewN | apply Kd.R_drew)); exact Kd.R_mono (Kd.R_far (p := ⟨go19, (((rd_T75 t110 x19_1).f0) : Int).toNat, none⟩) (Kd.R_types HO_17.out GG19.out (by decide)) (fun _ hk => hk.2) (.int .i64 ((rd_T36 l0 ((rd_T75 t110 x19_1).f0)).f6))) (fun _ hk => hk.1)⟩
      have n2_ : Aside0 ((w29.setCell ⟨go19, (((rd_T75 t110 x19_1).f0) : Int).toNat, none⟩ (.int .i64 ((rd_T36 l0 ((rd_T75 t110 x19_1).f0)).f6))).heap[gb114]? = some (.cells #[.int .i64 ((rd_T75 t110 x19_1).f0), .int .i64 ((rd_T75 t110 x19_1).f1), .int .i64 ((rd_T75 t110 x19_1).f2)] 75 (0, 0))) := ⟨by (with_reducible repeat (first | refine blk_drewN ?_ _ | refine blk_drew ?_ | refine blk_alloc ?_ _)); refine blk_far ?_ (by have h_ := Kd.R_ne HO_6.out BK114.out (by decide); intro e_; exact h_ (by rw [e_]; rfl)) _; (with_reducible repeat (first | refine blk_drewN ?_ _ | refine blk_drew ?_ | refine blk_alloc ?_ _)); exact BK114.out⟩
      have n3_ : Aside0 (Below w.heap.size w (w29.setCell ⟨go19, (((rd_T75 t110 x19_1).f0) : Int).toNat, none⟩ (.int .i64 ((rd_T36 l0 ((rd_T75 t110 x19_1).f0)).f6)))) := ⟨by repeat (first | (with_reducible first | exact HB.out | apply below_alloc | apply pw_below_drewN | apply below_drew1 | refine below_set ?_ GB19.out | refine below_set ?_ GE114.out) | exact HB.out)⟩
      (try clear HO_6); (try clear HO_17); (try clear BK114); (try clear HB)
      generalize (w29.setCell ⟨go19, (((rd_T75 t110 x19_1).f0) : Int).toNat, none⟩ (.int .i64 ((rd_T36 l0 ((rd_T75 t110 x19_1).f0)).f6))) = w32 at n0_ n1_ n2_ n3_ ⊢
      have HO_6 := n0_
      have HO_17 := n1_
      have BK114 := n2_
      have HB := n3_
      clear n0_ n1_ n2_ n3_
      replace HO_6 := Aside0.mk (Kd.R_drew HO_6.out)
      replace HO_17 := Aside0.mk (Kd.R_drew HO_17.out)
      replace BK114 := Aside0.mk (blk_drew BK114.out)
      replace HB := Aside0.mk (below_drew1 HB.out)
      have p117 : 0 ≤ (((rd_T75 t110 x19_1).f0) : Int) := of_decide_eq_true zA
      have q117 : ((rd_T75 t110 x19_1).f0) < (l0.length : Int) := of_decide_eq_true zA
      obtain ⟨ad117, e117, hx117_0, hx117_1, hx117_2, hx117_3, hx117_4, hx117_5, hx117_6, hx117_7⟩ := at_T36 HR0.out ((rd_T75 t110 x19_1).f0) p117 q117
      have hw117_7 := hx117_7
      have hw117_6 := hx117_6
      have hw117_5 := hx117_5
      have hw117_4 := hx117_4
      have hw117_3 := hx117_3
      have hw117_2 := hx117_2
      have hw117_1 := hx117_1
      have hw117_0 := hx117_0
      obtain rfl : ad115 = ad117 := (by injection e117)
      replace hx117_0 := zc HB.out hx117_0
      replace hx117_1 := zc HB.out hx117_1
      replace hx117_2 := zc HB.out hx117_2
      replace hx117_3 := zc HB.out hx117_3
      replace hx117_4 := zc HB.out hx117_4
      replace hx117_5 := zc HB.out hx117_5
      replace hx117_6 := zc HB.out hx117_6
      replace hx117_7 := zc HB.out hx117_7
      replace p117 := eq_true p117
      replace q117 := eq_true q117
      have p118 : 0 ≤ (((rd_T75 t110 x19_1).f2) : Int) := of_decide_eq_true zA
      have q118 : ((rd_T75 t110 x19_1).f2) < (l0.length : Int) := of_decide_eq_true zA
      obtain ⟨ad118, e118, hx118_0, hx118_1, hx118_2, hx118_3, hx118_4, hx118_5, hx118_6, hx118_7⟩ := at_T36 HR0.out ((rd_T75 t110 x19_1).f2) p118 q118
      have hw118_7 := hx118_7
      have hw118_6 := hx118_6
      have hw118_5 := hx118_5
      have hw118_4 := hx118_4
      have hw118_3 := hx118_3
      have hw118_2 := hx118_2
      have hw118_1 := hx118_1
      have hw118_0 := hx118_0
      obtain rfl : ad115 = ad118 := (by injection e118)
      replace hx118_0 := zc HB.out hx118_0
      replace hx118_1 := zc HB.out hx118_1
      replace hx118_2 := zc HB.out hx118_2
      replace hx118_3 := zc HB.out hx118_3
      replace hx118_4 := zc HB.out hx118_4
      replace hx118_5 := zc HB.out hx118_5
      replace hx118_6 := zc HB.out hx118_6
      replace hx118_7 := zc HB.out hx118_7
      replace p118 := eq_true p118
      replace q118 := eq_true q118
      have p119 : 0 ≤ (((rd_T75 t110 x19_1).f2) : Int) := of_decide_eq_true zA
      have q119 : ((rd_T75 t110 x19_1).f2) < (y116.length : Int) := (by have h_ : (((rd_T75 t110 x19_1).f2) : Int) < ((x6_1.length : Int) : Int) := of_decide_eq_true zA; first | (have e_ := (Kd.R_reads' HO_6.out).1; omega) | simpa only [Ny116.out, List.length_set] using h_)
      have ql119 : ((((rd_T75 t110 x19_1).f2) : Int) < ((x6_1.length : Int) : Int)) = True := eq_true (of_decide_eq_true zA)
      obtain ⟨ad119, e119, hx119_0⟩ := Kd.at_int (Kd.R_reads' HO_6.out).2.2 ((rd_T75 t110 x19_1).f2) p119 q119
      obtain rfl : (⟨go19, 0, none⟩ : Addr) = ad119 := (by injection e119)
      (first | simp only [add_plain] at hx119_0 | simp only [add_at] at hx119_0 | simp only [Addr.add, Nat.zero_add] at hx119_0 | skip)
      replace p119 := eq_true p119
      replace q119 := eq_true q119
      refine start_ (n := 21) (S := fun w' => w'.cell? ⟨gb114, 0, none⟩ = some (.int .i64 ((rd_T75 t110 x19_1).f0)) ∧ w'.cell? ⟨gb114, 1, none⟩ = some (.int .i64 ((rd_T75 t110 x19_1).f1)) ∧ w'.cell? ⟨gb114, 2, none⟩ = some (.int .i64 ((rd_T75 t110 x19_1).f2)) ∧ w'.cell? (ad115.add ((((rd_T75 t110 x19_1).f0)).toNat * 8)) = some (.int .u64 ((rd_T36 l0 ((rd_T75 t110 x19_1).f0)).f0)) ∧ w'.cell? ⟨(ad115.add ((((rd_T75 t110 x19_1).f0)).toNat * 8)).block, (ad115.add ((((rd_T75 t110 x19_1).f0)).toNat * 8)).off + 1, none⟩ = some (.int .u64 ((rd_T36 l0 ((rd_T75 t110 x19_1).f0)).f1)) ∧ w'.cell? ⟨(ad115.add ((((rd_T75 t110 x19_1).f0)).toNat * 8)).block, (ad115.add ((((rd_T75 t110 x19_1).f0)).toNat * 8)).off + 2, none⟩ = some (.int .u64 ((rd_T36 l0 ((rd_T75 t110 x19_1).f0)).f2)) ∧ w'.cell? ⟨(ad115.add ((((rd_T75 t110 x19_1).f0)).toNat * 8)).block, (ad115.add ((((rd_T75 t110 x19_1).f0)).toNat * 8)).off + 3, none⟩ = some (.int .u8 ((rd_T36 l0 ((rd_T75 t110 x19_1).f0)).f3)) ∧ w'.cell? ⟨(ad115.add ((((rd_T75 t110 x19_1).f0)).toNat * 8)).block, (ad115.add ((((rd_T75 t110 x19_1).f0)).toNat * 8)).off + 4, none⟩ = some (.string ((rd_T36 l0 ((rd_T75 t110 x19_1).f0)).f4)) ∧ w'.cell? ⟨(ad115.add ((((rd_T75 t110 x19_1).f0)).toNat * 8)).block, (ad115.add ((((rd_T75 t110 x19_1).f0)).toNat * 8)).off + 5, none⟩ = some (.string ((rd_T36 l0 ((rd_T75 t110 x19_1).f0)).f5)) ∧ w'.cell? ⟨(ad115.add ((((rd_T75 t110 x19_1).f0)).toNat * 8)).block, (ad115.add ((((rd_T75 t110 x19_1).f0)).toNat * 8)).off + 6, none⟩ = some (.int .i64 ((rd_T36 l0 ((rd_T75 t110 x19_1).f0)).f6)) ∧ w'.cell? ⟨(ad115.add ((((rd_T75 t110 x19_1).f0)).toNat * 8)).block, (ad115.add ((((rd_T75 t110 x19_1).f0)).toNat * 8)).off + 7, none⟩ = some (.int .i64 ((rd_T36 l0 ((rd_T75 t110 x19_1).f0)).f7)) ∧ w'.cell? (ad115.add ((((rd_T75 t110 x19_1).f2)).toNat * 8)) = some (.int .u64 ((rd_T36 l0 ((rd_T75 t110 x19_1).f2)).f0)) ∧ w'.cell? ⟨(ad115.add ((((rd_T75 t110 x19_1).f2)).toNat * 8)).block, (ad115.add ((((rd_T75 t110 x19_1).f2)).toNat * 8)).off + 1, none⟩ = some (.int .u64 ((rd_T36 l0 ((rd_T75 t110 x19_1).f2)).f1)) ∧ w'.cell? ⟨(ad115.add ((((rd_T75 t110 x19_1).f2)).toNat * 8)).block, (ad115.add ((((rd_T75 t110 x19_1).f2)).toNat * 8)).off + 2, none⟩ = some (.int .u64 ((rd_T36 l0 ((rd_T75 t110 x19_1).f2)).f2)) ∧ w'.cell? ⟨(ad115.add ((((rd_T75 t110 x19_1).f2)).toNat * 8)).block, (ad115.add ((((rd_T75 t110 x19_1).f2)).toNat * 8)).off + 3, none⟩ = some (.int .u8 ((rd_T36 l0 ((rd_T75 t110 x19_1).f2)).f3)) ∧ w'.cell? ⟨(ad115.add ((((rd_T75 t110 x19_1).f2)).toNat * 8)).block, (ad115.add ((((rd_T75 t110 x19_1).f2)).toNat * 8)).off + 4, none⟩ = some (.string ((rd_T36 l0 ((rd_T75 t110 x19_1).f2)).f4)) ∧ w'.cell? ⟨(ad115.add ((((rd_T75 t110 x19_1).f2)).toNat * 8)).block, (ad115.add ((((rd_T75 t110 x19_1).f2)).toNat * 8)).off + 5, none⟩ = some (.string ((rd_T36 l0 ((rd_T75 t110 x19_1).f2)).f5)) ∧ w'.cell? ⟨(ad115.add ((((rd_T75 t110 x19_1).f2)).toNat * 8)).block, (ad115.add ((((rd_T75 t110 x19_1).f2)).toNat * 8)).off + 6, none⟩ = some (.int .i64 ((rd_T36 l0 ((rd_T75 t110 x19_1).f2)).f6)) ∧ w'.cell? ⟨(ad115.add ((((rd_T75 t110 x19_1).f2)).toNat * 8)).block, (ad115.add ((((rd_T75 t110 x19_1).f2)).toNat * 8)).off + 7, none⟩ = some (.int .i64 ((rd_T36 l0 ((rd_T75 t110 x19_1).f2)).f7)) ∧ w'.cell? ⟨go19, (((rd_T75 t110 x19_1).f2)).toNat, none⟩ = some (.int .i64 (rd y116 ((rd_T75 t110 x19_1).f2)))) (ds := [20]) #[false, false, false, false, false, false, false, false, false, false, false, false, false, false, false, false, false, false, false, false, false] (by kernel_rfl) rfl rfl ⟨(blk_cell BK114.out 0).trans rfl, (blk_cell BK114.out 1).trans rfl, (blk_cell BK114.out 2).trans rfl, (zc HB.out hw117_0 :), (zc HB.out hw117_1 :), (zc HB.out hw117_2 :), (zc HB.out hw117_3 :), (zc HB.out hw117_4 :), (zc HB.out hw117_5 :), (zc HB.out hw117_6 :), (zc HB.out hw117_7 :), (zc HB.out hw118_0 :), (zc HB.out hw118_1 :), (zc HB.out hw118_2 :), (zc HB.out hw118_3 :), (zc HB.out hw118_4 :), (zc HB.out hw118_5 :), (zc HB.out hw118_6 :), (zc HB.out hw118_7 :), hx119_0⟩ (fun hHeld => ?_); refine with_tabW clamp_Starts.tab9 clamp_Starts.bits9 (fun HT_ HW_ => ?_)
      generalize w32.drew = w33 at HO_6 HO_17 BK114 HB HQ30 hx117_0 hx117_1 hx117_2 hx117_3 hx117_4 hx117_5 hx117_6 hx117_7 hx118_0 hx118_1 hx118_2 hx118_3 hx118_4 hx118_5 hx118_6 hx118_7 hx119_0 hHeld ⊢
      refine zp 0 (some 36) ?_
      refine zp 1 (some 37) ?_
      refine zp 3 (some 39) ?_
      refine zp 4 (some 40) ?_
      refine zp 8 (some 44) ?_
      refine zp 9 (some 45) ?_
      refine zp 13 (some 49) ?_
      refine zp 14 (some 50) ?_
      refine zt20 2 (some 38) ?_
      refine zt20 5 (some 41) ?_
      refine zp 6 (some 42) ?_
      refine zt20 7 (some 43) ?_
      refine zt20 10 (some 46) ?_
      refine zp 11 (some 47) ?_
      refine zt20 12 (some 48) ?_
      refine zt20 15 (some 51) ?_
      refine zp 16 (some 52) ?_
      refine zt20 17 (some 53) ?_
      refine z1 18 (some 54) (fun K hK => ?_)
      refine goes_ Tryz.func114 (by kernel_rfl) rfl #[.agg #[.int .u64 ((rd_T36 l0 ((rd_T75 t110 x19_1).f0)).f0), .int .u64 ((rd_T36 l0 ((rd_T75 t110 x19_1).f0)).f1), .int .u64 ((rd_T36 l0 ((rd_T75 t110 x19_1).f0)).f2), .int .u8 ((rd_T36 l0 ((rd_T75 t110 x19_1).f0)).f3), .string ((rd_T36 l0 ((rd_T75 t110 x19_1).f0)).f4), .string ((rd_T36 l0 ((rd_T75 t110 x19_1).f0)).f5), .int .i64 ((rd_T36 l0 ((rd_T75 t110 x19_1).f0)).f6), .int .i64 ((rd_T36 l0 ((rd_T75 t110 x19_1).f0)).f7)], .agg #[.int .u64 ((rd_T36 l0 ((rd_T75 t110 x19_1).f2)).f0), .int .u64 ((rd_T36 l0 ((rd_T75 t110 x19_1).f2)).f1), .int .u64 ((rd_T36 l0 ((rd_T75 t110 x19_1).f2)).f2), .int .u8 ((rd_T36 l0 ((rd_T75 t110 x19_1).f2)).f3), .string ((rd_T36 l0 ((rd_T75 t110 x19_1).f2)).f4), .string ((rd_T36 l0 ((rd_T75 t110 x19_1).f2)).f5), .int .i64 ((rd_T36 l0 ((rd_T75 t110 x19_1).f2)).f6), .int .i64 ((rd_T36 l0 ((rd_T75 t110 x19_1).f2)).f7)], .int .i64 (rd y116 ((rd_T75 t110 x19_1).f2))] (by rfl) rfl rfl zL ?_
      with_reducible refine (clamp_start.calls ((rd_T36 l0 ((rd_T75 t110 x19_1).f0)).f0) ((rd_T36 l0 ((rd_T75 t110 x19_1).f0)).f1) ((rd_T36 l0 ((rd_T75 t110 x19_1).f0)).f2) ((rd_T36 l0 ((rd_T75 t110 x19_1).f0)).f3) ((rd_T36 l0 ((rd_T75 t110 x19_1).f0)).f4) ((rd_T36 l0 ((rd_T75 t110 x19_1).f0)).f5) ((rd_T36 l0 ((rd_T75 t110 x19_1).f0)).f6) ((rd_T36 l0 ((rd_T75 t110 x19_1).f0)).f7) ((rd_T36 l0 ((rd_T75 t110 x19_1).f2)).f0) ((rd_T36 l0 ((rd_T75 t110 x19_1).f2)).f1) ((rd_T36 l0 ((rd_T75 t110 x19_1).f2)).f2) ((rd_T36 l0 ((rd_T75 t110 x19_1).f2)).f3) ((rd_T36 l0 ((rd_T75 t110 x19_1).f2)).f4) ((rd_T36 l0 ((rd_T75 t110 x19_1).f2)).f5) ((rd_T36 l0 ((rd_T75 t110 x19_1).f2)).f6) ((rd_T36 l0 ((rd_T75 t110 x19_1).f2)).f7) (rd y116 ((rd_T75 t110 x19_1).f2)) t120 _ A24.out).mono ?_
      rintro e w34 ⟨rfl, hb⟩
      have HS19_ := (hb.cell (World.block_lt_of_cell? _ _ (hHeld.2.2.2.2.2.2.2.2.2.2.2.2.2.2.2.2.2.2.2))).trans (hHeld.2.2.2.2.2.2.2.2.2.2.2.2.2.2.2.2.2.2.2)
      refine ⟨_, rfl, ?_⟩
      replace HO_6 := Aside0.mk (Kd.R_below (zR HO_6.out) hb)
      replace HO_17 := Aside0.mk (Kd.R_below (zR HO_17.out) hb)
      replace BK114 := Aside0.mk (zKb BK114.out hb)
      replace HB := Aside0.mk (below_step (zG GE114.out) hb)
      (try clear hb); (try clear hb2); (try clear hk); (try clear hi)
      have p25 : 0 ≤ (((rd_T75 t110 x19_1).f0) : Int) := of_decide_eq_true zA
      have q25 : (((rd_T75 t110 x19_1).f0) : Int) < ((x6_1.length : Int) : Int) := of_decide_eq_true zA
      obtain ⟨hx25_0, hf25_0⟩ := Kd.R_celln 0 HO_6.out (((rd_T75 t110 x19_1).f0) : Int) p25 q25
      replace p25 := eq_true p25
      replace q25 := eq_true q25
      have HP35 := Kd.R_putn HO_6.out (((rd_T75 t110 x19_1).f0) : Int) t120
      rw [← Ny121.out] at HP35
      have HQ35 := Aside0.mk HP35
      clear HP35
      refine hK.out _ _ ⟨(blk_cell BK114.out 0).trans rfl, (blk_cell BK114.out 1).trans rfl, (blk_cell BK114.out 2).trans rfl, (zc HB.out hw117_0 :), (zc HB.out hw117_1 :), (zc HB.out hw117_2 :), (zc HB.out hw117_3 :), (zc HB.out hw117_4 :), (zc HB.out hw117_5 :), (zc HB.out hw117_6 :), (zc HB.out hw117_7 :), (zc HB.out hw118_0 :), (zc HB.out hw118_1 :), (zc HB.out hw118_2 :), (zc HB.out hw118_3 :), (zc HB.out hw118_4 :), (zc HB.out hw118_5 :), (zc HB.out hw118_6 :), (zc HB.out hw118_7 :), HS19_⟩ (fun hHeld => ?_)
      clear hK K
      refine norm_ (a' := ?_) ?_ ?_
      rotate_left
      ·show Act.put _ (some 54) _ = _
       simp only [Act.put, List.setIfInBounds_toArray, List.set_cons_zero, List.set_cons_succ, i64_w, i32_w]
       rfl
      refine zp 19 (some 55) ?_
      refine z9 20 none (fun K hK => ?_)
      refine skip_ (w1 := ?_) (by rfl) rfl ?_ ?_
      rotate_left
      ·go_simp
       rfl
      refine hK.out _ _ ?_
      clear hK K
      refine done_ (done_of HT_.out (by kernel_rfl)) ?_
      try go_wp2
      go_roundg k1
      case measure => have := HK1.out; omega
      case rel => exact ⟨(y121), (wrap64 (x19_1 + 1)), zE, H', ⟨by have := HK1.out; omega⟩, ⟨zR HQ35.out⟩, ⟨by (with_reducible repeat (first | apply Kd.R_alloc | apply Kd.R_drewN | apply Kd.R_drew)); exact Kd.R_mono (Kd.R_far (p := ⟨go19, (((rd_T75 t110 x19_1).f0) : Int).toNat, none⟩) (Kd.R_types HO_17.out (Classical.choose_spec (Go.Proofs.YtgknjgionicncaaGreatW.LabG.gg_ HO_6.out)) (by decide)) (fun _ hk => hk.2) (.int .i64 t120)) (fun _ hk => trivial)⟩, ⟨by repeat (first | (with_reducible first | exact HB.out | apply below_alloc | apply pw_below_drewN | apply below_drew1 | refine below_set ?_ GB19.out | refine below_set ?_ GE114.out) | exact HB.out)⟩⟩
     ·rw [if_neg c20] at H
      have c20b0 : decide (0 ≤ ((rd_T75 t110 x19_1).f2)) = false := decide_eq_false c20
      clear c20
      have H' := Aside0.mk H
      clear H
      have p113 : 0 ≤ (x19_1 : Int) := of_decide_eq_true zA
      have q113 : x19_1 < (t110.length : Int) := of_decide_eq_true zA
      obtain ⟨ad113, e113, hx113_0, hx113_1, hx113_2⟩ := at_T75 (Kd.R_reads' HO_17.out).2.2 x19_1 p113 q113
      cases e113
      replace p113 := eq_true p113
      replace q113 := eq_true q113
      try go_wp2_with (first | ((with_reducible refine gate_dst (N := 8) rfl ?_); refine zbox (N := 8) (cs := #[.int .i64 0, .int .i64 0, .int .i64 0]) (t := 75) ?_; intro gb114 hg w36 hbox hb; replace HO_6 := Aside0.mk (Kd.R_below (zR HO_6.out) hb); replace HO_17 := Aside0.mk (Kd.R_below (Kd.R_elderB (zR HO_17.out) gb114 (Nat.le_of_eq hg.symm)) hb); have BK114 := Aside0.mk (hbox); have GW114 := Aside0.mk ((by rw [hg]; exact (below_size zB) : w.heap.size ≤ gb114)); have GE114 := Aside0.mk ((by rw [hg]; exact (below_size zB) : w.heap.size ≤ gb114)); replace HB := Aside0.mk (below_step zB hb); clear hb hbox hg; obtain ⟨hcz37_0, hcz37_1, hcz37_2, hfz37_0, hfz37_1, hfz37_2⟩ := zb3 BK114.out))
      have n0_ : Aside0 (Kd.R (Kd.int .i64) 2 (((w36.setCell ⟨gb114, 0, none⟩ (.int .i64 ((rd_T75 t110 x19_1).f0))).setCell ⟨gb114, 1, none⟩ (.int .i64 ((rd_T75 t110 x19_1).f1))).setCell ⟨gb114, 2, none⟩ (.int .i64 ((rd_T75 t110 x19_1).f2))) w.heap.size (fun _ => True) v108 x6_1) := ⟨Kd.R_mono (zW HO_6.out BK114.out) (fun _ hk => trivial)⟩
      have n1_ : Aside0 (Kd.R k75 75 (((w36.setCell ⟨gb114, 0, none⟩ (.int .i64 ((rd_T75 t110 x19_1).f0))).setCell ⟨gb114, 1, none⟩ (.int .i64 ((rd_T75 t110 x19_1).f1))).setCell ⟨gb114, 2, none⟩ (.int .i64 ((rd_T75 t110 x19_1).f2))) w.heap.size (fun k_ => k_ ≠ gb114) (.slice (some ad113) t110.length co12) t110) := ⟨by (with_reducible repeat (first | apply Kd.R_alloc | apply Kd.R_drewN | apply Kd.R_drew)); exact Kd.R_mono (Kd.R_far (p := ⟨gb114, 2, none⟩) (Kd.R_far (p := ⟨gb114, 1, none⟩) (Kd.R_far (p := ⟨gb114, 0, none⟩) (Kd.R_mono HO_17.out (fun k_ hk => (⟨hk, hk.2⟩ : _ ∧ k_ ≠ gb114))) (fun _ hk => hk.2) (.int .i64 ((rd_T75 t110 x19_1).f0))) (fun _ hk => hk.2) (.int .i64 ((rd_T75 t110 x19_1).f1))) (fun _ hk => hk.2) (.int .i64 ((rd_T75 t110 x19_1).f2))) (fun _ hk => hk.1.2)⟩
      have n2_ : Aside0 ((((w36.setCell ⟨gb114, 0, none⟩ (.int .i64 ((rd_T75 t110 x19_1).f0))).setCell ⟨gb114, 1, none⟩ (.int .i64 ((rd_T75 t110 x19_1).f1))).setCell ⟨gb114, 2, none⟩ (.int .i64 ((rd_T75 t110 x19_1).f2))).heap[gb114]? = some (.cells #[.int .i64 ((rd_T75 t110 x19_1).f0), .int .i64 ((rd_T75 t110 x19_1).f1), .int .i64 ((rd_T75 t110 x19_1).f2)] 75 (0, 0))) := ⟨zP BK114.out⟩
      have n3_ : Aside0 (Below w.heap.size w (((w36.setCell ⟨gb114, 0, none⟩ (.int .i64 ((rd_T75 t110 x19_1).f0))).setCell ⟨gb114, 1, none⟩ (.int .i64 ((rd_T75 t110 x19_1).f1))).setCell ⟨gb114, 2, none⟩ (.int .i64 ((rd_T75 t110 x19_1).f2)))) := ⟨zG GE114.out⟩
      (try clear HO_6); (try clear HO_17); (try clear BK114); (try clear HB)
      generalize (((w36.setCell ⟨gb114, 0, none⟩ (.int .i64 ((rd_T75 t110 x19_1).f0))).setCell ⟨gb114, 1, none⟩ (.int .i64 ((rd_T75 t110 x19_1).f1))).setCell ⟨gb114, 2, none⟩ (.int .i64 ((rd_T75 t110 x19_1).f2))) = w38 at n0_ n1_ n2_ n3_ ⊢
      have HO_6 := n0_
      have HO_17 := n1_
      have BK114 := n2_
      have HB := n3_
      clear n0_ n1_ n2_ n3_
      replace HO_6 := Aside0.mk (Kd.R_drew HO_6.out)
      replace HO_17 := Aside0.mk (Kd.R_drew HO_17.out)
      replace BK114 := Aside0.mk (blk_drew BK114.out)
      replace HB := Aside0.mk (below_drew1 HB.out)
      have p115 : 0 ≤ (((rd_T75 t110 x19_1).f0) : Int) := of_decide_eq_true zA
      have q115 : ((rd_T75 t110 x19_1).f0) < (l0.length : Int) := of_decide_eq_true zA
      obtain ⟨ad115, e115, hx115_0, hx115_1, hx115_2, hx115_3, hx115_4, hx115_5, hx115_6, hx115_7⟩ := at_T36 HR0.out ((rd_T75 t110 x19_1).f0) p115 q115
      have hw115_7 := hx115_7
      have hw115_6 := hx115_6
      have hw115_5 := hx115_5
      have hw115_4 := hx115_4
      have hw115_3 := hx115_3
      have hw115_2 := hx115_2
      have hw115_1 := hx115_1
      have hw115_0 := hx115_0
      cases e115
      replace hx115_0 := zc HB.out hx115_0
      replace hx115_1 := zc HB.out hx115_1
      replace hx115_2 := zc HB.out hx115_2
      replace hx115_3 := zc HB.out hx115_3
      replace hx115_4 := zc HB.out hx115_4
      replace hx115_5 := zc HB.out hx115_5
      replace hx115_6 := zc HB.out hx115_6
      replace hx115_7 := zc HB.out hx115_7
      replace p115 := eq_true p115
      replace q115 := eq_true q115
      have p19 : 0 ≤ (((rd_T75 t110 x19_1).f0) : Int) := of_decide_eq_true zA
      have q19 : (((rd_T75 t110 x19_1).f0) : Int) < ((x6_1.length : Int) : Int) := of_decide_eq_true zA
      obtain ⟨go19, co19, eo19, gb19, gl19, cl19, HG19⟩ := Kd.R_form HO_6.out (by omega)
      (first | cases eo19 | (injection eo19 with ea_ en_ ec_; (first | subst ea_ | (injection ea_ with ea_; subst ea_)); subst ec_; clear en_))
      have GB19 := Aside0.mk gb19
      have GG19 := Aside0.mk HG19
      clear gb19 gl19 HG19
      obtain ⟨hx19_0, hf19_0⟩ := Kd.R_celln 0 HO_6.out (((rd_T75 t110 x19_1).f0) : Int) p19 q19
      replace p19 := eq_true p19
      replace q19 := eq_true q19
      have HP40 := Kd.R_putn HO_6.out (((rd_T75 t110 x19_1).f0) : Int) ((rd_T36 l0 ((rd_T75 t110 x19_1).f0)).f6)
      rw [← Ny116.out] at HP40
      have HQ40 := Aside0.mk HP40
      clear HP40
      refine start_ (n := 11) (S := fun w' => w'.cell? ⟨gb114, 0, none⟩ = some (.int .i64 ((rd_T75 t110 x19_1).f0)) ∧ w'.cell? ⟨gb114, 1, none⟩ = some (.int .i64 ((rd_T75 t110 x19_1).f1)) ∧ w'.cell? ⟨gb114, 2, none⟩ = some (.int .i64 ((rd_T75 t110 x19_1).f2)) ∧ w'.cell? (ad115.add ((((rd_T75 t110 x19_1).f0)).toNat * 8)) = some (.int .u64 ((rd_T36 l0 ((rd_T75 t110 x19_1).f0)).f0)) ∧ w'.cell? ⟨(ad115.add ((((rd_T75 t110 x19_1).f0)).toNat * 8)).block, (ad115.add ((((rd_T75 t110 x19_1).f0)).toNat * 8)).off + 1, none⟩ = some (.int .u64 ((rd_T36 l0 ((rd_T75 t110 x19_1).f0)).f1)) ∧ w'.cell? ⟨(ad115.add ((((rd_T75 t110 x19_1).f0)).toNat * 8)).block, (ad115.add ((((rd_T75 t110 x19_1).f0)).toNat * 8)).off + 2, none⟩ = some (.int .u64 ((rd_T36 l0 ((rd_T75 t110 x19_1).f0)).f2)) ∧ w'.cell? ⟨(ad115.add ((((rd_T75 t110 x19_1).f0)).toNat * 8)).block, (ad115.add ((((rd_T75 t110 x19_1).f0)).toNat * 8)).off + 3, none⟩ = some (.int .u8 ((rd_T36 l0 ((rd_T75 t110 x19_1).f0)).f3)) ∧ w'.cell? ⟨(ad115.add ((((rd_T75 t110 x19_1).f0)).toNat * 8)).block, (ad115.add ((((rd_T75 t110 x19_1).f0)).toNat * 8)).off + 4, none⟩ = some (.string ((rd_T36 l0 ((rd_T75 t110 x19_1).f0)).f4)) ∧ w'.cell? ⟨(ad115.add ((((rd_T75 t110 x19_1).f0)).toNat * 8)).block, (ad115.add ((((rd_T75 t110 x19_1).f0)).toNat * 8)).off + 5, none⟩ = some (.string ((rd_T36 l0 ((rd_T75 t110 x19_1).f0)).f5)) ∧ w'.cell? ⟨(ad115.add ((((rd_T75 t110 x19_1).f0)).toNat * 8)).block, (ad115.add ((((rd_T75 t110 x19_1).f0)).toNat * 8)).off + 6, none⟩ = some (.int .i64 ((rd_T36 l0 ((rd_T75 t110 x19_1).f0)).f6)) ∧ w'.cell? ⟨(ad115.add ((((rd_T75 t110 x19_1).f0)).toNat * 8)).block, (ad115.add ((((rd_T75 t110 x19_1).f0)).toNat * 8)).off + 7, none⟩ = some (.int .i64 ((rd_T36 l0 ((rd_T75 t110 x19_1).f0)).f7))) (ds := [10]) #[false, false, false, false, false, false, false, false, false, false, false] (by kernel_rfl) rfl rfl ⟨(blk_cell BK114.out 0).trans rfl, (blk_cell BK114.out 1).trans rfl, (blk_cell BK114.out 2).trans rfl, (zc HB.out hw115_0 :), (zc HB.out hw115_1 :), (zc HB.out hw115_2 :), (zc HB.out hw115_3 :), (zc HB.out hw115_4 :), (zc HB.out hw115_5 :), (zc HB.out hw115_6 :), (zc HB.out hw115_7 :)⟩ (fun hHeld => ?_); refine with_tabW clamp_Starts.tab7 clamp_Starts.bits7 (fun HT_ HW_ => ?_)
      generalize w38.drew = w39 at HO_6 HO_17 BK114 HB GG19 HQ40 hf19_0 hx115_0 hx115_1 hx115_2 hx115_3 hx115_4 hx115_5 hx115_6 hx115_7 hx19_0 hHeld ⊢
      refine zp 0 (some 23) ?_
      refine zp 1 (some 24) ?_
      refine zp 3 (some 26) ?_
      refine zp 4 (some 27) ?_
      refine zt11 2 (some 25) ?_
      refine zt11 5 (some 28) ?_
      refine zp 6 (some 29) ?_
      refine zp 7 (some 30) ?_
      refine zt11 8 (some 31) ?_
      refine zp 9 (some 32) ?_
      refine z9 10 none (fun K hK => ?_)
      refine skip_ (w1 := ?_) (by rfl) rfl ?_ ?_
      rotate_left
      ·go_simp
       rfl
      refine hK.out _ _ ?_
      clear hK K
      refine done_ (done_of HT_.out (by kernel_rfl)) ?_
      obtain ⟨hcz41_0, hcz41_1, hcz41_2, hfz41_0, hfz41_1, hfz41_2⟩ := zb3 BK114.out
      have hcz41_0s := fun (i_ : Nat) (v_ : Go.Value) => (Go.Proofs.YtgknjgionicncaaGreatW.LabG.far_cell BK114.out GG19.out (by decide) i_ 0 v_).trans hcz41_0
      have hcz41_1s := fun (i_ : Nat) (v_ : Go.Value) => (Go.Proofs.YtgknjgionicncaaGreatW.LabG.far_cell BK114.out GG19.out (by decide) i_ 1 v_).trans hcz41_1
      have hcz41_2s := fun (i_ : Nat) (v_ : Go.Value) => (Go.Proofs.YtgknjgionicncaaGreatW.LabG.far_cell BK114.out GG19.out (by decide) i_ 2 v_).trans hcz41_2
      try go_wp2
      go_roundg k1
      case measure => have := HK1.out; omega
      case rel => exact ⟨(y116), (wrap64 (x19_1 + 1)), zE, H', ⟨by have := HK1.out; omega⟩, ⟨zR HQ40.out⟩, ⟨by (with_reducible repeat (first | apply Kd.R_alloc | apply Kd.R_drewN | apply Kd.R_drew)); exact Kd.R_mono (Kd.R_far (p := ⟨go19, (((rd_T75 t110 x19_1).f0) : Int).toNat, none⟩) (Kd.R_types HO_17.out GG19.out (by decide)) (fun _ hk => hk.2) (.int .i64 ((rd_T36 l0 ((rd_T75 t110 x19_1).f0)).f6))) (fun _ hk => trivial)⟩, ⟨by repeat (first | (with_reducible first | exact HB.out | apply below_alloc | apply pw_below_drewN | apply below_drew1 | refine below_set ?_ GB19.out | refine below_set ?_ GE114.out) | exact HB.out)⟩⟩
    ·rw [if_neg c13] at H
     have c13b0 := decide_eq_false c13
     clear c13
     simp only [Option.some.injEq, Prod.mk.injEq] at H
     obtain ⟨rfl, rfl⟩ := H
     go_wp2
     go_ret2
     exact ⟨_, by first | rfl | (simp [errW_none, errW_some] <;> rfl) | (simp [*, errW_none, errW_some] <;> rfl), zR HO_6.out, zB⟩
 ·replace c4 := Bool.eq_false_iff.mpr c4
  subst c4
  rw [if_neg (show ¬ (false = true) by decide)] at H
  simp only [Option.some.injEq, Prod.mk.injEq] at H
  obtain ⟨rfl, rfl⟩ := H
  go_enter Tryz.func65, Tryz.ntmps65
  go_wp2_with (first | ((with_reducible refine gate_callee (f := 50) rfl ?_); refine goesL_ (some 11) rfl rfl Tryz.func50 (by kernel_rfl) rfl #[.slice A0 l0.length c0, .slice A1 l1.length c1] rfl zL ?_; (with_reducible refine (clamp_right.calls _ _ l0 _ _ l1 false _ ?side1 ?side2 ?side3 ?side4 A3.out).mono ?_); (case side1 => exact zC (HR0.out)); (case side2 => exact HC0.out); (case side3 => exact zC (HR1.out)); (case side4 => exact HC1.out); rintro e w42 ⟨rfl, hb⟩; refine ⟨_, rfl, ?_⟩; replace HB := Aside0.mk (below_step zB hb); (try clear hb); (try clear hb2); (try clear hk); (try clear hi)))
  go_ret2
  exact ⟨_, by first | rfl | (simp [errW_none, errW_some] <;> rfl) | (simp [*, errW_none, errW_some] <;> rfl), zNil, zB⟩
def api_Edge_171.f (a0 : Int) : Option (List (S72)) := if 0 ≤ a0 ∧ a0 ≤ 1000000000 then some [] else none
theorem api_Edge_171.calls (a0 : Int) (r : List (S72)) (w : World) (h : api_Edge_171.f a0 = some r) :
  Calls Tryz.prog 171 #[.slice none 0 0, .int .i64 a0] w fun e w' => ∃ v0_ : Value, e = .returned (v0_) ∧ Kd.R k72 72 w' w.heap.size (fun _ => True) v0_ r ∧ Below w.heap.size w w' := by
 unfold api_Edge_171.f at h
 split at h
 ·rename_i hl
  obtain rfl := Option.some.inj h
  exact L.growE_calls a0 hl.1 hl.2 w
 ·cases h
mutual
def api_Edge_139.l0 : Nat → List (List (S72)) → Int → List (List (S72)) → Int → Int → Option ((List (S72)))
 | 0, _, _, _, _, _ => none
 | k + 1, x0, x3, x9, x10, x11 => if x11 < x10 then (if 0 ≤ x11 then (if x11 < (x9.length : Int) then (if (wrap64 (x3 + ((rd_L11 x9 x11).length : Int))) < 0 then (if 0 = 0 then (none) else (api_Edge_139.l0 k x0 (wrap64 (x3 + ((rd_L11 x9 x11).length : Int))) x9 x10 (wrap64 (x11 + 1)))) else (api_Edge_139.l0 k x0 (wrap64 (x3 + ((rd_L11 x9 x11).length : Int))) x9 x10 (wrap64 (x11 + 1)))) else (none)) else (none)) else ((api_Edge_171.f x3).bind fun t150 => (api_Edge_139.l1 k t150 x0 (x0.length : Int) 0))
def api_Edge_139.l1 : Nat → List (S72) → List (List (S72)) → Int → Int → Option ((List (S72)))
 | 0, _, _, _, _ => none
 | k + 1, x6, x25, x26, x27 => if x27 < x26 then (if 0 ≤ x27 then (if x27 < (x25.length : Int) then (if x6.length + (rd_L11 x25 x27).length < 2932031007402 then (api_Edge_139.l1 k (x6 ++ (rd_L11 x25 x27)) x25 x26 (wrap64 (x27 + 1))) else (none)) else (none)) else (none)) else (some x6)
end
def api_Edge_139.f (k : Nat) (l0 : List (List (S72))) : Option ((List (S72))) := api_Edge_139.l0 k l0 0 l0 (l0.length : Int) 0
theorem api_Edge_139.mono_l : ∀ k, (∀ y0 y1 y2 y3 y4, LeO (api_Edge_139.l0 k y0 y1 y2 y3 y4) (api_Edge_139.l0 (k + 1) y0 y1 y2 y3 y4)) ∧ (∀ y0 y1 y2 y3, LeO (api_Edge_139.l1 k y0 y1 y2 y3) (api_Edge_139.l1 (k + 1) y0 y1 y2 y3))
 | 0 => ⟨fun _ _ _ _ _ r h => by simp [api_Edge_139.l0] at h, fun _ _ _ _ r h => by simp [api_Edge_139.l1] at h⟩
 | k + 1 => by
  obtain ⟨ih0, ih1⟩ := api_Edge_139.mono_l k
  refine ⟨?_, ?_⟩
  ·intro y0 y1 y2 y3 y4
   unfold api_Edge_139.l0
   exact zM
  ·intro y0 y1 y2 y3
   unfold api_Edge_139.l1
   exact zM
theorem api_Edge_139.mono : ∀ a0 k, LeO (api_Edge_139.f k a0) (api_Edge_139.f (k + 1) a0) := by
 intro a0 k
 obtain ⟨ih0, ih1⟩ := api_Edge_139.mono_l k
 unfold api_Edge_139.f
 exact zM
set_option maxHeartbeats 8000000 in
set_option maxRecDepth 100000 in
theorem api_Edge_139.calls (k : Nat) (A0 : Option Addr) (c0 : Nat) (l0 : List (List (S72))) (r : List (S72)) (w : World) (hr0 : Kd.C (Kd.slice 72 k72) w A0 l0.length l0) (hc0 : l0.length ≤ c0) (h : api_Edge_139.f k l0 = some r) :
  Calls Tryz.prog 139 #[.slice A0 l0.length c0] w fun e w' => ∃ v0_ : Value, e = .returned (v0_) ∧ Kd.R k72 72 w' w.heap.size (fun _ => True) v0_ r ∧ Below w.heap.size w w' := by
 have HR0 := Aside0.mk hr0
 have HC0 := Aside0.mk hc0
 clear hr0 hc0
 have HB := Aside0.mk (Below.refl w.heap.size w)
 have H : (api_Edge_139.l0 k l0 0 l0 (l0.length : Int) 0) = some r := h
 clear h
 have H' := Aside0.mk H
 clear H
 go_enter Tryz.func139, Tryz.ntmps139
 go_wp2
 go_loopg [3, 11] k (fun kq v3 v11 w' => ∃ (x3_1 : Int) (x11_1 : Int), v3 = .int .i64 x3_1 ∧ v11 = .int .i64 x11_1 ∧ Aside0 (api_Edge_139.l0 kq l0 x3_1 l0 (l0.length : Int) x11_1 = some r) ∧ Aside0 (kq ≤ k) ∧ Aside0 (Below w.heap.size w w'))
 case atStart => exact ⟨(0), (0), zE, zE, H', ⟨Nat.le_refl _⟩, ⟨zB⟩⟩
 case round =>
  clear H'
  (try clear c1)
  obtain ⟨x3_1, x11_1, rfl, rfl, HA, HK1, HB⟩ := hrel
  cases gk with
  | zero => exact absurd HA.out (by simp [api_Edge_139.l0])
  | succ k1 =>
   have H := HA.out
   clear HA
   simp only [api_Edge_139.l0] at H
   by_cases c2 : x11_1 < (l0.length : Int)
   ·rw [if_pos c2] at H
    have c2b0 := decide_eq_true c2
    clear c2
    obtain ⟨c3b0, H⟩ := zt H
    obtain ⟨c4b0, H⟩ := zt H
    by_cases c5 : (wrap64 (x3_1 + ((rd_L11 l0 x11_1).length : Int))) < 0
    ·rw [if_pos c5] at H
     have c5b0 := decide_eq_true c5
     clear c5
     exact absurd H (by simp)
    ·rw [if_neg c5] at H
     have c5b0 := decide_eq_false c5
     clear c5
     have H' := Aside0.mk H
     clear H
     have p149 : 0 ≤ (x11_1 : Int) := of_decide_eq_true zA
     have q149 : x11_1 < (l0.length : Int) := of_decide_eq_true zA
     obtain ⟨ad149, A149_0, c149_0, e149, hx149_0, hl149_0, hi149_0⟩ := at_L11 HR0.out x11_1 p149 q149
     cases e149
     replace hx149_0 := zc HB.out hx149_0
     have HR149_0 := Aside0.mk hi149_0
     have HC149_0 := Aside0.mk hl149_0
     clear hi149_0 hl149_0
     replace p149 := eq_true p149
     replace q149 := eq_true q149
     go_wp2
     go_roundg k1
     case measure => have := HK1.out; omega
     case rel => exact ⟨(wrap64 (x3_1 + ((rd_L11 l0 x11_1).length : Int))), (wrap64 (x11_1 + 1)), zE, zE, H', ⟨by have := HK1.out; omega⟩, ⟨zB⟩⟩
   ·rw [if_neg c2] at H
    have c2b0 := decide_eq_false c2
    clear c2
    replace H := Option.bind_eq_some_iff.mp H
    obtain ⟨t150, A70, H⟩ := H
    have A7 := Aside0.mk A70
    clear A70
    have H' := Aside0.mk H
    clear H
    go_wp2_with (first | ((with_reducible refine gate_callee (f := 171) rfl ?_); refine goesL_ (some 24) rfl rfl Tryz.func171 (by kernel_rfl) rfl #[.slice none 0 0, .int .i64 x3_1] rfl zL ?_; (with_reducible refine (api_Edge_171.calls x3_1 t150 _ A7.out).mono ?_); rintro e w8 ⟨v151, rfl, ho0, hb⟩; refine ⟨_, rfl, ?_⟩; have HO152 := Aside0.mk (Kd.R_lower ho0 (below_size zB)); replace HB := Aside0.mk (below_step zB hb); (try clear hb); (try clear hb2); (try clear hk); (try clear hi); (try clear ho0)))
    go_loopg [6, 27] k1 (fun kq v6 v27 w' => ∃ (x6_2 : List (S72)) (x27_2 : Int), v27 = .int .i64 x27_2 ∧ Aside0 (api_Edge_139.l1 kq x6_2 l0 (l0.length : Int) x27_2 = some r) ∧ Aside0 (kq ≤ k1) ∧ Aside0 (Kd.R k72 72 w' w.heap.size (fun _ => True) v6 x6_2) ∧ Aside0 (Below w.heap.size w w'))
    case atStart => exact ⟨(t150), (0), zE, H', ⟨Nat.le_refl _⟩, ⟨zR HO152.out⟩, ⟨zB⟩⟩
    case round =>
     clear H'
     (try clear c1); (try clear p1); (try clear q1); (try clear hx1); (try clear c2); (try clear c2b0); (try clear p2); (try clear c3); (try clear c3b0); (try clear c4); (try clear c4b0); (try clear c5); (try clear c5b0); (try clear c6); (try clear c6b0); (try clear c6b1); (try clear p6); (try clear hx149_0); (try clear p149); (try clear q149)
     obtain ⟨x6_2, x27_2, rfl, HA, HK2, HO_6, HB⟩ := hrel
     cases gk with
     | zero => exact absurd HA.out (by simp [api_Edge_139.l1])
     | succ k2 =>
      have H := HA.out
      clear HA
      simp only [api_Edge_139.l1] at H
      by_cases c9 : x27_2 < (l0.length : Int)
      ·rw [if_pos c9] at H
       have c9b0 := decide_eq_true c9
       clear c9
       obtain ⟨c10b0, H⟩ := zt H
       obtain ⟨c11b0, H⟩ := zt H
       obtain ⟨c12, H⟩ := zj H
       have LMc12 := Aside0.mk c12
       clear c12
       obtain ⟨y154, hy154⟩ : ∃ y_ : List (S72), y_ = (x6_2 ++ (rd_L11 l0 x27_2)) := ⟨_, rfl⟩
       first | (replace H := zo H hy154) | rw [← hy154] at H
       have Ny154 := Aside0.mk hy154
       clear hy154
       have H' := Aside0.mk H
       clear H
       have p153 : 0 ≤ (x27_2 : Int) := of_decide_eq_true zA
       have q153 : x27_2 < (l0.length : Int) := of_decide_eq_true zA
       obtain ⟨ad153, A153_0, c153_0, e153, hx153_0, hl153_0, hi153_0⟩ := at_L11 HR0.out x27_2 p153 q153
       cases e153
       replace hx153_0 := zc HB.out hx153_0
       have HR153_0 := Aside0.mk hi153_0
       have HC153_0 := Aside0.mk hl153_0
       clear hi153_0 hl153_0
       replace p153 := eq_true p153
       replace q153 := eq_true q153
       go_wp2_with (first | ((with_reducible refine gate_builtin (b := .append) (xs := #[.tmp 31, .tmp 32]) rfl ?_); at_builtin; refine Kd.R_append_rows k72 (w0 := w) w.heap.size rfl (.tmp 31) (.tmp 32) 29 72 (.agg #[(.int .i64 0), (.int .i64 0), (.int .i64 0), (.int .i64 0), (.int .i64 0), (.bool false)]) 48 rfl Tryz.underlying29 info72 rfl (by decide) (by omega) u6 x6_2 (rd_L11 l0 x27_2) _ _ _ (fun _ => True) (fun _ => False) rfl rfl ?aO ?aR (fun _ _ h => h) (fun _ h => h.elim) ?aF ?aB ?aS ?aL ?_; (case aR => exact zC ((Kd.C_below HR153_0.out HB.out))); (case aB => exact zB); (case aF => exact (fun _ _ => trivial)); (case aO => exact (zR HO_6.out)); (case aS => exact (below_size zB)); (case aL => have := LMc12.out; omega); intro v155 w13 ho hb hg hat; rw [← Ny154.out] at ho; replace HB := Aside0.mk (hb); have HO156 := Aside0.mk (ho); clear HO_6; clear ho hb hg hat))
       go_roundg k2
       case measure => have := HK1.out; have := HK2.out; omega
       case rel => exact ⟨(y154), (wrap64 (x27_2 + 1)), zE, H', ⟨by have := HK1.out; have := HK2.out; omega⟩, ⟨zR HO156.out⟩, ⟨zB⟩⟩
      ·rw [if_neg c9] at H
       have c9b0 := decide_eq_false c9
       clear c9
       obtain rfl := Option.some.inj H
       go_wp2
       go_ret
       exact ⟨_, by first | rfl | (simp [errW_none, errW_some] <;> rfl) | (simp [*, errW_none, errW_some] <;> rfl), zR HO_6.out, zB⟩
end Go.Proofs.YtgknjgionicncaaGreat.V
