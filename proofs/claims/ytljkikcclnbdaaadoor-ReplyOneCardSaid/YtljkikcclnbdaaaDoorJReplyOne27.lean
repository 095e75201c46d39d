/- Texts joined by wip/tools/merge.py: SpanA FitS MayS Wx0 Wx1 Wx2 PakR WirG NumW MayA PutW Ox0. -/
import Derived.Test.YtljkikcclnbdaaaDoorJReplyOne13
import Derived.Test.YtljkikcclnbdaaaDoorJReplyOne25
import Derived.Test.YtljkikcclnbdaaaDoorJReplyOne26
import Derived.Test.YtljkikcclnbdaaaDoorJReplyOne23
import Derived.Test.YtljkikcclnbdaaaDoorProg
import Derived.Below
import Derived.Deep.Draws
import Derived.Deep.AppendLies
import Derived.Maps.AppendAt
import Derived.OwnWalk
import Derived.Laws.BytesArg
import Derived.Laws.MakeOwn
import Derived.Laws.OwnMore
import Derived.Deep.OwnRows
import Derived.Tactics
import Derived.Lib.ConvBytes
import Derived.Laws.Slices
import Derived.WalkKit
import Derived.KernelRfl
import Derived.RowKit3
import Derived.Deep.LoopGhost
import Derived.Deep.QuietTactic
import Derived.BigQuiet
import Derived.WideLaws
import Derived.Deep.DeepCutAuto
import Derived.Deep.CutBlock
import Derived.Deep.RegionHeld3
import Derived.Laws.Rows
import Derived.Lib.AppendStr
import Derived.ArgAppend
import Derived.Laws.IdiomCopy
import Derived.OrdersHeld
import Derived.Laws.BitsLemmas
import Derived.RowKit
import Derived.Test.YtljkikcclnbdaaaDoorJReplyOne2
import Derived.Test.YtljkikcclnbdaaaDoorJReplyOne0
import Derived.Test.YtljkikcclnbdaaaDoorJReplyOne14
import Derived.Test.YtljkikcclnbdaaaDoorJReplyOne15
import Derived.Test.YtljkikcclnbdaaaDoorJReplyOne3
import Derived.Test.YtljkikcclnbdaaaDoorJReplyOne4
import Derived.Test.YtljkikcclnbdaaaDoorJReplyOne5
import Derived.Test.YtljkikcclnbdaaaDoorJReplyOne6
import Derived.Test.YtljkikcclnbdaaaDoorJReplyOne7
import Derived.Test.YtljkikcclnbdaaaDoorJReplyOne8
import Derived.Test.YtljkikcclnbdaaaDoorJReplyOne9
import Derived.Test.YtljkikcclnbdaaaDoorJReplyOne10
import Derived.Test.YtljkikcclnbdaaaDoorJReplyOne16
import Derived.Test.YtljkikcclnbdaaaDoorJReplyOne17
import Derived.Test.YtljkikcclnbdaaaDoorJReplyOne18
import Derived.Test.YtljkikcclnbdaaaDoorJReplyOne19
import Derived.Test.YtljkikcclnbdaaaDoorJReplyOne20
import Derived.Test.YtljkikcclnbdaaaDoorJReplyOne21
import Derived.Test.YtljkikcclnbdaaaDoorJReplyOne22
import Derived.Test.YtljkikcclnbdaaaDoorJReplyOne11
import Derived.Test.YtljkikcclnbdaaaDoorJReplyOne12
import Derived.Lib.SlBytesConst
/- What layer 1 comes to, as plain Lean: names, which spans may be. -/
namespace Go.Proofs.YtljkikcclnbdaaaDoor.L
open Go.RowKit Go.Proofs.YtljkikcclnbdaaaDoor.Q Go.Proofs.YtljkikcclnbdaaaDoorW.PrintWords Go.Proofs.YtljkikcclnbdaaaDoorW.PrintLast Go.Proofs.YtljkikcclnbdaaaDoorW.PrintMore Go.Proofs.YtljkikcclnbdaaaDoorW.Lib
set_option linter.unusedVariables false

def letterB (c : Int) : Bool := (decide (97 ≤ c) && decide (c ≤ 122)) || (decide (48 ≤ c) && decide (c ≤ 57)) || decide (c = 45) || decide (c = 46) || decide (c = 95)
theorem letter_f (c : Int) : span_letter.f c = some (letterB c) := by
  unfold span_letter.f letterB
  repeat' split
  all_goals (rw [Option.some.injEq, Bool.eq_iff_iff]; simp; omega)
def nameB (s : ByteArray) : Bool := decide (1 ≤ s.size) && decide (s.size ≤ 16) && (bytesOf s).all letterB

theorem name_l0 (s : ByteArray) (hs : s.size ≤ 140737488351232) : ∀ (d i : Nat), s.size - i = d → i ≤ s.size → Ev (fun k => span_Name.l0 k s (s.size : Int) (i : Int)) (((bytesOf s).drop i).all letterB)
  | 0, i, hd, hi => by
    refine Ev.step (f := fun _ => some true) (fun k => ?_) (Ev.cast (Ev.now true) ?_)
    · simp only [span_Name.l0]; rw [if_neg (by omega)]
    · rw [List.drop_of_length_le (by rw [bytesOf_size]; omega)]; rfl
  | d + 1, i, hd, hi => by
    have ih := name_l0 s hs d (i + 1) (by omega) (by omega)
    rw [bytesOf_drop s i (by omega), List.all_cons]
    refine Ev.step (f := fun k => if letterB (bt s i) = true then span_Name.l0 k s (s.size : Int) ((i + 1 : Nat) : Int) else some false) (fun k => ?_) ?_
    · simp only [span_Name.l0]
      rw [if_pos (by omega), if_pos (by omega), if_pos (by omega), letter_f]
      simp only [Option.bind_some]
      rw [wrap_id (by omega) (by omega)]; rfl
    · refine Ev.ite (fun h => ?_) (fun h => ?_)
      · rw [h, Bool.true_and]; exact ih
      · rw [Bool.not_eq_true] at h; rw [h, Bool.false_and]; exact Ev.now _

theorem name_ev (s : ByteArray) (hs : s.size ≤ 140737488351232) : Ev (fun k => span_Name.f k s) (nameB s) := by
  unfold span_Name.f nameB
  refine Ev.ite (fun h => ?_) (fun h => ?_)
  · refine Ev.step (f := fun _ => some false) (fun k => by simp [span_Name.j0]) (Ev.cast (Ev.now _) ?_)
    rw [decide_eq_false (by omega : ¬ 1 ≤ s.size)]; rfl
  · refine Ev.step (f := fun k => if decide ((s.size : Int) > 16) = true then some false else span_Name.l0 k s (s.size : Int) 0) (fun k => by simp only [span_Name.j0]) ?_
    refine Ev.ite (fun h2 => ?_) (fun h2 => ?_)
    · have h3 := of_decide_eq_true h2
      refine Ev.cast (Ev.now _) ?_
      rw [decide_eq_false (by omega : ¬ s.size ≤ 16)]; simp
    · have h3 : ¬ ((s.size : Int) > 16) := fun h4 => h2 (decide_eq_true h4)
      have := name_l0 s hs s.size 0 (by omega) (by omega)
      rw [decide_eq_true (by omega : 1 ≤ s.size), decide_eq_true (by omega : s.size ≤ 16)]
      simpa using this

end Go.Proofs.YtljkikcclnbdaaaDoor.L
namespace Go.Proofs.YtljkikcclnbdaaaDoor.L
open Go.RowKit Go.Proofs.YtljkikcclnbdaaaDoor.Q Go.Proofs.YtljkikcclnbdaaaDoorW.PrintWords Go.Proofs.YtljkikcclnbdaaaDoorW.PrintLast Go.Proofs.YtljkikcclnbdaaaDoorW.PrintMore Go.Proofs.YtljkikcclnbdaaaDoorW.Lib
set_option linter.unusedVariables false

def mayB (t i p k : Int) (h n : ByteArray) (s d : Int) : Bool :=
  !(decide (t = 0) || decide (i = 0) || decide (p = i) || decide (k > 2)) && (!(decide (s < 0) || decide (s ≥ 1125899906842624) || decide (d < 0) || decide (d > 1125899906842624)) && (nameB h && nameB n))

theorem may_j1 (b : Bool) (t i p k : Int) (h n : ByteArray) (s d : Int) (hh : h.size ≤ 140737488351232) (hn : n.size ≤ 140737488351232) :
    Ev (fun m => span_May.j1 m b t i p k h n s d) (!b && (nameB h && nameB n)) := by
  refine Ev.step (f := fun m => if b = true then some false else (span_Name.f m h).bind fun x => if x = true then (span_Name.f m n).bind fun y => some y else some false) (fun m => by simp only [span_May.j1]) ?_
  refine Ev.ite (fun e => ?_) (fun e => ?_)
  · exact Ev.cast (Ev.now _) (by rw [e]; rfl)
  · refine Ev.bind (name_ev h hh) (Ev.ite (fun e1 => ?_) (fun e1 => ?_))
    · refine Ev.cast (Ev.bind (name_ev n hn) (Ev.now _)) ?_
      rw [Bool.not_eq_true] at e; rw [e, e1]; rfl
    · exact Ev.cast (Ev.now _) (by rw [Bool.not_eq_true] at e1; rw [e1]; simp)

theorem may_j0 (b : Bool) (t i p k : Int) (h n : ByteArray) (s d : Int) (hh : h.size ≤ 140737488351232) (hn : n.size ≤ 140737488351232) :
    Ev (fun m => span_May.j0 m b t i p k h n s d) (!b && (!(decide (s < 0) || decide (s ≥ 1125899906842624) || decide (d < 0) || decide (d > 1125899906842624)) && (nameB h && nameB n))) := by
  refine Ev.step (f := fun m => if b = true then some false else if s < 0 then span_May.j1 m (decide (s < 0)) t i p k h n s d else if s ≥ 1125899906842624 then span_May.j1 m (decide (s ≥ 1125899906842624)) t i p k h n s d else if d < 0 then span_May.j1 m (decide (d < 0)) t i p k h n s d else span_May.j1 m (decide (d > 1125899906842624)) t i p k h n s d) (fun m => by simp only [span_May.j0]) ?_
  refine Ev.ite (fun e => Ev.cast (Ev.now _) (by rw [e]; rfl)) (fun e => ?_)
  rw [Bool.not_eq_true] at e
  rw [e]
  refine Ev.ite (fun e1 => Ev.cast (may_j1 _ t i p k h n s d hh hn) (by simp [e1])) (fun e1 => ?_)
  refine Ev.ite (fun e2 => Ev.cast (may_j1 _ t i p k h n s d hh hn) (by simp [e2])) (fun e2 => ?_)
  refine Ev.ite (fun e3 => Ev.cast (may_j1 _ t i p k h n s d hh hn) (by simp [e3])) (fun e3 => ?_)
  exact Ev.cast (may_j1 _ t i p k h n s d hh hn) (by simp [e1, e2, e3])

theorem may_ev (t i p k : Int) (h n : ByteArray) (s d : Int) (hh : h.size ≤ 140737488351232) (hn : n.size ≤ 140737488351232) :
    Ev (fun m => span_May.f m t i p k h n s d) (mayB t i p k h n s d) := by
  unfold span_May.f mayB
  refine Ev.ite (fun e1 => Ev.cast (may_j0 _ t i p k h n s d hh hn) (by simp [e1])) (fun e1 => ?_)
  refine Ev.ite (fun e2 => Ev.cast (may_j0 _ t i p k h n s d hh hn) (by simp [e2])) (fun e2 => ?_)
  refine Ev.ite (fun e3 => Ev.cast (may_j0 _ t i p k h n s d hh hn) (by simp [e3])) (fun e3 => ?_)
  exact Ev.cast (may_j0 _ t i p k h n s d hh hn) (by simp [e1, e2, e3])

end Go.Proofs.YtljkikcclnbdaaaDoor.L

/- What a span that is read has. -/
namespace Go.Proofs.YtljkikcclnbdaaaDoor.L
open Go.RowKit Go.Proofs.YtljkikcclnbdaaaDoor.Q Go.Proofs.YtljkikcclnbdaaaDoorW.PrintWords
set_option linter.unusedVariables false

/-- What a span that is read has. -/
def fitS (x : S56) : Prop := (Lit.int .u64 x.f1).wf = true ∧ x.f4.size ≤ 140737488351232 ∧ x.f5.size ≤ 140737488351232
instance : DecidablePred fitS := fun x => by unfold fitS; infer_instance
end Go.Proofs.YtljkikcclnbdaaaDoor.L

/- Which spans may be, as one function of a span; the document's too. -/
namespace Go.Proofs.YtljkikcclnbdaaaDoor.L
open Go.RowKit Go.Proofs.YtljkikcclnbdaaaDoor.Q Go.Proofs.YtljkikcclnbdaaaDoorW.PrintWords Go.Proofs.YtljkikcclnbdaaaDoorW.PrintLast Go.Proofs.YtljkikcclnbdaaaDoorW.PrintMore Go.Proofs.YtljkikcclnbdaaaDoorW.Lib
set_option linter.unusedVariables false
def mayS (s : S56) : Bool := mayB s.f0 s.f1 s.f2 s.f3 s.f4 s.f5 s.f6 s.f7
def fitR (x : S56) : Prop := fitS x ∧ 0 ≤ x.f3
instance : DecidablePred fitR := fun x => by unfold fitR; infer_instance
end Go.Proofs.YtljkikcclnbdaaaDoor.L

-- Written by wip/tools/gp.py, a program of this session round the kit's printer. Lean checks it.
namespace Go.Proofs.YtljkikcclnbdaaaDoor.W
open Go.RowKit Go.Proofs.YtljkikcclnbdaaaDoor.Q Go.Proofs.YtljkikcclnbdaaaDoor.P Go.Proofs.YtljkikcclnbdaaaDoorW.PrintWords Go.Proofs.YtljkikcclnbdaaaDoorW.PrintLast Go.Proofs.YtljkikcclnbdaaaDoorW.PrintMore
attribute [local go_sem] max2_int min2_int max_two min_two max_three min_three max_four min_four   -- for this text's walks alone
set_option linter.unusedVariables false
set_option linter.unusedSimpArgs false
-- the values' own types

end Go.Proofs.YtljkikcclnbdaaaDoor.W

-- Written by wip/tools/gp.py, a program of this session round the kit's printer. Lean checks it.
namespace Go.Proofs.YtljkikcclnbdaaaDoor.W
open Go.RowKit Go.Proofs.YtljkikcclnbdaaaDoor.Q Go.Proofs.YtljkikcclnbdaaaDoor.P Go.Proofs.YtljkikcclnbdaaaDoorW.PrintWords Go.Proofs.YtljkikcclnbdaaaDoorW.PrintLast Go.Proofs.YtljkikcclnbdaaaDoorW.PrintMore
attribute [local go_sem] max2_int min2_int max_two min_two max_three min_three max_four min_four   -- for this text's walks alone
set_option linter.unusedVariables false
set_option linter.unusedSimpArgs false

/-! ### pack_Put: function 19 (given) -/
def pack_Put.f (l0 : List Int) (a1 : Int) (a2 : Int) : Option (List Int) := if l0.length ≤ 140737488351000 ∧ (0 ≤ a1 ∧ a1 < 18446744073709551616) ∧ 0 ≤ a2 ∧ a2 ≤ 8 then some (l0 ++ L.leB a2.toNat a1) else none
theorem pack_Put.calls (A0 : Option Addr) (c0 : Nat) (l0 : List Int) (a1 : Int) (a2 : Int) (r : List Int) (w : World) (hr0 : Kd.C (Kd.int .u8) w A0 l0.length l0) (hc0 : l0.length ≤ c0) (h : pack_Put.f l0 a1 a2 = some r) :
    Calls Tryd.prog 19 #[.slice A0 l0.length c0, .int .u64 a1, .int .i64 a2] w fun e w' => ∃ v0_ : Value, e = .returned (v0_) ∧ Kd.R (Kd.int .u8) 5 w' w.heap.size (fun _ => True) v0_ r ∧ Below w.heap.size w w' := by
  unfold pack_Put.f at h
  split at h
  · rename_i hl
    obtain rfl := Option.some.inj h
    exact L.packput_calls l0 A0 c0 a1 a2 w hr0 hc0 hl.1 hl.2.1.1 hl.2.1.2 hl.2.2.1 hl.2.2.2
  · cases h

/-! ### wire_put: function 67 -/
def wire_put.l0 : Nat → List Int → List Int → Int → Int → Int → Int → Int → Int → ByteArray → ByteArray → Int → Int → Option (List Int)
  | 0, _, _, _, _, _, _, _, _, _, _, _, _ => none
  | k + 1, x0, x13, x14, x15, x102000, x102001, x102002, x102003, x102004, x102005, x102006, x102007 => if x15 < x14 then (if 0 ≤ x15 then (if x15 < (x13.length : Int) then ((pack_Put.f x0 (rd x13 x15) 8).bind fun t106 => (wire_put.l0 k t106 x13 x14 (wrap64 (x15 + 1)) x102000 x102001 x102002 x102003 x102004 x102005 x102006 x102007)) else (none)) else (none)) else ((pack_Put.f x0 (IntKind.u64.wrap (x102003)) 1).bind fun t109 => ((pack_Put.f t109 (IntKind.u64.wrap (x102006)) 8).bind fun t112 => ((pack_Put.f t112 (IntKind.u64.wrap (x102007)) 8).bind fun t115 => ((pack_PutText.f t115 x102004).bind fun t118 => ((pack_PutText.f t118 x102005).bind fun t121 => (some t121))))))
def wire_put.f (k : Nat) (l0 : List Int) (a1_0 : Int) (a1_1 : Int) (a1_2 : Int) (a1_3 : Int) (a1_4 : ByteArray) (a1_5 : ByteArray) (a1_6 : Int) (a1_7 : Int) : Option (List Int) := (some (([a1_0, a1_1, a1_2] : List Int) : List Int)).bind fun y102 => (wire_put.l0 k l0 y102 (y102.length : Int) 0 a1_0 a1_1 a1_2 a1_3 a1_4 a1_5 a1_6 a1_7)
theorem wire_put.mono_l : ∀ k, (∀ y0 y1 y2 y3 y4 y5 y6 y7 y8 y9 y10 y11, LeO (wire_put.l0 k y0 y1 y2 y3 y4 y5 y6 y7 y8 y9 y10 y11) (wire_put.l0 (k + 1) y0 y1 y2 y3 y4 y5 y6 y7 y8 y9 y10 y11))
  | 0 => fun _ _ _ _ _ _ _ _ _ _ _ _ r h => by simp [wire_put.l0] at h
  | k + 1 => by
    have ih0 := wire_put.mono_l k
    · intro y0 y1 y2 y3 y4 y5 y6 y7 y8 y9 y10 y11
      unfold wire_put.l0
      repeat' first
      | (with_reducible exact ih0 _ _ _ _ _ _ _ _ _ _ _ _)
      | (with_reducible exact LeO.refl _)
      | (with_reducible exact LeO.none _)
      | (with_reducible refine LeO.ite ?_ ?_)
      | (with_reducible refine LeO.bind ?_ (fun _ => ?_))
      | exact ih0 _ _ _ _ _ _ _ _ _ _ _ _
      | exact LeO.none _
      | refine LeO.ite ?_ ?_
      | refine LeO.bind ?_ (fun _ => ?_)
theorem wire_put.mono : ∀ a0 a1 a2 a3 a4 a5 a6 a7 a8 k, LeO (wire_put.f k a0 a1 a2 a3 a4 a5 a6 a7 a8) (wire_put.f (k + 1) a0 a1 a2 a3 a4 a5 a6 a7 a8) := by
  intro a0 a1 a2 a3 a4 a5 a6 a7 a8 k
  have ih0 := wire_put.mono_l k
  unfold wire_put.f
  repeat' first
      | (with_reducible exact ih0 _ _ _ _ _ _ _ _ _ _ _ _)
      | (with_reducible exact LeO.refl _)
      | (with_reducible exact LeO.none _)
      | (with_reducible refine LeO.ite ?_ ?_)
      | (with_reducible refine LeO.bind ?_ (fun _ => ?_))
      | exact ih0 _ _ _ _ _ _ _ _ _ _ _ _
      | exact LeO.none _
      | refine LeO.ite ?_ ?_
      | refine LeO.bind ?_ (fun _ => ?_)
def wire_put.T7 : Bool × List (List Nat × List Nat) := (true, [([], []), ([], []), ([1], [1]), ([2], [2]), ([0, 3], [0, 3]), ([], []), ([5], [5]), ([6], [6]), ([4, 7, 4], [4, 7]), ([8, 8, 0, 1, 2, 3, 4, 5, 6, 7, 8], [0, 8])])
def wire_put.B7 : List Nat := [0, 0, 2, 6, 15, 0, 32, 96, 255, 511]
theorem wire_put.tab7 : rtab .any (opsOf Tryd.f67 7) = wire_put.T7 := by kernel_rfl
theorem wire_put.bits7 : waitsOk wire_put.T7.2 wire_put.B7 = true := by kernel_rfl
def wire_put.T8 : Bool × List (List Nat × List Nat) := (true, [([], []), ([], []), ([1], [1]), ([0, 2], [0, 2]), ([], []), ([4], [4]), ([3, 5, 3], [3, 5]), ([6, 6, 0, 1, 2, 3, 4, 5, 6], [6])])
def wire_put.B8 : List Nat := [0, 0, 2, 7, 0, 16, 63, 127]
theorem wire_put.tab8 : rtab .any (opsOf Tryd.f67 8) = wire_put.T8 := by kernel_rfl
theorem wire_put.bits8 : waitsOk wire_put.T8.2 wire_put.B8 = true := by kernel_rfl
set_option maxHeartbeats 8000000 in
set_option maxRecDepth 100000 in
theorem wire_put.calls (k : Nat) (P0_ : Nat → Prop) (A0 : Option Addr) (c0 : Nat) (l0 : List Int) (a1_0 : Int) (a1_1 : Int) (a1_2 : Int) (a1_3 : Int) (a1_4 : ByteArray) (a1_5 : ByteArray) (a1_6 : Int) (a1_7 : Int) (r : List Int) (w : World) (hs0 : Kd.V (Kd.int .u8) 5 w w.heap.size (fun k_ => P0_ k_) (.slice A0 l0.length c0) l0) (h : wire_put.f k l0 a1_0 a1_1 a1_2 a1_3 a1_4 a1_5 a1_6 a1_7 = some r) :
    Calls Tryd.prog 67 #[.slice A0 l0.length c0, .agg #[.int .u64 a1_0, .int .u64 a1_1, .int .u64 a1_2, .int .u8 a1_3, .string a1_4, .string a1_5, .int .i64 a1_6, .int .i64 a1_7]] w fun e w' => ∃ v0_ : Value, e = .returned (v0_) ∧ Kd.R (Kd.int .u8) 5 w' w.heap.size (fun k_ => (w.heap.size ≤ k_)) v0_ r ∧ Below w.heap.size w w' := by
  have hu56 := Tryd.underlying56
  have HO0 := Aside0.mk (show Kd.V (Kd.int .u8) 5 w w.heap.size (fun k_ => (P0_ k_ ∨ w.heap.size ≤ k_)) (.slice A0 l0.length c0) l0 from Kd.V_mono hs0 (fun k_ hk => .inl hk))
  have HB := Aside0.mk (Below.refl w.heap.size w)
  have H : ((some (([a1_0, a1_1, a1_2] : List Int) : List Int)).bind fun y102 => (wire_put.l0 k l0 y102 (y102.length : Int) 0 a1_0 a1_1 a1_2 a1_3 a1_4 a1_5 a1_6 a1_7)) = some r := h
  clear h
  obtain ⟨y102, hy102⟩ : ∃ y_ : List Int, y_ = (([a1_0, a1_1, a1_2] : List Int)) := ⟨_, rfl⟩
  replace H : (wire_put.l0 k l0 y102 (y102.length : Int) 0 a1_0 a1_1 a1_2 a1_3 a1_4 a1_5 a1_6 a1_7) = some r := by first | (rw [hy102]; with_reducible exact H) | (have H2_ := (Option.bind_some _ _).symm.trans H; rw [hy102]; with_reducible exact H2_) | (have H2_ := (Option.bind_some _ _).symm.trans H; with_reducible exact H2_) | with_reducible exact H | (rw [hy102]; exact H) | exact H
  have Ny102 := Aside0.mk hy102
  clear hy102
  have H' := Aside0.mk H
  clear H
  go_enter Tryd.func67, Tryd.ntmps67
  go_wp2_with (first | ((with_reducible refine gate_dst (N := 3) rfl ?_); refine box_event ?hg (N := 3) ?hd (cs := #[.int .u64 a1_0, .int .u64 a1_1, .int .u64 a1_2, .int .u8 a1_3, .string a1_4, .string a1_5, .int .i64 a1_6, .int .i64 a1_7]) (t := 56) ?hr ?_; (case hd => rfl); (case hg => rfl); (case hr => first | (go_simp; done) | (go_simp; rfl)); intro gb101 hg w3 hbox hb; have n0_ := Aside0.mk (Kd.V_below (Kd.V_elderB (by (with_reducible repeat (first | apply Kd.V_alloc | apply Kd.V_drewN | apply Kd.V_drew)); exact HO0.out) gb101 (Nat.le_of_eq hg.symm)) hb); have n1_ := Aside0.mk (below_step (by repeat (first | (with_reducible first | exact HB.out | apply below_alloc | apply pw_below_drewN | apply below_drew1) | exact HB.out)) hb); have n2_ := Aside0.mk (hbox); have n3_ := Aside0.mk ((by rw [hg]; exact (below_size (by repeat (first | (with_reducible first | exact HB.out | apply below_alloc | apply pw_below_drewN | apply below_drew1) | exact HB.out))) : w.heap.size ≤ gb101)); have n4_ := Aside0.mk ((by rw [hg]; exact (below_size (by repeat (first | (with_reducible first | exact HB.out | apply below_alloc | apply pw_below_drewN | apply below_drew1) | exact HB.out))) : w.heap.size ≤ gb101)); clear HO0; clear HB; have HO0 := n0_; have HB := n1_; have BK101 := n2_; have GW101 := n3_; have GE101 := n4_; clear n0_ n1_ n2_ n3_ n4_; clear hb hbox hg; have hcz4_0 : w3.cell? ⟨gb101, 0, none⟩ = some (.int .u64 a1_0) := (blk_cell BK101.out 0).trans rfl; have hcz4_1 : w3.cell? ⟨gb101, 1, none⟩ = some (.int .u64 a1_1) := (blk_cell BK101.out 1).trans rfl; have hcz4_2 : w3.cell? ⟨gb101, 2, none⟩ = some (.int .u64 a1_2) := (blk_cell BK101.out 2).trans rfl; have hcz4_3 : w3.cell? ⟨gb101, 3, none⟩ = some (.int .u8 a1_3) := (blk_cell BK101.out 3).trans rfl; have hcz4_4 : w3.cell? ⟨gb101, 4, none⟩ = some (.string a1_4) := (blk_cell BK101.out 4).trans rfl; have hcz4_5 : w3.cell? ⟨gb101, 5, none⟩ = some (.string a1_5) := (blk_cell BK101.out 5).trans rfl; have hcz4_6 : w3.cell? ⟨gb101, 6, none⟩ = some (.int .i64 a1_6) := (blk_cell BK101.out 6).trans rfl; have hcz4_7 : w3.cell? ⟨gb101, 7, none⟩ = some (.int .i64 a1_7) := (blk_cell BK101.out 7).trans rfl; have hfz4_0 := blk_frozen BK101.out 0; have hfz4_1 := blk_frozen BK101.out 1; have hfz4_2 := blk_frozen BK101.out 2; have hfz4_3 := blk_frozen BK101.out 3; have hfz4_4 := blk_frozen BK101.out 4; have hfz4_5 := blk_frozen BK101.out 5; have hfz4_6 := blk_frozen BK101.out 6; have hfz4_7 := blk_frozen BK101.out 7) | ((with_reducible refine gate_dst (N := 13) rfl ?_); refine Kd.R_lit (Kd.int .u64) _ 54 ?hg (N := 13) ?hd (xs := ([a1_0, a1_1, a1_2] : List Int)) (inner := [.int .u64 a1_0, .int .u64 a1_1, .int .u64 a1_2]) (ok := fun _ => True) (okp := fun _ => True) ?hr ?hp (fun _ hk => hk) trivial (Below.refl _ _) (Nat.le_refl _) (by simp) ?_; (case hd => rfl); (case hg => rfl); (case hr => first | (go_simp; done) | (go_simp; rfl)); (case hp => exact (Reps.one (show Kd.M (Kd.int .u64) _ _ _ a1_0 [.int .u64 a1_0] from rfl) (Reps.one (show Kd.M (Kd.int .u64) _ _ _ a1_1 [.int .u64 a1_1] from rfl) (Reps.one (show Kd.M (Kd.int .u64) _ _ _ a1_2 [.int .u64 a1_2] from rfl) (Reps.none _ _))))); intro v103 w5 ho6 hb hg_ hnew_; clear hg_ hnew_; (first | rw [← Ny102.out] at ho6 | (simp only [Int.reduceToNat] at ho6; rw [← Ny102.out] at ho6)); have n0_ := Aside0.mk (Kd.V_elder' (by (with_reducible repeat (first | apply Kd.V_alloc | apply Kd.V_drewN | apply Kd.V_drew)); exact HO0.out) (Kd.R_base ho6) hb); have n1_ := Aside0.mk (Kd.R_lower (Kd.R_newM (M := fun k_ => (w.heap.size ≤ k_)) ho6 (below_size (by repeat (first | (with_reducible first | exact HB.out | apply below_alloc | apply pw_below_drewN | apply below_drew1 | refine below_set ?_ GE101.out) | exact HB.out))) (fun k_ h_ => h_)) (below_size (by repeat (first | (with_reducible first | exact HB.out | apply below_alloc | apply pw_below_drewN | apply below_drew1 | refine below_set ?_ GE101.out) | exact HB.out)))); have n2_ := Aside0.mk (blk_below (g := gb101) (o := .cells #[.int .u64 a1_0, .int .u64 a1_1, .int .u64 a1_2, .int .u8 a1_3, .string a1_4, .string a1_5, .int .i64 a1_6, .int .i64 a1_7] 56 (0, 0)) (by (with_reducible repeat (first | refine blk_drewN ?_ _ | refine blk_drew ?_ | refine blk_alloc ?_ _)); exact BK101.out) hb); have n3_ := Aside0.mk (below_step (by repeat (first | (with_reducible first | exact HB.out | apply below_alloc | apply pw_below_drewN | apply below_drew1 | refine below_set ?_ GE101.out) | exact HB.out)) hb); clear HO0; clear BK101; clear HB; have HO0 := n0_; have HO104 := n1_; have BK101 := n2_; have HB := n3_; clear n0_ n1_ n2_ n3_; clear hb ho6; obtain ⟨Ao7, co7, eo7⟩ := Kd.R_slice HO104.out; subst eo7))
  go_loopg [0, 15] k (fun kq v0 v15 w' => ∃ (x0_1 : List Int) (x15_1 : Int), v15 = .int .i64 x15_1 ∧ Aside0 (wire_put.l0 kq x0_1 y102 (y102.length : Int) x15_1 a1_0 a1_1 a1_2 a1_3 a1_4 a1_5 a1_6 a1_7 = some r) ∧ Aside0 (kq ≤ k) ∧ Aside0 (Kd.V (Kd.int .u8) 5 w' w.heap.size (fun k_ => (P0_ k_ ∨ w.heap.size ≤ k_) ∧ some k_ ≠ ((.slice Ao7 y102.length co7) : Value).ownBlock ∧ k_ ≠ gb101) v0 x0_1) ∧ Aside0 (Kd.R (Kd.int .u64) 54 w' w.heap.size (fun k_ => (w.heap.size ≤ k_)) (.slice Ao7 y102.length co7) y102) ∧ Aside0 (w'.heap[gb101]? = some (.cells #[.int .u64 a1_0, .int .u64 a1_1, .int .u64 a1_2, .int .u8 a1_3, .string a1_4, .string a1_5, .int .i64 a1_6, .int .i64 a1_7] 56 (0, 0))) ∧ Aside0 (Below w.heap.size w w'))
  case atStart => exact ⟨(l0), (0), (by first | rfl | (simp; done) | (simp [*]; done)), H', ⟨Nat.le_refl _⟩, ⟨by (with_reducible repeat (first | apply Kd.V_alloc | apply Kd.V_drewN | apply Kd.V_drew)); exact Kd.V_mono HO0.out (fun _ hk => ⟨hk.1.1, ⟨hk.2, hk.1.2⟩⟩)⟩, ⟨by (with_reducible repeat (first | apply Kd.R_alloc | apply Kd.R_drewN | apply Kd.R_drew)); exact Kd.R_mono HO104.out (fun _ hk => hk.1)⟩, ⟨by (with_reducible repeat (first | refine blk_drewN ?_ _ | refine blk_drew ?_ | refine blk_alloc ?_ _)); exact BK101.out⟩, ⟨by repeat (first | (with_reducible first | exact HB.out | apply below_alloc | apply pw_below_drewN | apply below_drew1 | refine below_set ?_ GE101.out) | exact HB.out)⟩⟩
  case round =>
    clear H'
    (try clear p2); (try clear c6); (try clear hcz4_0); (try clear hcz4_1); (try clear hcz4_2); (try clear hcz4_3); (try clear hcz4_4); (try clear hcz4_5); (try clear hcz4_6); (try clear hcz4_7); (try clear hfz4_0); (try clear hfz4_1); (try clear hfz4_2); (try clear hfz4_3); (try clear hfz4_4); (try clear hfz4_5); (try clear hfz4_6); (try clear hfz4_7)
    obtain ⟨x0_1, x15_1, rfl, HA, HK1, HO_0, HO_13, BK101, HB⟩ := hrel
    cases gk with
    | zero => exact absurd HA.out (by simp [wire_put.l0])
    | succ k1 =>
      have H := HA.out
      clear HA
      simp only [wire_put.l0] at H
      by_cases c8 : x15_1 < (y102.length : Int)
      · rw [if_pos c8] at H
        have c8b0 : decide (x15_1 < (y102.length : Int)) = true := decide_eq_true c8
        clear c8
        by_cases c9 : 0 ≤ x15_1
        · rw [if_pos c9] at H
          have c9b0 : decide (0 ≤ x15_1) = true := decide_eq_true c9
          clear c9
          by_cases c10 : x15_1 < (y102.length : Int)
          · rw [if_pos c10] at H
            have c10b0 : decide (x15_1 < (y102.length : Int)) = true := decide_eq_true c10
            clear c10
            replace H := Option.bind_eq_some_iff.mp H
            obtain ⟨t106, A110, H⟩ := H
            replace H : (wire_put.l0 k1 t106 y102 (y102.length : Int) (wrap64 (x15_1 + 1)) a1_0 a1_1 a1_2 a1_3 a1_4 a1_5 a1_6 a1_7) = some r := H
            have A11 := Aside0.mk A110
            clear A110
            have H' := Aside0.mk H
            clear H
            have p105 : 0 ≤ (x15_1 : Int) := of_decide_eq_true (by first | (with_reducible assumption) | assumption)
            have q105 : x15_1 < (y102.length : Int) := of_decide_eq_true (by first | (with_reducible assumption) | assumption)
            obtain ⟨ad105, e105, hx105_0⟩ := Kd.at_int (Kd.R_reads' HO_13.out).2.2 x15_1 p105 q105
            cases e105
            replace p105 := eq_true p105
            replace q105 := eq_true q105
            obtain ⟨Ao12, co12, eo12⟩ := Kd.V_slice HO_0.out
            subst eo12
            go_wp2_with (first | ((with_reducible refine gate_callee (f := 19) rfl ?_); refine goesL_ (some 21) rfl rfl Tryd.func19 (by kernel_rfl) rfl #[.slice Ao12 x0_1.length co12, .int .u64 (rd y102 x15_1), .int .i64 8] rfl (by (try simp only [List.map_toArray, List.map_cons, List.map_nil]); first | done | rfl | (simp only [List.length_drop, List.length_take]; rfl)) ?_; (with_reducible refine (pack_Put.calls _ _ x0_1 (rd y102 x15_1) 8 t106 _ ?side1 ?side2 A11.out).mono ?_); (case side1 => repeat (first | exact (Kd.V_reads' HO_0.out).2.2 | (with_reducible refine Kd.C_alloc ?_ _) | (with_reducible refine Kd.C_drewN ?_ _) | (with_reducible refine Kd.C_drew ?_))); (case side2 => exact (Kd.V_reads' HO_0.out).2.1); rintro e w13 ⟨v107, rfl, ho0, hb⟩; refine ⟨_, rfl, ?_⟩; have n0_ := Aside0.mk (Kd.V_elder' (by (with_reducible repeat (first | apply Kd.V_alloc | apply Kd.V_drewN | apply Kd.V_drew)); exact HO_0.out) (Kd.R_base ho0) hb); have n1_ := Aside0.mk (Kd.R_below (by (with_reducible repeat (first | apply Kd.R_alloc | apply Kd.R_drewN | apply Kd.R_drew)); exact HO_13.out) hb); have n2_ := Aside0.mk (Kd.R_lower (Kd.R_newM (M := fun k_ => (w.heap.size ≤ k_)) ho0 (below_size (by repeat (first | (with_reducible first | exact HB.out | apply below_alloc | apply pw_below_drewN | apply below_drew1 | refine below_set ?_ GE101.out) | exact HB.out))) (fun k_ h_ => h_)) (below_size (by repeat (first | (with_reducible first | exact HB.out | apply below_alloc | apply pw_below_drewN | apply below_drew1 | refine below_set ?_ GE101.out) | exact HB.out)))); have n3_ := Aside0.mk (blk_below (g := gb101) (o := .cells #[.int .u64 a1_0, .int .u64 a1_1, .int .u64 a1_2, .int .u8 a1_3, .string a1_4, .string a1_5, .int .i64 a1_6, .int .i64 a1_7] 56 (0, 0)) (by (with_reducible repeat (first | refine blk_drewN ?_ _ | refine blk_drew ?_ | refine blk_alloc ?_ _)); exact BK101.out) hb); have n4_ := Aside0.mk (below_step (by repeat (first | (with_reducible first | exact HB.out | apply below_alloc | apply pw_below_drewN | apply below_drew1 | refine below_set ?_ GE101.out) | exact HB.out)) hb); clear HO_0; clear HO_13; clear BK101; clear HB; have HO_0 := n0_; have HO_13 := n1_; have HO108 := n2_; have BK101 := n3_; have HB := n4_; clear n0_ n1_ n2_ n3_ n4_; (try clear hb); (try clear hb2); (try clear hk); (try clear hi); (try clear ho0)))
            go_roundg k1
            case measure => have := HK1.out; omega
            case rel => exact ⟨(t106), (wrap64 (x15_1 + 1)), (by first | rfl | (simp; done) | (simp [*]; done)), H', ⟨by have := HK1.out; omega⟩, ⟨Kd.V_mono (Kd.R_V (Kd.R_types (Kd.R_apart' HO108.out (Kd.R_typed HO_13.out) (by decide)) BK101.out (by decide))) (fun k_ hk => ⟨Or.inr hk.1.1.1, hk.1.2, hk.2⟩)⟩, ⟨by (with_reducible repeat (first | apply Kd.R_alloc | apply Kd.R_drewN | apply Kd.R_drew)); exact HO_13.out⟩, ⟨by (with_reducible repeat (first | refine blk_drewN ?_ _ | refine blk_drew ?_ | refine blk_alloc ?_ _)); exact BK101.out⟩, ⟨by repeat (first | (with_reducible first | exact HB.out | apply below_alloc | apply pw_below_drewN | apply below_drew1 | refine below_set ?_ GE101.out) | exact HB.out)⟩⟩
          · rw [if_neg c10] at H
            exact absurd H (by simp)
        · rw [if_neg c9] at H
          exact absurd H (by simp)
      · rw [if_neg c8] at H
        have c8b0 : decide (x15_1 < (y102.length : Int)) = false := decide_eq_false c8
        clear c8
        replace H := Option.bind_eq_some_iff.mp H
        obtain ⟨t109, A140, H⟩ := H
        replace H : ((pack_Put.f t109 (IntKind.u64.wrap (a1_6)) 8).bind fun t112 => ((pack_Put.f t112 (IntKind.u64.wrap (a1_7)) 8).bind fun t115 => ((pack_PutText.f t115 a1_4).bind fun t118 => ((pack_PutText.f t118 a1_5).bind fun t121 => (some t121))))) = some r := H
        have A14 := Aside0.mk A140
        clear A140
        replace H := Option.bind_eq_some_iff.mp H
        obtain ⟨t112, A150, H⟩ := H
        replace H : ((pack_Put.f t112 (IntKind.u64.wrap (a1_7)) 8).bind fun t115 => ((pack_PutText.f t115 a1_4).bind fun t118 => ((pack_PutText.f t118 a1_5).bind fun t121 => (some t121)))) = some r := H
        have A15 := Aside0.mk A150
        clear A150
        replace H := Option.bind_eq_some_iff.mp H
        obtain ⟨t115, A160, H⟩ := H
        replace H : ((pack_PutText.f t115 a1_4).bind fun t118 => ((pack_PutText.f t118 a1_5).bind fun t121 => (some t121))) = some r := H
        have A16 := Aside0.mk A160
        clear A160
        replace H := Option.bind_eq_some_iff.mp H
        obtain ⟨t118, A170, H⟩ := H
        replace H : ((pack_PutText.f t118 a1_5).bind fun t121 => (some t121)) = some r := H
        have A17 := Aside0.mk A170
        clear A170
        replace H := Option.bind_eq_some_iff.mp H
        obtain ⟨t121, A180, H⟩ := H
        replace H : (some t121) = some r := H
        have A18 := Aside0.mk A180
        clear A180
        obtain rfl := Option.some.inj H
        have hcz19_0 : wr.cell? ⟨gb101, 0, none⟩ = some (.int .u64 a1_0) := (blk_cell BK101.out 0).trans rfl
        have hcz19_1 : wr.cell? ⟨gb101, 1, none⟩ = some (.int .u64 a1_1) := (blk_cell BK101.out 1).trans rfl
        have hcz19_2 : wr.cell? ⟨gb101, 2, none⟩ = some (.int .u64 a1_2) := (blk_cell BK101.out 2).trans rfl
        have hcz19_3 : wr.cell? ⟨gb101, 3, none⟩ = some (.int .u8 a1_3) := (blk_cell BK101.out 3).trans rfl
        have hcz19_4 : wr.cell? ⟨gb101, 4, none⟩ = some (.string a1_4) := (blk_cell BK101.out 4).trans rfl
        have hcz19_5 : wr.cell? ⟨gb101, 5, none⟩ = some (.string a1_5) := (blk_cell BK101.out 5).trans rfl
        have hcz19_6 : wr.cell? ⟨gb101, 6, none⟩ = some (.int .i64 a1_6) := (blk_cell BK101.out 6).trans rfl
        have hcz19_7 : wr.cell? ⟨gb101, 7, none⟩ = some (.int .i64 a1_7) := (blk_cell BK101.out 7).trans rfl
        have hfz19_0 := blk_frozen BK101.out 0
        have hfz19_1 := blk_frozen BK101.out 1
        have hfz19_2 := blk_frozen BK101.out 2
        have hfz19_3 := blk_frozen BK101.out 3
        have hfz19_4 := blk_frozen BK101.out 4
        have hfz19_5 := blk_frozen BK101.out 5
        have hfz19_6 := blk_frozen BK101.out 6
        have hfz19_7 := blk_frozen BK101.out 7
        obtain ⟨Ao20, co20, eo20⟩ := Kd.V_slice HO_0.out
        subst eo20
        try go_wp2_with (first | ((with_reducible refine gate_callee (f := 19) rfl ?_); refine goesL_ (some 27) rfl rfl Tryd.func19 (by kernel_rfl) rfl #[.slice Ao20 x0_1.length co20, .int .u64 (IntKind.u64.wrap (a1_3)), .int .i64 1] rfl (by (try simp only [List.map_toArray, List.map_cons, List.map_nil]); first | done | rfl | (simp only [List.length_drop, List.length_take]; rfl)) ?_; (with_reducible refine (pack_Put.calls _ _ x0_1 (IntKind.u64.wrap (a1_3)) 1 t109 _ ?side1 ?side2 A14.out).mono ?_); (case side1 => repeat (first | exact (Kd.V_reads' HO_0.out).2.2 | (with_reducible refine Kd.C_alloc ?_ _) | (with_reducible refine Kd.C_drewN ?_ _) | (with_reducible refine Kd.C_drew ?_))); (case side2 => exact (Kd.V_reads' HO_0.out).2.1); rintro e w21 ⟨v110, rfl, ho0, hb⟩; refine ⟨_, rfl, ?_⟩; have n0_ := Aside0.mk (Kd.V_elder' (by (with_reducible repeat (first | apply Kd.V_alloc | apply Kd.V_drewN | apply Kd.V_drew)); exact HO_0.out) (Kd.R_base ho0) hb); have n1_ := Aside0.mk (Kd.R_below (by (with_reducible repeat (first | apply Kd.R_alloc | apply Kd.R_drewN | apply Kd.R_drew)); exact HO_13.out) hb); have n2_ := Aside0.mk (Kd.R_lower (Kd.R_newM (M := fun k_ => (w.heap.size ≤ k_)) ho0 (below_size (by repeat (first | (with_reducible first | exact HB.out | apply below_alloc | apply pw_below_drewN | apply below_drew1 | refine below_set ?_ GE101.out) | exact HB.out))) (fun k_ h_ => h_)) (below_size (by repeat (first | (with_reducible first | exact HB.out | apply below_alloc | apply pw_below_drewN | apply below_drew1 | refine below_set ?_ GE101.out) | exact HB.out)))); have n3_ := Aside0.mk (blk_below (g := gb101) (o := .cells #[.int .u64 a1_0, .int .u64 a1_1, .int .u64 a1_2, .int .u8 a1_3, .string a1_4, .string a1_5, .int .i64 a1_6, .int .i64 a1_7] 56 (0, 0)) (by (with_reducible repeat (first | refine blk_drewN ?_ _ | refine blk_drew ?_ | refine blk_alloc ?_ _)); exact BK101.out) hb); have n4_ := Aside0.mk (below_step (by repeat (first | (with_reducible first | exact HB.out | apply below_alloc | apply pw_below_drewN | apply below_drew1 | refine below_set ?_ GE101.out) | exact HB.out)) hb); clear HO_0; clear HO_13; clear BK101; clear HB; have HO_0 := n0_; have HO_13 := n1_; have HO111 := n2_; have BK101 := n3_; have HB := n4_; clear n0_ n1_ n2_ n3_ n4_; (try clear hb); (try clear hb2); (try clear hk); (try clear hi); (try clear ho0)))
        have n0_ := Aside0.mk (Kd.V_drew HO_0.out)
        have n1_ := Aside0.mk (Kd.R_drew HO_13.out)
        have n2_ := Aside0.mk (Kd.R_drew HO111.out)
        have n3_ := Aside0.mk (blk_drew BK101.out)
        have n4_ := Aside0.mk (below_drew1 HB.out)
        clear HO_0
        clear HO_13
        clear HO111
        clear BK101
        clear HB
        have HO_0 := n0_
        have HO_13 := n1_
        have HO111 := n2_
        have BK101 := n3_
        have HB := n4_
        clear n0_ n1_ n2_ n3_ n4_
        obtain ⟨Ao23, co23, eo23⟩ := Kd.R_slice HO111.out
        (first | subst eo23 | (injection eo23 with f1_ f2_ f3_; have f4_ := f1_.symm; have f5_ := f3_.symm; clear f1_ f2_ f3_; subst f4_; subst f5_))
        refine start_ (n := 10) (S := fun w' => w'.cell? ⟨gb101, 0, none⟩ = some (.int .u64 a1_0) ∧ w'.cell? ⟨gb101, 1, none⟩ = some (.int .u64 a1_1) ∧ w'.cell? ⟨gb101, 2, none⟩ = some (.int .u64 a1_2) ∧ w'.cell? ⟨gb101, 3, none⟩ = some (.int .u8 a1_3) ∧ w'.cell? ⟨gb101, 4, none⟩ = some (.string a1_4) ∧ w'.cell? ⟨gb101, 5, none⟩ = some (.string a1_5) ∧ w'.cell? ⟨gb101, 6, none⟩ = some (.int .i64 a1_6) ∧ w'.cell? ⟨gb101, 7, none⟩ = some (.int .i64 a1_7)) (ds := []) #[false, false, false, false, false, false, false, false, false, false] (by kernel_rfl) rfl rfl ⟨(blk_cell BK101.out 0).trans rfl, (blk_cell BK101.out 1).trans rfl, (blk_cell BK101.out 2).trans rfl, (blk_cell BK101.out 3).trans rfl, (blk_cell BK101.out 4).trans rfl, (blk_cell BK101.out 5).trans rfl, (blk_cell BK101.out 6).trans rfl, (blk_cell BK101.out 7).trans rfl⟩ (fun hHeld => ?_); refine with_tabW wire_put.tab7 wire_put.bits7 (fun HT_ HW_ => ?_)
        generalize w21.drew = w22 at HO_0 HO_13 HO111 BK101 HB hHeld ⊢
        refine pure_ (i := 0) (N := some 28) (v := ?_) (a' := ?_) #[true, false, false, false, false, false, false, false, false, false] rfl rfl (any_of HT_.out (by kernel_rfl)) (fun _ _ _ h => h) (Or.inl ⟨by rfl, ?_⟩) ?_ ?_
        rotate_left
        · intro w'
          go_simp
          with_reducible rfl
        rotate_left
        · simp only [Act.put, List.setIfInBounds_toArray, List.set_cons_zero, List.set_cons_succ, i64_w, i32_w]
          rfl
        refine pure_ (i := 1) (N := some 29) (v := ?_) (a' := ?_) #[true, true, false, false, false, false, false, false, false, false] rfl rfl (any_of HT_.out (by kernel_rfl)) (fun _ _ _ h => h) (Or.inl ⟨by rfl, ?_⟩) ?_ ?_
        rotate_left
        · intro w'
          go_simp
          with_reducible rfl
        rotate_left
        · simp only [Act.put, List.setIfInBounds_toArray, List.set_cons_zero, List.set_cons_succ, i64_w, i32_w]
          rfl
        refine pure_ (i := 5) (N := some 33) (v := ?_) (a' := ?_) #[true, true, false, false, false, true, false, false, false, false] rfl rfl (any_of HT_.out (by kernel_rfl)) (fun _ _ _ h => h) (Or.inl ⟨by rfl, ?_⟩) ?_ ?_
        rotate_left
        · intro w'
          go_simp
          with_reducible rfl
        rotate_left
        · simp only [Act.put, List.setIfInBounds_toArray, List.set_cons_zero, List.set_cons_succ, i64_w, i32_w]
          rfl
        refine take_ (i := 2) (N := some 30) (v := ?_) (a' := ?_) #[true, true, true, false, false, true, false, false, false, false] rfl rfl (take_ofW HT_.out HW_.out (by kernel_rfl)) (fun _ _ _ h => h) (Or.inl ⟨by rfl, ?_⟩) hHeld ?_ ?_
        rotate_left
        · rintro w' ⟨s0, s1, s2, s3, s4, s5, s6, s7⟩
          go_simp
          with_reducible rfl
        rotate_left
        · simp only [Act.put, List.setIfInBounds_toArray, List.set_cons_zero, List.set_cons_succ, i64_w, i32_w]
          rfl
        refine pure_ (i := 3) (N := some 31) (v := ?_) (a' := ?_) #[true, true, true, true, false, true, false, false, false, false] rfl rfl (any_of HT_.out (by kernel_rfl)) (fun _ _ _ h => h) (Or.inl ⟨by rfl, ?_⟩) ?_ ?_
        rotate_left
        · intro w'
          go_simp
          with_reducible rfl
        rotate_left
        · simp only [Act.put, List.setIfInBounds_toArray, List.set_cons_zero, List.set_cons_succ, i64_w, i32_w]
          rfl
        refine take_ (i := 6) (N := some 34) (v := ?_) (a' := ?_) #[true, true, true, true, false, true, true, false, false, false] rfl rfl (take_ofW HT_.out HW_.out (by kernel_rfl)) (fun _ _ _ h => h) (Or.inl ⟨by rfl, ?_⟩) hHeld ?_ ?_
        rotate_left
        · rintro w' ⟨s0, s1, s2, s3, s4, s5, s6, s7⟩
          go_simp
          with_reducible rfl
        rotate_left
        · simp only [Act.put, List.setIfInBounds_toArray, List.set_cons_zero, List.set_cons_succ, i64_w, i32_w]
          rfl
        refine pure_ (i := 7) (N := some 35) (v := ?_) (a' := ?_) #[true, true, true, true, false, true, true, true, false, false] rfl rfl (any_of HT_.out (by kernel_rfl)) (fun _ _ _ h => h) (Or.inl ⟨by rfl, ?_⟩) ?_ ?_
        rotate_left
        · intro w'
          go_simp
          with_reducible rfl
        rotate_left
        · simp only [Act.put, List.setIfInBounds_toArray, List.set_cons_zero, List.set_cons_succ, i64_w, i32_w]
          rfl
        refine one_ (i := 4) (N := some 32) #[true, true, true, true, true, true, true, true, false, false] rfl rfl (one_of HT_.out (by kernel_rfl)) (by decide) (fun K hK => ?_)
        refine goes_ Tryd.func19 (by kernel_rfl) rfl #[.slice Ao23 t109.length co23, .int .u64 (IntKind.u64.wrap (a1_6)), .int .i64 8] (by rfl) rfl rfl (by (try simp only [List.map_toArray, List.map_cons, List.map_nil]); first | done | rfl | (simp only [List.length_drop, List.length_take]; rfl)) ?_
        with_reducible refine (pack_Put.calls _ _ t109 (IntKind.u64.wrap (a1_6)) 8 t112 _ ?side1 ?side2 A15.out).mono ?_
        (case side1 => repeat (first | exact (Kd.R_reads' HO111.out).2.2 | (with_reducible refine Kd.C_alloc ?_ _) | (with_reducible refine Kd.C_drewN ?_ _) | (with_reducible refine Kd.C_drew ?_)))
        (case side2 => exact (Kd.R_reads' HO111.out).2.1)
        rintro e w24 ⟨v113, rfl, ho0, hb⟩
        refine ⟨_, rfl, ?_⟩
        have n0_ := Aside0.mk (Kd.V_elder' (by (with_reducible repeat (first | apply Kd.V_alloc | apply Kd.V_drewN | apply Kd.V_drew)); exact HO_0.out) (Kd.R_base ho0) hb)
        have n1_ := Aside0.mk (Kd.R_below (by (with_reducible repeat (first | apply Kd.R_alloc | apply Kd.R_drewN | apply Kd.R_drew)); exact HO_13.out) hb)
        have n2_ := Aside0.mk (Kd.R_elder' (by (with_reducible repeat (first | apply Kd.R_alloc | apply Kd.R_drewN | apply Kd.R_drew)); exact HO111.out) (Kd.R_base ho0) hb)
        have n3_ := Aside0.mk (Kd.R_lower (Kd.R_new' (Kd.R_newM (M := fun k_ => (w.heap.size ≤ k_)) ho0 (below_size (by repeat (first | (with_reducible first | exact HB.out | apply below_alloc | apply pw_below_drewN | apply below_drew1 | refine below_set ?_ GE101.out) | exact HB.out))) (fun k_ h_ => h_)) (Kd.R_lt (by (with_reducible repeat (first | apply Kd.R_alloc | apply Kd.R_drewN | apply Kd.R_drew)); exact HO111.out))) (below_size (by repeat (first | (with_reducible first | exact HB.out | apply below_alloc | apply pw_below_drewN | apply below_drew1 | refine below_set ?_ GE101.out) | exact HB.out))))
        have n4_ := Aside0.mk (blk_below (g := gb101) (o := .cells #[.int .u64 a1_0, .int .u64 a1_1, .int .u64 a1_2, .int .u8 a1_3, .string a1_4, .string a1_5, .int .i64 a1_6, .int .i64 a1_7] 56 (0, 0)) (by (with_reducible repeat (first | refine blk_drewN ?_ _ | refine blk_drew ?_ | refine blk_alloc ?_ _)); exact BK101.out) hb)
        have n5_ := Aside0.mk (below_step (by repeat (first | (with_reducible first | exact HB.out | apply below_alloc | apply pw_below_drewN | apply below_drew1 | refine below_set ?_ GE101.out) | exact HB.out)) hb)
        clear HO_0
        clear HO_13
        clear HO111
        clear BK101
        clear HB
        have HO_0 := n0_
        have HO_13 := n1_
        have HO111 := n2_
        have HO114 := n3_
        have BK101 := n4_
        have HB := n5_
        clear n0_ n1_ n2_ n3_ n4_ n5_
        (try clear hb)
        (try clear hb2)
        (try clear hk)
        (try clear hi)
        (try clear ho0)
        obtain ⟨Ao25, co25, eo25⟩ := Kd.R_slice HO114.out
        (first | subst eo25 | (injection eo25 with f1_ f2_ f3_; have f4_ := f1_.symm; have f5_ := f3_.symm; clear f1_ f2_ f3_; subst f4_; subst f5_))
        refine hK.out _ _ ⟨(blk_cell BK101.out 0).trans rfl, (blk_cell BK101.out 1).trans rfl, (blk_cell BK101.out 2).trans rfl, (blk_cell BK101.out 3).trans rfl, (blk_cell BK101.out 4).trans rfl, (blk_cell BK101.out 5).trans rfl, (blk_cell BK101.out 6).trans rfl, (blk_cell BK101.out 7).trans rfl⟩ (fun hHeld => ?_)
        clear hK K
        refine norm_ (a' := ?_) ?_ ?_
        rotate_left
        · show Act.put _ (some 32) _ = _
          simp only [Act.put, List.setIfInBounds_toArray, List.set_cons_zero, List.set_cons_succ, i64_w, i32_w]
          rfl
        refine one_ (i := 8) (N := some 36) #[true, true, true, true, true, true, true, true, true, false] rfl rfl (one_of HT_.out (by kernel_rfl)) (by decide) (fun K hK => ?_)
        refine goes_ Tryd.func19 (by kernel_rfl) rfl #[.slice Ao25 t112.length co25, .int .u64 (IntKind.u64.wrap (a1_7)), .int .i64 8] (by rfl) rfl rfl (by (try simp only [List.map_toArray, List.map_cons, List.map_nil]); first | done | rfl | (simp only [List.length_drop, List.length_take]; rfl)) ?_
        with_reducible refine (pack_Put.calls _ _ t112 (IntKind.u64.wrap (a1_7)) 8 t115 _ ?side1 ?side2 A16.out).mono ?_
        (case side1 => repeat (first | exact (Kd.R_reads' HO114.out).2.2 | (with_reducible refine Kd.C_alloc ?_ _) | (with_reducible refine Kd.C_drewN ?_ _) | (with_reducible refine Kd.C_drew ?_)))
        (case side2 => exact (Kd.R_reads' HO114.out).2.1)
        rintro e w26 ⟨v116, rfl, ho0, hb⟩
        refine ⟨_, rfl, ?_⟩
        have n0_ := Aside0.mk (Kd.V_elder' (by (with_reducible repeat (first | apply Kd.V_alloc | apply Kd.V_drewN | apply Kd.V_drew)); exact HO_0.out) (Kd.R_base ho0) hb)
        have n1_ := Aside0.mk (Kd.R_below (by (with_reducible repeat (first | apply Kd.R_alloc | apply Kd.R_drewN | apply Kd.R_drew)); exact HO_13.out) hb)
        have n2_ := Aside0.mk (Kd.R_elder' (by (with_reducible repeat (first | apply Kd.R_alloc | apply Kd.R_drewN | apply Kd.R_drew)); exact HO111.out) (Kd.R_base ho0) hb)
        have n3_ := Aside0.mk (Kd.R_elder' (by (with_reducible repeat (first | apply Kd.R_alloc | apply Kd.R_drewN | apply Kd.R_drew)); exact HO114.out) (Kd.R_base ho0) hb)
        have n4_ := Aside0.mk (Kd.R_lower (Kd.R_new' (Kd.R_new' (Kd.R_newM (M := fun k_ => (w.heap.size ≤ k_)) ho0 (below_size (by repeat (first | (with_reducible first | exact HB.out | apply below_alloc | apply pw_below_drewN | apply below_drew1 | refine below_set ?_ GE101.out) | exact HB.out))) (fun k_ h_ => h_)) (Kd.R_lt (by (with_reducible repeat (first | apply Kd.R_alloc | apply Kd.R_drewN | apply Kd.R_drew)); exact HO111.out))) (Kd.R_lt (by (with_reducible repeat (first | apply Kd.R_alloc | apply Kd.R_drewN | apply Kd.R_drew)); exact HO114.out))) (below_size (by repeat (first | (with_reducible first | exact HB.out | apply below_alloc | apply pw_below_drewN | apply below_drew1 | refine below_set ?_ GE101.out) | exact HB.out))))
        have n5_ := Aside0.mk (blk_below (g := gb101) (o := .cells #[.int .u64 a1_0, .int .u64 a1_1, .int .u64 a1_2, .int .u8 a1_3, .string a1_4, .string a1_5, .int .i64 a1_6, .int .i64 a1_7] 56 (0, 0)) (by (with_reducible repeat (first | refine blk_drewN ?_ _ | refine blk_drew ?_ | refine blk_alloc ?_ _)); exact BK101.out) hb)
        have n6_ := Aside0.mk (below_step (by repeat (first | (with_reducible first | exact HB.out | apply below_alloc | apply pw_below_drewN | apply below_drew1 | refine below_set ?_ GE101.out) | exact HB.out)) hb)
        clear HO_0
        clear HO_13
        clear HO111
        clear HO114
        clear BK101
        clear HB
        have HO_0 := n0_
        have HO_13 := n1_
        have HO111 := n2_
        have HO114 := n3_
        have HO117 := n4_
        have BK101 := n5_
        have HB := n6_
        clear n0_ n1_ n2_ n3_ n4_ n5_ n6_
        (try clear hb)
        (try clear hb2)
        (try clear hk)
        (try clear hi)
        (try clear ho0)
        refine hK.out _ _ ⟨(blk_cell BK101.out 0).trans rfl, (blk_cell BK101.out 1).trans rfl, (blk_cell BK101.out 2).trans rfl, (blk_cell BK101.out 3).trans rfl, (blk_cell BK101.out 4).trans rfl, (blk_cell BK101.out 5).trans rfl, (blk_cell BK101.out 6).trans rfl, (blk_cell BK101.out 7).trans rfl⟩ (fun hHeld => ?_)
        clear hK K
        refine norm_ (a' := ?_) ?_ ?_
        rotate_left
        · show Act.put _ (some 36) _ = _
          simp only [Act.put, List.setIfInBounds_toArray, List.set_cons_zero, List.set_cons_succ, i64_w, i32_w]
          rfl
        refine pure_ (i := 9) (N := some 0) (v := ?_) (a' := ?_) #[true, true, true, true, true, true, true, true, true, true] rfl rfl (any_of HT_.out (by kernel_rfl)) (fun _ _ _ h => h) (Or.inl ⟨by rfl, ?_⟩) ?_ ?_
        rotate_left
        · intro w'
          go_simp
          with_reducible rfl
        rotate_left
        · simp only [Act.put, List.setIfInBounds_toArray, List.set_cons_zero, List.set_cons_succ, i64_w, i32_w]
          rfl
        refine done_ (done_of HT_.out (by kernel_rfl)) ?_
        try go_wp2
        have n0_ := Aside0.mk (Kd.V_drew HO_0.out)
        have n1_ := Aside0.mk (Kd.R_drew HO_13.out)
        have n2_ := Aside0.mk (Kd.R_drew HO111.out)
        have n3_ := Aside0.mk (Kd.R_drew HO114.out)
        have n4_ := Aside0.mk (Kd.R_drew HO117.out)
        have n5_ := Aside0.mk (blk_drew BK101.out)
        have n6_ := Aside0.mk (below_drew1 HB.out)
        clear HO_0
        clear HO_13
        clear HO111
        clear HO114
        clear HO117
        clear BK101
        clear HB
        have HO_0 := n0_
        have HO_13 := n1_
        have HO111 := n2_
        have HO114 := n3_
        have HO117 := n4_
        have BK101 := n5_
        have HB := n6_
        clear n0_ n1_ n2_ n3_ n4_ n5_ n6_
        obtain ⟨Ao28, co28, eo28⟩ := Kd.R_slice HO117.out
        (first | subst eo28 | (injection eo28 with f1_ f2_ f3_; have f4_ := f1_.symm; have f5_ := f3_.symm; clear f1_ f2_ f3_; subst f4_; subst f5_))
        refine start_ (n := 8) (S := fun w' => w'.cell? ⟨gb101, 0, none⟩ = some (.int .u64 a1_0) ∧ w'.cell? ⟨gb101, 1, none⟩ = some (.int .u64 a1_1) ∧ w'.cell? ⟨gb101, 2, none⟩ = some (.int .u64 a1_2) ∧ w'.cell? ⟨gb101, 3, none⟩ = some (.int .u8 a1_3) ∧ w'.cell? ⟨gb101, 4, none⟩ = some (.string a1_4) ∧ w'.cell? ⟨gb101, 5, none⟩ = some (.string a1_5) ∧ w'.cell? ⟨gb101, 6, none⟩ = some (.int .i64 a1_6) ∧ w'.cell? ⟨gb101, 7, none⟩ = some (.int .i64 a1_7)) (ds := []) #[false, false, false, false, false, false, false, false] (by kernel_rfl) rfl rfl ⟨(blk_cell BK101.out 0).trans rfl, (blk_cell BK101.out 1).trans rfl, (blk_cell BK101.out 2).trans rfl, (blk_cell BK101.out 3).trans rfl, (blk_cell BK101.out 4).trans rfl, (blk_cell BK101.out 5).trans rfl, (blk_cell BK101.out 6).trans rfl, (blk_cell BK101.out 7).trans rfl⟩ (fun hHeld => ?_); refine with_tabW wire_put.tab8 wire_put.bits8 (fun HT_ HW_ => ?_)
        generalize w26.drew = w27 at HO_0 HO_13 HO111 HO114 HO117 BK101 HB hHeld ⊢
        refine pure_ (i := 0) (N := some 37) (v := ?_) (a' := ?_) #[true, false, false, false, false, false, false, false] rfl rfl (any_of HT_.out (by kernel_rfl)) (fun _ _ _ h => h) (Or.inl ⟨by rfl, ?_⟩) ?_ ?_
        rotate_left
        · intro w'
          go_simp
          with_reducible rfl
        rotate_left
        · simp only [Act.put, List.setIfInBounds_toArray, List.set_cons_zero, List.set_cons_succ, i64_w, i32_w]
          rfl
        refine pure_ (i := 1) (N := some 38) (v := ?_) (a' := ?_) #[true, true, false, false, false, false, false, false] rfl rfl (any_of HT_.out (by kernel_rfl)) (fun _ _ _ h => h) (Or.inl ⟨by rfl, ?_⟩) ?_ ?_
        rotate_left
        · intro w'
          go_simp
          with_reducible rfl
        rotate_left
        · simp only [Act.put, List.setIfInBounds_toArray, List.set_cons_zero, List.set_cons_succ, i64_w, i32_w]
          rfl
        refine pure_ (i := 4) (N := some 41) (v := ?_) (a' := ?_) #[true, true, false, false, true, false, false, false] rfl rfl (any_of HT_.out (by kernel_rfl)) (fun _ _ _ h => h) (Or.inl ⟨by rfl, ?_⟩) ?_ ?_
        rotate_left
        · intro w'
          go_simp
          with_reducible rfl
        rotate_left
        · simp only [Act.put, List.setIfInBounds_toArray, List.set_cons_zero, List.set_cons_succ, i64_w, i32_w]
          rfl
        refine take_ (i := 2) (N := some 39) (v := ?_) (a' := ?_) #[true, true, true, false, true, false, false, false] rfl rfl (take_ofW HT_.out HW_.out (by kernel_rfl)) (fun _ _ _ h => h) (Or.inl ⟨by rfl, ?_⟩) hHeld ?_ ?_
        rotate_left
        · rintro w' ⟨s0, s1, s2, s3, s4, s5, s6, s7⟩
          go_simp
          with_reducible rfl
        rotate_left
        · simp only [Act.put, List.setIfInBounds_toArray, List.set_cons_zero, List.set_cons_succ, i64_w, i32_w]
          rfl
        refine take_ (i := 5) (N := some 42) (v := ?_) (a' := ?_) #[true, true, true, false, true, true, false, false] rfl rfl (take_ofW HT_.out HW_.out (by kernel_rfl)) (fun _ _ _ h => h) (Or.inl ⟨by rfl, ?_⟩) hHeld ?_ ?_
        rotate_left
        · rintro w' ⟨s0, s1, s2, s3, s4, s5, s6, s7⟩
          go_simp
          with_reducible rfl
        rotate_left
        · simp only [Act.put, List.setIfInBounds_toArray, List.set_cons_zero, List.set_cons_succ, i64_w, i32_w]
          rfl
        refine one_ (i := 3) (N := some 40) #[true, true, true, true, true, true, false, false] rfl rfl (one_of HT_.out (by kernel_rfl)) (by decide) (fun K hK => ?_)
        refine goes_ Tryd.func22 (by kernel_rfl) rfl #[.slice Ao28 t115.length co28, .string a1_4] (by rfl) rfl rfl (by (try simp only [List.map_toArray, List.map_cons, List.map_nil]); first | done | rfl | (simp only [List.length_drop, List.length_take]; rfl)) ?_
        with_reducible refine (pack_PutText.calls _ _ t115 a1_4 t118 _ ?side1 ?side2 A17.out).mono ?_
        (case side1 => repeat (first | exact (Kd.R_reads' HO117.out).2.2 | (with_reducible refine Kd.C_alloc ?_ _) | (with_reducible refine Kd.C_drewN ?_ _) | (with_reducible refine Kd.C_drew ?_)))
        (case side2 => exact (Kd.R_reads' HO117.out).2.1)
        rintro e w29 ⟨v119, rfl, ho0, hb⟩
        refine ⟨_, rfl, ?_⟩
        have n0_ := Aside0.mk (Kd.V_elder' (by (with_reducible repeat (first | apply Kd.V_alloc | apply Kd.V_drewN | apply Kd.V_drew)); exact HO_0.out) (Kd.R_base ho0) hb)
        have n1_ := Aside0.mk (Kd.R_below (by (with_reducible repeat (first | apply Kd.R_alloc | apply Kd.R_drewN | apply Kd.R_drew)); exact HO_13.out) hb)
        have n2_ := Aside0.mk (Kd.R_elder' (by (with_reducible repeat (first | apply Kd.R_alloc | apply Kd.R_drewN | apply Kd.R_drew)); exact HO111.out) (Kd.R_base ho0) hb)
        have n3_ := Aside0.mk (Kd.R_elder' (by (with_reducible repeat (first | apply Kd.R_alloc | apply Kd.R_drewN | apply Kd.R_drew)); exact HO114.out) (Kd.R_base ho0) hb)
        have n4_ := Aside0.mk (Kd.R_elder' (by (with_reducible repeat (first | apply Kd.R_alloc | apply Kd.R_drewN | apply Kd.R_drew)); exact HO117.out) (Kd.R_base ho0) hb)
        have n5_ := Aside0.mk (Kd.R_lower (Kd.R_new' (Kd.R_new' (Kd.R_new' (Kd.R_newM (M := fun k_ => (w.heap.size ≤ k_)) ho0 (below_size (by repeat (first | (with_reducible first | exact HB.out | apply below_alloc | apply pw_below_drewN | apply below_drew1 | refine below_set ?_ GE101.out) | exact HB.out))) (fun k_ h_ => h_)) (Kd.R_lt (by (with_reducible repeat (first | apply Kd.R_alloc | apply Kd.R_drewN | apply Kd.R_drew)); exact HO111.out))) (Kd.R_lt (by (with_reducible repeat (first | apply Kd.R_alloc | apply Kd.R_drewN | apply Kd.R_drew)); exact HO114.out))) (Kd.R_lt (by (with_reducible repeat (first | apply Kd.R_alloc | apply Kd.R_drewN | apply Kd.R_drew)); exact HO117.out))) (below_size (by repeat (first | (with_reducible first | exact HB.out | apply below_alloc | apply pw_below_drewN | apply below_drew1 | refine below_set ?_ GE101.out) | exact HB.out))))
        have n6_ := Aside0.mk (blk_below (g := gb101) (o := .cells #[.int .u64 a1_0, .int .u64 a1_1, .int .u64 a1_2, .int .u8 a1_3, .string a1_4, .string a1_5, .int .i64 a1_6, .int .i64 a1_7] 56 (0, 0)) (by (with_reducible repeat (first | refine blk_drewN ?_ _ | refine blk_drew ?_ | refine blk_alloc ?_ _)); exact BK101.out) hb)
        have n7_ := Aside0.mk (below_step (by repeat (first | (with_reducible first | exact HB.out | apply below_alloc | apply pw_below_drewN | apply below_drew1 | refine below_set ?_ GE101.out) | exact HB.out)) hb)
        clear HO_0
        clear HO_13
        clear HO111
        clear HO114
        clear HO117
        clear BK101
        clear HB
        have HO_0 := n0_
        have HO_13 := n1_
        have HO111 := n2_
        have HO114 := n3_
        have HO117 := n4_
        have HO120 := n5_
        have BK101 := n6_
        have HB := n7_
        clear n0_ n1_ n2_ n3_ n4_ n5_ n6_ n7_
        (try clear hb)
        (try clear hb2)
        (try clear hk)
        (try clear hi)
        (try clear ho0)
        obtain ⟨Ao30, co30, eo30⟩ := Kd.R_slice HO120.out
        (first | subst eo30 | (injection eo30 with f1_ f2_ f3_; have f4_ := f1_.symm; have f5_ := f3_.symm; clear f1_ f2_ f3_; subst f4_; subst f5_))
        refine hK.out _ _ ⟨(blk_cell BK101.out 0).trans rfl, (blk_cell BK101.out 1).trans rfl, (blk_cell BK101.out 2).trans rfl, (blk_cell BK101.out 3).trans rfl, (blk_cell BK101.out 4).trans rfl, (blk_cell BK101.out 5).trans rfl, (blk_cell BK101.out 6).trans rfl, (blk_cell BK101.out 7).trans rfl⟩ (fun hHeld => ?_)
        clear hK K
        refine norm_ (a' := ?_) ?_ ?_
        rotate_left
        · show Act.put _ (some 40) _ = _
          simp only [Act.put, List.setIfInBounds_toArray, List.set_cons_zero, List.set_cons_succ, i64_w, i32_w]
          rfl
        refine one_ (i := 6) (N := some 43) #[true, true, true, true, true, true, true, false] rfl rfl (one_of HT_.out (by kernel_rfl)) (by decide) (fun K hK => ?_)
        refine goes_ Tryd.func22 (by kernel_rfl) rfl #[.slice Ao30 t118.length co30, .string a1_5] (by rfl) rfl rfl (by (try simp only [List.map_toArray, List.map_cons, List.map_nil]); first | done | rfl | (simp only [List.length_drop, List.length_take]; rfl)) ?_
        with_reducible refine (pack_PutText.calls _ _ t118 a1_5 t121 _ ?side1 ?side2 A18.out).mono ?_
        (case side1 => repeat (first | exact (Kd.R_reads' HO120.out).2.2 | (with_reducible refine Kd.C_alloc ?_ _) | (with_reducible refine Kd.C_drewN ?_ _) | (with_reducible refine Kd.C_drew ?_)))
        (case side2 => exact (Kd.R_reads' HO120.out).2.1)
        rintro e w31 ⟨v122, rfl, ho0, hb⟩
        refine ⟨_, rfl, ?_⟩
        have n0_ := Aside0.mk (Kd.V_elder' (by (with_reducible repeat (first | apply Kd.V_alloc | apply Kd.V_drewN | apply Kd.V_drew)); exact HO_0.out) (Kd.R_base ho0) hb)
        have n1_ := Aside0.mk (Kd.R_below (by (with_reducible repeat (first | apply Kd.R_alloc | apply Kd.R_drewN | apply Kd.R_drew)); exact HO_13.out) hb)
        have n2_ := Aside0.mk (Kd.R_elder' (by (with_reducible repeat (first | apply Kd.R_alloc | apply Kd.R_drewN | apply Kd.R_drew)); exact HO111.out) (Kd.R_base ho0) hb)
        have n3_ := Aside0.mk (Kd.R_elder' (by (with_reducible repeat (first | apply Kd.R_alloc | apply Kd.R_drewN | apply Kd.R_drew)); exact HO114.out) (Kd.R_base ho0) hb)
        have n4_ := Aside0.mk (Kd.R_elder' (by (with_reducible repeat (first | apply Kd.R_alloc | apply Kd.R_drewN | apply Kd.R_drew)); exact HO117.out) (Kd.R_base ho0) hb)
        have n5_ := Aside0.mk (Kd.R_elder' (by (with_reducible repeat (first | apply Kd.R_alloc | apply Kd.R_drewN | apply Kd.R_drew)); exact HO120.out) (Kd.R_base ho0) hb)
        have n6_ := Aside0.mk (Kd.R_lower (Kd.R_new' (Kd.R_new' (Kd.R_new' (Kd.R_new' (Kd.R_newM (M := fun k_ => (w.heap.size ≤ k_)) ho0 (below_size (by repeat (first | (with_reducible first | exact HB.out | apply below_alloc | apply pw_below_drewN | apply below_drew1 | refine below_set ?_ GE101.out) | exact HB.out))) (fun k_ h_ => h_)) (Kd.R_lt (by (with_reducible repeat (first | apply Kd.R_alloc | apply Kd.R_drewN | apply Kd.R_drew)); exact HO111.out))) (Kd.R_lt (by (with_reducible repeat (first | apply Kd.R_alloc | apply Kd.R_drewN | apply Kd.R_drew)); exact HO114.out))) (Kd.R_lt (by (with_reducible repeat (first | apply Kd.R_alloc | apply Kd.R_drewN | apply Kd.R_drew)); exact HO117.out))) (Kd.R_lt (by (with_reducible repeat (first | apply Kd.R_alloc | apply Kd.R_drewN | apply Kd.R_drew)); exact HO120.out))) (below_size (by repeat (first | (with_reducible first | exact HB.out | apply below_alloc | apply pw_below_drewN | apply below_drew1 | refine below_set ?_ GE101.out) | exact HB.out))))
        have n7_ := Aside0.mk (blk_below (g := gb101) (o := .cells #[.int .u64 a1_0, .int .u64 a1_1, .int .u64 a1_2, .int .u8 a1_3, .string a1_4, .string a1_5, .int .i64 a1_6, .int .i64 a1_7] 56 (0, 0)) (by (with_reducible repeat (first | refine blk_drewN ?_ _ | refine blk_drew ?_ | refine blk_alloc ?_ _)); exact BK101.out) hb)
        have n8_ := Aside0.mk (below_step (by repeat (first | (with_reducible first | exact HB.out | apply below_alloc | apply pw_below_drewN | apply below_drew1 | refine below_set ?_ GE101.out) | exact HB.out)) hb)
        clear HO_0
        clear HO_13
        clear HO111
        clear HO114
        clear HO117
        clear HO120
        clear BK101
        clear HB
        have HO_0 := n0_
        have HO_13 := n1_
        have HO111 := n2_
        have HO114 := n3_
        have HO117 := n4_
        have HO120 := n5_
        have HO123 := n6_
        have BK101 := n7_
        have HB := n8_
        clear n0_ n1_ n2_ n3_ n4_ n5_ n6_ n7_ n8_
        (try clear hb)
        (try clear hb2)
        (try clear hk)
        (try clear hi)
        (try clear ho0)
        refine hK.out _ _ ⟨(blk_cell BK101.out 0).trans rfl, (blk_cell BK101.out 1).trans rfl, (blk_cell BK101.out 2).trans rfl, (blk_cell BK101.out 3).trans rfl, (blk_cell BK101.out 4).trans rfl, (blk_cell BK101.out 5).trans rfl, (blk_cell BK101.out 6).trans rfl, (blk_cell BK101.out 7).trans rfl⟩ (fun hHeld => ?_)
        clear hK K
        refine norm_ (a' := ?_) ?_ ?_
        rotate_left
        · show Act.put _ (some 43) _ = _
          simp only [Act.put, List.setIfInBounds_toArray, List.set_cons_zero, List.set_cons_succ, i64_w, i32_w]
          rfl
        refine pure_ (i := 7) (N := some 4) (v := ?_) (a' := ?_) #[true, true, true, true, true, true, true, true] rfl rfl (any_of HT_.out (by kernel_rfl)) (fun _ _ _ h => h) (Or.inl ⟨by rfl, ?_⟩) ?_ ?_
        rotate_left
        · intro w'
          go_simp
          with_reducible rfl
        rotate_left
        · simp only [Act.put, List.setIfInBounds_toArray, List.set_cons_zero, List.set_cons_succ, i64_w, i32_w]
          rfl
        refine done_ (done_of HT_.out (by kernel_rfl)) ?_
        try go_wp2
        go_ret
        exact ⟨_, by first | rfl | (simp [errW_none, errW_some] <;> rfl) | (simp [*, errW_none, errW_some] <;> rfl), by (with_reducible repeat (first | apply Kd.R_alloc | apply Kd.R_drewN | apply Kd.R_drew)); exact Kd.R_mono HO123.out (fun _ hk => hk.1.1.1.1.1), by repeat (first | (with_reducible first | exact HB.out | apply below_alloc | apply pw_below_drewN | apply below_drew1 | refine below_set ?_ GE101.out) | exact HB.out)⟩

end Go.Proofs.YtljkikcclnbdaaaDoor.W

-- Written by wip/tools/gp.py, a program of this session round the kit's printer. Lean checks it.
namespace Go.Proofs.YtljkikcclnbdaaaDoor.W
open Go.RowKit Go.Proofs.YtljkikcclnbdaaaDoor.Q Go.Proofs.YtljkikcclnbdaaaDoor.P Go.Proofs.YtljkikcclnbdaaaDoorW.PrintWords Go.Proofs.YtljkikcclnbdaaaDoorW.PrintLast Go.Proofs.YtljkikcclnbdaaaDoorW.PrintMore
attribute [local go_sem] max2_int min2_int max_two min_two max_three min_three max_four min_four   -- for this text's walks alone
set_option linter.unusedVariables false
set_option linter.unusedSimpArgs false

/-! ### reply_edge: function 23 -/
def reply_edge.f (l0 : List Int) (a1_0 : Int) (a1_1 : Int) (a1_2 : Int) (a1_3 : Int) (a1_4 : Int) (a1_5 : Bool) : Option (List Int) := (pack_Put.f l0 (IntKind.u64.wrap (a1_0)) 1).bind fun t151 => ((pack_Put.f t151 (IntKind.u64.wrap (a1_1)) 1).bind fun t154 => ((pack_Put.f t154 (IntKind.u64.wrap (a1_2)) 8).bind fun t157 => ((pack_Put.f t157 (IntKind.u64.wrap (a1_3)) 4).bind fun t160 => ((pack_Put.f t160 (IntKind.u64.wrap (a1_4)) 4).bind fun t163 => (if a1_5 = true then ((pack_Put.f t163 1 1).bind fun t166 => (some t166)) else ((pack_Put.f t163 0 1).bind fun t169 => (some t169)))))))
def reply_edge.T1 : Bool × List (List Nat × List Nat) := (true, [([], []), ([], []), ([1], [1]), ([2], [2]), ([0, 3], [0, 3]), ([], []), ([5], [5]), ([6], [6]), ([4, 7, 4], [4, 7]), ([8, 8, 0, 1, 2, 3, 4, 5, 6, 7, 8], [0, 8])])
def reply_edge.B1 : List Nat := [0, 0, 2, 6, 15, 0, 32, 96, 255, 511]
theorem reply_edge.tab1 : rtab .any (opsOf Tryd.f23 1) = reply_edge.T1 := by kernel_rfl
theorem reply_edge.bits1 : waitsOk reply_edge.T1.2 reply_edge.B1 = true := by kernel_rfl
def reply_edge.T3 : Bool × List (List Nat × List Nat) := (true, [([], []), ([], []), ([1], [1]), ([2], [2]), ([3], [3]), ([0, 4], [0, 4]), ([], []), ([6], [6]), ([7], [7]), ([8], [8]), ([5, 9, 5], [5, 9]), ([10, 10, 0, 1, 2, 3, 4, 5, 6, 7, 8, 9, 10], [0, 10])])
def reply_edge.B3 : List Nat := [0, 0, 2, 6, 14, 31, 0, 64, 192, 448, 1023, 2047]
theorem reply_edge.tab3 : rtab .any (opsOf Tryd.f23 3) = reply_edge.T3 := by kernel_rfl
theorem reply_edge.bits3 : waitsOk reply_edge.T3.2 reply_edge.B3 = true := by kernel_rfl
set_option maxHeartbeats 8000000 in
set_option maxRecDepth 100000 in
theorem reply_edge.calls (A0 : Option Addr) (c0 : Nat) (l0 : List Int) (a1_0 : Int) (a1_1 : Int) (a1_2 : Int) (a1_3 : Int) (a1_4 : Int) (a1_5 : Bool) (r : List Int) (w : World) (hr0 : Kd.C (Kd.int .u8) w A0 l0.length l0) (hc0 : l0.length ≤ c0) (h : reply_edge.f l0 a1_0 a1_1 a1_2 a1_3 a1_4 a1_5 = some r) :
    Calls Tryd.prog 23 #[.slice A0 l0.length c0, .agg #[.int .i64 a1_0, .int .i64 a1_1, .int .i64 a1_2, .int .i64 a1_3, .int .i64 a1_4, .bool a1_5]] w fun e w' => ∃ v0_ : Value, e = .returned (v0_) ∧ Kd.R (Kd.int .u8) 5 w' w.heap.size (fun _ => True) v0_ r ∧ Below w.heap.size w w' := by
  have hu64 := Tryd.underlying64
  have HR0 := Aside0.mk hr0
  have HC0 := Aside0.mk hc0
  clear hr0 hc0
  have HB := Aside0.mk (Below.refl w.heap.size w)
  have H : ((pack_Put.f l0 (IntKind.u64.wrap (a1_0)) 1).bind fun t151 => ((pack_Put.f t151 (IntKind.u64.wrap (a1_1)) 1).bind fun t154 => ((pack_Put.f t154 (IntKind.u64.wrap (a1_2)) 8).bind fun t157 => ((pack_Put.f t157 (IntKind.u64.wrap (a1_3)) 4).bind fun t160 => ((pack_Put.f t160 (IntKind.u64.wrap (a1_4)) 4).bind fun t163 => (if a1_5 = true then ((pack_Put.f t163 1 1).bind fun t166 => (some t166)) else ((pack_Put.f t163 0 1).bind fun t169 => (some t169)))))))) = some r := h
  clear h
  replace H := Option.bind_eq_some_iff.mp H
  obtain ⟨t151, A30, H⟩ := H
  replace H : ((pack_Put.f t151 (IntKind.u64.wrap (a1_1)) 1).bind fun t154 => ((pack_Put.f t154 (IntKind.u64.wrap (a1_2)) 8).bind fun t157 => ((pack_Put.f t157 (IntKind.u64.wrap (a1_3)) 4).bind fun t160 => ((pack_Put.f t160 (IntKind.u64.wrap (a1_4)) 4).bind fun t163 => (if a1_5 = true then ((pack_Put.f t163 1 1).bind fun t166 => (some t166)) else ((pack_Put.f t163 0 1).bind fun t169 => (some t169))))))) = some r := H
  have A3 := Aside0.mk A30
  clear A30
  replace H := Option.bind_eq_some_iff.mp H
  obtain ⟨t154, A40, H⟩ := H
  replace H : ((pack_Put.f t154 (IntKind.u64.wrap (a1_2)) 8).bind fun t157 => ((pack_Put.f t157 (IntKind.u64.wrap (a1_3)) 4).bind fun t160 => ((pack_Put.f t160 (IntKind.u64.wrap (a1_4)) 4).bind fun t163 => (if a1_5 = true then ((pack_Put.f t163 1 1).bind fun t166 => (some t166)) else ((pack_Put.f t163 0 1).bind fun t169 => (some t169)))))) = some r := H
  have A4 := Aside0.mk A40
  clear A40
  replace H := Option.bind_eq_some_iff.mp H
  obtain ⟨t157, A50, H⟩ := H
  replace H : ((pack_Put.f t157 (IntKind.u64.wrap (a1_3)) 4).bind fun t160 => ((pack_Put.f t160 (IntKind.u64.wrap (a1_4)) 4).bind fun t163 => (if a1_5 = true then ((pack_Put.f t163 1 1).bind fun t166 => (some t166)) else ((pack_Put.f t163 0 1).bind fun t169 => (some t169))))) = some r := H
  have A5 := Aside0.mk A50
  clear A50
  replace H := Option.bind_eq_some_iff.mp H
  obtain ⟨t160, A60, H⟩ := H
  replace H : ((pack_Put.f t160 (IntKind.u64.wrap (a1_4)) 4).bind fun t163 => (if a1_5 = true then ((pack_Put.f t163 1 1).bind fun t166 => (some t166)) else ((pack_Put.f t163 0 1).bind fun t169 => (some t169)))) = some r := H
  have A6 := Aside0.mk A60
  clear A60
  replace H := Option.bind_eq_some_iff.mp H
  obtain ⟨t163, A70, H⟩ := H
  replace H : (if a1_5 = true then ((pack_Put.f t163 1 1).bind fun t166 => (some t166)) else ((pack_Put.f t163 0 1).bind fun t169 => (some t169))) = some r := H
  have A7 := Aside0.mk A70
  clear A70
  by_cases c8 : a1_5 = true
  · subst c8
    have H1 : ((pack_Put.f t163 1 1).bind fun t166 => (some t166)) = some r := by rw [if_pos rfl] at H; exact H
    clear H
    have H := H1
    clear H1
    replace H := Option.bind_eq_some_iff.mp H
    obtain ⟨t166, A90, H⟩ := H
    replace H : (some t166) = some r := H
    have A9 := Aside0.mk A90
    clear A90
    obtain rfl := Option.some.inj H
    go_enter Tryd.func23, Tryd.ntmps23
    try go_wp2_with (first | ((with_reducible refine gate_dst (N := 3) rfl ?_); refine box_event ?hg (N := 3) ?hd (cs := #[.int .i64 a1_0, .int .i64 a1_1, .int .i64 a1_2, .int .i64 a1_3, .int .i64 a1_4, .bool true]) (t := 64) ?hr ?_; (case hd => rfl); (case hg => rfl); (case hr => first | (go_simp; done) | (go_simp; rfl)); intro gb150 hg w10 hbox hb; have n0_ := Aside0.mk (below_step (by repeat (first | (with_reducible first | exact HB.out | apply below_alloc | apply pw_below_drewN | apply below_drew1) | exact HB.out)) hb); have n1_ := Aside0.mk (hbox); have n2_ := Aside0.mk ((by rw [hg]; exact (below_size (by repeat (first | (with_reducible first | exact HB.out | apply below_alloc | apply pw_below_drewN | apply below_drew1) | exact HB.out))) : w.heap.size ≤ gb150)); have n3_ := Aside0.mk ((by rw [hg]; exact (below_size (by repeat (first | (with_reducible first | exact HB.out | apply below_alloc | apply pw_below_drewN | apply below_drew1) | exact HB.out))) : w.heap.size ≤ gb150)); clear HB; have HB := n0_; have BK150 := n1_; have GW150 := n2_; have GE150 := n3_; clear n0_ n1_ n2_ n3_; clear hb hbox hg))
    have n0_ := Aside0.mk (blk_drew BK150.out)
    have n1_ := Aside0.mk (below_drew1 HB.out)
    clear BK150
    clear HB
    have BK150 := n0_
    have HB := n1_
    clear n0_ n1_
    refine start_ (n := 10) (S := fun w' => w'.cell? ⟨gb150, 0, none⟩ = some (.int .i64 a1_0) ∧ w'.cell? ⟨gb150, 1, none⟩ = some (.int .i64 a1_1) ∧ w'.cell? ⟨gb150, 2, none⟩ = some (.int .i64 a1_2) ∧ w'.cell? ⟨gb150, 3, none⟩ = some (.int .i64 a1_3) ∧ w'.cell? ⟨gb150, 4, none⟩ = some (.int .i64 a1_4) ∧ w'.cell? ⟨gb150, 5, none⟩ = some (.bool true)) (ds := []) #[false, false, false, false, false, false, false, false, false, false] (by kernel_rfl) rfl rfl ⟨(blk_cell BK150.out 0).trans rfl, (blk_cell BK150.out 1).trans rfl, (blk_cell BK150.out 2).trans rfl, (blk_cell BK150.out 3).trans rfl, (blk_cell BK150.out 4).trans rfl, (blk_cell BK150.out 5).trans rfl⟩ (fun hHeld => ?_); refine with_tabW reply_edge.tab1 reply_edge.bits1 (fun HT_ HW_ => ?_)
    generalize w10.drew = w11 at BK150 HB hHeld ⊢
    refine pure_ (i := 0) (N := some 5) (v := ?_) (a' := ?_) #[true, false, false, false, false, false, false, false, false, false] rfl rfl (any_of HT_.out (by kernel_rfl)) (fun _ _ _ h => h) (Or.inl ⟨by rfl, ?_⟩) ?_ ?_
    rotate_left
    · intro w'
      go_simp
      with_reducible rfl
    rotate_left
    · simp only [Act.put, List.setIfInBounds_toArray, List.set_cons_zero, List.set_cons_succ, i64_w, i32_w]
      rfl
    refine pure_ (i := 1) (N := some 6) (v := ?_) (a' := ?_) #[true, true, false, false, false, false, false, false, false, false] rfl rfl (any_of HT_.out (by kernel_rfl)) (fun _ _ _ h => h) (Or.inl ⟨by rfl, ?_⟩) ?_ ?_
    rotate_left
    · intro w'
      go_simp
      with_reducible rfl
    rotate_left
    · simp only [Act.put, List.setIfInBounds_toArray, List.set_cons_zero, List.set_cons_succ, i64_w, i32_w]
      rfl
    refine pure_ (i := 5) (N := some 10) (v := ?_) (a' := ?_) #[true, true, false, false, false, true, false, false, false, false] rfl rfl (any_of HT_.out (by kernel_rfl)) (fun _ _ _ h => h) (Or.inl ⟨by rfl, ?_⟩) ?_ ?_
    rotate_left
    · intro w'
      go_simp
      with_reducible rfl
    rotate_left
    · simp only [Act.put, List.setIfInBounds_toArray, List.set_cons_zero, List.set_cons_succ, i64_w, i32_w]
      rfl
    refine take_ (i := 2) (N := some 7) (v := ?_) (a' := ?_) #[true, true, true, false, false, true, false, false, false, false] rfl rfl (take_ofW HT_.out HW_.out (by kernel_rfl)) (fun _ _ _ h => h) (Or.inl ⟨by rfl, ?_⟩) hHeld ?_ ?_
    rotate_left
    · rintro w' ⟨s0, s1, s2, s3, s4, s5⟩
      go_simp
      with_reducible rfl
    rotate_left
    · simp only [Act.put, List.setIfInBounds_toArray, List.set_cons_zero, List.set_cons_succ, i64_w, i32_w]
      rfl
    refine pure_ (i := 3) (N := some 8) (v := ?_) (a' := ?_) #[true, true, true, true, false, true, false, false, false, false] rfl rfl (any_of HT_.out (by kernel_rfl)) (fun _ _ _ h => h) (Or.inl ⟨by rfl, ?_⟩) ?_ ?_
    rotate_left
    · intro w'
      go_simp
      with_reducible rfl
    rotate_left
    · simp only [Act.put, List.setIfInBounds_toArray, List.set_cons_zero, List.set_cons_succ, i64_w, i32_w]
      rfl
    refine take_ (i := 6) (N := some 11) (v := ?_) (a' := ?_) #[true, true, true, true, false, true, true, false, false, false] rfl rfl (take_ofW HT_.out HW_.out (by kernel_rfl)) (fun _ _ _ h => h) (Or.inl ⟨by rfl, ?_⟩) hHeld ?_ ?_
    rotate_left
    · rintro w' ⟨s0, s1, s2, s3, s4, s5⟩
      go_simp
      with_reducible rfl
    rotate_left
    · simp only [Act.put, List.setIfInBounds_toArray, List.set_cons_zero, List.set_cons_succ, i64_w, i32_w]
      rfl
    refine pure_ (i := 7) (N := some 12) (v := ?_) (a' := ?_) #[true, true, true, true, false, true, true, true, false, false] rfl rfl (any_of HT_.out (by kernel_rfl)) (fun _ _ _ h => h) (Or.inl ⟨by rfl, ?_⟩) ?_ ?_
    rotate_left
    · intro w'
      go_simp
      with_reducible rfl
    rotate_left
    · simp only [Act.put, List.setIfInBounds_toArray, List.set_cons_zero, List.set_cons_succ, i64_w, i32_w]
      rfl
    refine one_ (i := 4) (N := some 9) #[true, true, true, true, true, true, true, true, false, false] rfl rfl (one_of HT_.out (by kernel_rfl)) (by decide) (fun K hK => ?_)
    refine goes_ Tryd.func19 (by kernel_rfl) rfl #[.slice A0 l0.length c0, .int .u64 (IntKind.u64.wrap (a1_0)), .int .i64 1] (by rfl) rfl rfl (by (try simp only [List.map_toArray, List.map_cons, List.map_nil]); first | done | rfl | (simp only [List.length_drop, List.length_take]; rfl)) ?_
    with_reducible refine (pack_Put.calls _ _ l0 (IntKind.u64.wrap (a1_0)) 1 t151 _ ?side1 ?side2 A3.out).mono ?_
    (case side1 => repeat (first | exact (Kd.C_below HR0.out HB.out) | (with_reducible refine Kd.C_alloc ?_ _) | (with_reducible refine Kd.C_drewN ?_ _) | (with_reducible refine Kd.C_drew ?_)))
    (case side2 => exact HC0.out)
    rintro e w12 ⟨v152, rfl, ho0, hb⟩
    refine ⟨_, rfl, ?_⟩
    have n0_ := Aside0.mk (Kd.R_lower ho0 (below_size (by repeat (first | (with_reducible first | exact HB.out | apply below_alloc | apply pw_below_drewN | apply below_drew1 | refine below_set ?_ GE150.out) | exact HB.out))))
    have n1_ := Aside0.mk (blk_below (g := gb150) (o := .cells #[.int .i64 a1_0, .int .i64 a1_1, .int .i64 a1_2, .int .i64 a1_3, .int .i64 a1_4, .bool true] 64 (0, 0)) (by (with_reducible repeat (first | refine blk_drewN ?_ _ | refine blk_drew ?_ | refine blk_alloc ?_ _)); exact BK150.out) hb)
    have n2_ := Aside0.mk (below_step (by repeat (first | (with_reducible first | exact HB.out | apply below_alloc | apply pw_below_drewN | apply below_drew1 | refine below_set ?_ GE150.out) | exact HB.out)) hb)
    clear BK150
    clear HB
    have HO153 := n0_
    have BK150 := n1_
    have HB := n2_
    clear n0_ n1_ n2_
    (try clear hb)
    (try clear hb2)
    (try clear hk)
    (try clear hi)
    (try clear ho0)
    obtain ⟨Ao13, co13, eo13⟩ := Kd.R_slice HO153.out
    (first | subst eo13 | (injection eo13 with f1_ f2_ f3_; have f4_ := f1_.symm; have f5_ := f3_.symm; clear f1_ f2_ f3_; subst f4_; subst f5_))
    refine hK.out _ _ ⟨(blk_cell BK150.out 0).trans rfl, (blk_cell BK150.out 1).trans rfl, (blk_cell BK150.out 2).trans rfl, (blk_cell BK150.out 3).trans rfl, (blk_cell BK150.out 4).trans rfl, (blk_cell BK150.out 5).trans rfl⟩ (fun hHeld => ?_)
    clear hK K
    refine norm_ (a' := ?_) ?_ ?_
    rotate_left
    · show Act.put _ (some 9) _ = _
      simp only [Act.put, List.setIfInBounds_toArray, List.set_cons_zero, List.set_cons_succ, i64_w, i32_w]
      rfl
    refine one_ (i := 8) (N := some 13) #[true, true, true, true, true, true, true, true, true, false] rfl rfl (one_of HT_.out (by kernel_rfl)) (by decide) (fun K hK => ?_)
    refine goes_ Tryd.func19 (by kernel_rfl) rfl #[.slice Ao13 t151.length co13, .int .u64 (IntKind.u64.wrap (a1_1)), .int .i64 1] (by rfl) rfl rfl (by (try simp only [List.map_toArray, List.map_cons, List.map_nil]); first | done | rfl | (simp only [List.length_drop, List.length_take]; rfl)) ?_
    with_reducible refine (pack_Put.calls _ _ t151 (IntKind.u64.wrap (a1_1)) 1 t154 _ ?side1 ?side2 A4.out).mono ?_
    (case side1 => repeat (first | exact (Kd.R_reads' HO153.out).2.2 | (with_reducible refine Kd.C_alloc ?_ _) | (with_reducible refine Kd.C_drewN ?_ _) | (with_reducible refine Kd.C_drew ?_)))
    (case side2 => exact (Kd.R_reads' HO153.out).2.1)
    rintro e w14 ⟨v155, rfl, ho0, hb⟩
    refine ⟨_, rfl, ?_⟩
    have n0_ := Aside0.mk (Kd.R_elder' (by (with_reducible repeat (first | apply Kd.R_alloc | apply Kd.R_drewN | apply Kd.R_drew)); exact HO153.out) (Kd.R_base ho0) hb)
    have n1_ := Aside0.mk (Kd.R_lower (Kd.R_new' ho0 (Kd.R_lt (by (with_reducible repeat (first | apply Kd.R_alloc | apply Kd.R_drewN | apply Kd.R_drew)); exact HO153.out))) (below_size (by repeat (first | (with_reducible first | exact HB.out | apply below_alloc | apply pw_below_drewN | apply below_drew1 | refine below_set ?_ GE150.out) | exact HB.out))))
    have n2_ := Aside0.mk (blk_below (g := gb150) (o := .cells #[.int .i64 a1_0, .int .i64 a1_1, .int .i64 a1_2, .int .i64 a1_3, .int .i64 a1_4, .bool true] 64 (0, 0)) (by (with_reducible repeat (first | refine blk_drewN ?_ _ | refine blk_drew ?_ | refine blk_alloc ?_ _)); exact BK150.out) hb)
    have n3_ := Aside0.mk (below_step (by repeat (first | (with_reducible first | exact HB.out | apply below_alloc | apply pw_below_drewN | apply below_drew1 | refine below_set ?_ GE150.out) | exact HB.out)) hb)
    clear HO153
    clear BK150
    clear HB
    have HO153 := n0_
    have HO156 := n1_
    have BK150 := n2_
    have HB := n3_
    clear n0_ n1_ n2_ n3_
    (try clear hb)
    (try clear hb2)
    (try clear hk)
    (try clear hi)
    (try clear ho0)
    refine hK.out _ _ ⟨(blk_cell BK150.out 0).trans rfl, (blk_cell BK150.out 1).trans rfl, (blk_cell BK150.out 2).trans rfl, (blk_cell BK150.out 3).trans rfl, (blk_cell BK150.out 4).trans rfl, (blk_cell BK150.out 5).trans rfl⟩ (fun hHeld => ?_)
    clear hK K
    refine norm_ (a' := ?_) ?_ ?_
    rotate_left
    · show Act.put _ (some 13) _ = _
      simp only [Act.put, List.setIfInBounds_toArray, List.set_cons_zero, List.set_cons_succ, i64_w, i32_w]
      rfl
    refine pure_ (i := 9) (N := some 0) (v := ?_) (a' := ?_) #[true, true, true, true, true, true, true, true, true, true] rfl rfl (any_of HT_.out (by kernel_rfl)) (fun _ _ _ h => h) (Or.inl ⟨by rfl, ?_⟩) ?_ ?_
    rotate_left
    · intro w'
      go_simp
      with_reducible rfl
    rotate_left
    · simp only [Act.put, List.setIfInBounds_toArray, List.set_cons_zero, List.set_cons_succ, i64_w, i32_w]
      rfl
    refine done_ (done_of HT_.out (by kernel_rfl)) ?_
    have hcz15_0 : w14.cell? ⟨gb150, 0, none⟩ = some (.int .i64 a1_0) := (blk_cell BK150.out 0).trans rfl
    have hcz15_1 : w14.cell? ⟨gb150, 1, none⟩ = some (.int .i64 a1_1) := (blk_cell BK150.out 1).trans rfl
    have hcz15_2 : w14.cell? ⟨gb150, 2, none⟩ = some (.int .i64 a1_2) := (blk_cell BK150.out 2).trans rfl
    have hcz15_3 : w14.cell? ⟨gb150, 3, none⟩ = some (.int .i64 a1_3) := (blk_cell BK150.out 3).trans rfl
    have hcz15_4 : w14.cell? ⟨gb150, 4, none⟩ = some (.int .i64 a1_4) := (blk_cell BK150.out 4).trans rfl
    have hcz15_5 : w14.cell? ⟨gb150, 5, none⟩ = some (.bool true) := (blk_cell BK150.out 5).trans rfl
    have hfz15_0 := blk_frozen BK150.out 0
    have hfz15_1 := blk_frozen BK150.out 1
    have hfz15_2 := blk_frozen BK150.out 2
    have hfz15_3 := blk_frozen BK150.out 3
    have hfz15_4 := blk_frozen BK150.out 4
    have hfz15_5 := blk_frozen BK150.out 5
    obtain ⟨Ao16, co16, eo16⟩ := Kd.R_slice HO156.out
    subst eo16
    try go_wp2_with (first | ((with_reducible refine gate_callee (f := 19) rfl ?_); refine goesL_ (some 18) rfl rfl Tryd.func19 (by kernel_rfl) rfl #[.slice Ao16 t154.length co16, .int .u64 (IntKind.u64.wrap (a1_2)), .int .i64 8] rfl (by (try simp only [List.map_toArray, List.map_cons, List.map_nil]); first | done | rfl | (simp only [List.length_drop, List.length_take]; rfl)) ?_; (with_reducible refine (pack_Put.calls _ _ t154 (IntKind.u64.wrap (a1_2)) 8 t157 _ ?side1 ?side2 A5.out).mono ?_); (case side1 => repeat (first | exact (Kd.R_reads' HO156.out).2.2 | (with_reducible refine Kd.C_alloc ?_ _) | (with_reducible refine Kd.C_drewN ?_ _) | (with_reducible refine Kd.C_drew ?_))); (case side2 => exact (Kd.R_reads' HO156.out).2.1); rintro e w17 ⟨v158, rfl, ho0, hb⟩; refine ⟨_, rfl, ?_⟩; have n0_ := Aside0.mk (Kd.R_elder' (by (with_reducible repeat (first | apply Kd.R_alloc | apply Kd.R_drewN | apply Kd.R_drew)); exact HO153.out) (Kd.R_base ho0) hb); have n1_ := Aside0.mk (Kd.R_elder' (by (with_reducible repeat (first | apply Kd.R_alloc | apply Kd.R_drewN | apply Kd.R_drew)); exact HO156.out) (Kd.R_base ho0) hb); have n2_ := Aside0.mk (Kd.R_lower (Kd.R_new' (Kd.R_new' ho0 (Kd.R_lt (by (with_reducible repeat (first | apply Kd.R_alloc | apply Kd.R_drewN | apply Kd.R_drew)); exact HO153.out))) (Kd.R_lt (by (with_reducible repeat (first | apply Kd.R_alloc | apply Kd.R_drewN | apply Kd.R_drew)); exact HO156.out))) (below_size (by repeat (first | (with_reducible first | exact HB.out | apply below_alloc | apply pw_below_drewN | apply below_drew1 | refine below_set ?_ GE150.out) | exact HB.out)))); have n3_ := Aside0.mk (blk_below (g := gb150) (o := .cells #[.int .i64 a1_0, .int .i64 a1_1, .int .i64 a1_2, .int .i64 a1_3, .int .i64 a1_4, .bool true] 64 (0, 0)) (by (with_reducible repeat (first | refine blk_drewN ?_ _ | refine blk_drew ?_ | refine blk_alloc ?_ _)); exact BK150.out) hb); have n4_ := Aside0.mk (below_step (by repeat (first | (with_reducible first | exact HB.out | apply below_alloc | apply pw_below_drewN | apply below_drew1 | refine below_set ?_ GE150.out) | exact HB.out)) hb); clear HO153; clear HO156; clear BK150; clear HB; have HO153 := n0_; have HO156 := n1_; have HO159 := n2_; have BK150 := n3_; have HB := n4_; clear n0_ n1_ n2_ n3_ n4_; (try clear hb); (try clear hb2); (try clear hk); (try clear hi); (try clear ho0)))
    have n0_ := Aside0.mk (Kd.R_drew HO153.out)
    have n1_ := Aside0.mk (Kd.R_drew HO156.out)
    have n2_ := Aside0.mk (Kd.R_drew HO159.out)
    have n3_ := Aside0.mk (blk_drew BK150.out)
    have n4_ := Aside0.mk (below_drew1 HB.out)
    clear HO153
    clear HO156
    clear HO159
    clear BK150
    clear HB
    have HO153 := n0_
    have HO156 := n1_
    have HO159 := n2_
    have BK150 := n3_
    have HB := n4_
    clear n0_ n1_ n2_ n3_ n4_
    obtain ⟨Ao19, co19, eo19⟩ := Kd.R_slice HO159.out
    (first | subst eo19 | (injection eo19 with f1_ f2_ f3_; have f4_ := f1_.symm; have f5_ := f3_.symm; clear f1_ f2_ f3_; subst f4_; subst f5_))
    refine start_ (n := 12) (S := fun w' => w'.cell? ⟨gb150, 0, none⟩ = some (.int .i64 a1_0) ∧ w'.cell? ⟨gb150, 1, none⟩ = some (.int .i64 a1_1) ∧ w'.cell? ⟨gb150, 2, none⟩ = some (.int .i64 a1_2) ∧ w'.cell? ⟨gb150, 3, none⟩ = some (.int .i64 a1_3) ∧ w'.cell? ⟨gb150, 4, none⟩ = some (.int .i64 a1_4) ∧ w'.cell? ⟨gb150, 5, none⟩ = some (.bool true)) (ds := []) #[false, false, false, false, false, false, false, false, false, false, false, false] (by kernel_rfl) rfl rfl ⟨(blk_cell BK150.out 0).trans rfl, (blk_cell BK150.out 1).trans rfl, (blk_cell BK150.out 2).trans rfl, (blk_cell BK150.out 3).trans rfl, (blk_cell BK150.out 4).trans rfl, (blk_cell BK150.out 5).trans rfl⟩ (fun hHeld => ?_); refine with_tabW reply_edge.tab3 reply_edge.bits3 (fun HT_ HW_ => ?_)
    generalize w17.drew = w18 at HO153 HO156 HO159 BK150 HB hHeld ⊢
    refine pure_ (i := 0) (N := some 19) (v := ?_) (a' := ?_) #[true, false, false, false, false, false, false, false, false, false, false, false] rfl rfl (any_of HT_.out (by kernel_rfl)) (fun _ _ _ h => h) (Or.inl ⟨by rfl, ?_⟩) ?_ ?_
    rotate_left
    · intro w'
      go_simp
      with_reducible rfl
    rotate_left
    · simp only [Act.put, List.setIfInBounds_toArray, List.set_cons_zero, List.set_cons_succ, i64_w, i32_w]
      rfl
    refine pure_ (i := 1) (N := some 20) (v := ?_) (a' := ?_) #[true, true, false, false, false, false, false, false, false, false, false, false] rfl rfl (any_of HT_.out (by kernel_rfl)) (fun _ _ _ h => h) (Or.inl ⟨by rfl, ?_⟩) ?_ ?_
    rotate_left
    · intro w'
      go_simp
      with_reducible rfl
    rotate_left
    · simp only [Act.put, List.setIfInBounds_toArray, List.set_cons_zero, List.set_cons_succ, i64_w, i32_w]
      rfl
    refine pure_ (i := 2) (N := some 21) (v := ?_) (a' := ?_) #[true, true, true, false, false, false, false, false, false, false, false, false] rfl rfl (any_of HT_.out (by kernel_rfl)) (fun _ _ _ h => h) (Or.inl ⟨by rfl, ?_⟩) ?_ ?_
    rotate_left
    · intro w'
      go_simp
      with_reducible rfl
    rotate_left
    · simp only [Act.put, List.setIfInBounds_toArray, List.set_cons_zero, List.set_cons_succ, i64_w, i32_w]
      rfl
    refine pure_ (i := 6) (N := some 25) (v := ?_) (a' := ?_) #[true, true, true, false, false, false, true, false, false, false, false, false] rfl rfl (any_of HT_.out (by kernel_rfl)) (fun _ _ _ h => h) (Or.inl ⟨by rfl, ?_⟩) ?_ ?_
    rotate_left
    · intro w'
      go_simp
      with_reducible rfl
    rotate_left
    · simp only [Act.put, List.setIfInBounds_toArray, List.set_cons_zero, List.set_cons_succ, i64_w, i32_w]
      rfl
    refine pure_ (i := 7) (N := some 26) (v := ?_) (a' := ?_) #[true, true, true, false, false, false, true, true, false, false, false, false] rfl rfl (any_of HT_.out (by kernel_rfl)) (fun _ _ _ h => h) (Or.inl ⟨by rfl, ?_⟩) ?_ ?_
    rotate_left
    · intro w'
      go_simp
      with_reducible rfl
    rotate_left
    · simp only [Act.put, List.setIfInBounds_toArray, List.set_cons_zero, List.set_cons_succ, i64_w, i32_w]
      rfl
    refine take_ (i := 3) (N := some 22) (v := ?_) (a' := ?_) #[true, true, true, true, false, false, true, true, false, false, false, false] rfl rfl (take_ofW HT_.out HW_.out (by kernel_rfl)) (fun _ _ _ h => h) (Or.inl ⟨by rfl, ?_⟩) hHeld ?_ ?_
    rotate_left
    · rintro w' ⟨s0, s1, s2, s3, s4, s5⟩
      go_simp
      with_reducible rfl
    rotate_left
    · simp only [Act.put, List.setIfInBounds_toArray, List.set_cons_zero, List.set_cons_succ, i64_w, i32_w]
      rfl
    refine pure_ (i := 4) (N := some 23) (v := ?_) (a' := ?_) #[true, true, true, true, true, false, true, true, false, false, false, false] rfl rfl (any_of HT_.out (by kernel_rfl)) (fun _ _ _ h => h) (Or.inl ⟨by rfl, ?_⟩) ?_ ?_
    rotate_left
    · intro w'
      go_simp
      with_reducible rfl
    rotate_left
    · simp only [Act.put, List.setIfInBounds_toArray, List.set_cons_zero, List.set_cons_succ, i64_w, i32_w]
      rfl
    refine take_ (i := 8) (N := some 27) (v := ?_) (a' := ?_) #[true, true, true, true, true, false, true, true, true, false, false, false] rfl rfl (take_ofW HT_.out HW_.out (by kernel_rfl)) (fun _ _ _ h => h) (Or.inl ⟨by rfl, ?_⟩) hHeld ?_ ?_
    rotate_left
    · rintro w' ⟨s0, s1, s2, s3, s4, s5⟩
      go_simp
      with_reducible rfl
    rotate_left
    · simp only [Act.put, List.setIfInBounds_toArray, List.set_cons_zero, List.set_cons_succ, i64_w, i32_w]
      rfl
    refine pure_ (i := 9) (N := some 28) (v := ?_) (a' := ?_) #[true, true, true, true, true, false, true, true, true, true, false, false] rfl rfl (any_of HT_.out (by kernel_rfl)) (fun _ _ _ h => h) (Or.inl ⟨by rfl, ?_⟩) ?_ ?_
    rotate_left
    · intro w'
      go_simp
      with_reducible rfl
    rotate_left
    · simp only [Act.put, List.setIfInBounds_toArray, List.set_cons_zero, List.set_cons_succ, i64_w, i32_w]
      rfl
    refine one_ (i := 5) (N := some 24) #[true, true, true, true, true, true, true, true, true, true, false, false] rfl rfl (one_of HT_.out (by kernel_rfl)) (by decide) (fun K hK => ?_)
    refine goes_ Tryd.func19 (by kernel_rfl) rfl #[.slice Ao19 t157.length co19, .int .u64 (IntKind.u64.wrap (a1_3)), .int .i64 4] (by rfl) rfl rfl (by (try simp only [List.map_toArray, List.map_cons, List.map_nil]); first | done | rfl | (simp only [List.length_drop, List.length_take]; rfl)) ?_
    with_reducible refine (pack_Put.calls _ _ t157 (IntKind.u64.wrap (a1_3)) 4 t160 _ ?side1 ?side2 A6.out).mono ?_
    (case side1 => repeat (first | exact (Kd.R_reads' HO159.out).2.2 | (with_reducible refine Kd.C_alloc ?_ _) | (with_reducible refine Kd.C_drewN ?_ _) | (with_reducible refine Kd.C_drew ?_)))
    (case side2 => exact (Kd.R_reads' HO159.out).2.1)
    rintro e w20 ⟨v161, rfl, ho0, hb⟩
    refine ⟨_, rfl, ?_⟩
    have n0_ := Aside0.mk (Kd.R_elder' (by (with_reducible repeat (first | apply Kd.R_alloc | apply Kd.R_drewN | apply Kd.R_drew)); exact HO153.out) (Kd.R_base ho0) hb)
    have n1_ := Aside0.mk (Kd.R_elder' (by (with_reducible repeat (first | apply Kd.R_alloc | apply Kd.R_drewN | apply Kd.R_drew)); exact HO156.out) (Kd.R_base ho0) hb)
    have n2_ := Aside0.mk (Kd.R_elder' (by (with_reducible repeat (first | apply Kd.R_alloc | apply Kd.R_drewN | apply Kd.R_drew)); exact HO159.out) (Kd.R_base ho0) hb)
    have n3_ := Aside0.mk (Kd.R_lower (Kd.R_new' (Kd.R_new' (Kd.R_new' ho0 (Kd.R_lt (by (with_reducible repeat (first | apply Kd.R_alloc | apply Kd.R_drewN | apply Kd.R_drew)); exact HO153.out))) (Kd.R_lt (by (with_reducible repeat (first | apply Kd.R_alloc | apply Kd.R_drewN | apply Kd.R_drew)); exact HO156.out))) (Kd.R_lt (by (with_reducible repeat (first | apply Kd.R_alloc | apply Kd.R_drewN | apply Kd.R_drew)); exact HO159.out))) (below_size (by repeat (first | (with_reducible first | exact HB.out | apply below_alloc | apply pw_below_drewN | apply below_drew1 | refine below_set ?_ GE150.out) | exact HB.out))))
    have n4_ := Aside0.mk (blk_below (g := gb150) (o := .cells #[.int .i64 a1_0, .int .i64 a1_1, .int .i64 a1_2, .int .i64 a1_3, .int .i64 a1_4, .bool true] 64 (0, 0)) (by (with_reducible repeat (first | refine blk_drewN ?_ _ | refine blk_drew ?_ | refine blk_alloc ?_ _)); exact BK150.out) hb)
    have n5_ := Aside0.mk (below_step (by repeat (first | (with_reducible first | exact HB.out | apply below_alloc | apply pw_below_drewN | apply below_drew1 | refine below_set ?_ GE150.out) | exact HB.out)) hb)
    clear HO153
    clear HO156
    clear HO159
    clear BK150
    clear HB
    have HO153 := n0_
    have HO156 := n1_
    have HO159 := n2_
    have HO162 := n3_
    have BK150 := n4_
    have HB := n5_
    clear n0_ n1_ n2_ n3_ n4_ n5_
    (try clear hb)
    (try clear hb2)
    (try clear hk)
    (try clear hi)
    (try clear ho0)
    obtain ⟨Ao21, co21, eo21⟩ := Kd.R_slice HO162.out
    (first | subst eo21 | (injection eo21 with f1_ f2_ f3_; have f4_ := f1_.symm; have f5_ := f3_.symm; clear f1_ f2_ f3_; subst f4_; subst f5_))
    refine hK.out _ _ ⟨(blk_cell BK150.out 0).trans rfl, (blk_cell BK150.out 1).trans rfl, (blk_cell BK150.out 2).trans rfl, (blk_cell BK150.out 3).trans rfl, (blk_cell BK150.out 4).trans rfl, (blk_cell BK150.out 5).trans rfl⟩ (fun hHeld => ?_)
    clear hK K
    refine norm_ (a' := ?_) ?_ ?_
    rotate_left
    · show Act.put _ (some 24) _ = _
      simp only [Act.put, List.setIfInBounds_toArray, List.set_cons_zero, List.set_cons_succ, i64_w, i32_w]
      rfl
    refine one_ (i := 10) (N := some 29) #[true, true, true, true, true, true, true, true, true, true, true, false] rfl rfl (one_of HT_.out (by kernel_rfl)) (by decide) (fun K hK => ?_)
    refine goes_ Tryd.func19 (by kernel_rfl) rfl #[.slice Ao21 t160.length co21, .int .u64 (IntKind.u64.wrap (a1_4)), .int .i64 4] (by rfl) rfl rfl (by (try simp only [List.map_toArray, List.map_cons, List.map_nil]); first | done | rfl | (simp only [List.length_drop, List.length_take]; rfl)) ?_
    with_reducible refine (pack_Put.calls _ _ t160 (IntKind.u64.wrap (a1_4)) 4 t163 _ ?side1 ?side2 A7.out).mono ?_
    (case side1 => repeat (first | exact (Kd.R_reads' HO162.out).2.2 | (with_reducible refine Kd.C_alloc ?_ _) | (with_reducible refine Kd.C_drewN ?_ _) | (with_reducible refine Kd.C_drew ?_)))
    (case side2 => exact (Kd.R_reads' HO162.out).2.1)
    rintro e w22 ⟨v164, rfl, ho0, hb⟩
    refine ⟨_, rfl, ?_⟩
    have n0_ := Aside0.mk (Kd.R_elder' (by (with_reducible repeat (first | apply Kd.R_alloc | apply Kd.R_drewN | apply Kd.R_drew)); exact HO153.out) (Kd.R_base ho0) hb)
    have n1_ := Aside0.mk (Kd.R_elder' (by (with_reducible repeat (first | apply Kd.R_alloc | apply Kd.R_drewN | apply Kd.R_drew)); exact HO156.out) (Kd.R_base ho0) hb)
    have n2_ := Aside0.mk (Kd.R_elder' (by (with_reducible repeat (first | apply Kd.R_alloc | apply Kd.R_drewN | apply Kd.R_drew)); exact HO159.out) (Kd.R_base ho0) hb)
    have n3_ := Aside0.mk (Kd.R_elder' (by (with_reducible repeat (first | apply Kd.R_alloc | apply Kd.R_drewN | apply Kd.R_drew)); exact HO162.out) (Kd.R_base ho0) hb)
    have n4_ := Aside0.mk (Kd.R_lower (Kd.R_new' (Kd.R_new' (Kd.R_new' (Kd.R_new' ho0 (Kd.R_lt (by (with_reducible repeat (first | apply Kd.R_alloc | apply Kd.R_drewN | apply Kd.R_drew)); exact HO153.out))) (Kd.R_lt (by (with_reducible repeat (first | apply Kd.R_alloc | apply Kd.R_drewN | apply Kd.R_drew)); exact HO156.out))) (Kd.R_lt (by (with_reducible repeat (first | apply Kd.R_alloc | apply Kd.R_drewN | apply Kd.R_drew)); exact HO159.out))) (Kd.R_lt (by (with_reducible repeat (first | apply Kd.R_alloc | apply Kd.R_drewN | apply Kd.R_drew)); exact HO162.out))) (below_size (by repeat (first | (with_reducible first | exact HB.out | apply below_alloc | apply pw_below_drewN | apply below_drew1 | refine below_set ?_ GE150.out) | exact HB.out))))
    have n5_ := Aside0.mk (blk_below (g := gb150) (o := .cells #[.int .i64 a1_0, .int .i64 a1_1, .int .i64 a1_2, .int .i64 a1_3, .int .i64 a1_4, .bool true] 64 (0, 0)) (by (with_reducible repeat (first | refine blk_drewN ?_ _ | refine blk_drew ?_ | refine blk_alloc ?_ _)); exact BK150.out) hb)
    have n6_ := Aside0.mk (below_step (by repeat (first | (with_reducible first | exact HB.out | apply below_alloc | apply pw_below_drewN | apply below_drew1 | refine below_set ?_ GE150.out) | exact HB.out)) hb)
    clear HO153
    clear HO156
    clear HO159
    clear HO162
    clear BK150
    clear HB
    have HO153 := n0_
    have HO156 := n1_
    have HO159 := n2_
    have HO162 := n3_
    have HO165 := n4_
    have BK150 := n5_
    have HB := n6_
    clear n0_ n1_ n2_ n3_ n4_ n5_ n6_
    (try clear hb)
    (try clear hb2)
    (try clear hk)
    (try clear hi)
    (try clear ho0)
    refine hK.out _ _ ⟨(blk_cell BK150.out 0).trans rfl, (blk_cell BK150.out 1).trans rfl, (blk_cell BK150.out 2).trans rfl, (blk_cell BK150.out 3).trans rfl, (blk_cell BK150.out 4).trans rfl, (blk_cell BK150.out 5).trans rfl⟩ (fun hHeld => ?_)
    clear hK K
    refine norm_ (a' := ?_) ?_ ?_
    rotate_left
    · show Act.put _ (some 29) _ = _
      simp only [Act.put, List.setIfInBounds_toArray, List.set_cons_zero, List.set_cons_succ, i64_w, i32_w]
      rfl
    refine pure_ (i := 11) (N := some 0) (v := ?_) (a' := ?_) #[true, true, true, true, true, true, true, true, true, true, true, true] rfl rfl (any_of HT_.out (by kernel_rfl)) (fun _ _ _ h => h) (Or.inl ⟨by rfl, ?_⟩) ?_ ?_
    rotate_left
    · intro w'
      go_simp
      with_reducible rfl
    rotate_left
    · simp only [Act.put, List.setIfInBounds_toArray, List.set_cons_zero, List.set_cons_succ, i64_w, i32_w]
      rfl
    refine done_ (done_of HT_.out (by kernel_rfl)) ?_
    have hcz23_0 : w22.cell? ⟨gb150, 0, none⟩ = some (.int .i64 a1_0) := (blk_cell BK150.out 0).trans rfl
    have hcz23_1 : w22.cell? ⟨gb150, 1, none⟩ = some (.int .i64 a1_1) := (blk_cell BK150.out 1).trans rfl
    have hcz23_2 : w22.cell? ⟨gb150, 2, none⟩ = some (.int .i64 a1_2) := (blk_cell BK150.out 2).trans rfl
    have hcz23_3 : w22.cell? ⟨gb150, 3, none⟩ = some (.int .i64 a1_3) := (blk_cell BK150.out 3).trans rfl
    have hcz23_4 : w22.cell? ⟨gb150, 4, none⟩ = some (.int .i64 a1_4) := (blk_cell BK150.out 4).trans rfl
    have hcz23_5 : w22.cell? ⟨gb150, 5, none⟩ = some (.bool true) := (blk_cell BK150.out 5).trans rfl
    have hfz23_0 := blk_frozen BK150.out 0
    have hfz23_1 := blk_frozen BK150.out 1
    have hfz23_2 := blk_frozen BK150.out 2
    have hfz23_3 := blk_frozen BK150.out 3
    have hfz23_4 := blk_frozen BK150.out 4
    have hfz23_5 := blk_frozen BK150.out 5
    obtain ⟨Ao24, co24, eo24⟩ := Kd.R_slice HO165.out
    subst eo24
    try go_wp2_with (first | ((with_reducible refine gate_callee (f := 19) rfl ?_); refine goesL_ (some 33) rfl rfl Tryd.func19 (by kernel_rfl) rfl #[.slice Ao24 t163.length co24, .int .u64 1, .int .i64 1] rfl (by (try simp only [List.map_toArray, List.map_cons, List.map_nil]); first | done | rfl | (simp only [List.length_drop, List.length_take]; rfl)) ?_; (with_reducible refine (pack_Put.calls _ _ t163 1 1 t166 _ ?side1 ?side2 A9.out).mono ?_); (case side1 => repeat (first | exact (Kd.R_reads' HO165.out).2.2 | (with_reducible refine Kd.C_alloc ?_ _) | (with_reducible refine Kd.C_drewN ?_ _) | (with_reducible refine Kd.C_drew ?_))); (case side2 => exact (Kd.R_reads' HO165.out).2.1); rintro e w25 ⟨v167, rfl, ho0, hb⟩; refine ⟨_, rfl, ?_⟩; have n0_ := Aside0.mk (Kd.R_elder' (by (with_reducible repeat (first | apply Kd.R_alloc | apply Kd.R_drewN | apply Kd.R_drew)); exact HO153.out) (Kd.R_base ho0) hb); have n1_ := Aside0.mk (Kd.R_elder' (by (with_reducible repeat (first | apply Kd.R_alloc | apply Kd.R_drewN | apply Kd.R_drew)); exact HO156.out) (Kd.R_base ho0) hb); have n2_ := Aside0.mk (Kd.R_elder' (by (with_reducible repeat (first | apply Kd.R_alloc | apply Kd.R_drewN | apply Kd.R_drew)); exact HO159.out) (Kd.R_base ho0) hb); have n3_ := Aside0.mk (Kd.R_elder' (by (with_reducible repeat (first | apply Kd.R_alloc | apply Kd.R_drewN | apply Kd.R_drew)); exact HO162.out) (Kd.R_base ho0) hb); have n4_ := Aside0.mk (Kd.R_elder' (by (with_reducible repeat (first | apply Kd.R_alloc | apply Kd.R_drewN | apply Kd.R_drew)); exact HO165.out) (Kd.R_base ho0) hb); have n5_ := Aside0.mk (Kd.R_lower (Kd.R_new' (Kd.R_new' (Kd.R_new' (Kd.R_new' (Kd.R_new' ho0 (Kd.R_lt (by (with_reducible repeat (first | apply Kd.R_alloc | apply Kd.R_drewN | apply Kd.R_drew)); exact HO153.out))) (Kd.R_lt (by (with_reducible repeat (first | apply Kd.R_alloc | apply Kd.R_drewN | apply Kd.R_drew)); exact HO156.out))) (Kd.R_lt (by (with_reducible repeat (first | apply Kd.R_alloc | apply Kd.R_drewN | apply Kd.R_drew)); exact HO159.out))) (Kd.R_lt (by (with_reducible repeat (first | apply Kd.R_alloc | apply Kd.R_drewN | apply Kd.R_drew)); exact HO162.out))) (Kd.R_lt (by (with_reducible repeat (first | apply Kd.R_alloc | apply Kd.R_drewN | apply Kd.R_drew)); exact HO165.out))) (below_size (by repeat (first | (with_reducible first | exact HB.out | apply below_alloc | apply pw_below_drewN | apply below_drew1 | refine below_set ?_ GE150.out) | exact HB.out)))); have n6_ := Aside0.mk (blk_below (g := gb150) (o := .cells #[.int .i64 a1_0, .int .i64 a1_1, .int .i64 a1_2, .int .i64 a1_3, .int .i64 a1_4, .bool true] 64 (0, 0)) (by (with_reducible repeat (first | refine blk_drewN ?_ _ | refine blk_drew ?_ | refine blk_alloc ?_ _)); exact BK150.out) hb); have n7_ := Aside0.mk (below_step (by repeat (first | (with_reducible first | exact HB.out | apply below_alloc | apply pw_below_drewN | apply below_drew1 | refine below_set ?_ GE150.out) | exact HB.out)) hb); clear HO153; clear HO156; clear HO159; clear HO162; clear HO165; clear BK150; clear HB; have HO153 := n0_; have HO156 := n1_; have HO159 := n2_; have HO162 := n3_; have HO165 := n4_; have HO168 := n5_; have BK150 := n6_; have HB := n7_; clear n0_ n1_ n2_ n3_ n4_ n5_ n6_ n7_; (try clear hb); (try clear hb2); (try clear hk); (try clear hi); (try clear ho0)))
    go_ret
    exact ⟨_, by first | rfl | (simp [errW_none, errW_some] <;> rfl) | (simp [*, errW_none, errW_some] <;> rfl), by (with_reducible repeat (first | apply Kd.R_alloc | apply Kd.R_drewN | apply Kd.R_drew)); exact Kd.R_mono HO168.out (fun _ hk => trivial), by repeat (first | (with_reducible first | exact HB.out | apply below_alloc | apply pw_below_drewN | apply below_drew1 | refine below_set ?_ GE150.out) | exact HB.out)⟩
  · replace c8 := Bool.eq_false_iff.mpr c8
    subst c8
    have H1 : ((pack_Put.f t163 0 1).bind fun t169 => (some t169)) = some r := by rw [if_neg (show ¬ (false = true) by decide)] at H; exact H
    clear H
    have H := H1
    clear H1
    replace H := Option.bind_eq_some_iff.mp H
    obtain ⟨t169, A260, H⟩ := H
    replace H : (some t169) = some r := H
    have A26 := Aside0.mk A260
    clear A260
    obtain rfl := Option.some.inj H
    go_enter Tryd.func23, Tryd.ntmps23
    try go_wp2_with (first | ((with_reducible refine gate_dst (N := 3) rfl ?_); refine box_event ?hg (N := 3) ?hd (cs := #[.int .i64 a1_0, .int .i64 a1_1, .int .i64 a1_2, .int .i64 a1_3, .int .i64 a1_4, .bool false]) (t := 64) ?hr ?_; (case hd => rfl); (case hg => rfl); (case hr => first | (go_simp; done) | (go_simp; rfl)); intro gb150 hg w27 hbox hb; have n0_ := Aside0.mk (below_step (by repeat (first | (with_reducible first | exact HB.out | apply below_alloc | apply pw_below_drewN | apply below_drew1) | exact HB.out)) hb); have n1_ := Aside0.mk (hbox); have n2_ := Aside0.mk ((by rw [hg]; exact (below_size (by repeat (first | (with_reducible first | exact HB.out | apply below_alloc | apply pw_below_drewN | apply below_drew1) | exact HB.out))) : w.heap.size ≤ gb150)); have n3_ := Aside0.mk ((by rw [hg]; exact (below_size (by repeat (first | (with_reducible first | exact HB.out | apply below_alloc | apply pw_below_drewN | apply below_drew1) | exact HB.out))) : w.heap.size ≤ gb150)); clear HB; have HB := n0_; have BK150 := n1_; have GW150 := n2_; have GE150 := n3_; clear n0_ n1_ n2_ n3_; clear hb hbox hg))
    have n0_ := Aside0.mk (blk_drew BK150.out)
    have n1_ := Aside0.mk (below_drew1 HB.out)
    clear BK150
    clear HB
    have BK150 := n0_
    have HB := n1_
    clear n0_ n1_
    refine start_ (n := 10) (S := fun w' => w'.cell? ⟨gb150, 0, none⟩ = some (.int .i64 a1_0) ∧ w'.cell? ⟨gb150, 1, none⟩ = some (.int .i64 a1_1) ∧ w'.cell? ⟨gb150, 2, none⟩ = some (.int .i64 a1_2) ∧ w'.cell? ⟨gb150, 3, none⟩ = some (.int .i64 a1_3) ∧ w'.cell? ⟨gb150, 4, none⟩ = some (.int .i64 a1_4) ∧ w'.cell? ⟨gb150, 5, none⟩ = some (.bool false)) (ds := []) #[false, false, false, false, false, false, false, false, false, false] (by kernel_rfl) rfl rfl ⟨(blk_cell BK150.out 0).trans rfl, (blk_cell BK150.out 1).trans rfl, (blk_cell BK150.out 2).trans rfl, (blk_cell BK150.out 3).trans rfl, (blk_cell BK150.out 4).trans rfl, (blk_cell BK150.out 5).trans rfl⟩ (fun hHeld => ?_); refine with_tabW reply_edge.tab1 reply_edge.bits1 (fun HT_ HW_ => ?_)
    generalize w27.drew = w28 at BK150 HB hHeld ⊢
    refine pure_ (i := 0) (N := some 5) (v := ?_) (a' := ?_) #[true, false, false, false, false, false, false, false, false, false] rfl rfl (any_of HT_.out (by kernel_rfl)) (fun _ _ _ h => h) (Or.inl ⟨by rfl, ?_⟩) ?_ ?_
    rotate_left
    · intro w'
      go_simp
      with_reducible rfl
    rotate_left
    · simp only [Act.put, List.setIfInBounds_toArray, List.set_cons_zero, List.set_cons_succ, i64_w, i32_w]
      rfl
    refine pure_ (i := 1) (N := some 6) (v := ?_) (a' := ?_) #[true, true, false, false, false, false, false, false, false, false] rfl rfl (any_of HT_.out (by kernel_rfl)) (fun _ _ _ h => h) (Or.inl ⟨by rfl, ?_⟩) ?_ ?_
    rotate_left
    · intro w'
      go_simp
      with_reducible rfl
    rotate_left
    · simp only [Act.put, List.setIfInBounds_toArray, List.set_cons_zero, List.set_cons_succ, i64_w, i32_w]
      rfl
    refine pure_ (i := 5) (N := some 10) (v := ?_) (a' := ?_) #[true, true, false, false, false, true, false, false, false, false] rfl rfl (any_of HT_.out (by kernel_rfl)) (fun _ _ _ h => h) (Or.inl ⟨by rfl, ?_⟩) ?_ ?_
    rotate_left
    · intro w'
      go_simp
      with_reducible rfl
    rotate_left
    · simp only [Act.put, List.setIfInBounds_toArray, List.set_cons_zero, List.set_cons_succ, i64_w, i32_w]
      rfl
    refine take_ (i := 2) (N := some 7) (v := ?_) (a' := ?_) #[true, true, true, false, false, true, false, false, false, false] rfl rfl (take_ofW HT_.out HW_.out (by kernel_rfl)) (fun _ _ _ h => h) (Or.inl ⟨by rfl, ?_⟩) hHeld ?_ ?_
    rotate_left
    · rintro w' ⟨s0, s1, s2, s3, s4, s5⟩
      go_simp
      with_reducible rfl
    rotate_left
    · simp only [Act.put, List.setIfInBounds_toArray, List.set_cons_zero, List.set_cons_succ, i64_w, i32_w]
      rfl
    refine pure_ (i := 3) (N := some 8) (v := ?_) (a' := ?_) #[true, true, true, true, false, true, false, false, false, false] rfl rfl (any_of HT_.out (by kernel_rfl)) (fun _ _ _ h => h) (Or.inl ⟨by rfl, ?_⟩) ?_ ?_
    rotate_left
    · intro w'
      go_simp
      with_reducible rfl
    rotate_left
    · simp only [Act.put, List.setIfInBounds_toArray, List.set_cons_zero, List.set_cons_succ, i64_w, i32_w]
      rfl
    refine take_ (i := 6) (N := some 11) (v := ?_) (a' := ?_) #[true, true, true, true, false, true, true, false, false, false] rfl rfl (take_ofW HT_.out HW_.out (by kernel_rfl)) (fun _ _ _ h => h) (Or.inl ⟨by rfl, ?_⟩) hHeld ?_ ?_
    rotate_left
    · rintro w' ⟨s0, s1, s2, s3, s4, s5⟩
      go_simp
      with_reducible rfl
    rotate_left
    · simp only [Act.put, List.setIfInBounds_toArray, List.set_cons_zero, List.set_cons_succ, i64_w, i32_w]
      rfl
    refine pure_ (i := 7) (N := some 12) (v := ?_) (a' := ?_) #[true, true, true, true, false, true, true, true, false, false] rfl rfl (any_of HT_.out (by kernel_rfl)) (fun _ _ _ h => h) (Or.inl ⟨by rfl, ?_⟩) ?_ ?_
    rotate_left
    · intro w'
      go_simp
      with_reducible rfl
    rotate_left
    · simp only [Act.put, List.setIfInBounds_toArray, List.set_cons_zero, List.set_cons_succ, i64_w, i32_w]
      rfl
    refine one_ (i := 4) (N := some 9) #[true, true, true, true, true, true, true, true, false, false] rfl rfl (one_of HT_.out (by kernel_rfl)) (by decide) (fun K hK => ?_)
    refine goes_ Tryd.func19 (by kernel_rfl) rfl #[.slice A0 l0.length c0, .int .u64 (IntKind.u64.wrap (a1_0)), .int .i64 1] (by rfl) rfl rfl (by (try simp only [List.map_toArray, List.map_cons, List.map_nil]); first | done | rfl | (simp only [List.length_drop, List.length_take]; rfl)) ?_
    with_reducible refine (pack_Put.calls _ _ l0 (IntKind.u64.wrap (a1_0)) 1 t151 _ ?side1 ?side2 A3.out).mono ?_
    (case side1 => repeat (first | exact (Kd.C_below HR0.out HB.out) | (with_reducible refine Kd.C_alloc ?_ _) | (with_reducible refine Kd.C_drewN ?_ _) | (with_reducible refine Kd.C_drew ?_)))
    (case side2 => exact HC0.out)
    rintro e w29 ⟨v152, rfl, ho0, hb⟩
    refine ⟨_, rfl, ?_⟩
    have n0_ := Aside0.mk (Kd.R_lower ho0 (below_size (by repeat (first | (with_reducible first | exact HB.out | apply below_alloc | apply pw_below_drewN | apply below_drew1 | refine below_set ?_ GE150.out) | exact HB.out))))
    have n1_ := Aside0.mk (blk_below (g := gb150) (o := .cells #[.int .i64 a1_0, .int .i64 a1_1, .int .i64 a1_2, .int .i64 a1_3, .int .i64 a1_4, .bool false] 64 (0, 0)) (by (with_reducible repeat (first | refine blk_drewN ?_ _ | refine blk_drew ?_ | refine blk_alloc ?_ _)); exact BK150.out) hb)
    have n2_ := Aside0.mk (below_step (by repeat (first | (with_reducible first | exact HB.out | apply below_alloc | apply pw_below_drewN | apply below_drew1 | refine below_set ?_ GE150.out) | exact HB.out)) hb)
    clear BK150
    clear HB
    have HO153 := n0_
    have BK150 := n1_
    have HB := n2_
    clear n0_ n1_ n2_
    (try clear hb)
    (try clear hb2)
    (try clear hk)
    (try clear hi)
    (try clear ho0)
    obtain ⟨Ao30, co30, eo30⟩ := Kd.R_slice HO153.out
    (first | subst eo30 | (injection eo30 with f1_ f2_ f3_; have f4_ := f1_.symm; have f5_ := f3_.symm; clear f1_ f2_ f3_; subst f4_; subst f5_))
    refine hK.out _ _ ⟨(blk_cell BK150.out 0).trans rfl, (blk_cell BK150.out 1).trans rfl, (blk_cell BK150.out 2).trans rfl, (blk_cell BK150.out 3).trans rfl, (blk_cell BK150.out 4).trans rfl, (blk_cell BK150.out 5).trans rfl⟩ (fun hHeld => ?_)
    clear hK K
    refine norm_ (a' := ?_) ?_ ?_
    rotate_left
    · show Act.put _ (some 9) _ = _
      simp only [Act.put, List.setIfInBounds_toArray, List.set_cons_zero, List.set_cons_succ, i64_w, i32_w]
      rfl
    refine one_ (i := 8) (N := some 13) #[true, true, true, true, true, true, true, true, true, false] rfl rfl (one_of HT_.out (by kernel_rfl)) (by decide) (fun K hK => ?_)
    refine goes_ Tryd.func19 (by kernel_rfl) rfl #[.slice Ao30 t151.length co30, .int .u64 (IntKind.u64.wrap (a1_1)), .int .i64 1] (by rfl) rfl rfl (by (try simp only [List.map_toArray, List.map_cons, List.map_nil]); first | done | rfl | (simp only [List.length_drop, List.length_take]; rfl)) ?_
    with_reducible refine (pack_Put.calls _ _ t151 (IntKind.u64.wrap (a1_1)) 1 t154 _ ?side1 ?side2 A4.out).mono ?_
    (case side1 => repeat (first | exact (Kd.R_reads' HO153.out).2.2 | (with_reducible refine Kd.C_alloc ?_ _) | (with_reducible refine Kd.C_drewN ?_ _) | (with_reducible refine Kd.C_drew ?_)))
    (case side2 => exact (Kd.R_reads' HO153.out).2.1)
    rintro e w31 ⟨v155, rfl, ho0, hb⟩
    refine ⟨_, rfl, ?_⟩
    have n0_ := Aside0.mk (Kd.R_elder' (by (with_reducible repeat (first | apply Kd.R_alloc | apply Kd.R_drewN | apply Kd.R_drew)); exact HO153.out) (Kd.R_base ho0) hb)
    have n1_ := Aside0.mk (Kd.R_lower (Kd.R_new' ho0 (Kd.R_lt (by (with_reducible repeat (first | apply Kd.R_alloc | apply Kd.R_drewN | apply Kd.R_drew)); exact HO153.out))) (below_size (by repeat (first | (with_reducible first | exact HB.out | apply below_alloc | apply pw_below_drewN | apply below_drew1 | refine below_set ?_ GE150.out) | exact HB.out))))
    have n2_ := Aside0.mk (blk_below (g := gb150) (o := .cells #[.int .i64 a1_0, .int .i64 a1_1, .int .i64 a1_2, .int .i64 a1_3, .int .i64 a1_4, .bool false] 64 (0, 0)) (by (with_reducible repeat (first | refine blk_drewN ?_ _ | refine blk_drew ?_ | refine blk_alloc ?_ _)); exact BK150.out) hb)
    have n3_ := Aside0.mk (below_step (by repeat (first | (with_reducible first | exact HB.out | apply below_alloc | apply pw_below_drewN | apply below_drew1 | refine below_set ?_ GE150.out) | exact HB.out)) hb)
    clear HO153
    clear BK150
    clear HB
    have HO153 := n0_
    have HO156 := n1_
    have BK150 := n2_
    have HB := n3_
    clear n0_ n1_ n2_ n3_
    (try clear hb)
    (try clear hb2)
    (try clear hk)
    (try clear hi)
    (try clear ho0)
    refine hK.out _ _ ⟨(blk_cell BK150.out 0).trans rfl, (blk_cell BK150.out 1).trans rfl, (blk_cell BK150.out 2).trans rfl, (blk_cell BK150.out 3).trans rfl, (blk_cell BK150.out 4).trans rfl, (blk_cell BK150.out 5).trans rfl⟩ (fun hHeld => ?_)
    clear hK K
    refine norm_ (a' := ?_) ?_ ?_
    rotate_left
    · show Act.put _ (some 13) _ = _
      simp only [Act.put, List.setIfInBounds_toArray, List.set_cons_zero, List.set_cons_succ, i64_w, i32_w]
      rfl
    refine pure_ (i := 9) (N := some 0) (v := ?_) (a' := ?_) #[true, true, true, true, true, true, true, true, true, true] rfl rfl (any_of HT_.out (by kernel_rfl)) (fun _ _ _ h => h) (Or.inl ⟨by rfl, ?_⟩) ?_ ?_
    rotate_left
    · intro w'
      go_simp
      with_reducible rfl
    rotate_left
    · simp only [Act.put, List.setIfInBounds_toArray, List.set_cons_zero, List.set_cons_succ, i64_w, i32_w]
      rfl
    refine done_ (done_of HT_.out (by kernel_rfl)) ?_
    have hcz32_0 : w31.cell? ⟨gb150, 0, none⟩ = some (.int .i64 a1_0) := (blk_cell BK150.out 0).trans rfl
    have hcz32_1 : w31.cell? ⟨gb150, 1, none⟩ = some (.int .i64 a1_1) := (blk_cell BK150.out 1).trans rfl
    have hcz32_2 : w31.cell? ⟨gb150, 2, none⟩ = some (.int .i64 a1_2) := (blk_cell BK150.out 2).trans rfl
    have hcz32_3 : w31.cell? ⟨gb150, 3, none⟩ = some (.int .i64 a1_3) := (blk_cell BK150.out 3).trans rfl
    have hcz32_4 : w31.cell? ⟨gb150, 4, none⟩ = some (.int .i64 a1_4) := (blk_cell BK150.out 4).trans rfl
    have hcz32_5 : w31.cell? ⟨gb150, 5, none⟩ = some (.bool false) := (blk_cell BK150.out 5).trans rfl
    have hfz32_0 := blk_frozen BK150.out 0
    have hfz32_1 := blk_frozen BK150.out 1
    have hfz32_2 := blk_frozen BK150.out 2
    have hfz32_3 := blk_frozen BK150.out 3
    have hfz32_4 := blk_frozen BK150.out 4
    have hfz32_5 := blk_frozen BK150.out 5
    obtain ⟨Ao33, co33, eo33⟩ := Kd.R_slice HO156.out
    subst eo33
    try go_wp2_with (first | ((with_reducible refine gate_callee (f := 19) rfl ?_); refine goesL_ (some 18) rfl rfl Tryd.func19 (by kernel_rfl) rfl #[.slice Ao33 t154.length co33, .int .u64 (IntKind.u64.wrap (a1_2)), .int .i64 8] rfl (by (try simp only [List.map_toArray, List.map_cons, List.map_nil]); first | done | rfl | (simp only [List.length_drop, List.length_take]; rfl)) ?_; (with_reducible refine (pack_Put.calls _ _ t154 (IntKind.u64.wrap (a1_2)) 8 t157 _ ?side1 ?side2 A5.out).mono ?_); (case side1 => repeat (first | exact (Kd.R_reads' HO156.out).2.2 | (with_reducible refine Kd.C_alloc ?_ _) | (with_reducible refine Kd.C_drewN ?_ _) | (with_reducible refine Kd.C_drew ?_))); (case side2 => exact (Kd.R_reads' HO156.out).2.1); rintro e w34 ⟨v158, rfl, ho0, hb⟩; refine ⟨_, rfl, ?_⟩; have n0_ := Aside0.mk (Kd.R_elder' (by (with_reducible repeat (first | apply Kd.R_alloc | apply Kd.R_drewN | apply Kd.R_drew)); exact HO153.out) (Kd.R_base ho0) hb); have n1_ := Aside0.mk (Kd.R_elder' (by (with_reducible repeat (first | apply Kd.R_alloc | apply Kd.R_drewN | apply Kd.R_drew)); exact HO156.out) (Kd.R_base ho0) hb); have n2_ := Aside0.mk (Kd.R_lower (Kd.R_new' (Kd.R_new' ho0 (Kd.R_lt (by (with_reducible repeat (first | apply Kd.R_alloc | apply Kd.R_drewN | apply Kd.R_drew)); exact HO153.out))) (Kd.R_lt (by (with_reducible repeat (first | apply Kd.R_alloc | apply Kd.R_drewN | apply Kd.R_drew)); exact HO156.out))) (below_size (by repeat (first | (with_reducible first | exact HB.out | apply below_alloc | apply pw_below_drewN | apply below_drew1 | refine below_set ?_ GE150.out) | exact HB.out)))); have n3_ := Aside0.mk (blk_below (g := gb150) (o := .cells #[.int .i64 a1_0, .int .i64 a1_1, .int .i64 a1_2, .int .i64 a1_3, .int .i64 a1_4, .bool false] 64 (0, 0)) (by (with_reducible repeat (first | refine blk_drewN ?_ _ | refine blk_drew ?_ | refine blk_alloc ?_ _)); exact BK150.out) hb); have n4_ := Aside0.mk (below_step (by repeat (first | (with_reducible first | exact HB.out | apply below_alloc | apply pw_below_drewN | apply below_drew1 | refine below_set ?_ GE150.out) | exact HB.out)) hb); clear HO153; clear HO156; clear BK150; clear HB; have HO153 := n0_; have HO156 := n1_; have HO159 := n2_; have BK150 := n3_; have HB := n4_; clear n0_ n1_ n2_ n3_ n4_; (try clear hb); (try clear hb2); (try clear hk); (try clear hi); (try clear ho0)))
    have n0_ := Aside0.mk (Kd.R_drew HO153.out)
    have n1_ := Aside0.mk (Kd.R_drew HO156.out)
    have n2_ := Aside0.mk (Kd.R_drew HO159.out)
    have n3_ := Aside0.mk (blk_drew BK150.out)
    have n4_ := Aside0.mk (below_drew1 HB.out)
    clear HO153
    clear HO156
    clear HO159
    clear BK150
    clear HB
    have HO153 := n0_
    have HO156 := n1_
    have HO159 := n2_
    have BK150 := n3_
    have HB := n4_
    clear n0_ n1_ n2_ n3_ n4_
    obtain ⟨Ao36, co36, eo36⟩ := Kd.R_slice HO159.out
    (first | subst eo36 | (injection eo36 with f1_ f2_ f3_; have f4_ := f1_.symm; have f5_ := f3_.symm; clear f1_ f2_ f3_; subst f4_; subst f5_))
    refine start_ (n := 12) (S := fun w' => w'.cell? ⟨gb150, 0, none⟩ = some (.int .i64 a1_0) ∧ w'.cell? ⟨gb150, 1, none⟩ = some (.int .i64 a1_1) ∧ w'.cell? ⟨gb150, 2, none⟩ = some (.int .i64 a1_2) ∧ w'.cell? ⟨gb150, 3, none⟩ = some (.int .i64 a1_3) ∧ w'.cell? ⟨gb150, 4, none⟩ = some (.int .i64 a1_4) ∧ w'.cell? ⟨gb150, 5, none⟩ = some (.bool false)) (ds := []) #[false, false, false, false, false, false, false, false, false, false, false, false] (by kernel_rfl) rfl rfl ⟨(blk_cell BK150.out 0).trans rfl, (blk_cell BK150.out 1).trans rfl, (blk_cell BK150.out 2).trans rfl, (blk_cell BK150.out 3).trans rfl, (blk_cell BK150.out 4).trans rfl, (blk_cell BK150.out 5).trans rfl⟩ (fun hHeld => ?_); refine with_tabW reply_edge.tab3 reply_edge.bits3 (fun HT_ HW_ => ?_)
    generalize w34.drew = w35 at HO153 HO156 HO159 BK150 HB hHeld ⊢
    refine pure_ (i := 0) (N := some 19) (v := ?_) (a' := ?_) #[true, false, false, false, false, false, false, false, false, false, false, false] rfl rfl (any_of HT_.out (by kernel_rfl)) (fun _ _ _ h => h) (Or.inl ⟨by rfl, ?_⟩) ?_ ?_
    rotate_left
    · intro w'
      go_simp
      with_reducible rfl
    rotate_left
    · simp only [Act.put, List.setIfInBounds_toArray, List.set_cons_zero, List.set_cons_succ, i64_w, i32_w]
      rfl
    refine pure_ (i := 1) (N := some 20) (v := ?_) (a' := ?_) #[true, true, false, false, false, false, false, false, false, false, false, false] rfl rfl (any_of HT_.out (by kernel_rfl)) (fun _ _ _ h => h) (Or.inl ⟨by rfl, ?_⟩) ?_ ?_
    rotate_left
    · intro w'
      go_simp
      with_reducible rfl
    rotate_left
    · simp only [Act.put, List.setIfInBounds_toArray, List.set_cons_zero, List.set_cons_succ, i64_w, i32_w]
      rfl
    refine pure_ (i := 2) (N := some 21) (v := ?_) (a' := ?_) #[true, true, true, false, false, false, false, false, false, false, false, false] rfl rfl (any_of HT_.out (by kernel_rfl)) (fun _ _ _ h => h) (Or.inl ⟨by rfl, ?_⟩) ?_ ?_
    rotate_left
    · intro w'
      go_simp
      with_reducible rfl
    rotate_left
    · simp only [Act.put, List.setIfInBounds_toArray, List.set_cons_zero, List.set_cons_succ, i64_w, i32_w]
      rfl
    refine pure_ (i := 6) (N := some 25) (v := ?_) (a' := ?_) #[true, true, true, false, false, false, true, false, false, false, false, false] rfl rfl (any_of HT_.out (by kernel_rfl)) (fun _ _ _ h => h) (Or.inl ⟨by rfl, ?_⟩) ?_ ?_
    rotate_left
    · intro w'
      go_simp
      with_reducible rfl
    rotate_left
    · simp only [Act.put, List.setIfInBounds_toArray, List.set_cons_zero, List.set_cons_succ, i64_w, i32_w]
      rfl
    refine pure_ (i := 7) (N := some 26) (v := ?_) (a' := ?_) #[true, true, true, false, false, false, true, true, false, false, false, false] rfl rfl (any_of HT_.out (by kernel_rfl)) (fun _ _ _ h => h) (Or.inl ⟨by rfl, ?_⟩) ?_ ?_
    rotate_left
    · intro w'
      go_simp
      with_reducible rfl
    rotate_left
    · simp only [Act.put, List.setIfInBounds_toArray, List.set_cons_zero, List.set_cons_succ, i64_w, i32_w]
      rfl
    refine take_ (i := 3) (N := some 22) (v := ?_) (a' := ?_) #[true, true, true, true, false, false, true, true, false, false, false, false] rfl rfl (take_ofW HT_.out HW_.out (by kernel_rfl)) (fun _ _ _ h => h) (Or.inl ⟨by rfl, ?_⟩) hHeld ?_ ?_
    rotate_left
    · rintro w' ⟨s0, s1, s2, s3, s4, s5⟩
      go_simp
      with_reducible rfl
    rotate_left
    · simp only [Act.put, List.setIfInBounds_toArray, List.set_cons_zero, List.set_cons_succ, i64_w, i32_w]
      rfl
    refine pure_ (i := 4) (N := some 23) (v := ?_) (a' := ?_) #[true, true, true, true, true, false, true, true, false, false, false, false] rfl rfl (any_of HT_.out (by kernel_rfl)) (fun _ _ _ h => h) (Or.inl ⟨by rfl, ?_⟩) ?_ ?_
    rotate_left
    · intro w'
      go_simp
      with_reducible rfl
    rotate_left
    · simp only [Act.put, List.setIfInBounds_toArray, List.set_cons_zero, List.set_cons_succ, i64_w, i32_w]
      rfl
    refine take_ (i := 8) (N := some 27) (v := ?_) (a' := ?_) #[true, true, true, true, true, false, true, true, true, false, false, false] rfl rfl (take_ofW HT_.out HW_.out (by kernel_rfl)) (fun _ _ _ h => h) (Or.inl ⟨by rfl, ?_⟩) hHeld ?_ ?_
    rotate_left
    · rintro w' ⟨s0, s1, s2, s3, s4, s5⟩
      go_simp
      with_reducible rfl
    rotate_left
    · simp only [Act.put, List.setIfInBounds_toArray, List.set_cons_zero, List.set_cons_succ, i64_w, i32_w]
      rfl
    refine pure_ (i := 9) (N := some 28) (v := ?_) (a' := ?_) #[true, true, true, true, true, false, true, true, true, true, false, false] rfl rfl (any_of HT_.out (by kernel_rfl)) (fun _ _ _ h => h) (Or.inl ⟨by rfl, ?_⟩) ?_ ?_
    rotate_left
    · intro w'
      go_simp
      with_reducible rfl
    rotate_left
    · simp only [Act.put, List.setIfInBounds_toArray, List.set_cons_zero, List.set_cons_succ, i64_w, i32_w]
      rfl
    refine one_ (i := 5) (N := some 24) #[true, true, true, true, true, true, true, true, true, true, false, false] rfl rfl (one_of HT_.out (by kernel_rfl)) (by decide) (fun K hK => ?_)
    refine goes_ Tryd.func19 (by kernel_rfl) rfl #[.slice Ao36 t157.length co36, .int .u64 (IntKind.u64.wrap (a1_3)), .int .i64 4] (by rfl) rfl rfl (by (try simp only [List.map_toArray, List.map_cons, List.map_nil]); first | done | rfl | (simp only [List.length_drop, List.length_take]; rfl)) ?_
    with_reducible refine (pack_Put.calls _ _ t157 (IntKind.u64.wrap (a1_3)) 4 t160 _ ?side1 ?side2 A6.out).mono ?_
    (case side1 => repeat (first | exact (Kd.R_reads' HO159.out).2.2 | (with_reducible refine Kd.C_alloc ?_ _) | (with_reducible refine Kd.C_drewN ?_ _) | (with_reducible refine Kd.C_drew ?_)))
    (case side2 => exact (Kd.R_reads' HO159.out).2.1)
    rintro e w37 ⟨v161, rfl, ho0, hb⟩
    refine ⟨_, rfl, ?_⟩
    have n0_ := Aside0.mk (Kd.R_elder' (by (with_reducible repeat (first | apply Kd.R_alloc | apply Kd.R_drewN | apply Kd.R_drew)); exact HO153.out) (Kd.R_base ho0) hb)
    have n1_ := Aside0.mk (Kd.R_elder' (by (with_reducible repeat (first | apply Kd.R_alloc | apply Kd.R_drewN | apply Kd.R_drew)); exact HO156.out) (Kd.R_base ho0) hb)
    have n2_ := Aside0.mk (Kd.R_elder' (by (with_reducible repeat (first | apply Kd.R_alloc | apply Kd.R_drewN | apply Kd.R_drew)); exact HO159.out) (Kd.R_base ho0) hb)
    have n3_ := Aside0.mk (Kd.R_lower (Kd.R_new' (Kd.R_new' (Kd.R_new' ho0 (Kd.R_lt (by (with_reducible repeat (first | apply Kd.R_alloc | apply Kd.R_drewN | apply Kd.R_drew)); exact HO153.out))) (Kd.R_lt (by (with_reducible repeat (first | apply Kd.R_alloc | apply Kd.R_drewN | apply Kd.R_drew)); exact HO156.out))) (Kd.R_lt (by (with_reducible repeat (first | apply Kd.R_alloc | apply Kd.R_drewN | apply Kd.R_drew)); exact HO159.out))) (below_size (by repeat (first | (with_reducible first | exact HB.out | apply below_alloc | apply pw_below_drewN | apply below_drew1 | refine below_set ?_ GE150.out) | exact HB.out))))
    have n4_ := Aside0.mk (blk_below (g := gb150) (o := .cells #[.int .i64 a1_0, .int .i64 a1_1, .int .i64 a1_2, .int .i64 a1_3, .int .i64 a1_4, .bool false] 64 (0, 0)) (by (with_reducible repeat (first | refine blk_drewN ?_ _ | refine blk_drew ?_ | refine blk_alloc ?_ _)); exact BK150.out) hb)
    have n5_ := Aside0.mk (below_step (by repeat (first | (with_reducible first | exact HB.out | apply below_alloc | apply pw_below_drewN | apply below_drew1 | refine below_set ?_ GE150.out) | exact HB.out)) hb)
    clear HO153
    clear HO156
    clear HO159
    clear BK150
    clear HB
    have HO153 := n0_
    have HO156 := n1_
    have HO159 := n2_
    have HO162 := n3_
    have BK150 := n4_
    have HB := n5_
    clear n0_ n1_ n2_ n3_ n4_ n5_
    (try clear hb)
    (try clear hb2)
    (try clear hk)
    (try clear hi)
    (try clear ho0)
    obtain ⟨Ao38, co38, eo38⟩ := Kd.R_slice HO162.out
    (first | subst eo38 | (injection eo38 with f1_ f2_ f3_; have f4_ := f1_.symm; have f5_ := f3_.symm; clear f1_ f2_ f3_; subst f4_; subst f5_))
    refine hK.out _ _ ⟨(blk_cell BK150.out 0).trans rfl, (blk_cell BK150.out 1).trans rfl, (blk_cell BK150.out 2).trans rfl, (blk_cell BK150.out 3).trans rfl, (blk_cell BK150.out 4).trans rfl, (blk_cell BK150.out 5).trans rfl⟩ (fun hHeld => ?_)
    clear hK K
    refine norm_ (a' := ?_) ?_ ?_
    rotate_left
    · show Act.put _ (some 24) _ = _
      simp only [Act.put, List.setIfInBounds_toArray, List.set_cons_zero, List.set_cons_succ, i64_w, i32_w]
      rfl
    refine one_ (i := 10) (N := some 29) #[true, true, true, true, true, true, true, true, true, true, true, false] rfl rfl (one_of HT_.out (by kernel_rfl)) (by decide) (fun K hK => ?_)
    refine goes_ Tryd.func19 (by kernel_rfl) rfl #[.slice Ao38 t160.length co38, .int .u64 (IntKind.u64.wrap (a1_4)), .int .i64 4] (by rfl) rfl rfl (by (try simp only [List.map_toArray, List.map_cons, List.map_nil]); first | done | rfl | (simp only [List.length_drop, List.length_take]; rfl)) ?_
    with_reducible refine (pack_Put.calls _ _ t160 (IntKind.u64.wrap (a1_4)) 4 t163 _ ?side1 ?side2 A7.out).mono ?_
    (case side1 => repeat (first | exact (Kd.R_reads' HO162.out).2.2 | (with_reducible refine Kd.C_alloc ?_ _) | (with_reducible refine Kd.C_drewN ?_ _) | (with_reducible refine Kd.C_drew ?_)))
    (case side2 => exact (Kd.R_reads' HO162.out).2.1)
    rintro e w39 ⟨v164, rfl, ho0, hb⟩
    refine ⟨_, rfl, ?_⟩
    have n0_ := Aside0.mk (Kd.R_elder' (by (with_reducible repeat (first | apply Kd.R_alloc | apply Kd.R_drewN | apply Kd.R_drew)); exact HO153.out) (Kd.R_base ho0) hb)
    have n1_ := Aside0.mk (Kd.R_elder' (by (with_reducible repeat (first | apply Kd.R_alloc | apply Kd.R_drewN | apply Kd.R_drew)); exact HO156.out) (Kd.R_base ho0) hb)
    have n2_ := Aside0.mk (Kd.R_elder' (by (with_reducible repeat (first | apply Kd.R_alloc | apply Kd.R_drewN | apply Kd.R_drew)); exact HO159.out) (Kd.R_base ho0) hb)
    have n3_ := Aside0.mk (Kd.R_elder' (by (with_reducible repeat (first | apply Kd.R_alloc | apply Kd.R_drewN | apply Kd.R_drew)); exact HO162.out) (Kd.R_base ho0) hb)
    have n4_ := Aside0.mk (Kd.R_lower (Kd.R_new' (Kd.R_new' (Kd.R_new' (Kd.R_new' ho0 (Kd.R_lt (by (with_reducible repeat (first | apply Kd.R_alloc | apply Kd.R_drewN | apply Kd.R_drew)); exact HO153.out))) (Kd.R_lt (by (with_reducible repeat (first | apply Kd.R_alloc | apply Kd.R_drewN | apply Kd.R_drew)); exact HO156.out))) (Kd.R_lt (by (with_reducible repeat (first | apply Kd.R_alloc | apply Kd.R_drewN | apply Kd.R_drew)); exact HO159.out))) (Kd.R_lt (by (with_reducible repeat (first | apply Kd.R_alloc | apply Kd.R_drewN | apply Kd.R_drew)); exact HO162.out))) (below_size (by repeat (first | (with_reducible first | exact HB.out | apply below_alloc | apply pw_below_drewN | apply below_drew1 | refine below_set ?_ GE150.out) | exact HB.out))))
    have n5_ := Aside0.mk (blk_below (g := gb150) (o := .cells #[.int .i64 a1_0, .int .i64 a1_1, .int .i64 a1_2, .int .i64 a1_3, .int .i64 a1_4, .bool false] 64 (0, 0)) (by (with_reducible repeat (first | refine blk_drewN ?_ _ | refine blk_drew ?_ | refine blk_alloc ?_ _)); exact BK150.out) hb)
    have n6_ := Aside0.mk (below_step (by repeat (first | (with_reducible first | exact HB.out | apply below_alloc | apply pw_below_drewN | apply below_drew1 | refine below_set ?_ GE150.out) | exact HB.out)) hb)
    clear HO153
    clear HO156
    clear HO159
    clear HO162
    clear BK150
    clear HB
    have HO153 := n0_
    have HO156 := n1_
    have HO159 := n2_
    have HO162 := n3_
    have HO165 := n4_
    have BK150 := n5_
    have HB := n6_
    clear n0_ n1_ n2_ n3_ n4_ n5_ n6_
    (try clear hb)
    (try clear hb2)
    (try clear hk)
    (try clear hi)
    (try clear ho0)
    refine hK.out _ _ ⟨(blk_cell BK150.out 0).trans rfl, (blk_cell BK150.out 1).trans rfl, (blk_cell BK150.out 2).trans rfl, (blk_cell BK150.out 3).trans rfl, (blk_cell BK150.out 4).trans rfl, (blk_cell BK150.out 5).trans rfl⟩ (fun hHeld => ?_)
    clear hK K
    refine norm_ (a' := ?_) ?_ ?_
    rotate_left
    · show Act.put _ (some 29) _ = _
      simp only [Act.put, List.setIfInBounds_toArray, List.set_cons_zero, List.set_cons_succ, i64_w, i32_w]
      rfl
    refine pure_ (i := 11) (N := some 0) (v := ?_) (a' := ?_) #[true, true, true, true, true, true, true, true, true, true, true, true] rfl rfl (any_of HT_.out (by kernel_rfl)) (fun _ _ _ h => h) (Or.inl ⟨by rfl, ?_⟩) ?_ ?_
    rotate_left
    · intro w'
      go_simp
      with_reducible rfl
    rotate_left
    · simp only [Act.put, List.setIfInBounds_toArray, List.set_cons_zero, List.set_cons_succ, i64_w, i32_w]
      rfl
    refine done_ (done_of HT_.out (by kernel_rfl)) ?_
    have hcz40_0 : w39.cell? ⟨gb150, 0, none⟩ = some (.int .i64 a1_0) := (blk_cell BK150.out 0).trans rfl
    have hcz40_1 : w39.cell? ⟨gb150, 1, none⟩ = some (.int .i64 a1_1) := (blk_cell BK150.out 1).trans rfl
    have hcz40_2 : w39.cell? ⟨gb150, 2, none⟩ = some (.int .i64 a1_2) := (blk_cell BK150.out 2).trans rfl
    have hcz40_3 : w39.cell? ⟨gb150, 3, none⟩ = some (.int .i64 a1_3) := (blk_cell BK150.out 3).trans rfl
    have hcz40_4 : w39.cell? ⟨gb150, 4, none⟩ = some (.int .i64 a1_4) := (blk_cell BK150.out 4).trans rfl
    have hcz40_5 : w39.cell? ⟨gb150, 5, none⟩ = some (.bool false) := (blk_cell BK150.out 5).trans rfl
    have hfz40_0 := blk_frozen BK150.out 0
    have hfz40_1 := blk_frozen BK150.out 1
    have hfz40_2 := blk_frozen BK150.out 2
    have hfz40_3 := blk_frozen BK150.out 3
    have hfz40_4 := blk_frozen BK150.out 4
    have hfz40_5 := blk_frozen BK150.out 5
    obtain ⟨Ao41, co41, eo41⟩ := Kd.R_slice HO165.out
    subst eo41
    try go_wp2_with (first | ((with_reducible refine gate_callee (f := 19) rfl ?_); refine goesL_ (some 35) rfl rfl Tryd.func19 (by kernel_rfl) rfl #[.slice Ao41 t163.length co41, .int .u64 0, .int .i64 1] rfl (by (try simp only [List.map_toArray, List.map_cons, List.map_nil]); first | done | rfl | (simp only [List.length_drop, List.length_take]; rfl)) ?_; (with_reducible refine (pack_Put.calls _ _ t163 0 1 t169 _ ?side1 ?side2 A26.out).mono ?_); (case side1 => repeat (first | exact (Kd.R_reads' HO165.out).2.2 | (with_reducible refine Kd.C_alloc ?_ _) | (with_reducible refine Kd.C_drewN ?_ _) | (with_reducible refine Kd.C_drew ?_))); (case side2 => exact (Kd.R_reads' HO165.out).2.1); rintro e w42 ⟨v170, rfl, ho0, hb⟩; refine ⟨_, rfl, ?_⟩; have n0_ := Aside0.mk (Kd.R_elder' (by (with_reducible repeat (first | apply Kd.R_alloc | apply Kd.R_drewN | apply Kd.R_drew)); exact HO153.out) (Kd.R_base ho0) hb); have n1_ := Aside0.mk (Kd.R_elder' (by (with_reducible repeat (first | apply Kd.R_alloc | apply Kd.R_drewN | apply Kd.R_drew)); exact HO156.out) (Kd.R_base ho0) hb); have n2_ := Aside0.mk (Kd.R_elder' (by (with_reducible repeat (first | apply Kd.R_alloc | apply Kd.R_drewN | apply Kd.R_drew)); exact HO159.out) (Kd.R_base ho0) hb); have n3_ := Aside0.mk (Kd.R_elder' (by (with_reducible repeat (first | apply Kd.R_alloc | apply Kd.R_drewN | apply Kd.R_drew)); exact HO162.out) (Kd.R_base ho0) hb); have n4_ := Aside0.mk (Kd.R_elder' (by (with_reducible repeat (first | apply Kd.R_alloc | apply Kd.R_drewN | apply Kd.R_drew)); exact HO165.out) (Kd.R_base ho0) hb); have n5_ := Aside0.mk (Kd.R_lower (Kd.R_new' (Kd.R_new' (Kd.R_new' (Kd.R_new' (Kd.R_new' ho0 (Kd.R_lt (by (with_reducible repeat (first | apply Kd.R_alloc | apply Kd.R_drewN | apply Kd.R_drew)); exact HO153.out))) (Kd.R_lt (by (with_reducible repeat (first | apply Kd.R_alloc | apply Kd.R_drewN | apply Kd.R_drew)); exact HO156.out))) (Kd.R_lt (by (with_reducible repeat (first | apply Kd.R_alloc | apply Kd.R_drewN | apply Kd.R_drew)); exact HO159.out))) (Kd.R_lt (by (with_reducible repeat (first | apply Kd.R_alloc | apply Kd.R_drewN | apply Kd.R_drew)); exact HO162.out))) (Kd.R_lt (by (with_reducible repeat (first | apply Kd.R_alloc | apply Kd.R_drewN | apply Kd.R_drew)); exact HO165.out))) (below_size (by repeat (first | (with_reducible first | exact HB.out | apply below_alloc | apply pw_below_drewN | apply below_drew1 | refine below_set ?_ GE150.out) | exact HB.out)))); have n6_ := Aside0.mk (blk_below (g := gb150) (o := .cells #[.int .i64 a1_0, .int .i64 a1_1, .int .i64 a1_2, .int .i64 a1_3, .int .i64 a1_4, .bool false] 64 (0, 0)) (by (with_reducible repeat (first | refine blk_drewN ?_ _ | refine blk_drew ?_ | refine blk_alloc ?_ _)); exact BK150.out) hb); have n7_ := Aside0.mk (below_step (by repeat (first | (with_reducible first | exact HB.out | apply below_alloc | apply pw_below_drewN | apply below_drew1 | refine below_set ?_ GE150.out) | exact HB.out)) hb); clear HO153; clear HO156; clear HO159; clear HO162; clear HO165; clear BK150; clear HB; have HO153 := n0_; have HO156 := n1_; have HO159 := n2_; have HO162 := n3_; have HO165 := n4_; have HO171 := n5_; have BK150 := n6_; have HB := n7_; clear n0_ n1_ n2_ n3_ n4_ n5_ n6_ n7_; (try clear hb); (try clear hb2); (try clear hk); (try clear hi); (try clear ho0)))
    go_ret
    exact ⟨_, by first | rfl | (simp [errW_none, errW_some] <;> rfl) | (simp [*, errW_none, errW_some] <;> rfl), by (with_reducible repeat (first | apply Kd.R_alloc | apply Kd.R_drewN | apply Kd.R_drew)); exact Kd.R_mono HO171.out (fun _ hk => trivial), by repeat (first | (with_reducible first | exact HB.out | apply below_alloc | apply pw_below_drewN | apply below_drew1 | refine below_set ?_ GE150.out) | exact HB.out)⟩

end Go.Proofs.YtljkikcclnbdaaaDoor.W

/- What the packers answer, plain: a text's field, a span's bytes, an edge's. -/
namespace Go.Proofs.YtljkikcclnbdaaaDoor.L
open Go.RowKit Go.Proofs.YtljkikcclnbdaaaDoor.Q Go.Proofs.YtljkikcclnbdaaaDoor.P Go.Proofs.YtljkikcclnbdaaaDoor.W Go.Proofs.YtljkikcclnbdaaaDoorW.PrintWords Go.Proofs.YtljkikcclnbdaaaDoorW.PrintLast Go.Proofs.YtljkikcclnbdaaaDoorW.PrintMore Go.Proofs.YtljkikcclnbdaaaDoorW.Lib
set_option linter.unusedVariables false
set_option linter.unusedSimpArgs false
theorem up_wrap (x : Int) : IntKind.u64.wrap x = upB x := by unfold upB; simp [IntKind.wrap, IntKind.signed, IntKind.bits]
theorem up_id {x : Int} (h0 : 0 ≤ x) (h1 : x < 18446744073709551616) : upB x = x := by unfold upB; omega
theorem packPut_is {l : List Int} {n s : Int} (hl : l.length ≤ 140737488351000) (h0 : 0 ≤ n) (h1 : n < 18446744073709551616) (s0 : 0 ≤ s) (s1 : s ≤ 8) : pack_Put.f l n s = some (l ++ leB s.toNat n) := by
  unfold pack_Put.f
  rw [if_pos ⟨hl, ⟨h0, h1⟩, s0, s1⟩]
theorem upB_lt (x : Int) : 0 ≤ upB x ∧ upB x < 18446744073709551616 := by unfold upB; omega
theorem putText_is {l : List Int} {s : ByteArray} (hl : l.length ≤ 140737488351000) (hs : s.size ≤ 16) : pack_PutText.f l s = some (l ++ textB s) := by
  unfold pack_PutText.f slices_Clone_byte_byte.f
  rw [if_pos (by omega)]
  simp only [Option.bind_some]
  rw [if_neg (by omega), if_pos (by omega)]
  rw [wrap_id (i := 16 - (s.size : Int)) (by omega) (by omega)]
  rw [if_pos (by rw [List.length_append, List.length_cons, List.length_nil]; omega), if_pos (by omega), if_pos (by simp only [List.length_append, List.length_cons, List.length_nil, bytesOf_length]; omega)]
  unfold textB
  rw [show ((s.size : Int)) % 256 = s.size by omega, show (16 - (s.size : Int)).toNat = 16 - s.size by omega]
  simp
theorem put_ev (l : List Int) (s : SpB) (hl : l.length ≤ 1000) (hs : fitSp s) : Ev (fun k => wire_put.f k l s.f0 s.f1 s.f2 s.f3 s.f4 s.f5 s.f6 s.f7) (l ++ spanB s) := by
  obtain ⟨a0, a1, a2, a3, a6, a7, a4, a5⟩ := hs
  unfold wire_put.f
  refine Ev.bind (Ev.now _) ?_
  have w1 : wrap64 (0 + 1) = 1 := wrap_id (by omega) (by omega)
  have w2 : wrap64 (1 + 1) = 2 := wrap_id (by omega) (by omega)
  have w3 : wrap64 (2 + 1) = 3 := wrap_id (by omega) (by omega)
  refine Ev.succ ?_
  simp only [wire_put.l0]
  refine Ev.pos (by simp) (Ev.pos (by simp) (Ev.pos (by simp) (Ev.bind (a := l ++ leB 8 s.f0) (Ev.const (by
    rw [show rd [s.f0, s.f1, s.f2] 0 = s.f0 from rfl]
    exact packPut_is (by omega) a0.1 (by omega) (by omega) (by omega))) ?_)))
  rw [w1]
  refine Ev.succ ?_
  simp only [wire_put.l0]
  refine Ev.pos (by simp) (Ev.pos (by omega) (Ev.pos (by simp) (Ev.bind (a := (l ++ leB 8 s.f0) ++ leB 8 s.f1) (Ev.const (by
    rw [show rd [s.f0, s.f1, s.f2] 1 = s.f1 from rfl]
    exact packPut_is (by simp only [List.length_append, leB_length]; omega) a1.1 (by omega) (by omega) (by omega))) ?_)))
  rw [w2]
  refine Ev.succ ?_
  simp only [wire_put.l0]
  refine Ev.pos (by simp) (Ev.pos (by omega) (Ev.pos (by simp) (Ev.bind (a := ((l ++ leB 8 s.f0) ++ leB 8 s.f1) ++ leB 8 s.f2) (Ev.const (by
    rw [show rd [s.f0, s.f1, s.f2] 2 = s.f2 from rfl]
    exact packPut_is (by simp only [List.length_append, leB_length]; omega) a2.1 (by omega) (by omega) (by omega))) ?_)))
  rw [w3]
  refine Ev.succ ?_
  simp only [wire_put.l0]
  refine Ev.neg (by simp) ?_
  simp only [up_wrap]
  rw [up_id (x := s.f3) a3.1 (by omega)]
  refine Ev.bind (Ev.const (packPut_is (by simp only [List.length_append, leB_length]; omega) a3.1 (by omega) (by omega) (by omega))) ?_
  refine Ev.bind (Ev.const (packPut_is (by simp only [List.length_append, leB_length]; omega) (upB_lt _).1 (upB_lt _).2 (by omega) (by omega))) ?_
  refine Ev.bind (Ev.const (packPut_is (by simp only [List.length_append, leB_length]; omega) (upB_lt _).1 (upB_lt _).2 (by omega) (by omega))) ?_
  refine Ev.bind (Ev.const (putText_is (by simp only [List.length_append, leB_length]; omega) a4)) ?_
  refine Ev.bind (Ev.const (putText_is (by simp only [List.length_append, leB_length, textB_length a4]; omega) a5)) ?_
  refine Ev.cast (Ev.now _) ?_
  unfold spanB
  simp only [List.append_assoc]
  rfl
theorem edge_is (e : EdB) (h : fitEd e) : reply_edge.f [] e.f0 e.f1 e.f2 e.f3.f0 e.f3.f1 e.f4 = some (edgeB e) := by
  obtain ⟨a0, a1, a2, a3, a4⟩ := h
  unfold reply_edge.f
  simp only [up_wrap]
  rw [up_id (x := e.f0) a0.1 (by omega), up_id (x := e.f1) a1.1 (by omega), up_id (x := e.f3.f0) a3.1 (by omega), up_id (x := e.f3.f1) a4.1 (by omega)]
  rw [packPut_is (by simp) a0.1 (by omega) (by omega) (by omega)]
  simp only [Option.bind_some]
  rw [packPut_is (by simp only [List.length_append, leB_length, List.length_nil]; decide) a1.1 (by omega) (by omega) (by omega)]
  simp only [Option.bind_some]
  rw [packPut_is (by simp only [List.length_append, leB_length, List.length_nil]; decide) (upB_lt _).1 (upB_lt _).2 (by omega) (by omega)]
  simp only [Option.bind_some]
  rw [packPut_is (by simp only [List.length_append, leB_length, List.length_nil]; decide) a3.1 (by omega) (by omega) (by omega)]
  simp only [Option.bind_some]
  rw [packPut_is (by simp only [List.length_append, leB_length, List.length_nil]; decide) a4.1 (by omega) (by omega) (by omega)]
  simp only [Option.bind_some]
  rw [packPut_is (by simp only [List.length_append, leB_length, List.length_nil]; decide) (by omega) (by omega) (by omega) (by omega), packPut_is (by simp only [List.length_append, leB_length, List.length_nil]; decide) (by omega) (by omega) (by omega) (by omega)]
  unfold edgeB
  by_cases hb : e.f4 = true
  · rw [if_pos hb, if_pos hb]
    simp [leB, List.append_assoc]
  · rw [if_neg hb, if_neg hb]
    simp [leB, List.append_assoc]
end Go.Proofs.YtljkikcclnbdaaaDoor.L

/- wire.Put of one span; reply.one. -/
namespace Go.Proofs.YtljkikcclnbdaaaDoor.L
open Go.RowKit Go.Proofs.YtljkikcclnbdaaaDoor.Q Go.Proofs.YtljkikcclnbdaaaDoor.P Go.Proofs.YtljkikcclnbdaaaDoor.W Go.Proofs.YtljkikcclnbdaaaDoorW.PrintWords Go.Proofs.YtljkikcclnbdaaaDoorW.PrintLast Go.Proofs.YtljkikcclnbdaaaDoorW.PrintMore Go.Proofs.YtljkikcclnbdaaaDoorW.MapB Go.Proofs.YtljkikcclnbdaaaDoorW.Lib
set_option linter.unusedVariables false
set_option linter.unusedSimpArgs false
theorem may1_calls (s : SpB) (hf : fitS s) (hm : mayS s = true) (w : World) : Calls Tryd.prog 52 #[.agg #[.int .u64 s.f0, .int .u64 s.f1, .int .u64 s.f2, .int .u8 s.f3, .string s.f4, .string s.f5, .int .i64 s.f6, .int .i64 s.f7]] w fun e w' => e = .returned (.bool true) ∧ Below w.heap.size w w' := by
  obtain ⟨k, hk⟩ := Ev.rounds (may_ev s.f0 s.f1 s.f2 s.f3 s.f4 s.f5 s.f6 s.f7 hf.2.1 hf.2.2)
  have h := span_May.calls k _ _ _ _ _ _ _ _ _ w hk
  rw [show mayB s.f0 s.f1 s.f2 s.f3 s.f4 s.f5 s.f6 s.f7 = true from hm] at h
  exact h
theorem put1_calls (s : SpB) (hs : fitSp s) (w : World) : Calls Tryd.prog 67 #[.slice none 0 0, .agg #[.int .u64 s.f0, .int .u64 s.f1, .int .u64 s.f2, .int .u8 s.f3, .string s.f4, .string s.f5, .int .i64 s.f6, .int .i64 s.f7]] w fun e w' => ∃ v, e = .returned v ∧ Kd.R (Kd.int .u8) 5 w' w.heap.size (fun _ => True) v (spanB s) ∧ Below w.heap.size w w' := by
  obtain ⟨k, hk⟩ := Ev.rounds (put_ev [] s (by simp) hs)
  refine (wire_put.calls k (fun _ => False) none 0 [] s.f0 s.f1 s.f2 s.f3 s.f4 s.f5 s.f6 s.f7 _ w (Kd.V_nil _ _ _ _ _) hk).mono ?_
  rintro e w' ⟨v, rfl, h1, h2⟩
  exact ⟨v, rfl, Kd.R_mono h1 (fun _ _ => trivial), h2⟩
def headB : List Int := [83, 80, 65, 78] ++ leB 2 1
theorem four_C (W : World) (fr : Nat × Nat) : Kd.C (Kd.int .u8) (W.alloc (.cells #[.int .u8 83, .int .u8 80, .int .u8 65, .int .u8 78] 5 fr)) (some ⟨W.heap.size, 0, none⟩) 4 [83, 80, 65, 78] := by
  refine Kd.C_of_reads (d := 0) ⟨rfl, by decide, fun _ => ⟨_, rfl, fun j hj => ?_⟩⟩
  have h := (MapKept.heap_alloc W (.cells #[.int .u8 83, .int .u8 80, .int .u8 65, .int .u8 78] 5 fr)).1
  rw [Go.Lib.addr_add, Nat.zero_add]
  have hc : (W.alloc (.cells #[.int .u8 83, .int .u8 80, .int .u8 65, .int .u8 78] 5 fr)).cell? ⟨W.heap.size, j, none⟩ = (#[Value.int .u8 83, .int .u8 80, .int .u8 65, .int .u8 78] : Array Value)[j]? := by
    unfold World.cell?
    rw [show (W.alloc (.cells #[.int .u8 83, .int .u8 80, .int .u8 65, .int .u8 78] 5 fr)).heap[(⟨W.heap.size, j, none⟩ : Addr).block]? = _ from h]
    rfl
  rw [hc]
  rcases j with _ | _ | _ | _ | j
  · rfl
  · rfl
  · rfl
  · rfl
  · omega
theorem new_blockW (w : World) (cs : Array Value) (t : TypeId) : (w.alloc (.cells cs t)).heap[w.heap.size]? = some (.cells cs t (0, 0)) := (MapKept.heap_alloc w _).1
set_option maxHeartbeats 4000000 in
set_option maxRecDepth 100000 in
theorem wire1_calls (s : SpB) (hs : fitSp s) (hf : fitS s) (hm : mayS s = true) (A : Option Addr) (c : Nat) (w : World) (hr : Kd.C k56 w A 1 [s]) :
    Calls Tryd.prog 50 #[.slice A 1 c] w fun e w' => ∃ v, e = .returned (.tuple #[v, .int .i64 0]) ∧ Kd.R (Kd.int .u8) 5 w' w.heap.size (fun _ => True) v (headB ++ spanB s) ∧ Below w.heap.size w w' := by
  have hcv := Go.Lib.run_convert_bytes_const (P := Tryd.prog) w 30 5 #[.int .u8 83, .int .u8 80, .int .u8 65, .int .u8 78] 4 4 Tryd.underlying30 Tryd.underlying5
  have QM := Aside0.mk (may1_calls s hf hm)
  have QP := Aside0.mk (put1_calls s hs)
  have Q4 := Aside0.mk (fun fr => packput_calls [83, 80, 65, 78] (some ⟨w.heap.size, 0, none⟩) 4 1 2 _ (four_C w fr) (by decide) (by decide) (by decide) (by decide) (by decide) (by decide))
  have HL := Aside0.mk (spanB_length hs)
  obtain ⟨ad1, e1, hx0, hx1, hx2, hx3, hx4, hx5, hx6, hx7⟩ := at_T56 hr 0 (by omega) (by omega)
  rw [show rd_T56 [s] 0 = s from rfl] at hx0 hx1 hx2 hx3 hx4 hx5 hx6 hx7
  cases e1
  simp only [Int.toNat_zero, Nat.zero_mul, Addr.add_zero'] at hx0 hx1 hx2 hx3 hx4 hx5 hx6 hx7
  clear hr hs hf hm
  go_enter Tryd.func50, Tryd.ntmps50
  go_wp2_with (first
    | (go_at_call 19; go_loud (refine (Q4.out _).mono ?_; rintro e w1 ⟨v1, rfl, ho, hb⟩; have HB := Aside0.mk (below_step (below_alloc (Below.refl _ _) _) hb); have HO := Aside0.mk (Kd.R_lower ho (below_alloc (Below.refl _ _) _).size); clear ho hb)))
  clear hcv Q4
  go_loopg [4, 23] 1 (fun kq v4 v23 w' => ∃ x23 : Int, v23 = .int .i64 x23 ∧ Aside0 (0 ≤ x23 ∧ x23 + kq = 1) ∧ Aside0 (Kd.R (Kd.int .u8) 5 w' w.heap.size (fun _ => True) v4 (headB ++ if x23 = 0 then [] else spanB s)) ∧ Aside0 (Below w.heap.size w w'))
  case atStart => exact ⟨0, rfl, ⟨by omega, by omega⟩, ⟨by rw [if_pos rfl, List.append_nil]; exact HO.out⟩, HB⟩
  case round =>
    clear HO HB
    obtain ⟨x23, rfl, HK, HO, HB⟩ := hrel
    by_cases c1 : x23 < 1
    · have e0 : x23 = 0 := by have := HK.out; omega
      subst e0
      have ho0 := HO.out
      rw [if_pos rfl, List.append_nil] at ho0
      obtain ⟨A4, n4, e4⟩ := Kd.R_slice ho0
      subst e4
      have HO4 := Aside0.mk ho0
      clear ho0 HO
      replace hx0 := (HB.out.cell (World.block_lt_of_cell? w _ hx0)).trans hx0
      replace hx1 := (HB.out.cell (World.block_lt_of_cell? w _ hx1)).trans hx1
      replace hx2 := (HB.out.cell (World.block_lt_of_cell? w _ hx2)).trans hx2
      replace hx3 := (HB.out.cell (World.block_lt_of_cell? w _ hx3)).trans hx3
      replace hx4 := (HB.out.cell (World.block_lt_of_cell? w _ hx4)).trans hx4
      replace hx5 := (HB.out.cell (World.block_lt_of_cell? w _ hx5)).trans hx5
      replace hx6 := (HB.out.cell (World.block_lt_of_cell? w _ hx6)).trans hx6
      replace hx7 := (HB.out.cell (World.block_lt_of_cell? w _ hx7)).trans hx7
      have W1 := Aside0.mk (show wrap64 ((0 : Int) + 1) = 1 from wrap_id (by omega) (by omega))
      obtain ⟨k1, rfl⟩ : ∃ k1, gk = k1 + 1 := ⟨gk - 1, by have := HK.out; omega⟩
      go_wp2_with (first
        | (go_at_call 52; go_loud (refine (QM.out _).mono ?_; rintro e w4 ⟨rfl, hb⟩; have HB4 := Aside0.mk (below_step (below_alloc HB.out _) hb); have HO5 := Aside0.mk (Kd.R_below (Kd.R_alloc HO4.out _) hb); have bk := (hb.block wr.heap.size (by simp)).trans (new_blockW wr #[.int .u64 s.f0, .int .u64 s.f1, .int .u64 s.f2, .int .u8 s.f3, .string s.f4, .string s.f5, .int .i64 s.f6, .int .i64 s.f7] 56); have hk0 : w4.cell? ⟨wr.heap.size, 0, none⟩ = some (.int .u64 s.f0) := (blk_cell bk 0).trans rfl; have hk1 : w4.cell? ⟨wr.heap.size, 1, none⟩ = some (.int .u64 s.f1) := (blk_cell bk 1).trans rfl; have hk2 : w4.cell? ⟨wr.heap.size, 2, none⟩ = some (.int .u64 s.f2) := (blk_cell bk 2).trans rfl; have hk3 : w4.cell? ⟨wr.heap.size, 3, none⟩ = some (.int .u8 s.f3) := (blk_cell bk 3).trans rfl; have hk4 : w4.cell? ⟨wr.heap.size, 4, none⟩ = some (.string s.f4) := (blk_cell bk 4).trans rfl; have hk5 : w4.cell? ⟨wr.heap.size, 5, none⟩ = some (.string s.f5) := (blk_cell bk 5).trans rfl; have hk6 : w4.cell? ⟨wr.heap.size, 6, none⟩ = some (.int .i64 s.f6) := (blk_cell bk 6).trans rfl; have hk7 : w4.cell? ⟨wr.heap.size, 7, none⟩ = some (.int .i64 s.f7) := (blk_cell bk 7).trans rfl; clear bk; clear hb))
        | (go_at_call 67; go_loud (refine (QP.out _).mono ?_; rintro e w5 ⟨v5, rfl, ho, hb⟩; obtain ⟨A5, n5, e5⟩ := Kd.R_slice ho; subst e5; have HP := Aside0.mk (Kd.R_reads' ho).2.2; have HB5 := Aside0.mk (below_step HB4.out hb); have HO6 := Aside0.mk (Kd.R_below HO5.out hb); clear ho hb))
        | ((with_reducible refine gate_builtin (b := .append) (xs := #[.tmp 30, .tmp 32]) rfl ?_); at_builtin; go_loud (refine Kd.R_append_rows (Kd.int .u8) (w0 := w) w.heap.size rfl (.tmp 30) (.tmp 32) 30 5 (.int .u8 0) 1 rfl Tryd.underlying30 (by kernel_rfl) rfl (by decide) (by omega) (.slice A4 headB.length n4) headB (spanB s) _ _ _ (fun _ => True) (fun _ => False) rfl rfl ?aO ?aR (fun _ _ h => h) (fun _ h => h.elim) ?aF ?aB ?aS ?aL ?_; (case aR => exact HP.out); (case aB => exact HB5.out); (case aF => exact (fun _ _ => trivial)); (case aO => exact HO6.out); (case aS => exact HB5.out.size); (case aL => have := HL.out; have : headB.length = 6 := rfl; omega); intro v6 w6 ho hb hg hat; have HB6 := Aside0.mk hb; have HO7 := Aside0.mk ho; clear ho hb hg hat)))
      go_roundg k1
      case measure => omega
      case rel => exact ⟨1, rfl, ⟨by omega, by have := HK.out; omega⟩, ⟨by rw [if_neg (by decide)]; exact HO7.out⟩, HB6⟩
    · have hx : x23 ≠ 0 := by omega
      have ho0 := HO.out
      rw [if_neg hx] at ho0
      have HO4 := Aside0.mk ho0
      clear ho0 HO
      have c1b := decide_eq_false c1
      go_wp2_with fail
      go_ret2
      exact ⟨_, rfl, HO4.out, HB.out⟩
theorem headB_len (s : SpB) (hs : fitSp s) : (headB ++ spanB s).length = 81 := by rw [List.length_append, spanB_length hs]; rfl
set_option maxHeartbeats 4000000 in
set_option maxRecDepth 100000 in
theorem one_calls (s : SpB) (hs : fitSp s) (hf : fitS s) (hm : mayS s = true) (w : World) :
    Calls Tryd.prog 20 #[.agg #[.int .u64 s.f0, .int .u64 s.f1, .int .u64 s.f2, .int .u8 s.f3, .string s.f4, .string s.f5, .int .i64 s.f6, .int .i64 s.f7]] w fun e w' => ∃ g c, e = .returned (.slice (some ⟨g, 6, none⟩) 75 c) ∧ w.heap.size ≤ g ∧ (∀ j x, (spanB s)[j]? = some x → w'.cell? ((⟨g, 6, none⟩ : Addr).add j) = some (.int .u8 x)) ∧ Below w.heap.size w w' := by
  have QW : Aside0 (∀ (A : Option Addr) (c : Nat) (W : World), Kd.C k56 W A 1 [s] → Calls Tryd.prog 50 #[.slice A 1 c] W fun e w' => ∃ v, e = .returned (.tuple #[v, .int .i64 0]) ∧ Kd.R (Kd.int .u8) 5 w' W.heap.size (fun _ => True) v (headB ++ spanB s) ∧ Below W.heap.size W w') := ⟨fun A c W hr => wire1_calls s hs hf hm A c W hr⟩
  have HL := Aside0.mk (headB_len s hs)
  clear hs hf hm
  go_enter Tryd.func20, Tryd.ntmps20
  go_wp2_with (first
    | ((with_reducible refine gate_dst (N := 7) rfl ?_); go_loud (refine Kd.R_lit k56 _ 56 ?hg (N := 7) ?hd (xs := ([s] : List SpB)) (inner := [.int .u64 s.f0, .int .u64 s.f1, .int .u64 s.f2, .int .u8 s.f3, .string s.f4, .string s.f5, .int .i64 s.f6, .int .i64 s.f7]) (ok := fun _ => True) (okp := fun _ => True) ?hr ?hp (fun _ hk => hk) trivial (Below.refl _ _) (Nat.le_refl _) (by simp) ?_; (case hd => rfl); (case hg => rfl); (case hr => first | (go_simp; done) | (go_simp; rfl)); (case hp => exact (Reps.c8 (show Kd.M k56 _ _ _ s [.int .u64 s.f0, .int .u64 s.f1, .int .u64 s.f2, .int .u8 s.f3, .string s.f4, .string s.f5, .int .i64 s.f6, .int .i64 s.f7] from (k56_mkM _ _ _ s)) (Reps.none _ _))); intro v1 w1 ho hb hg_ hnew_; obtain ⟨A1, n1, e1⟩ := Kd.R_slice ho; subst e1; have HC := Aside0.mk (Kd.R_reads' ho).2.2; have HB := Aside0.mk (below_step (below_alloc (Below.refl w.heap.size w) _) hb); clear ho hb hg_ hnew_))
    | (go_at_call 50; go_loud (refine (QW.out _ _ _ HC.out).mono ?_; rintro e w2 ⟨v2, rfl, ho, hb⟩; have HB2 := Aside0.mk (below_step HB.out hb); obtain ⟨g, cap, e2, hgb, hgl, hsrc⟩ := row_src ho (by rw [HL.out]; decide); have hcap := (Kd.R_reads' (e2 ▸ ho)).2.1; rw [HL.out] at e2 hcap; subst e2; have HGb := Aside0.mk (Nat.le_trans HB.out.size hgb); have HSrc := Aside0.mk hsrc; clear ho hb hsrc hgb hgl)))
  go_ret
  refine ⟨g, cap - 6, rfl, HGb.out, fun j x hj => ?_, HB2.out⟩
  have h := HSrc.out (6 + j) x (by rw [List.getElem?_append_right (by show 6 ≤ _; omega)]; rw [show 6 + j - headB.length = j by show 6 + j - 6 = j; omega]; exact hj)
  rw [Go.Lib.addr_add] at h ⊢
  rw [Nat.zero_add] at h
  exact h
end Go.Proofs.YtljkikcclnbdaaaDoor.L

/- reply.numbers: whole numbers laid into a Buffer; fields laid down alone. -/
namespace Go.Proofs.YtljkikcclnbdaaaDoor.L
open Go.RowKit Go.Proofs.YtljkikcclnbdaaaDoor.Q Go.Proofs.YtljkikcclnbdaaaDoor.P Go.Proofs.YtljkikcclnbdaaaDoor.W Go.Proofs.YtljkikcclnbdaaaDoorW.PrintWords Go.Proofs.YtljkikcclnbdaaaDoorW.PrintLast Go.Proofs.YtljkikcclnbdaaaDoorW.PrintMore Go.Proofs.YtljkikcclnbdaaaDoorW.MapB Go.Proofs.YtljkikcclnbdaaaDoorW.Lib
set_option linter.unusedVariables false
set_option linter.unusedSimpArgs false
theorem none_C (w : World) : Kd.C (Kd.int .u8) w none 0 [] := Kd.C_of_reads (d := 0) ⟨rfl, by decide, fun h => absurd h (by decide)⟩
/-- A row of bytes that is laid down alone, not none. -/
def Rw (cs : List Int) (w : World) (e : Ending) (w' : World) : Prop := ∃ g c, e = .returned (.slice (some ⟨g, 0, none⟩) cs.length c) ∧ w.heap.size ≤ g ∧ (∀ j x, cs[j]? = some x → w'.cell? ((⟨g, 0, none⟩ : Addr).add j) = some (.int .u8 x)) ∧ Below w.heap.size w w'
theorem rw_of {cs : List Int} {w w' : World} {v : Value} (h : Kd.R (Kd.int .u8) 5 w' w.heap.size (fun _ => True) v cs) (hp : 0 < cs.length) (hb : Below w.heap.size w w') : Rw cs w (.returned v) w' := by
  obtain ⟨g, c, e, h1, _, h3⟩ := row_src h hp
  exact ⟨g, c, by rw [e], h1, h3, hb⟩
theorem num_calls (n size : Int) (h0 : 0 ≤ n) (h1 : n < 18446744073709551616) (s0 : 0 < size) (s1 : size ≤ 8) (w : World) : Calls Tryd.prog 19 #[.slice none 0 0, .int .u64 n, .int .i64 size] w (Rw (leB size.toNat n) w) := by
  refine (packput_calls [] none 0 n size w (none_C w) (by simp) (by simp) h0 h1 (by omega) s1).mono ?_
  rintro e w' ⟨v, rfl, h, hb⟩
  exact rw_of (by rw [List.nil_append] at h; exact h) (by rw [leB_length]; omega) hb
theorem text_calls (s : ByteArray) (hs : s.size ≤ 16) (w : World) : Calls Tryd.prog 22 #[.slice none 0 0, .string s] w (Rw (textB s) w) := by
  refine (pack_PutText.calls none 0 [] s _ w (none_C w) (by simp) (putText_is (by simp) hs)).mono ?_
  rintro e w' ⟨v, rfl, h, hb⟩
  exact rw_of (by rw [List.nil_append] at h; exact h) (by rw [textB_length hs]; omega) hb
theorem edge_calls (x : EdB) (hx : fitEd x) (w : World) : Calls Tryd.prog 23 #[.slice none 0 0, .agg #[.int .i64 x.f0, .int .i64 x.f1, .int .i64 x.f2, .int .i64 x.f3.f0, .int .i64 x.f3.f1, .bool x.f4]] w (Rw (edgeB x) w) := by
  refine (reply_edge.calls none 0 [] x.f0 x.f1 x.f2 x.f3.f0 x.f3.f1 x.f4 _ w (none_C w) (by simp) (edge_is x hx)).mono ?_
  rintro e w' ⟨v, rfl, h, hb⟩
  exact rw_of h (by rw [edgeB_length]; omega) hb
theorem int_next (l : List Int) (x : Int) (h0 : 0 ≤ x) (h1 : x < l.length) : numB8 (l.take (x + 1).toNat) = numB8 (l.take x.toNat) ++ leB 8 (upB (rdOf 0 l x)) := by
  have hlt : x.toNat < l.length := by omega
  rw [show (x + 1).toNat = x.toNat + 1 by omega, List.take_succ_eq_append_getElem hlt]
  unfold numB8
  rw [List.flatMap_append]
  simp [rdOf, List.getD, hlt]
set_option maxHeartbeats 4000000 in
set_option maxRecDepth 100000 in
theorem numbers_calls (l : List Int) (A : Option Addr) (c : Nat) (w0 w : World) (b : Nat) (bs : List Int) (h : IsB w0 b bs w) (hr : Kd.C (Kd.int .i64) w0 A l.length l) (hl : bs.length + 8 * l.length ≤ 140737488355328) :
    Calls Tryd.prog 21 #[.pointer (some ⟨b, 0, none⟩), .slice A l.length c] w fun e w' => e = .returned (.tuple #[]) ∧ IsB w0 b (bs ++ numB8 l) w' := by
  have HR := Aside0.mk (Kd.reads_of_C (d := 0) hr)
  have HL := Aside0.mk hl
  have HI := Aside0.mk h
  clear hr hl h
  go_enter Tryd.func21, Tryd.ntmps21
  go_wp2_with fail
  go_loopg [8] l.length (fun kq v8 w' => ∃ x8 : Int, v8 = .int .i64 x8 ∧ Aside0 (0 ≤ x8 ∧ x8 + kq = l.length) ∧ Aside0 (IsB w0 b (bs ++ numB8 (l.take x8.toNat)) w'))
  case atStart => exact ⟨0, rfl, ⟨by omega, by omega⟩, ⟨by simpa [numB8] using HI.out⟩⟩
  case round =>
    obtain ⟨x8, rfl, HK, HB⟩ := hrel
    by_cases c1 : x8 < (l.length : Int)
    · have c1b := decide_eq_true c1
      have p1 : 0 ≤ x8 := HK.out.1
      obtain ⟨ad1, e1, hx0⟩ := HR.out.at_ x8 p1 c1
      cases e1
      replace hx0 := (HB.out.2.cell (World.block_lt_of_cell? w0 _ hx0)).trans hx0
      have HN := Aside0.mk (int_next l x8 p1 c1)
      have QN := Aside0.mk (num_calls (upB (rdOf 0 l x8)) 8 (upB_lt _).1 (upB_lt _).2 (by omega) (by omega))
      have HLt := Aside0.mk (show (bs ++ numB8 (l.take x8.toNat)).length + 8 ≤ 140737488355328 from by
        have h1 : (numB8 (l.take x8.toNat)).length = 8 * x8.toNat := by
          have : ∀ q : List Int, (numB8 q).length = 8 * q.length := by
            intro q
            induction q with
            | nil => rfl
            | cons a q ih => unfold numB8 at ih ⊢; rw [List.flatMap_cons, List.length_append, leB_length, ih, List.length_cons]; omega
          rw [this, List.length_take]; omega
        rw [List.length_append, h1]
        have := HL.out
        omega)
      have P1 := Aside0.mk p1
      have Q1 := Aside0.mk c1
      have hw : IntKind.u64.wrap (rdOf 0 l x8) = upB (rdOf 0 l x8) := up_wrap _
      have W1 := Aside0.mk (show wrap64 (x8 + 1) = x8 + 1 from by unfold wrap64; have := HL.out; have := P1.out; have := Q1.out; omega)
      replace p1 := eq_true p1
      replace c1 := eq_true c1
      obtain ⟨k1, rfl⟩ : ∃ k1, gk = k1 + 1 := ⟨gk - 1, by have := HK.out; have := Q1.out; omega⟩
      generalize rdOf 0 l x8 = x at *
      go_wp2_with (first
        | (go_at_call 19; go_loud (refine (QN.out _).mono ?_; rintro e w1 ⟨g, c1, rfl, hg, hsrc, hb⟩; have HB1 := Aside0.mk (HB.out.old hb); have HG := Aside0.mk (show g ≠ b from by have := HB.out.1.lt; omega); have HS := Aside0.mk hsrc; clear hb hg hsrc))
        | (go_at_call 18; go_loud (refine (write_calls HB1.out ⟨g, 0, none⟩ c1 HG.out HS.out (by rw [leB_length]; exact HLt.out)).mono ?_; rintro e w2 ⟨rfl, hi⟩; have HB2 := Aside0.mk hi; clear hi)))
      go_roundg k1
      case measure => omega
      case rel => exact ⟨x8 + 1, by rw [W1.out], ⟨by have := P1.out; omega, by have := HK.out; omega⟩, ⟨by rw [HN.out, ← List.append_assoc]; exact HB2.out⟩⟩
    · have c1b := decide_eq_false c1
      have hx : x8.toNat = l.length := by have := HK.out; omega
      have hB := HB.out
      rw [hx, List.take_length] at hB
      go_wp2_with fail
      refine bodyPost_end (results_none rfl _ _ _) rfl ?_
      exact ⟨rfl, hB⟩
end Go.Proofs.YtljkikcclnbdaaaDoor.L

/- reply.May, plain: which answers may be; such an answer is within its bounds. -/
namespace Go.Proofs.YtljkikcclnbdaaaDoor.L
open Go.RowKit Go.Proofs.YtljkikcclnbdaaaDoor.Q Go.Proofs.YtljkikcclnbdaaaDoorW.PrintWords Go.Proofs.YtljkikcclnbdaaaDoorW.PrintLast Go.Proofs.YtljkikcclnbdaaaDoorW.PrintMore Go.Proofs.YtljkikcclnbdaaaDoorW.Lib
set_option linter.unusedVariables false
set_option linter.unusedSimpArgs false
theorem rdSpA {l : List SpB} {i : Nat} (h : i < l.length) : rd_T56 l (i : Int) = l[i] := by simp [rd_T56, List.getD, h]
theorem rdEdA {l : List EdB} {i : Nat} (h : i < l.length) : rd_T64 l (i : Int) = l[i] := by simp [rd_T64, List.getD, h]
theorem rdTxA {l : List ByteArray} {i : Nat} (h : i < l.length) : rdOf ByteArray.empty l (i : Int) = l[i] := by simp [rdOf, List.getD, h]
theorem all_drop {α : Type} (p : α → Bool) (l : List α) (i : Nat) (h : i < l.length) : (l.drop i).all p = (p l[i] && (l.drop (i + 1)).all p) := by
  rw [List.drop_eq_getElem_cons h, List.all_cons]
def bareB (a : AnB) : Bool := decide (a.f3.length = 0 ∧ a.f4.length = 0 ∧ a.f5.length = 0)
def spansB (a : AnB) : Bool := decide (1 ≤ a.f1.length ∧ a.f1.length ≤ 1048576 ∧ a.f2.length = a.f1.length) && a.f1.all mayS
def withinB (x n : Int) : Bool := decide (0 ≤ x) && decide (x < n)
def edgeOk (a : AnB) (e : EdB) : Bool := withinB e.f0 a.f3.length && (withinB e.f1 a.f3.length && (withinB e.f3.f0 a.f1.length && withinB e.f3.f1 a.f1.length))
def hostsA (a : AnB) : Bool := decide (1 ≤ a.f3.length ∧ a.f3.length ≤ 32) && (a.f3.all nameB && if a.f0 = 1 then decide (a.f4.length = a.f3.length ∧ a.f5.length = 0) else a.f5.all (edgeOk a) && decide (a.f4.length = 0 ∧ 1 ≤ a.f5.length ∧ a.f5.length ≤ a.f3.length))
def mayAns (a : AnB) : Bool := if a.f0 = 0 then bareB a && decide (a.f1.length = 0 ∧ a.f2.length = 0) else if a.f0 = 3 then bareB a && spansB a else if a.f0 = 1 ∨ a.f0 = 2 then spansB a && hostsA a else false
/-- What is known of an answer that is read, and not too great. -/
def wfSp (s : SpB) : Prop := ((0 ≤ s.f0 ∧ s.f0 < 18446744073709551616) ∧ (0 ≤ s.f1 ∧ s.f1 < 18446744073709551616) ∧ (0 ≤ s.f2 ∧ s.f2 < 18446744073709551616) ∧ (0 ≤ s.f3 ∧ s.f3 < 256)) ∧ (-9223372036854775808 ≤ s.f6 ∧ s.f6 < 9223372036854775808) ∧ (-9223372036854775808 ≤ s.f7 ∧ s.f7 < 9223372036854775808) ∧ fitS s
instance : DecidablePred wfSp := fun s => by unfold wfSp; infer_instance
instance : DecidablePred in64 := fun x => by unfold in64; infer_instance
def okA (a : AnB) : Prop := (a.f1.length ≤ 60 ∧ ∀ s ∈ a.f1, wfSp s) ∧ (a.f2.length ≤ 100 ∧ ∀ x ∈ a.f2, in64 x) ∧ (a.f3.length ≤ 60 ∧ ∀ h ∈ a.f3, h.size ≤ 100) ∧ (a.f4.length ≤ 60 ∧ ∀ x ∈ a.f4, in64 x) ∧ (a.f5.length ≤ 60 ∧ ∀ e ∈ a.f5, in64 e.f2)
instance : DecidablePred okA := fun a => by unfold okA; infer_instance
theorem within_is (x n : Int) : reply_within.f x n = some (withinB x n) := by
  unfold reply_within.f withinB
  by_cases h : x ≥ 0
  · rw [if_pos h, decide_eq_true (show 0 ≤ x from h)]; rfl
  · rw [if_neg h, decide_eq_false (show ¬ 0 ≤ x from h)]; rfl
theorem bare_is (a : AnB) : reply_bare.f a.f0 a.f1 a.f2 a.f3 a.f4 a.f5 = some (bareB a) := by
  unfold reply_bare.f bareB
  by_cases h3 : a.f3.length = 0
  · rw [if_pos (by omega)]
    by_cases h4 : a.f4.length = 0
    · rw [if_pos (by omega)]
      congr 1
      rw [Bool.eq_iff_iff]; simp only [beq_iff_eq, decide_eq_true_eq]; omega
    · rw [if_neg (by omega), decide_eq_false (by omega)]
  · rw [if_neg (by omega), decide_eq_false (by omega)]
theorem mayS_le {s : SpB} (h : mayS s = true) : nameB s.f4 = true ∧ nameB s.f5 = true := by
  unfold mayS mayB at h
  simp only [Bool.and_eq_true] at h
  exact h.2.2
theorem nameB_le {s : ByteArray} (h : nameB s = true) : s.size ≤ 16 := by
  unfold nameB at h
  simp only [Bool.and_eq_true, decide_eq_true_eq] at h
  exact h.1.2
theorem spans_l0 (l : List SpB) (hl : l.length ≤ 60) (hf : ∀ s ∈ l, fitS s) : ∀ (d i : Nat), l.length - i = d → i ≤ l.length → Ev (fun k => reply_spans.l0 k l (l.length : Int) (i : Int)) ((l.drop i).all mayS) := by
  intro d
  induction d with
  | zero =>
    intro i hd hi
    refine Ev.succ ?_
    simp only [reply_spans.l0]
    rw [List.drop_of_length_le (by omega)]
    exact Ev.neg (by omega) (Ev.now _)
  | succ d ih =>
    intro i hd hi
    have hlt : i < l.length := by omega
    have hn := ih (i + 1) (by omega) (by omega)
    have hm := hf l[i] (List.getElem_mem hlt)
    refine Ev.succ ?_
    simp only [reply_spans.l0]
    rw [rdSpA hlt, wrap_id (i := (i : Int) + 1) (by omega) (by omega), all_drop _ _ _ hlt]
    refine Ev.pos (by omega) (Ev.pos (by omega) (Ev.pos (by omega) (Ev.bind (may_ev l[i].f0 l[i].f1 l[i].f2 l[i].f3 l[i].f4 l[i].f5 l[i].f6 l[i].f7 hm.2.1 hm.2.2) (Ev.ite (fun h => ?_) (fun h => ?_)))))
    · rw [show mayS l[i] = true from h, Bool.true_and]; exact hn
    · rw [show mayS l[i] = false from by simpa [mayS] using h, Bool.false_and]; exact Ev.now _
theorem spans_ev (a : AnB) (h : okA a) : Ev (fun k => reply_spans.f k a.f0 a.f1 a.f2 a.f3 a.f4 a.f5) (spansB a) := by
  obtain ⟨⟨h1, hf⟩, _⟩ := h
  unfold reply_spans.f spansB
  have no : ∀ k0 : Bool, k0 = true → Ev (fun k => reply_spans.j0 k k0 a.f0 a.f1 a.f2 a.f3 a.f4 a.f5) false := by
    intro k0 hk
    refine Ev.succ ?_
    simp only [reply_spans.j0]
    exact Ev.pos hk (Ev.now _)
  refine Ev.ite (fun h => ?_) (fun h => Ev.ite (fun h' => ?_) (fun h' => ?_))
  · rw [decide_eq_false (by omega), Bool.false_and]; exact no true rfl
  · rw [decide_eq_false (by omega), Bool.false_and]; exact no true rfl
  · by_cases h2 : a.f2.length = a.f1.length
    · rw [decide_eq_true (by omega), Bool.true_and]
      have e : ((a.f2.length : Int) != (a.f1.length : Int)) = false := by rw [h2]; simp
      rw [e]
      refine Ev.succ ?_
      simp only [reply_spans.j0]
      exact Ev.neg (by simp) (spans_l0 a.f1 h1 (fun s hs => (hf s hs).2.2.2) a.f1.length 0 (by omega) (by omega))
    · rw [decide_eq_false (by omega), Bool.false_and]
      exact no _ (by simp; omega)
theorem hosts_l1 (a : AnB) (h : okA a) : ∀ (d i : Nat), a.f5.length - i = d → i ≤ a.f5.length → Ev (fun k => reply_hosts.l1 k (a.f3.length : Int) a.f5 (a.f5.length : Int) (i : Int) a.f0 a.f1 a.f2 a.f3 a.f4 a.f5) ((a.f5.drop i).all (edgeOk a) && decide (a.f4.length = 0 ∧ 1 ≤ a.f5.length ∧ a.f5.length ≤ a.f3.length)) := by
  have hl := h.2.2.2.2.1
  intro d
  induction d with
  | zero =>
    intro i hd hi
    refine Ev.succ ?_
    simp only [reply_hosts.l1]
    rw [List.drop_of_length_le (by omega), List.all_nil, Bool.true_and]
    refine Ev.neg (by omega) (Ev.ite (fun q => Ev.ite (fun q' => ?_) (fun q' => ?_)) (fun q => ?_))
    · refine Ev.cast (Ev.now _) ?_
      rw [Bool.eq_iff_iff]; simp only [decide_eq_true_eq]; omega
    · rw [decide_eq_false (by omega)]; exact Ev.now _
    · rw [decide_eq_false (by omega)]; exact Ev.now _
  | succ d ih =>
    intro i hd hi
    have hlt : i < a.f5.length := by omega
    have hn := ih (i + 1) (by omega) (by omega)
    refine Ev.succ ?_
    simp only [reply_hosts.l1, within_is]
    rw [rdEdA hlt, wrap_id (i := (i : Int) + 1) (by omega) (by omega), all_drop _ _ _ hlt]
    refine Ev.pos (by omega) (Ev.pos (by omega) (Ev.pos (by omega) (Ev.bind (Ev.now _) ?_)))
    unfold edgeOk at hn ⊢
    refine Ev.ite (fun q => ?_) (fun q => ?_)
    · rw [q, Bool.true_and]
      refine Ev.bind (Ev.now _) (Ev.ite (fun q => ?_) (fun q => ?_))
      · rw [q, Bool.true_and]
        refine Ev.bind (Ev.now _) (Ev.ite (fun q => ?_) (fun q => ?_))
        · rw [q, Bool.true_and]
          refine Ev.bind (Ev.now _) (Ev.ite (fun q => ?_) (fun q => ?_))
          · rw [q, Bool.true_and]; exact hn
          · rw [show withinB a.f5[i].f3.f1 a.f1.length = false by simpa using q, Bool.false_and, Bool.false_and]; exact Ev.now _
        · rw [show withinB a.f5[i].f3.f0 a.f1.length = false by simpa using q, Bool.false_and, Bool.false_and, Bool.false_and]; exact Ev.now _
      · rw [show withinB a.f5[i].f1 a.f3.length = false by simpa using q, Bool.false_and, Bool.false_and, Bool.false_and]; exact Ev.now _
    · rw [show withinB a.f5[i].f0 a.f3.length = false by simpa using q, Bool.false_and, Bool.false_and, Bool.false_and]; exact Ev.now _
theorem hosts_l0 (a : AnB) (h : okA a) : ∀ (d i : Nat), a.f3.length - i = d → i ≤ a.f3.length → Ev (fun k => reply_hosts.l0 k (a.f3.length : Int) a.f3 (a.f3.length : Int) (i : Int) a.f0 a.f1 a.f2 a.f3 a.f4 a.f5) ((a.f3.drop i).all nameB && if a.f0 = 1 then decide (a.f4.length = a.f3.length ∧ a.f5.length = 0) else a.f5.all (edgeOk a) && decide (a.f4.length = 0 ∧ 1 ≤ a.f5.length ∧ a.f5.length ≤ a.f3.length)) := by
  have hl := h.2.2.1
  intro d
  induction d with
  | zero =>
    intro i hd hi
    refine Ev.succ ?_
    simp only [reply_hosts.l0]
    rw [List.drop_of_length_le (by omega), List.all_nil, Bool.true_and]
    refine Ev.neg (by omega) (Ev.ite (fun q => ?_) (fun q => ?_))
    · rw [if_pos q]
      refine Ev.ite (fun q' => ?_) (fun q' => ?_)
      · refine Ev.cast (Ev.now _) ?_
        rw [Bool.eq_iff_iff]; simp only [decide_eq_true_eq, beq_iff_eq]; omega
      · rw [decide_eq_false (by omega)]; exact Ev.now _
    · rw [if_neg q]
      exact hosts_l1 a h a.f5.length 0 (by omega) (by omega)
  | succ d ih =>
    intro i hd hi
    have hlt : i < a.f3.length := by omega
    have hn := ih (i + 1) (by omega) (by omega)
    have hs := hl.2 a.f3[i] (List.getElem_mem hlt)
    have hl1 := hl.1
    refine Ev.succ ?_
    simp only [reply_hosts.l0]
    rw [rdTxA hlt, wrap_id (i := (i : Int) + 1) (by omega) (by omega), all_drop _ _ _ hlt]
    refine Ev.pos (by omega) (Ev.pos (by omega) (Ev.pos (by omega) (Ev.bind (name_ev a.f3[i] (by omega)) (Ev.ite (fun q => ?_) (fun q => ?_)))))
    · rw [q, Bool.true_and]; exact hn
    · rw [show nameB a.f3[i] = false by simpa using q, Bool.false_and, Bool.false_and]; exact Ev.now _
theorem hosts_ev (a : AnB) (h : okA a) : Ev (fun k => reply_hosts.f k a.f0 a.f1 a.f2 a.f3 a.f4 a.f5) (hostsA a) := by
  unfold reply_hosts.f hostsA
  refine Ev.ite (fun q => ?_) (fun q => ?_)
  · rw [decide_eq_false (by omega), Bool.false_and]
    refine Ev.succ ?_
    simp only [reply_hosts.j0]
    exact Ev.pos trivial (Ev.now _)
  · refine Ev.succ ?_
    simp only [reply_hosts.j0, decide_eq_true_eq]
    refine Ev.ite (fun q' => ?_) (fun q' => ?_)
    · rw [decide_eq_false (by omega), Bool.false_and]; exact Ev.now _
    · rw [decide_eq_true (by omega), Bool.true_and]
      exact hosts_l0 a h a.f3.length 0 (by omega) (by omega)
theorem mayAns_ev (a : AnB) (h : okA a) : Ev (fun k => reply_May.f k a.f0 a.f1 a.f2 a.f3 a.f4 a.f5) (mayAns a) := by
  unfold reply_May.f mayAns
  simp only [bare_is]
  refine Ev.ite (fun q => ?_) (fun q => ?_)
  · rw [if_pos q]
    refine Ev.bind (Ev.now _) (Ev.ite (fun q1 => Ev.ite (fun q2 => ?_) (fun q2 => ?_)) (fun q1 => ?_))
    · refine Ev.cast (Ev.now _) ?_
      rw [q1, Bool.true_and, Bool.eq_iff_iff]; simp only [decide_eq_true_eq, beq_iff_eq]; omega
    · rw [decide_eq_false (by omega), Bool.and_false]; exact Ev.now _
    · rw [show bareB a = false by simpa using q1, Bool.false_and]; exact Ev.now _
  · rw [if_neg q]
    refine Ev.ite (fun q3 => ?_) (fun q3 => ?_)
    · rw [if_pos q3]
      refine Ev.bind (Ev.now _) (Ev.ite (fun q1 => ?_) (fun q1 => ?_))
      · rw [q1, Bool.true_and]; exact Ev.bind (spans_ev a h) (Ev.now _)
      · rw [show bareB a = false by simpa using q1, Bool.false_and]; exact Ev.now _
    · rw [if_neg q3]
      have yes : (a.f0 = 1 ∨ a.f0 = 2) → Ev (fun k => reply_May.j0 k true a.f0 a.f1 a.f2 a.f3 a.f4 a.f5) (spansB a && hostsA a) := by
        intro _
        refine Ev.succ ?_
        simp only [reply_May.j0]
        refine Ev.pos trivial (Ev.bind (spans_ev a h) (Ev.ite (fun q1 => ?_) (fun q1 => ?_)))
        · rw [q1, Bool.true_and]; exact Ev.bind (hosts_ev a h) (Ev.now _)
        · rw [show spansB a = false by simpa using q1, Bool.false_and]; exact Ev.now _
      refine Ev.ite (fun q1 => ?_) (fun q1 => ?_)
      · rw [if_pos (Or.inl q1), show (a.f0 == 1) = true by simpa using q1]
        exact yes (Or.inl q1)
      · by_cases q2 : a.f0 = 2
        · rw [if_pos (Or.inr q2), show (a.f0 == 2) = true by simpa using q2]
          exact yes (Or.inr q2)
        · rw [if_neg (by omega), show (a.f0 == 2) = false by simpa using q2]
          refine Ev.succ ?_
          simp only [reply_May.j0]
          exact Ev.neg (by simp) (Ev.now _)
theorem mayAns_in {a : AnB} (h : okA a) (hm : mayAns a = true) : AnsIn a ∧ ∀ s ∈ a.f1, mayS s = true ∧ fitSp s ∧ fitS s := by
  obtain ⟨⟨h1, hf⟩, ⟨_, h2⟩, ⟨_, h3⟩, ⟨_, h4⟩, ⟨_, h5⟩⟩ := h
  have sp : ∀ {s : SpB}, s ∈ a.f1 → mayS s = true → fitSp s := by
    intro s hs hy
    obtain ⟨⟨b0, b1, b2, b3⟩, b6, b7, b⟩ := hf s hs
    exact ⟨⟨b0.1, by omega⟩, ⟨b1.1, by omega⟩, ⟨b2.1, by omega⟩, ⟨b3.1, by omega⟩, b6, b7, nameB_le (mayS_le hy).1, nameB_le (mayS_le hy).2⟩
  have nil : ∀ {α : Type} {l : List α}, l.length = 0 → l = [] := fun h => List.length_eq_zero_iff.1 h
  unfold mayAns at hm
  by_cases q0 : a.f0 = 0
  · rw [if_pos q0] at hm
    simp only [bareB, Bool.and_eq_true, decide_eq_true_eq] at hm
    obtain ⟨⟨e3, e4, e5⟩, e1, e2⟩ := hm
    have n1 := nil e1; have n2 := nil e2; have n3 := nil e3; have n4 := nil e4; have n5 := nil e5
    refine ⟨⟨by omega, by omega, fun _ => ⟨n1, n2, n3, n4, n5⟩, ?_, by omega, by omega, h2, by omega, ?_, by omega, by omega, h4, by omega, ?_⟩, ?_⟩
    · rw [n1]; simp
    · rw [n3]; simp
    · rw [n5]; simp
    · rw [n1]; simp
  · rw [if_neg q0] at hm
    by_cases q3 : a.f0 = 3
    · rw [if_pos q3] at hm
      simp only [bareB, spansB, Bool.and_eq_true, decide_eq_true_eq, List.all_eq_true] at hm
      obtain ⟨⟨e3, e4, e5⟩, ⟨e1, e1', e2⟩, em⟩ := hm
      have n3 := nil e3; have n4 := nil e4; have n5 := nil e5
      refine ⟨⟨by omega, by omega, fun q => absurd q q0, fun s hs => sp hs (em s hs), e1', e2, h2, fun _ => ⟨n3, n4, n5⟩, ?_, by omega, by omega, h4, by omega, ?_⟩, fun s hs => ⟨em s hs, sp hs (em s hs), (hf s hs).2.2.2⟩⟩
      · rw [n3]; simp
      · rw [n5]; simp
    · rw [if_neg q3] at hm
      by_cases q12 : a.f0 = 1 ∨ a.f0 = 2
      · rw [if_pos q12] at hm
        simp only [spansB, hostsA, Bool.and_eq_true, decide_eq_true_eq, List.all_eq_true] at hm
        obtain ⟨⟨⟨e1, e1', e2⟩, em⟩, ⟨e3, e3'⟩, en, er⟩ := hm
        have ed : a.f0 = 1 → a.f4.length = a.f3.length ∧ a.f5.length = 0 := fun q => by
          rw [if_pos q] at er; simpa using er
        have ee : a.f0 = 2 → (∀ e ∈ a.f5, edgeOk a e = true) ∧ a.f4.length = 0 ∧ 1 ≤ a.f5.length ∧ a.f5.length ≤ a.f3.length := fun q => by
          rw [if_neg (by omega)] at er
          simpa only [Bool.and_eq_true, decide_eq_true_eq, List.all_eq_true] using er
        refine ⟨⟨by omega, by omega, fun q => absurd q q0, fun s hs => sp hs (em s hs), e1', e2, h2, fun q => absurd q q3, fun x hx => nameB_le (en x hx), e3', fun q => ⟨(ed q).1, nil (ed q).2⟩, h4, fun q => ⟨nil (ee q).2.1, by have := (ee q).2.2.2; omega⟩, fun e he => ?_⟩, fun s hs => ⟨em s hs, sp hs (em s hs), (hf s hs).2.2.2⟩⟩
        rcases q12 with q | q
        · have := (ed q).2
          have := List.length_pos_of_mem he
          omega
        · have := (ee q).1 e he
          simp only [edgeOk, withinB, Bool.and_eq_true, decide_eq_true_eq] at this
          obtain ⟨⟨b1, b2⟩, ⟨b3, b4⟩, ⟨b5, b6⟩, b7, b8⟩ := this
          exact ⟨⟨b1, by omega⟩, ⟨b3, by omega⟩, h5 e he, ⟨b5, by omega⟩, ⟨b7, by omega⟩⟩
      · rw [if_neg q12] at hm; cases hm
end Go.Proofs.YtljkikcclnbdaaaDoor.L

/- reply.Put: an answer's bytes. -/
namespace Go.Proofs.YtljkikcclnbdaaaDoor.L
open Go.RowKit Go.Proofs.YtljkikcclnbdaaaDoor.Q Go.Proofs.YtljkikcclnbdaaaDoor.P Go.Proofs.YtljkikcclnbdaaaDoor.W Go.Proofs.YtljkikcclnbdaaaDoorW.PrintWords Go.Proofs.YtljkikcclnbdaaaDoorW.PrintLast Go.Proofs.YtljkikcclnbdaaaDoorW.PrintMore Go.Proofs.YtljkikcclnbdaaaDoorW.MapB Go.Proofs.YtljkikcclnbdaaaDoorW.Lib
set_option linter.unusedVariables false
set_option linter.unusedSimpArgs false
theorem IsB.new {w0 w : World} (hb : Below w0.heap.size w0 w) : IsB w0 w.heap.size [] (w.alloc (.cells #[.slice none 0 0, .int .i64 0, .int .i8 0] 46)) :=
  ⟨⟨hb.size, .slice none 0 0, 0, (MapKept.heap_alloc w _).1, World.ownsRow_nil _ _ _ _, by simp [Value.ownBlock]⟩, below_alloc hb _⟩
theorem Rw.write {w0 w : World} {b : Nat} {l cs : List Int} {e : Ending} {w1 : World} (h : IsB w0 b l w) (hr : Rw cs w e w1) (hl : l.length + cs.length ≤ 140737488355328) : ∃ g c, e = .returned (.slice (some ⟨g, 0, none⟩) cs.length c) ∧ IsB w0 b l w1 ∧ Calls Tryd.prog 18 #[.pointer (some ⟨b, 0, none⟩), .slice (some ⟨g, 0, none⟩) cs.length c] w1 fun e w' => e = .returned (.tuple #[.int .i64 cs.length, .nilIface]) ∧ IsB w0 b (l ++ cs) w' := by
  obtain ⟨g, c, rfl, hg, hs, hb⟩ := hr
  have h1 := h.old hb
  exact ⟨g, c, rfl, h1, write_calls h1 ⟨g, 0, none⟩ c (by have := h.1.lt; show g ≠ b; omega) hs hl⟩
set_option maxHeartbeats 8000000 in
set_option maxRecDepth 100000 in
theorem putA_calls (a : AnB) (h : okA a) (A1 A2 A3 A4 A5 : Option Addr) (c1 c2 c3 c4 c5 : Nat) (w : World) (hr1 : Kd.C k56 w A1 a.f1.length a.f1) (hr2 : Kd.C (Kd.int .i64) w A2 a.f2.length a.f2) (hr3 : Kd.C Kd.string w A3 a.f3.length a.f3) (hr4 : Kd.C (Kd.int .i64) w A4 a.f4.length a.f4) (hr5 : Kd.C k64 w A5 a.f5.length a.f5)
    (hc1 : a.f1.length ≤ c1) (hc2 : a.f2.length ≤ c2) (hc3 : a.f3.length ≤ c3) (hc4 : a.f4.length ≤ c4) (hc5 : a.f5.length ≤ c5) :
    Calls Tryd.prog 8 #[.agg #[.int .i64 a.f0, .slice A1 a.f1.length c1, .slice A2 a.f2.length c2, .slice A3 a.f3.length c3, .slice A4 a.f4.length c4, .slice A5 a.f5.length c5]] w fun e w' => ∃ v, e = .returned (.tuple #[v, .int .i64 (if mayAns a = true then 0 else 1)]) ∧ Kd.R (Kd.int .u8) 5 w' w.heap.size (fun _ => True) v (if mayAns a = true then answerB a else []) ∧ Below w.heap.size w w' := by
  obtain ⟨w0, hw0⟩ : ∃ w0, w0 = w.alloc (.cells #[.int .i64 a.f0, .slice A1 a.f1.length c1, .slice A2 a.f2.length c2, .slice A3 a.f3.length c3, .slice A4 a.f4.length c4, .slice A5 a.f5.length c5] 27) := ⟨_, rfl⟩
  have HW0 := Aside0.mk (show Below w.heap.size w w0 from hw0 ▸ below_alloc (Below.refl _ _) _)
  have hbk : w0.heap[w.heap.size]? = some (.cells #[.int .i64 a.f0, .slice A1 a.f1.length c1, .slice A2 a.f2.length c2, .slice A3 a.f3.length c3, .slice A4 a.f4.length c4, .slice A5 a.f5.length c5] 27 (0, 0)) := hw0 ▸ new_blockW w _ _
  have hlt : w.heap.size < w0.heap.size := (Array.getElem?_eq_some_iff.1 hbk).1
  have HC : Aside0 (∀ W, Below w0.heap.size w0 W → W.heap[w.heap.size]? = some (.cells #[.int .i64 a.f0, .slice A1 a.f1.length c1, .slice A2 a.f2.length c2, .slice A3 a.f3.length c3, .slice A4 a.f4.length c4, .slice A5 a.f5.length c5] 27 (0, 0))) := ⟨fun W hb => (hb.block _ hlt).trans hbk⟩
  have HR1 := Aside0.mk (Kd.C_below hr1 HW0.out)
  have HR2 := Aside0.mk (Kd.C_below hr2 HW0.out)
  have HR3 := Aside0.mk (Kd.C_below hr3 HW0.out)
  have HR4 := Aside0.mk (Kd.C_below hr4 HW0.out)
  have HR5 := Aside0.mk (Kd.C_below hr5 HW0.out)
  obtain ⟨k, hk⟩ := Ev.rounds (mayAns_ev a h)
  have QM := Aside0.mk (reply_May.calls k a.f0 A1 c1 a.f1 A2 c2 a.f2 A3 c3 a.f3 A4 c4 a.f4 A5 c5 a.f5 _ w0 HR1.out hc1 HR2.out hc2 HR3.out hc3 HR4.out hc4 HR5.out hc5 hk)
  have HOk := Aside0.mk h
  have HLt := Aside0.mk hlt
  clear hr1 hr2 hr3 hr4 hr5 hk hbk hlt h hc1 hc2 hc3 hc4 hc5
  go_enter Tryd.func8, Tryd.ntmps8
  have lenF : ∀ {α : Type} (f : α → List Int) (n : Nat) (l : List α), (∀ x ∈ l, (f x).length = n) → (l.flatMap f).length = n * l.length := by
    intro α f n l
    induction l with
    | nil => intro _; simp
    | cons x l ih => intro hx; rw [List.flatMap_cons, List.length_append, hx x (by simp), ih (fun y hy => hx y (by simp [hy])), List.length_cons, Nat.mul_succ]; omega
  cases hm : mayAns a with
  | false =>
    rw [hm] at QM
    go_wp2_with (first
      | (go_at_call 11; rw [← hw0]; go_loud (refine QM.out.mono ?_; rintro e w1 ⟨rfl, hb⟩; have HB := Aside0.mk hb; clear hb)))
    go_ret2
    exact ⟨_, rfl, Kd.R_nil _ _ _ _ _, Below.trans HW0.out (HB.out.mono HW0.out.size)⟩
  | true =>
    rw [hm] at QM
    have hin := mayAns_in HOk.out hm
    have HIn := Aside0.mk hin
    have L1 := Aside0.mk (show (a.f1.flatMap spanB).length ≤ 4500 from by rw [lenF spanB 75 a.f1 (fun s hs => spanB_length (hin.2 s hs).2.1)]; have := HOk.out.1.1; omega)
    have L2 := Aside0.mk (show (numB8 a.f2).length ≤ 800 from by unfold numB8; rw [lenF _ 8 a.f2 (fun s hs => leB_length _ _)]; have := HOk.out.2.1.1; omega)
    have L3 := Aside0.mk (show (a.f3.flatMap textB).length ≤ 1020 from by rw [lenF textB 17 a.f3 (fun s hs => textB_length (hin.1.hosts s hs))]; have := HOk.out.2.2.1.1; omega)
    have L4 := Aside0.mk (show (numB8 a.f4).length ≤ 480 from by unfold numB8; rw [lenF _ 8 a.f4 (fun s hs => leB_length _ _)]; have := HOk.out.2.2.2.1.1; omega)
    have T1 := Aside0.mk (fun q : Nat => show ((a.f1.take q).flatMap spanB).length ≤ 4500 from by rw [lenF spanB 75 _ (fun s hs => spanB_length (hin.2 s (List.mem_of_mem_take hs)).2.1), List.length_take]; have := HOk.out.1.1; omega)
    have T3 := Aside0.mk (fun q : Nat => show ((a.f3.take q).flatMap textB).length ≤ 1020 from by rw [lenF textB 17 _ (fun s hs => textB_length (hin.1.hosts s (List.mem_of_mem_take hs))), List.length_take]; have := HOk.out.2.2.1.1; omega)
    have T5 := Aside0.mk (fun q : Nat => show ((a.f5.take q).flatMap edgeB).length ≤ 1140 from by rw [lenF edgeB 19 _ (fun s hs => edgeB_length s), List.length_take]; have := HOk.out.2.2.2.2.1; omega)
    clear hin lenF
    by_cases q0 : a.f0 = 0
    · have e0 : (a.f0 == 0) = true := by simp [q0]
      have HE := Aside0.mk (show answerB a = [] ++ [a.f0 % 256] from by unfold answerB; rw [if_pos q0]; rfl)
      clear q0
      go_wp2_with (first
        | (go_at_call 11; rw [← hw0]; go_loud (refine QM.out.mono ?_; rintro e w1 ⟨rfl, hb⟩; have HB := Aside0.mk hb; have bk := HC.out _ hb; have q0 : ∀ o, (w1.alloc o).cell? ⟨w.heap.size, 0, none⟩ = some (.int .i64 a.f0) := fun o => (World.cell?_alloc_lt _ _ _ (Nat.lt_of_lt_of_le HLt.out hb.size)).trans ((blk_cell bk 0).trans rfl); clear bk; clear hb))
        | (go_at_call 16; go_loud (refine (wbyte_calls (IsB.new HB.out) _ (by decide)).mono ?_; rintro e w2 ⟨rfl, hi⟩; have bk := HC.out _ hi.2; have k0 : w2.cell? ⟨w.heap.size, 0, none⟩ = some (.int .i64 a.f0) := (blk_cell bk 0).trans rfl; have k1 : w2.cell? ⟨w.heap.size, 1, none⟩ = some (.slice A1 a.f1.length c1) := (blk_cell bk 1).trans rfl; have k2 : w2.cell? ⟨w.heap.size, 2, none⟩ = some (.slice A2 a.f2.length c2) := (blk_cell bk 2).trans rfl; have k3 : w2.cell? ⟨w.heap.size, 3, none⟩ = some (.slice A3 a.f3.length c3) := (blk_cell bk 3).trans rfl; have k4 : w2.cell? ⟨w.heap.size, 4, none⟩ = some (.slice A4 a.f4.length c4) := (blk_cell bk 4).trans rfl; have k5 : w2.cell? ⟨w.heap.size, 5, none⟩ = some (.slice A5 a.f5.length c5) := (blk_cell bk 5).trans rfl; clear bk; have HI := Aside0.mk hi; have HBu := Aside0.mk (show w1.heap.size = w1.heap.size from rfl); clear hi))
        | (go_at_call 17; go_loud (refine (bytes_calls HI.out).mono ?_; rintro e w9 ⟨v9, rfl, ho, hb⟩; have HO9 := Aside0.mk ho; have HB9 := Aside0.mk hb; clear ho hb)))
      go_ret2
      refine ⟨_, rfl, ?_, Below.trans HW0.out (HB9.out.mono HW0.out.size)⟩
      have e9 : answerB a = _ := HE.out
      first | rw [if_pos rfl, e9] | rw [e9]
      exact Kd.R_lower HO9.out HW0.out.size
    · have e0 : (a.f0 == 0) = false := by simp [q0]
      have Q0 := Aside0.mk q0
      clear q0
      have hw1 : IntKind.u64.wrap (a.f1.length : Int) = (a.f1.length : Int) := by rw [up_wrap]; exact up_id (by omega) (by have := HOk.out.1.1; omega)
      go_wp2_with (first
        | (go_at_call 11; rw [← hw0]; go_loud (refine QM.out.mono ?_; rintro e w1 ⟨rfl, hb⟩; have HB := Aside0.mk hb; have bk := HC.out _ hb; have q0 : ∀ o, (w1.alloc o).cell? ⟨w.heap.size, 0, none⟩ = some (.int .i64 a.f0) := fun o => (World.cell?_alloc_lt _ _ _ (Nat.lt_of_lt_of_le HLt.out hb.size)).trans ((blk_cell bk 0).trans rfl); clear bk; clear hb))
        | (go_at_call 16; go_loud (refine (wbyte_calls (IsB.new HB.out) _ (by decide)).mono ?_; rintro e w2 ⟨rfl, hi⟩; have bk := HC.out _ hi.2; have k0 : w2.cell? ⟨w.heap.size, 0, none⟩ = some (.int .i64 a.f0) := (blk_cell bk 0).trans rfl; have k1 : w2.cell? ⟨w.heap.size, 1, none⟩ = some (.slice A1 a.f1.length c1) := (blk_cell bk 1).trans rfl; have k2 : w2.cell? ⟨w.heap.size, 2, none⟩ = some (.slice A2 a.f2.length c2) := (blk_cell bk 2).trans rfl; have k3 : w2.cell? ⟨w.heap.size, 3, none⟩ = some (.slice A3 a.f3.length c3) := (blk_cell bk 3).trans rfl; have k4 : w2.cell? ⟨w.heap.size, 4, none⟩ = some (.slice A4 a.f4.length c4) := (blk_cell bk 4).trans rfl; have k5 : w2.cell? ⟨w.heap.size, 5, none⟩ = some (.slice A5 a.f5.length c5) := (blk_cell bk 5).trans rfl; clear bk; have HI := Aside0.mk hi; have HBu := Aside0.mk (show w1.heap.size = w1.heap.size from rfl); clear hi))
        | (go_at_call 19; go_loud (refine (num_calls (a.f1.length : Int) 4 (by omega) (by have := HOk.out.1.1; omega) (by omega) (by omega) _).mono ?_; rintro e w3 hrw; obtain ⟨g, cw, rfl, hi3, hwr⟩ := Rw.write HI.out hrw (by simp only [List.length_append, List.length_cons, List.length_nil, leB_length]; have := L1.out; have := L2.out; have := L3.out; have := L4.out; omega); have QWr := Aside0.mk hwr; clear hrw hwr hi3))
        | (go_at_call 18; go_loud (refine QWr.out.mono ?_; rintro e w4 ⟨rfl, hi⟩; have bk := HC.out _ hi.2; have k0 : w4.cell? ⟨w.heap.size, 0, none⟩ = some (.int .i64 a.f0) := (blk_cell bk 0).trans rfl; have k1 : w4.cell? ⟨w.heap.size, 1, none⟩ = some (.slice A1 a.f1.length c1) := (blk_cell bk 1).trans rfl; have k2 : w4.cell? ⟨w.heap.size, 2, none⟩ = some (.slice A2 a.f2.length c2) := (blk_cell bk 2).trans rfl; have k3 : w4.cell? ⟨w.heap.size, 3, none⟩ = some (.slice A3 a.f3.length c3) := (blk_cell bk 3).trans rfl; have k4 : w4.cell? ⟨w.heap.size, 4, none⟩ = some (.slice A4 a.f4.length c4) := (blk_cell bk 4).trans rfl; have k5 : w4.cell? ⟨w.heap.size, 5, none⟩ = some (.slice A5 a.f5.length c5) := (blk_cell bk 5).trans rfl; clear bk; have HI4 := Aside0.mk hi; clear hi)))
      clear hw1
      generalize hpre : ([] ++ [a.f0 % 256]) ++ leB (Int.toNat 4) (a.f1.length : Int) = pre at *
      have HP := Aside0.mk (show pre.length = 5 from by rw [← hpre]; rfl)
      have HPre := Aside0.mk hpre
      have HE4 := Aside0.mk HI4.out
      clear hpre HI4
      generalize w1.heap.size = b at *
      go_loopg [31] a.f1.length (fun kq v31 w' => ∃ x31 : Int, v31 = .int .i64 x31 ∧ Aside0 (0 ≤ x31 ∧ x31 + kq = a.f1.length) ∧ Aside0 (IsB w0 b (pre ++ (a.f1.take x31.toNat).flatMap spanB) w'))
      case atStart => exact ⟨0, rfl, ⟨by omega, by omega⟩, ⟨by rw [show (a.f1.take (Int.toNat 0)).flatMap spanB = [] from by simp, List.append_nil]; exact HE4.out⟩⟩
      case round =>
        clear HE4 k0 k1 k2 k3 k4 k5
        obtain ⟨x31, rfl, HK, HI⟩ := hrel
        by_cases d1 : x31 < (a.f1.length : Int)
        · have d1b := decide_eq_true d1
          have p1 : 0 ≤ x31 := HK.out.1
          obtain ⟨ad1, e1, hx0, hx1, hx2, hx3, hx4, hx5, hx6, hx7⟩ := at_T56 HR1.out x31 p1 d1
          cases e1
          replace hx0 := (HI.out.2.cell (World.block_lt_of_cell? w0 _ hx0)).trans hx0
          replace hx1 := (HI.out.2.cell (World.block_lt_of_cell? w0 _ hx1)).trans hx1
          replace hx2 := (HI.out.2.cell (World.block_lt_of_cell? w0 _ hx2)).trans hx2
          replace hx3 := (HI.out.2.cell (World.block_lt_of_cell? w0 _ hx3)).trans hx3
          replace hx4 := (HI.out.2.cell (World.block_lt_of_cell? w0 _ hx4)).trans hx4
          replace hx5 := (HI.out.2.cell (World.block_lt_of_cell? w0 _ hx5)).trans hx5
          replace hx6 := (HI.out.2.cell (World.block_lt_of_cell? w0 _ hx6)).trans hx6
          replace hx7 := (HI.out.2.cell (World.block_lt_of_cell? w0 _ hx7)).trans hx7
          have hmem : rd_T56 a.f1 x31 ∈ a.f1 := by
            have hlt : x31.toNat < a.f1.length := by omega
            have e : rd_T56 a.f1 x31 = a.f1[x31.toNat] := by simp [rd_T56, List.getD, hlt]
            rw [e]; exact List.getElem_mem _
          have hnx : (a.f1.take (x31 + 1).toNat).flatMap spanB = (a.f1.take x31.toNat).flatMap spanB ++ spanB (rd_T56 a.f1 x31) := by
            have hlt : x31.toNat < a.f1.length := by omega
            have e : rd_T56 a.f1 x31 = a.f1[x31.toNat] := by simp [rd_T56, List.getD, hlt]
            rw [show (x31 + 1).toNat = x31.toNat + 1 by omega, List.take_succ_eq_append_getElem hlt, List.flatMap_append, e]; simp
          have HNx := Aside0.mk hnx
          obtain ⟨m1, m2, m3⟩ := HIn.out.2 _ hmem
          have HS := Aside0.mk (spanB_length m2)
          have QO := Aside0.mk (one_calls _ m2 m3 m1)
          have HT := Aside0.mk (T1.out x31.toNat)
          clear m1 m2 m3 hmem hnx
          have P1 := Aside0.mk p1
          have Q1 := Aside0.mk d1
          have W1 := Aside0.mk (show wrap64 (x31 + 1) = x31 + 1 from wrap_id (by have := P1.out; omega) (by have := Q1.out; have := HOk.out.1.1; omega))
          generalize rd_T56 a.f1 x31 = s at *
          generalize hacc : (a.f1.take x31.toNat).flatMap spanB = acc at *
          replace p1 := eq_true p1
          replace d1 := eq_true d1
          obtain ⟨k1, rfl⟩ : ∃ k1, gk = k1 + 1 := ⟨gk - 1, by have := HK.out; have := Q1.out; omega⟩
          go_wp2_with (first
            | (go_at_call 20; go_loud (refine (QO.out _).mono ?_; rintro e w5 ⟨g, cw, rfl, hg, hsrc, hb⟩; have hi5 := (HI.out.alloc _).old hb; have hwr := write_calls hi5 ⟨g, 6, none⟩ cw (by have h2 := (HI.out.alloc (.cells #[.int .u64 s.f0, .int .u64 s.f1, .int .u64 s.f2, .int .u8 s.f3, .string s.f4, .string s.f5, .int .i64 s.f6, .int .i64 s.f7] 56)).1.lt; show g ≠ b; omega) hsrc (by have := HS.out; have := HT.out; have := HP.out; rw [List.length_append]; omega); rw [HS.out] at hwr; have QWr := Aside0.mk hwr; clear hwr hi5 hg hsrc hb))
            | (go_at_call 18; go_loud (refine QWr.out.mono ?_; rintro e w6 ⟨rfl, hi⟩; have HI6 := Aside0.mk hi; clear hi)))
          go_roundg k1
          case measure => omega
          case rel => exact ⟨x31 + 1, by rw [W1.out], ⟨by have := P1.out; omega, by have := HK.out; omega⟩, ⟨by rw [HNx.out, ← List.append_assoc]; exact HI6.out⟩⟩
        · have d1b := decide_eq_false d1
          have hx : x31.toNat = a.f1.length := by have := HK.out; omega
          have hI := HI.out
          rw [hx, List.take_length] at hI
          have HI1 := Aside0.mk hI
          have bk := HC.out _ hI.2; have k0 : wr.cell? ⟨w.heap.size, 0, none⟩ = some (.int .i64 a.f0) := (blk_cell bk 0).trans rfl; have k1 : wr.cell? ⟨w.heap.size, 1, none⟩ = some (.slice A1 a.f1.length c1) := (blk_cell bk 1).trans rfl; have k2 : wr.cell? ⟨w.heap.size, 2, none⟩ = some (.slice A2 a.f2.length c2) := (blk_cell bk 2).trans rfl; have k3 : wr.cell? ⟨w.heap.size, 3, none⟩ = some (.slice A3 a.f3.length c3) := (blk_cell bk 3).trans rfl; have k4 : wr.cell? ⟨w.heap.size, 4, none⟩ = some (.slice A4 a.f4.length c4) := (blk_cell bk 4).trans rfl; have k5 : wr.cell? ⟨w.heap.size, 5, none⟩ = some (.slice A5 a.f5.length c5) := (blk_cell bk 5).trans rfl; clear bk
          clear hI hx d1 HI HK
          by_cases q3 : a.f0 = 3
          · have e3 : (a.f0 != 3) = false := by simp [q3]
            have e2 : (a.f0 == 2) = false := by simp [q3]
            have HE := Aside0.mk (show answerB a = pre ++ a.f1.flatMap spanB ++ numB8 a.f2 ++ numB8 a.f4 from by unfold answerB; rw [if_neg Q0.out, if_pos q3, if_neg (by omega), ← HPre.out]; simp [leB, List.append_assoc])
            clear q3
            go_wp2_with (first
              | (go_at_call 21; go_loud (refine (numbers_calls a.f4 A4 c4 w0 _ _ _ HI2.out HR4.out (by simp only [List.length_append, List.length_cons, List.length_nil]; have := HP.out; have := L1.out; have := L2.out; have := L3.out; have := HOk.out.2.1.1; have := HOk.out.2.2.2.1.1; omega)).mono ?_; rintro e w7 ⟨rfl, hi⟩; have bk := HC.out _ hi.2; have k0 : w7.cell? ⟨w.heap.size, 0, none⟩ = some (.int .i64 a.f0) := (blk_cell bk 0).trans rfl; have k1 : w7.cell? ⟨w.heap.size, 1, none⟩ = some (.slice A1 a.f1.length c1) := (blk_cell bk 1).trans rfl; have k2 : w7.cell? ⟨w.heap.size, 2, none⟩ = some (.slice A2 a.f2.length c2) := (blk_cell bk 2).trans rfl; have k3 : w7.cell? ⟨w.heap.size, 3, none⟩ = some (.slice A3 a.f3.length c3) := (blk_cell bk 3).trans rfl; have k4 : w7.cell? ⟨w.heap.size, 4, none⟩ = some (.slice A4 a.f4.length c4) := (blk_cell bk 4).trans rfl; have k5 : w7.cell? ⟨w.heap.size, 5, none⟩ = some (.slice A5 a.f5.length c5) := (blk_cell bk 5).trans rfl; clear bk; have HI3 := Aside0.mk hi; clear hi))
              | (go_at_call 21; go_loud (refine (numbers_calls a.f2 A2 c2 w0 _ _ _ HI1.out HR2.out (by simp only [List.length_append, List.length_cons, List.length_nil]; have := HP.out; have := L1.out; have := L2.out; have := L3.out; have := HOk.out.2.1.1; have := HOk.out.2.2.2.1.1; omega)).mono ?_; rintro e w6 ⟨rfl, hi⟩; have bk := HC.out _ hi.2; have k0 : w6.cell? ⟨w.heap.size, 0, none⟩ = some (.int .i64 a.f0) := (blk_cell bk 0).trans rfl; have k1 : w6.cell? ⟨w.heap.size, 1, none⟩ = some (.slice A1 a.f1.length c1) := (blk_cell bk 1).trans rfl; have k2 : w6.cell? ⟨w.heap.size, 2, none⟩ = some (.slice A2 a.f2.length c2) := (blk_cell bk 2).trans rfl; have k3 : w6.cell? ⟨w.heap.size, 3, none⟩ = some (.slice A3 a.f3.length c3) := (blk_cell bk 3).trans rfl; have k4 : w6.cell? ⟨w.heap.size, 4, none⟩ = some (.slice A4 a.f4.length c4) := (blk_cell bk 4).trans rfl; have k5 : w6.cell? ⟨w.heap.size, 5, none⟩ = some (.slice A5 a.f5.length c5) := (blk_cell bk 5).trans rfl; clear bk; have HI2 := Aside0.mk hi; clear hi))
              | (go_at_call 17; go_loud (refine (bytes_calls HI3.out).mono ?_; rintro e w9 ⟨v9, rfl, ho, hb⟩; have HO9 := Aside0.mk ho; have HB9 := Aside0.mk hb; clear ho hb)))
            go_ret2
            refine ⟨_, rfl, ?_, Below.trans HW0.out (HB9.out.mono HW0.out.size)⟩
            have e9 : answerB a = _ := HE.out
            first | rw [if_pos rfl, e9] | rw [e9]
            exact Kd.R_lower HO9.out HW0.out.size
          · have e3 : (a.f0 != 3) = true := by simp [q3]
            have Q3 := Aside0.mk q3
            clear q3
            go_wp2_with (first
              | (go_at_call 21; go_loud (refine (numbers_calls a.f2 A2 c2 w0 _ _ _ HI1.out HR2.out (by simp only [List.length_append, List.length_cons, List.length_nil]; have := HP.out; have := L1.out; have := L2.out; have := L3.out; have := HOk.out.2.1.1; have := HOk.out.2.2.2.1.1; omega)).mono ?_; rintro e w6 ⟨rfl, hi⟩; have bk := HC.out _ hi.2; have k0 : w6.cell? ⟨w.heap.size, 0, none⟩ = some (.int .i64 a.f0) := (blk_cell bk 0).trans rfl; have k1 : w6.cell? ⟨w.heap.size, 1, none⟩ = some (.slice A1 a.f1.length c1) := (blk_cell bk 1).trans rfl; have k2 : w6.cell? ⟨w.heap.size, 2, none⟩ = some (.slice A2 a.f2.length c2) := (blk_cell bk 2).trans rfl; have k3 : w6.cell? ⟨w.heap.size, 3, none⟩ = some (.slice A3 a.f3.length c3) := (blk_cell bk 3).trans rfl; have k4 : w6.cell? ⟨w.heap.size, 4, none⟩ = some (.slice A4 a.f4.length c4) := (blk_cell bk 4).trans rfl; have k5 : w6.cell? ⟨w.heap.size, 5, none⟩ = some (.slice A5 a.f5.length c5) := (blk_cell bk 5).trans rfl; clear bk; have HI2 := Aside0.mk hi; clear hi))
              | (go_at_call 16; go_loud (refine (wbyte_calls HI2.out _ (by simp only [List.length_append, List.length_cons, List.length_nil, leB_length]; have := HP.out; have := L1.out; have := L2.out; have := L3.out; have := L4.out; omega)).mono ?_; rintro e w7 ⟨rfl, hi⟩; have bk := HC.out _ hi.2; have k0 : w7.cell? ⟨w.heap.size, 0, none⟩ = some (.int .i64 a.f0) := (blk_cell bk 0).trans rfl; have k1 : w7.cell? ⟨w.heap.size, 1, none⟩ = some (.slice A1 a.f1.length c1) := (blk_cell bk 1).trans rfl; have k2 : w7.cell? ⟨w.heap.size, 2, none⟩ = some (.slice A2 a.f2.length c2) := (blk_cell bk 2).trans rfl; have k3 : w7.cell? ⟨w.heap.size, 3, none⟩ = some (.slice A3 a.f3.length c3) := (blk_cell bk 3).trans rfl; have k4 : w7.cell? ⟨w.heap.size, 4, none⟩ = some (.slice A4 a.f4.length c4) := (blk_cell bk 4).trans rfl; have k5 : w7.cell? ⟨w.heap.size, 5, none⟩ = some (.slice A5 a.f5.length c5) := (blk_cell bk 5).trans rfl; clear bk; have HI3 := Aside0.mk hi; clear hi)))
            generalize hpre3 : pre ++ a.f1.flatMap spanB ++ numB8 a.f2 ++ [(a.f3.length : Int) % 256] = pre3 at *
            have HP3 := Aside0.mk (show pre3.length ≤ 6000 from by rw [← hpre3]; simp only [List.length_append, List.length_cons, List.length_nil]; have := HP.out; have := L1.out; have := L2.out; omega)
            have HPre3 := Aside0.mk hpre3
            have HE3 := Aside0.mk HI3.out
            clear hpre3 HI3 HI2 HI1
            go_loopg [53] a.f3.length (fun kq v53 w' => ∃ x53 : Int, v53 = .int .i64 x53 ∧ Aside0 (0 ≤ x53 ∧ x53 + kq = a.f3.length) ∧ Aside0 (IsB w0 b (pre3 ++ (a.f3.take x53.toNat).flatMap textB) w'))
            case atStart => exact ⟨0, rfl, ⟨by omega, by omega⟩, ⟨by rw [show (a.f3.take (Int.toNat 0)).flatMap textB = [] from by simp, List.append_nil]; exact HE3.out⟩⟩
            case round =>
              clear HE3 k0 k1 k2 k3 k4 k5
              obtain ⟨x53, rfl, HK, HI⟩ := hrel
              by_cases d1 : x53 < (a.f3.length : Int)
              · have d1b := decide_eq_true d1
                have p1 : 0 ≤ x53 := HK.out.1
                obtain ⟨ad1, e1, hx0⟩ := Kd.at_string HR3.out x53 p1 d1
                cases e1
                replace hx0 := (HI.out.2.cell (World.block_lt_of_cell? w0 _ hx0)).trans hx0
                have hlt : x53.toNat < a.f3.length := by omega
                have hrd : rdOf ByteArray.empty a.f3 x53 = a.f3[x53.toNat] := by simp [rdOf, List.getD, hlt]
                have hmem : rdOf ByteArray.empty a.f3 x53 ∈ a.f3 := by rw [hrd]; exact List.getElem_mem _
                have HNx := Aside0.mk (show (a.f3.take (x53 + 1).toNat).flatMap textB = (a.f3.take x53.toNat).flatMap textB ++ textB (rdOf ByteArray.empty a.f3 x53) from by
                  rw [show (x53 + 1).toNat = x53.toNat + 1 by omega, List.take_succ_eq_append_getElem hlt, List.flatMap_append, hrd]; simp)
                have HS := Aside0.mk (textB_length (HIn.out.1.hosts _ hmem))
                have QO := Aside0.mk (text_calls _ (HIn.out.1.hosts _ hmem))
                have HT := Aside0.mk (T3.out x53.toNat)
                clear hmem hrd hlt
                have P1 := Aside0.mk p1
                have Q1 := Aside0.mk d1
                have W1 := Aside0.mk (show wrap64 (x53 + 1) = x53 + 1 from wrap_id (by have := P1.out; omega) (by have := Q1.out; have := HOk.out.2.2.1.1; omega))
                generalize rdOf ByteArray.empty a.f3 x53 = s at *
                generalize hacc : (a.f3.take x53.toNat).flatMap textB = acc at *
                replace p1 := eq_true p1
                replace d1 := eq_true d1
                obtain ⟨k1, rfl⟩ : ∃ k1, gk = k1 + 1 := ⟨gk - 1, by have := HK.out; have := Q1.out; omega⟩
                go_wp2_with (first
                  | (go_at_call 22; go_loud (refine (QO.out _).mono ?_; rintro e w5 hrw; obtain ⟨g, cw, rfl, hi3, hwr⟩ := Rw.write HI.out hrw (by have := HS.out; have := HT.out; have := HP3.out; rw [List.length_append]; omega); have QWr := Aside0.mk hwr; clear hrw hwr hi3))
                  | (go_at_call 18; go_loud (refine QWr.out.mono ?_; rintro e w6 ⟨rfl, hi⟩; have HI6 := Aside0.mk hi; clear hi)))
                go_roundg k1
                case measure => omega
                case rel => exact ⟨x53 + 1, by rw [W1.out], ⟨by have := P1.out; omega, by have := HK.out; omega⟩, ⟨by rw [HNx.out, ← List.append_assoc]; exact HI6.out⟩⟩
              · have d1b := decide_eq_false d1
                have hx : x53.toNat = a.f3.length := by have := HK.out; omega
                have hI := HI.out
                rw [hx, List.take_length] at hI
                have HI1 := Aside0.mk hI
                have bk := HC.out _ hI.2; have k0 : wr.cell? ⟨w.heap.size, 0, none⟩ = some (.int .i64 a.f0) := (blk_cell bk 0).trans rfl; have k1 : wr.cell? ⟨w.heap.size, 1, none⟩ = some (.slice A1 a.f1.length c1) := (blk_cell bk 1).trans rfl; have k2 : wr.cell? ⟨w.heap.size, 2, none⟩ = some (.slice A2 a.f2.length c2) := (blk_cell bk 2).trans rfl; have k3 : wr.cell? ⟨w.heap.size, 3, none⟩ = some (.slice A3 a.f3.length c3) := (blk_cell bk 3).trans rfl; have k4 : wr.cell? ⟨w.heap.size, 4, none⟩ = some (.slice A4 a.f4.length c4) := (blk_cell bk 4).trans rfl; have k5 : wr.cell? ⟨w.heap.size, 5, none⟩ = some (.slice A5 a.f5.length c5) := (blk_cell bk 5).trans rfl; clear bk
                clear hI hx d1 HI HK
                by_cases q2 : a.f0 = 2
                · have e2 : (a.f0 == 2) = true := by simp [q2]
                  have Q2 := Aside0.mk q2
                  clear q2
                  go_wp2_with (first
                    | (go_at_call 21; go_loud (refine (numbers_calls a.f4 A4 c4 w0 _ _ _ HI1.out HR4.out (by simp only [List.length_append, List.length_cons, List.length_nil]; have := HP3.out; have := L3.out; have := HOk.out.2.1.1; have := HOk.out.2.2.2.1.1; omega)).mono ?_; rintro e w7 ⟨rfl, hi⟩; have bk := HC.out _ hi.2; have k0 : w7.cell? ⟨w.heap.size, 0, none⟩ = some (.int .i64 a.f0) := (blk_cell bk 0).trans rfl; have k1 : w7.cell? ⟨w.heap.size, 1, none⟩ = some (.slice A1 a.f1.length c1) := (blk_cell bk 1).trans rfl; have k2 : w7.cell? ⟨w.heap.size, 2, none⟩ = some (.slice A2 a.f2.length c2) := (blk_cell bk 2).trans rfl; have k3 : w7.cell? ⟨w.heap.size, 3, none⟩ = some (.slice A3 a.f3.length c3) := (blk_cell bk 3).trans rfl; have k4 : w7.cell? ⟨w.heap.size, 4, none⟩ = some (.slice A4 a.f4.length c4) := (blk_cell bk 4).trans rfl; have k5 : w7.cell? ⟨w.heap.size, 5, none⟩ = some (.slice A5 a.f5.length c5) := (blk_cell bk 5).trans rfl; clear bk; have HI2 := Aside0.mk hi; clear hi))
                    | (go_at_call 16; go_loud (refine (wbyte_calls HI2.out _ (by simp only [List.length_append, List.length_cons, List.length_nil, leB_length]; have := HP3.out; have := L3.out; have := L4.out; omega)).mono ?_; rintro e w8 ⟨rfl, hi⟩; have bk := HC.out _ hi.2; have k0 : w8.cell? ⟨w.heap.size, 0, none⟩ = some (.int .i64 a.f0) := (blk_cell bk 0).trans rfl; have k1 : w8.cell? ⟨w.heap.size, 1, none⟩ = some (.slice A1 a.f1.length c1) := (blk_cell bk 1).trans rfl; have k2 : w8.cell? ⟨w.heap.size, 2, none⟩ = some (.slice A2 a.f2.length c2) := (blk_cell bk 2).trans rfl; have k3 : w8.cell? ⟨w.heap.size, 3, none⟩ = some (.slice A3 a.f3.length c3) := (blk_cell bk 3).trans rfl; have k4 : w8.cell? ⟨w.heap.size, 4, none⟩ = some (.slice A4 a.f4.length c4) := (blk_cell bk 4).trans rfl; have k5 : w8.cell? ⟨w.heap.size, 5, none⟩ = some (.slice A5 a.f5.length c5) := (blk_cell bk 5).trans rfl; clear bk; have HI3 := Aside0.mk hi; clear hi)))
                  generalize hpre5 : pre3 ++ a.f3.flatMap textB ++ numB8 a.f4 ++ [(a.f5.length : Int) % 256] = pre5 at *
                  have HP5 := Aside0.mk (show pre5.length ≤ 10000 from by rw [← hpre5]; simp only [List.length_append, List.length_cons, List.length_nil]; have := HP3.out; have := L3.out; have := L4.out; omega)
                  have HPre5 := Aside0.mk hpre5
                  have HE5 := Aside0.mk HI3.out
                  clear hpre5 HI3 HI2 HI1
                  go_loopg [75] a.f5.length (fun kq v75 w' => ∃ x75 : Int, v75 = .int .i64 x75 ∧ Aside0 (0 ≤ x75 ∧ x75 + kq = a.f5.length) ∧ Aside0 (IsB w0 b (pre5 ++ (a.f5.take x75.toNat).flatMap edgeB) w'))
                  case atStart => exact ⟨0, rfl, ⟨by omega, by omega⟩, ⟨by rw [show (a.f5.take (Int.toNat 0)).flatMap edgeB = [] from by simp, List.append_nil]; exact HE5.out⟩⟩
                  case round =>
                    clear HE5 k0 k1 k2 k3 k4 k5
                    obtain ⟨x75, rfl, HK, HI⟩ := hrel
                    by_cases d1 : x75 < (a.f5.length : Int)
                    · have d1b := decide_eq_true d1
                      have p1 : 0 ≤ x75 := HK.out.1
                      obtain ⟨ad1, e1, hx0, hx1, hx2, hx3, hx4, hx5⟩ := at_T64 HR5.out x75 p1 d1
                      cases e1
                      replace hx0 := (HI.out.2.cell (World.block_lt_of_cell? w0 _ hx0)).trans hx0
                      replace hx1 := (HI.out.2.cell (World.block_lt_of_cell? w0 _ hx1)).trans hx1
                      replace hx2 := (HI.out.2.cell (World.block_lt_of_cell? w0 _ hx2)).trans hx2
                      replace hx3 := (HI.out.2.cell (World.block_lt_of_cell? w0 _ hx3)).trans hx3
                      replace hx4 := (HI.out.2.cell (World.block_lt_of_cell? w0 _ hx4)).trans hx4
                      replace hx5 := (HI.out.2.cell (World.block_lt_of_cell? w0 _ hx5)).trans hx5
                      have hlt : x75.toNat < a.f5.length := by omega
                      have hrd : rd_T64 a.f5 x75 = a.f5[x75.toNat] := by simp [rd_T64, List.getD, hlt]
                      have hmem : rd_T64 a.f5 x75 ∈ a.f5 := by rw [hrd]; exact List.getElem_mem _
                      have HNx := Aside0.mk (show (a.f5.take (x75 + 1).toNat).flatMap edgeB = (a.f5.take x75.toNat).flatMap edgeB ++ edgeB (rd_T64 a.f5 x75) from by
                        rw [show (x75 + 1).toNat = x75.toNat + 1 by omega, List.take_succ_eq_append_getElem hlt, List.flatMap_append, hrd]; simp)
                      have HS := Aside0.mk (edgeB_length (rd_T64 a.f5 x75))
                      have QO := Aside0.mk (edge_calls _ (HIn.out.1.edges _ hmem))
                      have HT := Aside0.mk (T5.out x75.toNat)
                      clear hmem hrd hlt
                      have P1 := Aside0.mk p1
                      have Q1 := Aside0.mk d1
                      have W1 := Aside0.mk (show wrap64 (x75 + 1) = x75 + 1 from wrap_id (by have := P1.out; omega) (by have := Q1.out; have := HOk.out.2.2.2.2.1; omega))
                      generalize rd_T64 a.f5 x75 = s at *
                      generalize hacc : (a.f5.take x75.toNat).flatMap edgeB = acc at *
                      replace p1 := eq_true p1
                      replace d1 := eq_true d1
                      obtain ⟨k1, rfl⟩ : ∃ k1, gk = k1 + 1 := ⟨gk - 1, by have := HK.out; have := Q1.out; omega⟩
                      go_wp2_with (first
                        | (go_at_call 23; go_loud (refine (QO.out _).mono ?_; rintro e w5 hrw; obtain ⟨g, cw, rfl, hi3, hwr⟩ := Rw.write (HI.out.alloc _) hrw (by have := HS.out; have := HT.out; have := HP5.out; rw [List.length_append]; omega); have QWr := Aside0.mk hwr; clear hrw hwr hi3))
                        | (go_at_call 18; go_loud (refine QWr.out.mono ?_; rintro e w6 ⟨rfl, hi⟩; have HI6 := Aside0.mk hi; clear hi)))
                      go_roundg k1
                      case measure => omega
                      case rel => exact ⟨x75 + 1, by rw [W1.out], ⟨by have := P1.out; omega, by have := HK.out; omega⟩, ⟨by rw [HNx.out, ← List.append_assoc]; exact HI6.out⟩⟩
                    · have d1b := decide_eq_false d1
                      have hx : x75.toNat = a.f5.length := by have := HK.out; omega
                      have hI := HI.out
                      rw [hx, List.take_length] at hI
                      have HI1 := Aside0.mk hI
                      have HE := Aside0.mk (show answerB a = pre5 ++ a.f5.flatMap edgeB from by unfold answerB; rw [if_neg Q0.out, if_neg Q3.out, if_pos Q2.out, ← HPre5.out, ← HPre3.out, ← HPre.out]; simp [leB, List.append_assoc])
                      clear hI hx d1 HI HK
                      go_wp2_with (first
                        | (go_at_call 17; go_loud (refine (bytes_calls HI1.out).mono ?_; rintro e w9 ⟨v9, rfl, ho, hb⟩; have HO9 := Aside0.mk ho; have HB9 := Aside0.mk hb; clear ho hb)))
                      go_ret2
                      refine ⟨_, rfl, ?_, Below.trans HW0.out (HB9.out.mono HW0.out.size)⟩
                      have e9 : answerB a = _ := HE.out
                      first | rw [if_pos rfl, e9] | rw [e9]
                      exact Kd.R_lower HO9.out HW0.out.size
                · have e2 : (a.f0 == 2) = false := by simp [q2]
                  have Q2 := Aside0.mk q2
                  clear q2
                  have HE := Aside0.mk (show answerB a = pre3 ++ a.f3.flatMap textB ++ numB8 a.f4 from by unfold answerB; rw [if_neg Q0.out, if_neg Q3.out, if_neg Q2.out, ← HPre3.out, ← HPre.out]; simp [leB, List.append_assoc])
                  go_wp2_with (first
                    | (go_at_call 21; go_loud (refine (numbers_calls a.f4 A4 c4 w0 _ _ _ HI1.out HR4.out (by simp only [List.length_append, List.length_cons, List.length_nil]; have := HP3.out; have := L3.out; have := HOk.out.2.1.1; have := HOk.out.2.2.2.1.1; omega)).mono ?_; rintro e w7 ⟨rfl, hi⟩; have bk := HC.out _ hi.2; have k0 : w7.cell? ⟨w.heap.size, 0, none⟩ = some (.int .i64 a.f0) := (blk_cell bk 0).trans rfl; have k1 : w7.cell? ⟨w.heap.size, 1, none⟩ = some (.slice A1 a.f1.length c1) := (blk_cell bk 1).trans rfl; have k2 : w7.cell? ⟨w.heap.size, 2, none⟩ = some (.slice A2 a.f2.length c2) := (blk_cell bk 2).trans rfl; have k3 : w7.cell? ⟨w.heap.size, 3, none⟩ = some (.slice A3 a.f3.length c3) := (blk_cell bk 3).trans rfl; have k4 : w7.cell? ⟨w.heap.size, 4, none⟩ = some (.slice A4 a.f4.length c4) := (blk_cell bk 4).trans rfl; have k5 : w7.cell? ⟨w.heap.size, 5, none⟩ = some (.slice A5 a.f5.length c5) := (blk_cell bk 5).trans rfl; clear bk; have HI2 := Aside0.mk hi; clear hi))
                    | (go_at_call 17; go_loud (refine (bytes_calls HI2.out).mono ?_; rintro e w9 ⟨v9, rfl, ho, hb⟩; have HO9 := Aside0.mk ho; have HB9 := Aside0.mk hb; clear ho hb)))
                  go_ret2
                  refine ⟨_, rfl, ?_, Below.trans HW0.out (HB9.out.mono HW0.out.size)⟩
                  have e9 : answerB a = _ := HE.out
                  first | rw [if_pos rfl, e9] | rw [e9]
                  exact Kd.R_lower HO9.out HW0.out.size
end Go.Proofs.YtljkikcclnbdaaaDoor.L

-- Written by wip/tools/gp.py, a program of this session round the kit's printer. Lean checks it.
namespace Go.Proofs.YtljkikcclnbdaaaDoor.O
open Go.RowKit Go.Proofs.YtljkikcclnbdaaaDoor.Q Go.Proofs.YtljkikcclnbdaaaDoor.P Go.Proofs.YtljkikcclnbdaaaDoor.W Go.Proofs.YtljkikcclnbdaaaDoorW.PrintWords Go.Proofs.YtljkikcclnbdaaaDoorW.PrintLast Go.Proofs.YtljkikcclnbdaaaDoorW.PrintMore
attribute [local go_sem] max2_int min2_int max_two min_two max_three min_three max_four min_four   -- for this text's walks alone
set_option linter.unusedVariables false
set_option linter.unusedSimpArgs false
/-! #### struct type 27 -/
structure S27 where
  f0 : Int
  f1 : (List S56)
  f2 : (List Int)
  f3 : (List ByteArray)
  f4 : (List Int)
  f5 : (List S64)
def k27 : Kd S27 := Kd.iso (Kd.pair (Kd.int .i64) (Kd.pair (Kd.slice 56 k56) (Kd.pair (Kd.slice 2 (Kd.int .i64)) (Kd.pair (Kd.slice 9 Kd.string) (Kd.pair (Kd.slice 2 (Kd.int .i64)) (Kd.slice 64 k64)))))) (fun x : S27 => (x.f0, x.f1, x.f2, x.f3, x.f4, x.f5))
theorem k27_open {w : World} {x : S27} {cs : List Value} (h : k27.K w x cs) : ∃ A1 c1 A2 c2 A3 c3 A4 c4 A5 c5, cs = [.int .i64 x.f0, .slice A1 x.f1.length c1, .slice A2 x.f2.length c2, .slice A3 x.f3.length c3, .slice A4 x.f4.length c4, .slice A5 x.f5.length c5] ∧ x.f1.length ≤ c1 ∧ k56.C w A1 x.f1.length x.f1 ∧ x.f2.length ≤ c2 ∧ (Kd.int .i64).C w A2 x.f2.length x.f2 ∧ x.f3.length ≤ c3 ∧ Kd.string.C w A3 x.f3.length x.f3 ∧ x.f4.length ≤ c4 ∧ (Kd.int .i64).C w A4 x.f4.length x.f4 ∧ x.f5.length ≤ c5 ∧ k64.C w A5 x.f5.length x.f5 := by
  obtain ⟨_, _, rfl, rfl, ⟨_, _, rfl, ⟨A1, c1, rfl, l1, g1⟩, ⟨_, _, rfl, ⟨A2, c2, rfl, l2, g2⟩, ⟨_, _, rfl, ⟨A3, c3, rfl, l3, g3⟩, ⟨_, _, rfl, ⟨A4, c4, rfl, l4, g4⟩, ⟨A5, c5, rfl, l5, g5⟩⟩⟩⟩⟩⟩ := h
  exact ⟨A1, c1, A2, c2, A3, c3, A4, c4, A5, c5, rfl, l1, g1, l2, g2, l3, g3, l4, g4, l5, g5⟩
end Go.Proofs.YtljkikcclnbdaaaDoor.O

