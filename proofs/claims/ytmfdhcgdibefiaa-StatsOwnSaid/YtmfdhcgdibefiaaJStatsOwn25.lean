/- Texts joined by wip/tools/merge.py: OwnC RcovP RcovW CycP CycA CycG CycW UpR RightG Rx0 Ox0 Qx2 Rx1. -/
import Derived.Test.YtmfdhcgdibefiaaJStatsOwn24
import Derived.Test.YtmfdhcgdibefiaaJStatsOwn22
import Derived.Test.YtmfdhcgdibefiaaJStatsOwn19
import Derived.Deep.QuietTactic
import Derived.BigQuiet
import Derived.RangeFuncBox
import Derived.WalkMore
import Derived.Test.YtmfdhcgdibefiaaProg
import Derived.Below
import Derived.Deep.Draws
import Derived.Deep.AppendLies
import Derived.Maps.AppendAt
import Derived.OwnWalk
import Derived.Laws.BytesArg
import Derived.Laws.MakeOwn
import Derived.Laws.OwnMore
import Derived.Deep.OwnRows
import Derived.Tactics
import Derived.Lib.ConvBytes
import Derived.Laws.Slices
import Derived.WalkKit
import Derived.KernelRfl
import Derived.RowKit3
import Derived.Deep.LoopGhost
import Derived.WideLaws
import Derived.Deep.DeepCutAuto
import Derived.Deep.CutBlock
import Derived.Deep.RegionHeld3
import Derived.Laws.Rows
import Derived.Lib.AppendStr
import Derived.ArgAppend
import Derived.Laws.IdiomCopy
import Derived.OrdersHeld
import Derived.Laws.BitsLemmas
import Derived.RowKit
import Derived.Test.YtmfdhcgdibefiaaJStatsOwn2
import Derived.Test.YtmfdhcgdibefiaaJStatsOwn0
import Derived.Test.YtmfdhcgdibefiaaJStatsOwn3
import Derived.Test.YtmfdhcgdibefiaaJStatsOwn4
import Derived.Test.YtmfdhcgdibefiaaJStatsOwn5
import Derived.Test.YtmfdhcgdibefiaaJStatsOwn6
import Derived.Test.YtmfdhcgdibefiaaJStatsOwn7
import Derived.Test.YtmfdhcgdibefiaaJStatsOwn8
import Derived.Test.YtmfdhcgdibefiaaJStatsOwn9
import Derived.Test.YtmfdhcgdibefiaaJStatsOwn10
import Derived.Test.YtmfdhcgdibefiaaJStatsOwn11
import Derived.Test.YtmfdhcgdibefiaaJStatsOwn12
import Derived.Test.YtmfdhcgdibefiaaJStatsOwn13
import Derived.Test.YtmfdhcgdibefiaaJStatsOwn14
import Derived.Test.YtmfdhcgdibefiaaJStatsOwn15
import Derived.Test.YtmfdhcgdibefiaaJStatsOwn1
import Derived.Test.YtmfdhcgdibefiaaJStatsOwn16
import Derived.Test.YtmfdhcgdibefiaaJStatsOwn17
import Derived.Test.YtmfdhcgdibefiaaJStatsOwn18
import Derived.Test.YtmfdhcgdibefiaaJStatsOwn20
import Derived.Test.YtmfdhcgdibefiaaJStatsOwn21
/- stats.Own's closure: whether a span may not be. -/
namespace Go.Proofs.Ytmfdhcgdibefiaa.L
open Go.RowKit Go.Proofs.Ytmfdhcgdibefiaa.Q Go.Proofs.YtmfdhcgdibefiaaW.PrintWords Go.Proofs.YtmfdhcgdibefiaaW.PrintLast Go.Proofs.YtmfdhcgdibefiaaW.PrintMore Go.Proofs.YtmfdhcgdibefiaaW.MapB Go.Proofs.YtmfdhcgdibefiaaW.Lib
set_option linter.unusedVariables false
set_option linter.unusedSimpArgs false
theorem ownspan_calls (s : S37) (h : fitS s) (w : World) : Calls Try.prog 43 #[.agg #[.int .u64 s.f0, .int .u64 s.f1, .int .u64 s.f2, .int .u8 s.f3, .string s.f4, .string s.f5, .int .i64 s.f6, .int .i64 s.f7]] w fun e w' => e = .returned (.bool (mayS s)) ∧ Below w.heap.size w w' := by
  obtain ⟨k, hk⟩ := Ev.rounds (may_ev s.f0 s.f1 s.f2 s.f3 s.f4 s.f5 s.f6 s.f7 h.2.1 h.2.2)
  exact span_May.calls k _ _ _ _ _ _ _ _ _ w hk
set_option maxRecDepth 100000 in
theorem ownmay_calls (s : S37) (h : fitS s) (w : World) : Calls Try.prog 42 #[.agg #[.int .u64 s.f0, .int .u64 s.f1, .int .u64 s.f2, .int .u8 s.f3, .string s.f4, .string s.f5, .int .i64 s.f6, .int .i64 s.f7]] w fun e w' => e = .returned (.bool (!mayS s)) ∧ Below w.heap.size w w' := by
  have HB := Aside0.mk (Below.refl w.heap.size w)
  have QM := Aside0.mk (ownspan_calls s h)
  clear h
  go_enter Try.func42, Try.ntmps42
  go_wp2_with (go_at_call 43; refine (QM.out _).mono ?_; rintro e w1 ⟨rfl, hb⟩; have HB1 := Aside0.mk (below_step (below_alloc HB.out _) hb); clear hb)
  go_ret
  exact ⟨rfl, HB1.out⟩
set_option maxHeartbeats 4000000 in
set_option maxRecDepth 100000 in
theorem own_index  (es : List S37) (hn : es.length ≤ 1000000000) (A0 : Option Addr) (c0 : Nat) (w : World) (hr0 : Kd.C k37 w A0 es.length es)
    (QL0 : ∀ e ∈ es, ∀ W, Below w.heap.size w W → Calls Try.prog 42 #[.agg #[.int .u64 e.f0, .int .u64 e.f1, .int .u64 e.f2, .int .u8 e.f3, .string e.f4, .string e.f5, .int .i64 e.f6, .int .i64 e.f7]] W fun r w' => r = .returned (.bool ((fun s => !mayS s) e)) ∧ Below W.heap.size W w') :
    Calls Try.prog 95 #[.slice A0 es.length c0, .func (.func 42) #[] #[]] w fun r w' => ∃ i : Int, r = .returned (.int .i64 i) ∧ decide (0 ≤ i) = es.any (fun s => !mayS s) ∧ Below w.heap.size w w' := by
  have HB0 := Aside0.mk (Below.refl w.heap.size w)
  have HR0 := Aside0.mk hr0
  have HN := Aside0.mk hn
  have QL := Aside0.mk QL0
  clear hr0 hn QL0
  generalize hpp : (fun s => !mayS s) = pp at *
  clear hpp
  go_enter Try.func95, Try.ntmps95
  go_wp2_with fail
  go_loopg [8] es.length (fun kq v8 w' => ∃ x8 : Int, v8 = .int .i64 x8 ∧ Aside0 (0 ≤ x8 ∧ x8 + kq = es.length) ∧ Aside0 (∀ e ∈ es.take x8.toNat, pp e = false) ∧ Aside0 (Below w.heap.size w w'))
  case atStart => exact ⟨0, rfl, ⟨by omega, by omega⟩, ⟨by simp⟩, HB0⟩
  case round =>
    obtain ⟨x8, rfl, HK, HA, HB⟩ := hrel
    by_cases c1 : x8 < (es.length : Int)
    · have c1b := decide_eq_true c1
      have p1 : 0 ≤ x8 := HK.out.1
      obtain ⟨ad, e1, hx0, hx1, hx2, hx3, hx4, hx5, hx6, hx7⟩ := at_T37 HR0.out x8 p1 c1
      cases e1
      replace hx0 := (HB.out.cell (World.block_lt_of_cell? w _ hx0)).trans hx0
      replace hx1 := (HB.out.cell (World.block_lt_of_cell? w _ hx1)).trans hx1
      replace hx2 := (HB.out.cell (World.block_lt_of_cell? w _ hx2)).trans hx2
      replace hx3 := (HB.out.cell (World.block_lt_of_cell? w _ hx3)).trans hx3
      replace hx4 := (HB.out.cell (World.block_lt_of_cell? w _ hx4)).trans hx4
      replace hx5 := (HB.out.cell (World.block_lt_of_cell? w _ hx5)).trans hx5
      replace hx6 := (HB.out.cell (World.block_lt_of_cell? w _ hx6)).trans hx6
      replace hx7 := (HB.out.cell (World.block_lt_of_cell? w _ hx7)).trans hx7
      have hit : x8.toNat < es.length := by omega
      have hev : rd_T37 es x8 = es[x8.toNat] := by simp [rd_T37, List.getD, hit]
      have hem : rd_T37 es x8 ∈ es := by rw [hev]; exact List.getElem_mem _
      have HE := Aside0.mk (show es.take (x8 + 1).toNat = es.take x8.toNat ++ [rd_T37 es x8] from by
        rw [show (x8 + 1).toNat = x8.toNat + 1 by omega, List.take_succ_eq_append_getElem hit, hev])
      have QE := Aside0.mk (QL.out _ hem wr HB.out)
      have HM := Aside0.mk hem
      have P1 := Aside0.mk p1
      have Q1 := Aside0.mk c1
      have W1 := Aside0.mk (show wrap64 (x8 + 1) = x8 + 1 from by unfold wrap64; have := HN.out; have := P1.out; have := Q1.out; omega)
      clear hev hem hit
      generalize rd_T37 es x8 = e at *
      replace p1 := eq_true p1
      replace c1 := eq_true c1
      obtain ⟨k1, rfl⟩ : ∃ k1, gk = k1 + 1 := ⟨gk - 1, by have := HK.out; have := Q1.out; omega⟩
      cases hq : pp e with
      | false =>
        rw [hq] at QE
        have HQ := Aside0.mk hq
        clear hq
        go_wp2_with (go_at_call 42; refine QE.out.mono ?_; rintro r w1 ⟨rfl, hb⟩; have HB1 := Aside0.mk (below_step HB.out hb); clear hb)
        go_roundg k1
        case measure => omega
        case rel => exact ⟨x8 + 1, by rw [W1.out], ⟨by have := P1.out; omega, by have := HK.out; omega⟩, ⟨by
          rw [HE.out]
          intro y hy
          rcases List.mem_append.1 hy with h | h
          · exact HA.out y h
          · rw [List.mem_singleton.1 h]; exact HQ.out⟩, HB1⟩
      | true =>
        rw [hq] at QE
        have HQ := Aside0.mk hq
        clear hq
        go_wp2_with (go_at_call 42; refine QE.out.mono ?_; rintro r w1 ⟨rfl, hb⟩; have HB1 := Aside0.mk (below_step HB.out hb); clear hb)
        go_ret
        refine ⟨x8, rfl, ?_, HB1.out⟩
        rw [decide_eq_true P1.out]
        exact (List.any_eq_true.2 ⟨e, HM.out, HQ.out⟩).symm
    · have c1b := decide_eq_false c1
      have hx : x8.toNat = es.length := by have := HK.out; omega
      have ha := HA.out
      rw [hx, List.take_length] at ha
      have HAll := Aside0.mk ha
      clear ha hx c1
      go_wp2_with fail
      go_ret
      refine ⟨-1, rfl, ?_, HB.out⟩
      exact (List.any_eq_false.2 (fun e he => by rw [HAll.out e he]; simp)).symm
set_option maxHeartbeats 2000000 in
set_option maxRecDepth 100000 in
theorem own_contains  (es : List S37) (hn : es.length ≤ 1000000000) (A0 : Option Addr) (c0 : Nat) (w : World) (hr0 : Kd.C k37 w A0 es.length es)
    (QL0 : ∀ e ∈ es, ∀ W, Below w.heap.size w W → Calls Try.prog 42 #[.agg #[.int .u64 e.f0, .int .u64 e.f1, .int .u64 e.f2, .int .u8 e.f3, .string e.f4, .string e.f5, .int .i64 e.f6, .int .i64 e.f7]] W fun r w' => r = .returned (.bool ((fun s => !mayS s) e)) ∧ Below W.heap.size W w') :
    Calls Try.prog 41 #[.slice A0 es.length c0, .func (.func 42) #[] #[]] w fun r w' => r = .returned (.bool (es.any (fun s => !mayS s))) ∧ Below w.heap.size w w' := by
  have HB0 := Aside0.mk (Below.refl w.heap.size w)
  have QI := Aside0.mk (own_index  es hn A0 c0 w hr0 QL0)
  clear hn hr0 QL0
  go_enter Try.func41, Try.ntmps41
  go_wp2_with (go_at_call 95; refine QI.out.mono ?_; rintro r w1 ⟨i, rfl, hd, hb⟩; have HD := Aside0.mk hd; have HB2 := Aside0.mk hb; clear hb hd)
  go_ret
  refine ⟨?_, HB2.out⟩
  rw [← HD.out]
  rfl
end Go.Proofs.Ytmfdhcgdibefiaa.L

/- The document's Cover, plain: the ends in order, and the sum over neighbouring ones. -/
namespace Go.Proofs.Ytmfdhcgdibefiaa.L
open Go.RowKit Go.Proofs.YtmfdhcgdibefiaaW.PrintWords Go.Proofs.YtmfdhcgdibefiaaW.Lib
set_option linter.unusedVariables false

/-- A number into a rising row. -/
def insE : List Int → Int → List Int
  | [], x => [x]
  | y :: E, x => if y < x then y :: insE E x else if y = x then y :: E else x :: y :: E
theorem insE_mem (x z : Int) : ∀ E : List Int, z ∈ insE E x ↔ z ∈ E ∨ z = x
  | [] => by simp [insE]
  | y :: E => by
    have ih := insE_mem x z E
    unfold insE
    split
    · rw [List.mem_cons, ih, List.mem_cons]
      constructor
      · rintro (h | h | h)
        · exact .inl (.inl h)
        · exact .inl (.inr h)
        · exact .inr h
      · rintro ((h | h) | h)
        · exact .inl h
        · exact .inr (.inl h)
        · exact .inr (.inr h)
    · split
      · rename_i h
        subst h
        constructor
        · exact .inl
        · rintro (h | h)
          · exact h
          · rw [h]; exact List.mem_cons_self ..
      · rw [List.mem_cons]
        constructor
        · rintro (h | h)
          · exact .inr h
          · exact .inl h
        · rintro (h | h)
          · exact .inr h
          · exact .inl h
theorem insE_sorted (x : Int) : ∀ E : List Int, E.Pairwise (· < ·) → (insE E x).Pairwise (· < ·)
  | [], _ => by simp [insE]
  | y :: E, h => by
    obtain ⟨h1, h2⟩ := List.pairwise_cons.1 h
    unfold insE
    split
    · refine List.pairwise_cons.2 ⟨fun z hz => ?_, insE_sorted x E h2⟩
      rcases (insE_mem x z E).1 hz with g | g
      · exact h1 z g
      · omega
    · split
      · exact h
      · refine List.pairwise_cons.2 ⟨fun z hz => ?_, h⟩
        rcases List.mem_cons.1 hz with g | g
        · omega
        · have := h1 z g; omega
theorem insE_len (x : Int) : ∀ E : List Int, (insE E x).length ≤ E.length + 1
  | [] => by simp [insE]
  | y :: E => by
    have := insE_len x E
    unfold insE
    split
    · rw [List.length_cons, List.length_cons]; omega
    · split
      · rw [List.length_cons]; omega
      · rw [List.length_cons, List.length_cons]; omega
theorem rd_zero (y : Int) (E : List Int) : rd (y :: E) ((0 : Nat) : Int) = y := rfl
theorem rd_next (y : Int) (E : List Int) (j : Nat) : rd (y :: E) ((j + 1 : Nat) : Int) = rd E (j : Int) := rfl
/-- Where it goes: behind those that are less. -/
theorem insE_at (x : Int) : ∀ (a : Nat) (E : List Int), a ≤ E.length → (∀ j : Nat, j < a → rd E (j : Int) < x) → ((a = E.length ∨ x < rd E (a : Int)) → insE E x = E.take a ++ [x] ++ ([] ++ E.drop a)) ∧ (a < E.length → rd E (a : Int) = x → insE E x = E)
  | 0, E, _, _ => by
    cases E with
    | nil => exact ⟨fun _ => rfl, fun h => by simp at h⟩
    | cons y E =>
      refine ⟨fun h => ?_, fun _ h => ?_⟩
      · rcases h with h | h
        · simp at h
        · rw [rd_zero] at h
          unfold insE
          rw [if_neg (by omega), if_neg (by omega)]; rfl
      · rw [rd_zero] at h
        unfold insE
        rw [if_neg (by omega), if_pos h]
  | a + 1, E, hl, h => by
    cases E with
    | nil => simp at hl
    | cons y E =>
      rw [List.length_cons] at hl
      have hy : y < x := h 0 (by omega)
      obtain ⟨i1, i2⟩ := insE_at x a E (by omega) (fun j hj => h (j + 1) (by omega))
      rw [rd_next]
      have e : insE (y :: E) x = y :: insE E x := by
        show (if _ then _ else _) = _
        rw [if_pos hy]
      rw [e, List.length_cons]
      refine ⟨fun g => ?_, fun g1 g2 => ?_⟩
      · rw [i1 (g.elim (fun g => .inl (by omega)) .inr)]; rfl
      · rw [i2 (by omega) g2]
def insS (E : List Int) (s : Int × Int) : List Int := insE (insE E s.1) s.2
/-- All ends, in order. -/
def endsL (l : List (Int × Int)) : List Int := l.foldl insS []
theorem endsL_snoc (l : List (Int × Int)) (s : Int × Int) : endsL (l ++ [s]) = insS (endsL l) s := by
  unfold endsL; rw [List.foldl_append]; rfl
theorem ends_fold (x : Int) : ∀ (l : List (Int × Int)) (E : List Int), E.Pairwise (· < ·) → (l.foldl insS E).Pairwise (· < ·) ∧ (l.foldl insS E).length ≤ E.length + 2 * l.length ∧ (x ∈ l.foldl insS E ↔ x ∈ E ∨ ∃ s ∈ l, x = s.1 ∨ x = s.2)
  | [], E, h => ⟨h, by simp, by simp⟩
  | s :: l, E, h => by
    have hs := insE_sorted s.2 _ (insE_sorted s.1 E h)
    obtain ⟨h1, h2, h3⟩ := ends_fold x l (insS E s) hs
    have n1 := insE_len s.1 E
    have n2 := insE_len s.2 (insE E s.1)
    refine ⟨h1, ?_, ?_⟩
    · rw [List.foldl_cons, List.length_cons]
      have : (insS E s).length ≤ E.length + 2 := by unfold insS; omega
      omega
    · rw [List.foldl_cons, h3]
      unfold insS
      rw [insE_mem, insE_mem]
      constructor
      · rintro (((h | h) | h) | ⟨t, ht, h⟩)
        · exact .inl h
        · exact .inr ⟨s, List.mem_cons_self .., .inl h⟩
        · exact .inr ⟨s, List.mem_cons_self .., .inr h⟩
        · exact .inr ⟨t, List.mem_cons_of_mem _ ht, h⟩
      · rintro (h | ⟨t, ht, h⟩)
        · exact .inl (.inl (.inl h))
        · rcases List.mem_cons.1 ht with e | e
          · subst e
            rcases h with h | h
            · exact .inl (.inl (.inr h))
            · exact .inl (.inr h)
          · exact .inr ⟨t, e, h⟩
theorem endsL_sorted (l : List (Int × Int)) : (endsL l).Pairwise (· < ·) := (ends_fold 0 l [] List.Pairwise.nil).1
theorem endsL_len (l : List (Int × Int)) : (endsL l).length ≤ 2 * l.length := by
  have := (ends_fold 0 l [] List.Pairwise.nil).2.1
  unfold endsL
  simpa using this
theorem endsL_mem (l : List (Int × Int)) (x : Int) : x ∈ endsL l ↔ ∃ s ∈ l, x = s.1 ∨ x = s.2 := by
  have := (ends_fold x l [] List.Pairwise.nil).2.2
  unfold endsL
  simpa using this
theorem endsL_in {l : List (Int × Int)} (hi : ∀ s ∈ l, inI s) : ∀ x ∈ endsL l, loI ≤ x ∧ x ≤ hiI := by
  intro x hx
  obtain ⟨s, hs, h⟩ := (endsL_mem l x).1 hx
  have := hi s hs
  unfold inI at this
  rcases h with h | h <;> omega
theorem ends_cover {l : List (Int × Int)} (hi : ∀ s ∈ l, inI s) : gapSum l (endsL l) = (coverN l : Int) :=
  gapSum_cover hi (endsL_sorted l) (endsL_in hi) (fun s hs => ⟨(endsL_mem l _).2 ⟨s, hs, .inl rfl⟩, (endsL_mem l _).2 ⟨s, hs, .inr rfl⟩⟩)
/-- The sum over the first gaps. -/
def gapTo (l : List (Int × Int)) (E : List Int) : Nat → Int
  | 0 => 0
  | k + 1 => gapTo l E k + (if overB l (rd E (k : Int)) (rd E ((k + 1 : Nat) : Int)) = true then rd E ((k + 1 : Nat) : Int) - rd E (k : Int) else 0)
theorem gap_split (l : List (Int × Int)) (E : List Int) : ∀ k : Nat, k < E.length → gapTo l E k + gapSum l (E.drop k) = gapSum l E
  | 0, _ => by simp [gapTo]
  | k + 1, hk => by
    have ih := gap_split l E k (by omega)
    have e1 : E.drop k = E[k] :: E[k + 1] :: E.drop (k + 2) := by
      rw [List.drop_eq_getElem_cons (show k < E.length by omega), List.drop_eq_getElem_cons hk]
    have e2 : E.drop (k + 1) = E[k + 1] :: E.drop (k + 2) := List.drop_eq_getElem_cons hk
    have r1 : rd E (k : Int) = E[k] := by simp [rd, List.getD, show k < E.length by omega]
    have r2 : rd E ((k + 1 : Nat) : Int) = E[k + 1] := by
      have : ((k + 1 : Nat) : Int).toNat = k + 1 := by omega
      simp only [rd, this, List.getD, List.getElem?_eq_getElem hk, Option.getD_some]
    rw [← ih, e1, e2]
    simp only [gapTo, gapSum]
    rw [r1, r2]
    omega
theorem gapSum_nonneg (l : List (Int × Int)) : ∀ E : List Int, E.Pairwise (· < ·) → 0 ≤ gapSum l E
  | [], _ => Int.le_refl _
  | [_], _ => Int.le_refl _
  | a :: b :: r, h => by
    obtain ⟨h1, h2⟩ := List.pairwise_cons.1 h
    have := gapSum_nonneg l (b :: r) h2
    have := h1 b (List.mem_cons_self ..)
    simp only [gapSum]
    split <;> omega
theorem gapTo_nonneg (l : List (Int × Int)) (E : List Int) (h : ∀ k : Nat, k + 1 < E.length → rd E (k : Int) < rd E ((k + 1 : Nat) : Int)) : ∀ k : Nat, k < E.length → 0 ≤ gapTo l E k
  | 0, _ => Int.le_refl _
  | k + 1, hk => by
    have := gapTo_nonneg l E h k (by omega)
    have := h k hk
    simp only [gapTo]
    split <;> omega
theorem rd_lt {E : List Int} (h : E.Pairwise (· < ·)) (k : Nat) (hk : k + 1 < E.length) : rd E (k : Int) < rd E ((k + 1 : Nat) : Int) := by
  have r1 : rd E (k : Int) = E[k] := by simp [rd, List.getD, show k < E.length by omega]
  have r2 : rd E ((k + 1 : Nat) : Int) = E[k + 1] := by
    have : ((k + 1 : Nat) : Int).toNat = k + 1 := by omega
    simp only [rd, this, List.getD, List.getElem?_eq_getElem hk, Option.getD_some]
  rw [r1, r2]
  exact List.pairwise_iff_getElem.1 h k (k + 1) (by omega) hk (by omega)
theorem gapTo_le (l : List (Int × Int)) {E : List Int} (h : E.Pairwise (· < ·)) (k : Nat) (hk : k < E.length) : 0 ≤ gapTo l E k ∧ gapTo l E k ≤ gapSum l E := by
  have h1 := gapTo_nonneg l E (fun k hk => rd_lt h k hk) k hk
  have h2 := gap_split l E k hk
  have h3 := gapSum_nonneg l (E.drop k) (h.sublist (List.drop_sublist _ _))
  omega
theorem gapTo_end (l : List (Int × Int)) (E : List Int) : gapTo l E (E.length - 1) = gapSum l E := by
  cases E with
  | nil => rfl
  | cons a r =>
    have h := gap_split l (a :: r) r.length (by simp)
    have e : (a :: r).drop r.length = [(a :: r)[r.length]'(by simp)] := by
      rw [List.drop_eq_getElem_cons (by simp)]
      simp
    rw [e] at h
    simp only [gapSum] at h
    simpa using h
theorem over_snoc (l : List (Int × Int)) (s : Int × Int) (a b : Int) : overB (l ++ [s]) a b = (overB l a b || (decide (s.1 ≤ a) && decide (b ≤ s.2))) := by
  unfold overB
  rw [List.any_append]
  simp
end Go.Proofs.Ytmfdhcgdibefiaa.L

/- The document's Cover: the walk. -/
namespace Go.Proofs.Ytmfdhcgdibefiaa.L
open Go.RowKit Go.Proofs.Ytmfdhcgdibefiaa.Q Go.Proofs.YtmfdhcgdibefiaaW.PrintWords Go.Proofs.YtmfdhcgdibefiaaW.PrintLast Go.Proofs.YtmfdhcgdibefiaaW.PrintMore Go.Proofs.YtmfdhcgdibefiaaW.Lib Go.Proofs.YtmfdhcgdibefiaaW.MapB
set_option linter.unusedVariables false
set_option linter.unusedSimpArgs false

theorem info2' : (Try.prog.info? 2).map (fun i => (i.zero, i.size, i.bytes)) = some (some (.int .i64 0), 1, 8) := by kernel_rfl
/-- An end of a stretch. -/
def endP (s : Int × Int) (k : Nat) : Int := if k = 0 then s.1 else s.2
theorem at_P2 {w : World} {A : Option Addr} {n : Nat} {xs : List (Int × Int)} (h : Kd.C kP w A n xs) (i : Nat) (h1 : i < n) : ∃ ad, A = some ad ∧ ∀ k, k < 2 → w.cell? ((ad.add (i * 2)).add k) = some (.int .i64 (endP (rdP xs i) k)) := by
  obtain ⟨ad, c, e, _, hK, hc0⟩ := Kd.C_get h (0, 0) (i : Int) (by omega) (by omega)
  have hc : ∀ j u, c[j]? = some u → w.cell? (ad.add ((i : Int).toNat * 2 + j)) = some u := hc0
  obtain rfl := kP_open hK
  refine ⟨ad, e, fun k hk => ?_⟩
  rw [Go.Addr.add_add]
  rcases (show k = 0 ∨ k = 1 by omega) with g | g
  · subst g; exact hc 0 _ rfl
  · subst g; exact hc 1 _ rfl
/-- The ends behind so many stretches, and so many ends of the next one. -/
def endsM (l : List (Int × Int)) (i k : Nat) : List Int := match k with
  | 0 => endsL (l.take i)
  | 1 => insE (endsL (l.take i)) (rdP l i).1
  | _ => endsL (l.take (i + 1))
def gapX (l : List (Int × Int)) (E : List Int) (x : Int) : Int := gapTo l E (x - 1).toNat
set_option maxHeartbeats 4000000 in
set_option maxRecDepth 100000 in
theorem rcover_calls (l : List (Int × Int)) (hl : l.length ≤ 1000000) (hi : ∀ s ∈ l, inI s) (A0 : Option Addr) (c0 : Nat) (w : World) (hr0 : Kd.C kP w A0 l.length l) (hc0 : l.length ≤ c0) :
    Calls Try.prog 14 #[.slice A0 l.length c0] w fun e w' => e = .returned (.int .u64 (coverN l : Int)) ∧ Below w.heap.size w w' := by
  have HR0 := Aside0.mk hr0
  have HL := Aside0.mk hl
  have HI := Aside0.mk hi
  have HB0 := Aside0.mk (Below.refl w.heap.size w)
  obtain ⟨i0, hi0, hz0, hsz, hby⟩ := info_parts info2'
  clear hr0 hc0 hl hi
  go_enter Try.func14, Try.ntmps14
  go_wp2_with ((with_reducible refine gate_dst (N := 13) rfl ?_); refine Kd.R_lit (Kd.int .i64) _ 2 ?hg (N := 13) ?hd (xs := ([] : List Int)) (inner := []) (ok := fun _ => True) (okp := fun _ => True) ?hr ?hp (fun _ hk => hk) trivial (Below.refl _ _) (Nat.le_refl _) (by simp) ?_; (case hd => rfl); (case hg => rfl); (case hr => first | (go_simp; done) | (go_simp; rfl)); (case hp => exact (Reps.none _ _)); intro v13 w1 ho hb hg_ hnew_; clear hg_ hnew_; have HO1 := Aside0.mk ho; have HB1 := Aside0.mk hb; clear hb ho)
  go_loopg [3, 4] l.length (fun kq v3 v4 w' => ∃ i : Nat, v4 = .int .i64 (i : Int) ∧ Aside0 (i + kq = l.length) ∧ Aside0 (Kd.R (Kd.int .i64) 2 w' w.heap.size (fun _ => True) v3 (endsL (l.take i))) ∧ Aside0 (Below w.heap.size w w'))
  case atStart => exact ⟨0, rfl, ⟨by omega⟩, HO1, HB1⟩
  case round =>
    clear HO1 HB1
    obtain ⟨i, rfl, HK, HO, HB⟩ := hrel
    by_cases c1 : (i : Int) < (l.length : Int)
    · have c1b := decide_eq_true c1
      have p1 : (0 : Int) ≤ (i : Int) := by omega
      obtain ⟨ad1, e1, hx0⟩ := at_P2 HR0.out i (by omega)
      cases e1
      have C1 := Aside0.mk c1
      have HX0 := Aside0.mk hx0
      clear hx0
      have W1 := Aside0.mk (show wrap64 ((i : Int) + 1) = ((i + 1 : Nat) : Int) from by unfold wrap64; have := HL.out; omega)
      obtain ⟨k1, rfl⟩ : ∃ k1, gk = k1 + 1 := ⟨gk - 1, by have := HK.out; omega⟩
      replace p1 := eq_true p1
      replace c1 := eq_true c1
      go_wp2_with fail
      obtain ⟨wo, rfl⟩ : ∃ wo : World, wo = wr := ⟨_, rfl⟩
      go_loopg [3, 5] 2 (fun kq v3 v5 w' => ∃ k : Nat, v5 = .int .i64 (k : Int) ∧ Aside0 (k + kq = 2) ∧ Aside0 (Kd.R (Kd.int .i64) 2 w' w.heap.size (fun _ => True) v3 (endsM l i k)) ∧ Aside0 (Below w.heap.size w w'))
      case atStart => exact ⟨0, rfl, ⟨by omega⟩, HO, HB⟩
      case round =>
        clear HO HB
        obtain ⟨k, rfl, HK2, HO, HB⟩ := hrel
        by_cases c2 : (k : Int) < 2
        · have c2b := decide_eq_true c2
          have p2 : (0 : Int) ≤ (k : Int) := by omega
          have C2 := Aside0.mk c2
          have W2 := Aside0.mk (show wrap64 ((k : Int) + 1) = ((k + 1 : Nat) : Int) from by unfold wrap64; omega)
          have hx := HX0.out k (by omega)
          replace hx := (HB.out.cell (World.block_lt_of_cell? w _ hx)).trans hx
          have HM := Aside0.mk (show endsM l i (k + 1) = insE (endsM l i k) (endP (rdP l i) k) from by
            rcases (show k = 0 ∨ k = 1 by omega) with e | e
            · subst e; rfl
            · subst e
              have hlt : i < l.length := by have := C1.out; omega
              show endsL (l.take (i + 1)) = _
              rw [List.take_succ_eq_append_getElem hlt, endsL_snoc]
              have : rdP l (i : Int) = l[i] := by simp [rdP, List.getD, hlt]
              unfold endsM endP insS
              rw [this]; rfl)
          have HEl := Aside0.mk (show (endsM l i k).length ≤ 2 * l.length + 2 from by
            have h0 := endsL_len (l.take i)
            have h1 := endsL_len (l.take (i + 1))
            have h2 := insE_len (rdP l i).1 (endsL (l.take i))
            rw [List.length_take] at h0 h1
            unfold endsM
            split <;> omega)
          generalize endsM l i k = E at *
          generalize endP (rdP l i) k = x at *
          obtain ⟨A3, cc, rfl⟩ := Kd.R_slice HO.out
          obtain ⟨k2, rfl⟩ : ∃ k2, gk = k2 + 1 := ⟨gk - 1, by have := HK2.out; omega⟩
          replace p2 := eq_true p2
          replace c2 := eq_true c2
          go_wp2_with fail
          obtain ⟨wm, rfl⟩ : ∃ wm : World, wm = wr := ⟨_, rfl⟩
          go_loopg [7] (E.length + 1) (fun kq v7 w' => ∃ a : Nat, v7 = .int .i64 (a : Int) ∧ Aside0 (a + kq = E.length + 1 ∧ a ≤ E.length ∧ ∀ j : Nat, j < a → rd E (j : Int) < x) ∧ Aside0 (w' = wm))
          case atStart => exact ⟨0, rfl, ⟨by omega, by omega, fun j hj => by omega⟩, ⟨rfl⟩⟩
          case round =>
            obtain ⟨a, rfl, HA, HW⟩ := hrel
            obtain rfl := HW.out
            by_cases c3 : (a : Int) < (E.length : Int)
            · have c3b := decide_eq_true c3
              have p3 : (0 : Int) ≤ (a : Int) := by omega
              obtain ⟨ad3, e3, hy⟩ := Kd.at_int (Kd.R_reads' HO.out).2.2 (a : Int) p3 c3
              cases e3
              rw [Int.toNat_natCast] at hy
              have C3 := Aside0.mk c3
              have W3 := Aside0.mk (show wrap64 ((a : Int) + 1) = ((a + 1 : Nat) : Int) from by unfold wrap64; have := HL.out; have := HEl.out; omega)
              replace p3 := eq_true p3
              replace c3 := eq_true c3
              by_cases c4 : rd E (a : Int) < x
              · have c4b := decide_eq_true c4
                have C4 := Aside0.mk c4
                obtain ⟨k3, rfl⟩ : ∃ k3, gk = k3 + 1 := ⟨gk - 1, by have := HA.out; omega⟩
                replace c4 := eq_true c4
                go_wp2_with fail
                go_roundg k3
                case measure => omega
                case rel => exact ⟨a + 1, by rw [W3.out], ⟨by have := HA.out; omega, by have := C3.out; omega, fun j hj => by
                  by_cases e : j = a
                  · rw [e]; exact C4.out
                  · exact HA.out.2.2 j (by omega)⟩, ⟨rfl⟩⟩
              · have c4b := decide_eq_false c4
                by_cases c5 : rd E (a : Int) = x
                · have HE := Aside0.mk ((insE_at x a E HA.out.2.1 HA.out.2.2).2 (by have := C3.out; omega) c5)
                  clear c4 c4b
                  rw [c5] at hy
                  have hlt : decide (x < x) = false := decide_eq_false (by omega)
                  go_wp2_with fail
                  go_roundg k2
                  case measure => omega
                  case rel => exact ⟨k + 1, by rw [W2.out], ⟨by have := HK2.out; omega⟩, ⟨by rw [HM.out, HE.out]; exact HO.out⟩, HB⟩
                · have c5b := decide_eq_false c5
                  have hgt : x < rd E (a : Int) := by omega
                  have HG := Aside0.mk hgt
                  clear hgt
                  generalize hq : rd E (a : Int) = q at hy c4 c4b c5 c5b
                  clear hq
                  have c5e : (q == x) = false := by rw [beq_eq_false_iff_ne]; exact c5
                  replace c4 := eq_false c4
                  replace c5 := eq_false c5
                  have HE2 := Aside0.mk ((insE_at x a E HA.out.2.1 HA.out.2.2).1 (.inr HG.out))
                  have hcutF := cut_from (P := Try.prog) 31 2 .i64 Try.underlying31 hi0 1 hsz (some ad3) E.length cc (a : Int) (by omega) (by have := HA.out; omega)
                  have hcutT := cut_to (P := Try.prog) 31 2 .i64 Try.underlying31 hi0 (some ad3) E.length cc (a : Int) (by omega) (by have := HA.out; omega) (Kd.R_reads' HO.out).2.1
                  have HLa := Aside0.mk (show (E.drop a).length = E.length - a from List.length_drop)
                  have HTa := Aside0.mk (show (E.take a).length ≤ E.length from by rw [List.length_take]; omega)
                  have HAl := Aside0.mk HA.out.2.1
                  rw [Int.toNat_natCast] at hcutF hcutT
                  rw [← HLa.out] at hcutF
                  obtain ⟨A59, hA59⟩ : ∃ A1, A1 = (if cc = a then ((some ad3) : Option Addr) else ((some ad3) : Option Addr).map (·.add (a * 1))) := ⟨_, rfl⟩
                  obtain ⟨c59, hc59⟩ : ∃ c1, c1 = cc - a := ⟨_, rfl⟩
                  rw [← hA59, ← hc59] at hcutF
                  have KA := Aside0.mk hA59
                  clear hA59 hc59
                  go_wp2_with (first
                    | ((with_reducible refine gate_dst (N := 56) rfl ?_); refine Kd.R_lit (Kd.int .i64) _ 2 ?hg (N := 56) ?hd (xs := ([] : List Int)) (inner := []) (ok := fun _ => True) (okp := fun _ => True) ?hr ?hp (fun _ hk => hk) trivial (Below.refl _ _) (Nat.le_refl _) (by simp) ?_; (case hd => rfl); (case hg => rfl); (case hr => first | (go_simp; done) | (go_simp; rfl)); (case hp => exact (Reps.none _ _)); intro v56 w2 ho hb hg_ hnew_; clear hg_ hnew_; have HO2 := Aside0.mk (Kd.R_elder' HO.out (Kd.R_base ho) hb); have HO56 := Aside0.mk (Kd.R_lower (Kd.R_new' ho (Kd.R_lt HO.out)) (below_size HB.out)); have HB2 := Aside0.mk (below_step HB.out hb); clear hb ho)
                    | ((with_reducible refine gate_builtin (b := .append) (xs := #[.tmp 56, .tmp 59]) rfl ?_); at_builtin; refine Kd.R_append_rows (Kd.int .i64) (w0 := w) w.heap.size rfl (.tmp 56) (.tmp 59) 31 2 (.int .i64 0) 8 rfl Try.underlying31 info2' rfl (by decide) (by omega) v56 ([] : List Int) (E.drop a) _ _ _ (fun k_ => some k_ ≠ (.slice (some ad3) E.length cc : Value).ownBlock) (fun _ => False) rfl rfl ?aO ?aR (fun _ _ h => h) (fun _ h => h.elim) ?aF ?aB ?aS ?aL ?_; (case aR => have h_ := Kd.C_drop (m := a) (c := cc) (Kd.R_reads' HO2.out).2.2 HAl.out (Kd.R_reads' HO2.out).2.1; rw [HLa.out] at h_; rw [KA.out]; exact h_); (case aB => exact HB2.out); (case aF => exact (fun k_ hk => Kd.fresh' (Kd.R_lt HO2.out) k_ hk)); (case aO => exact Kd.R_mono HO56.out (fun _ hk => hk.2)); (case aS => exact below_size HB2.out); (case aL => have := HL.out; have := HEl.out; have := HLa.out; simp only [List.length_nil]; omega); intro v60 w3 ho hb hg hat; have HO3 := Aside0.mk (Kd.R_after (ok := (fun _ => True)) HO2.out hg hat); have HB3 := Aside0.mk hb; obtain ⟨A60, c60, rfl⟩ := Kd.R_slice ho; have HO60 := Aside0.mk ho; have HO60r := Aside0.mk (Kd.R_take (m := a) HO3.out HAl.out); clear HO2 HB2 ho hb hg hat)
                    | ((with_reducible refine gate_builtin (b := .append) (xs := #[.tmp 63, .tmp 65]) rfl ?_); at_builtin; refine Kd.R_append (Kd.int .i64) (w0 := w) w.heap.size rfl (.tmp 63) (.tmp 65) 31 2 (.int .i64 0) 8 rfl Try.underlying31 info2' rfl (by decide) (by omega) (.slice (some ad3) a cc) (E.take a) x [.int .i64 x] (fun k_ => some k_ ≠ (.slice A60 ([] ++ E.drop a).length c60 : Value).ownBlock) (fun _ => False) rfl rfl ?aP (fun _ hk => hk.elim) ?aF ?aO ?aB ?aS ?aL ?_; (case aP => exact rfl); (case aB => exact HB3.out); (case aF => exact (fun k_ hk => Kd.fresh' (Kd.R_lt HO60.out) k_ hk)); (case aO => exact Kd.R_mono HO60r.out (fun _ hk => hk.2)); (case aS => exact below_size HB3.out); (case aL => have := HL.out; have := HEl.out; have := HTa.out; omega); intro v66 w4 ho hb hg hat; have HO66 := Aside0.mk ho; have HB4 := Aside0.mk hb; have HO60' := Aside0.mk (Kd.R_after (ok := (fun _ => True)) (Kd.R_mono HO60.out (fun _ hk => ⟨trivial, by first | exact hk | exact fun h_ => hk (h_.trans (own_len _ _ _ _ _))⟩)) hg hat); clear HB3 ho hb hg hat)
                    | ((with_reducible refine gate_builtin (b := .append) (xs := #[.tmp 66, .tmp 67]) rfl ?_); at_builtin; refine Kd.R_append_rows (Kd.int .i64) (w0 := w) w.heap.size rfl (.tmp 66) (.tmp 67) 31 2 (.int .i64 0) 8 rfl Try.underlying31 info2' rfl (by decide) (by omega) v66 (E.take a ++ [x]) ([] ++ E.drop a) _ _ _ (fun k_ => some k_ ≠ (.slice A60 ([] ++ E.drop a).length c60 : Value).ownBlock) (fun _ => False) rfl rfl ?aO ?aR (fun _ _ h => h) (fun _ h => h.elim) ?aF ?aB ?aS ?aL ?_; (case aR => have h_ := (Kd.R_reads' HO60'.out).2.2; rw [show (([] : List Int) ++ E.drop a).length = E.length - a from HLa.out] at h_; exact h_); (case aB => exact HB4.out); (case aF => exact (fun k_ hk => Kd.fresh' (Kd.R_lt HO60'.out) k_ hk)); (case aO => exact HO66.out); (case aS => exact below_size HB4.out); (case aL => have := HL.out; have := HEl.out; have := HTa.out; have := HLa.out; simp only [List.length_append, List.length_singleton, List.length_nil, Nat.zero_add]; omega); intro v68 w5 ho hb hg hat; have HO68 := Aside0.mk ho; have HB5 := Aside0.mk hb; clear HB4 ho hb hg hat))
                  go_roundg k2
                  case measure => omega
                  case rel => exact ⟨k + 1, by rw [W2.out], ⟨by have := HK2.out; omega⟩, ⟨by rw [HM.out, HE2.out]; exact Kd.R_mono HO68.out (fun _ _ => trivial)⟩, HB5⟩
            · have c3b := decide_eq_false c3
              have HAe := Aside0.mk (show a = E.length from by have := HA.out; omega)
              replace c3 := eq_false c3
              have HE2 := Aside0.mk ((insE_at x a E HA.out.2.1 HA.out.2.2).1 (.inl HAe.out))
              have hcutF := cut_from (P := Try.prog) 31 2 .i64 Try.underlying31 hi0 1 hsz A3 E.length cc (a : Int) (by omega) (by have := HA.out; omega)
              have hcutT := cut_to (P := Try.prog) 31 2 .i64 Try.underlying31 hi0 A3 E.length cc (a : Int) (by omega) (by have := HA.out; omega) (Kd.R_reads' HO.out).2.1
              have HLa := Aside0.mk (show (E.drop a).length = E.length - a from List.length_drop)
              have HTa := Aside0.mk (show (E.take a).length ≤ E.length from by rw [List.length_take]; omega)
              have HAl := Aside0.mk HA.out.2.1
              rw [Int.toNat_natCast] at hcutF hcutT
              rw [← HLa.out] at hcutF
              obtain ⟨A59, hA59⟩ : ∃ A1, A1 = (if cc = a then (A3 : Option Addr) else (A3 : Option Addr).map (·.add (a * 1))) := ⟨_, rfl⟩
              obtain ⟨c59, hc59⟩ : ∃ c1, c1 = cc - a := ⟨_, rfl⟩
              rw [← hA59, ← hc59] at hcutF
              have KA := Aside0.mk hA59
              clear hA59 hc59
              go_wp2_with (first
                | ((with_reducible refine gate_dst (N := 56) rfl ?_); refine Kd.R_lit (Kd.int .i64) _ 2 ?hg (N := 56) ?hd (xs := ([] : List Int)) (inner := []) (ok := fun _ => True) (okp := fun _ => True) ?hr ?hp (fun _ hk => hk) trivial (Below.refl _ _) (Nat.le_refl _) (by simp) ?_; (case hd => rfl); (case hg => rfl); (case hr => first | (go_simp; done) | (go_simp; rfl)); (case hp => exact (Reps.none _ _)); intro v56 w2 ho hb hg_ hnew_; clear hg_ hnew_; have HO2 := Aside0.mk (Kd.R_elder' HO.out (Kd.R_base ho) hb); have HO56 := Aside0.mk (Kd.R_lower (Kd.R_new' ho (Kd.R_lt HO.out)) (below_size HB.out)); have HB2 := Aside0.mk (below_step HB.out hb); clear hb ho)
                | ((with_reducible refine gate_builtin (b := .append) (xs := #[.tmp 56, .tmp 59]) rfl ?_); at_builtin; refine Kd.R_append_rows (Kd.int .i64) (w0 := w) w.heap.size rfl (.tmp 56) (.tmp 59) 31 2 (.int .i64 0) 8 rfl Try.underlying31 info2' rfl (by decide) (by omega) v56 ([] : List Int) (E.drop a) _ _ _ (fun k_ => some k_ ≠ (.slice A3 E.length cc : Value).ownBlock) (fun _ => False) rfl rfl ?aO ?aR (fun _ _ h => h) (fun _ h => h.elim) ?aF ?aB ?aS ?aL ?_; (case aR => have h_ := Kd.C_drop (m := a) (c := cc) (Kd.R_reads' HO2.out).2.2 HAl.out (Kd.R_reads' HO2.out).2.1; rw [HLa.out] at h_; rw [KA.out]; exact h_); (case aB => exact HB2.out); (case aF => exact (fun k_ hk => Kd.fresh' (Kd.R_lt HO2.out) k_ hk)); (case aO => exact Kd.R_mono HO56.out (fun _ hk => hk.2)); (case aS => exact below_size HB2.out); (case aL => have := HL.out; have := HEl.out; have := HLa.out; simp only [List.length_nil]; omega); intro v60 w3 ho hb hg hat; have HO3 := Aside0.mk (Kd.R_after (ok := (fun _ => True)) HO2.out hg hat); have HB3 := Aside0.mk hb; obtain ⟨A60, c60, rfl⟩ := Kd.R_slice ho; have HO60 := Aside0.mk ho; have HO60r := Aside0.mk (Kd.R_take (m := a) HO3.out HAl.out); clear HO2 HB2 ho hb hg hat)
                | ((with_reducible refine gate_builtin (b := .append) (xs := #[.tmp 63, .tmp 65]) rfl ?_); at_builtin; refine Kd.R_append (Kd.int .i64) (w0 := w) w.heap.size rfl (.tmp 63) (.tmp 65) 31 2 (.int .i64 0) 8 rfl Try.underlying31 info2' rfl (by decide) (by omega) (.slice A3 a cc) (E.take a) x [.int .i64 x] (fun k_ => some k_ ≠ (.slice A60 ([] ++ E.drop a).length c60 : Value).ownBlock) (fun _ => False) rfl rfl ?aP (fun _ hk => hk.elim) ?aF ?aO ?aB ?aS ?aL ?_; (case aP => exact rfl); (case aB => exact HB3.out); (case aF => exact (fun k_ hk => Kd.fresh' (Kd.R_lt HO60.out) k_ hk)); (case aO => exact Kd.R_mono HO60r.out (fun _ hk => hk.2)); (case aS => exact below_size HB3.out); (case aL => have := HL.out; have := HEl.out; have := HTa.out; omega); intro v66 w4 ho hb hg hat; have HO66 := Aside0.mk ho; have HB4 := Aside0.mk hb; have HO60' := Aside0.mk (Kd.R_after (ok := (fun _ => True)) (Kd.R_mono HO60.out (fun _ hk => ⟨trivial, by first | exact hk | exact fun h_ => hk (h_.trans (own_len _ _ _ _ _))⟩)) hg hat); clear HB3 ho hb hg hat)
                | ((with_reducible refine gate_builtin (b := .append) (xs := #[.tmp 66, .tmp 67]) rfl ?_); at_builtin; refine Kd.R_append_rows (Kd.int .i64) (w0 := w) w.heap.size rfl (.tmp 66) (.tmp 67) 31 2 (.int .i64 0) 8 rfl Try.underlying31 info2' rfl (by decide) (by omega) v66 (E.take a ++ [x]) ([] ++ E.drop a) _ _ _ (fun k_ => some k_ ≠ (.slice A60 ([] ++ E.drop a).length c60 : Value).ownBlock) (fun _ => False) rfl rfl ?aO ?aR (fun _ _ h => h) (fun _ h => h.elim) ?aF ?aB ?aS ?aL ?_; (case aR => have h_ := (Kd.R_reads' HO60'.out).2.2; rw [show (([] : List Int) ++ E.drop a).length = E.length - a from HLa.out] at h_; exact h_); (case aB => exact HB4.out); (case aF => exact (fun k_ hk => Kd.fresh' (Kd.R_lt HO60'.out) k_ hk)); (case aO => exact HO66.out); (case aS => exact below_size HB4.out); (case aL => have := HL.out; have := HEl.out; have := HTa.out; have := HLa.out; simp only [List.length_append, List.length_singleton, List.length_nil, Nat.zero_add]; omega); intro v68 w5 ho hb hg hat; have HO68 := Aside0.mk ho; have HB5 := Aside0.mk hb; clear HB4 ho hb hg hat))
              go_roundg k2
              case measure => omega
              case rel => exact ⟨k + 1, by rw [W2.out], ⟨by have := HK2.out; omega⟩, ⟨by rw [HM.out, HE2.out]; exact Kd.R_mono HO68.out (fun _ _ => trivial)⟩, HB5⟩
        · have c2b := decide_eq_false c2
          have e2 : k = 2 := by have := HK2.out; omega
          subst e2
          go_wp2_with fail
          go_roundg k1
          case measure => omega
          case rel => exact ⟨i + 1, by rw [W1.out], ⟨by have := HK.out; omega⟩, HO, HB⟩
    · have c1b := decide_eq_false c1
      have ei : i = l.length := by have := HK.out; omega
      subst ei
      have ho := HO.out
      rw [List.take_length] at ho
      obtain ⟨A3, cc, rfl⟩ := Kd.R_slice ho
      have HC := Aside0.mk (Kd.R_reads' ho).2.2
      clear ho HO
      have HEl := Aside0.mk (endsL_len l)
      have HG := Aside0.mk (ends_cover HI.out)
      have HGl := Aside0.mk (fun k hk => gapTo_le l (endsL_sorted l) k hk)
      have HGe := Aside0.mk (gapTo_end l (endsL l))
      have HIn := Aside0.mk (endsL_in HI.out)
      have HLt := Aside0.mk (fun k hk => rd_lt (endsL_sorted l) k hk)
      have HCl := Aside0.mk (coverN_lt l)
      generalize endsL l = E at *
      go_wp2_with fail
      obtain ⟨wo, rfl⟩ : ∃ wo : World, wo = wr := ⟨_, rfl⟩
      go_loopg [9, 10] (E.length + 1) (fun kq v9 v10 w' => ∃ x10 : Int, v10 = .int .i64 x10 ∧ v9 = .int .u64 (gapX l E x10) ∧ Aside0 (1 ≤ x10 ∧ x10 + kq = E.length + 2 ∧ (x10 = 1 ∨ x10 ≤ E.length)) ∧ Aside0 (Kd.C (Kd.int .i64) w' A3 E.length E) ∧ Aside0 (Below w.heap.size w w'))
      case atStart => exact ⟨1, rfl, rfl, ⟨by omega, by omega, .inl rfl⟩, HC, HB⟩
      case round =>
        clear HC HB
        obtain ⟨x10, rfl, rfl, HK1, HC, HB⟩ := hrel
        by_cases c1 : x10 < (E.length : Int)
        · have c1b := decide_eq_true c1
          obtain ⟨xp, hxp⟩ : ∃ xp, xp = x10 - 1 := ⟨_, rfl⟩
          have HXp := Aside0.mk hxp
          have p1 : 0 ≤ x10 := by have := HK1.out; omega
          have p2 : 0 ≤ xp := by have := HK1.out; omega
          have p3 : xp < (E.length : Int) := by omega
          have Q1 := Aside0.mk c1
          have HW0 := Aside0.mk (show IntKind.i64.wrap (x10 - 1) = xp from by rw [i64_w]; unfold wrap64; have := HL.out; have := HEl.out; omega)
          have HW1 := Aside0.mk (show wrap64 (x10 + 1) = x10 + 1 from by unfold wrap64; have := HL.out; have := HEl.out; omega)
          have HW2 := Aside0.mk (show wrap64 (x10 - 1) = xp from by unfold wrap64; have := HL.out; have := HEl.out; omega)
          have HNx := Aside0.mk (show gapX l E (x10 + 1) = gapX l E x10 + (if overB l (rd E xp) (rd E x10) = true then rd E x10 - rd E xp else 0) from by
            obtain ⟨m, rfl⟩ : ∃ m : Nat, x10 = ((m + 1 : Nat) : Int) := ⟨(x10 - 1).toNat, by omega⟩
            unfold gapX
            rw [show ((((m + 1 : Nat) : Int) + 1 - 1).toNat) = m + 1 by omega, show ((((m + 1 : Nat) : Int) - 1).toNat) = m by omega, show xp = (m : Int) by omega]
            rfl)
          have HGa := Aside0.mk (show 0 ≤ gapX l E x10 ∧ gapX l E x10 ≤ gapSum l E from HGl.out (x10 - 1).toNat (by omega))
          have HGb := Aside0.mk (show 0 ≤ gapX l E (x10 + 1) ∧ gapX l E (x10 + 1) ≤ gapSum l E from HGl.out (x10 + 1 - 1).toNat (by omega))
          have HEl2 := Aside0.mk (show rd E xp < rd E x10 from by
            have h := HLt.out xp.toNat (by omega)
            rw [show ((xp.toNat : Nat) : Int) = xp by omega, show ((xp.toNat + 1 : Nat) : Int) = x10 by omega] at h
            exact h)
          have HMa := Aside0.mk (HIn.out (rd E xp) (by have hx : xp.toNat < E.length := by omega
                                                       rw [show rd E xp = E[xp.toNat] by simp [rd, List.getD, hx]]; exact List.getElem_mem _))
          have HMb := Aside0.mk (HIn.out (rd E x10) (by have hx : x10.toNat < E.length := by omega
                                                        rw [show rd E x10 = E[x10.toNat] by simp [rd, List.getD, hx]]; exact List.getElem_mem _))
          have P2 := Aside0.mk p2
          have P3 := Aside0.mk p3
          have P1 := Aside0.mk p1
          obtain ⟨k1, rfl⟩ : ∃ k1, gk = k1 + 1 := ⟨gk - 1, by have := HK1.out; omega⟩
          replace p1 := eq_true p1
          replace p2 := eq_true p2
          replace p3 := eq_true p3
          replace c1 := eq_true c1
          clear hxp
          go_wp2_with fail
          obtain ⟨wm, rfl⟩ : ∃ wm : World, wm = wr := ⟨_, rfl⟩
          go_loopg [11, 12] l.length (fun kq v11 v12 w' => ∃ x12 : Int, v12 = .int .i64 x12 ∧ v11 = .bool (overB (l.take x12.toNat) (rd E xp) (rd E x10)) ∧ Aside0 (0 ≤ x12 ∧ x12 + kq = l.length) ∧ Aside0 (Kd.C (Kd.int .i64) w' A3 E.length E) ∧ Aside0 (Below w.heap.size w w'))
          case atStart => exact ⟨0, rfl, rfl, ⟨by omega, by omega⟩, HC, HB⟩
          case round =>
            clear HC HB
            obtain ⟨x12, rfl, rfl, HK2, HC, HB⟩ := hrel
            by_cases c2 : x12 < (l.length : Int)
            · have c2b := decide_eq_true c2
              have p4 : 0 ≤ x12 := HK2.out.1
              obtain ⟨ad1, e1, hx0, hx1⟩ := at_P HR0.out x12 p4 c2
              cases e1
              replace hx0 := (HB.out.cell (World.block_lt_of_cell? w _ hx0)).trans hx0
              replace hx1 := (HB.out.cell (World.block_lt_of_cell? w _ hx1)).trans hx1
              obtain ⟨ad3, e3, hy0⟩ := Kd.at_int HC.out xp P2.out P3.out
              cases e3
              obtain ⟨ad3', e3, hy1⟩ := Kd.at_int HC.out x10 P1.out Q1.out
              obtain rfl : ad3 = ad3' := by injection e3
              have HN := Aside0.mk (show overB (l.take (x12 + 1).toNat) (rd E xp) (rd E x10) = (overB (l.take x12.toNat) (rd E xp) (rd E x10) || (decide ((rdP l x12).1 ≤ rd E xp) && decide (rd E x10 ≤ (rdP l x12).2))) from by
                have hlt : x12.toNat < l.length := by omega
                rw [show (x12 + 1).toNat = x12.toNat + 1 by omega, List.take_succ_eq_append_getElem hlt, over_snoc]
                rw [show rdP l x12 = l[x12.toNat] by simp [rdP, List.getD, hlt]])
              have W1 := Aside0.mk (show wrap64 (x12 + 1) = x12 + 1 from by unfold wrap64; have := HL.out; omega)
              obtain ⟨k2, rfl⟩ : ∃ k2, gk = k2 + 1 := ⟨gk - 1, by have := HK2.out; omega⟩
              have P4 := Aside0.mk p4
              replace p4 := eq_true p4
              replace c2 := eq_true c2
              have hw0 := HW0.out
              generalize overB (l.take x12.toNat) (rd E xp) (rd E x10) = ob at *
              generalize rdP l x12 = s at *
              obtain ⟨s1, s2⟩ := s
              dsimp only at hx0 hx1 HN
              generalize rd E xp = a at *
              generalize rd E x10 = b at *
              by_cases c3 : s1 ≤ a
              · have c3b := decide_eq_true c3
                by_cases c4 : b ≤ s2
                · have c4b := decide_eq_true c4
                  have HV := Aside0.mk (HN.out.trans (show _ = true from by rw [c3b, c4b]; simp))
                  replace c3 := eq_true c3
                  replace c4 := eq_true c4
                  go_wp2_with fail
                  go_quiet (fail)
                  go_wp2_with fail
                  go_roundg k2
                  case measure => omega
                  case rel => exact ⟨x12 + 1, by rw [W1.out], by rw [HV.out], ⟨by have := P4.out; omega, by have := HK2.out; omega⟩, ⟨Kd.C_drewN HC.out _⟩, ⟨pw_below_drewN HB.out _⟩⟩
                · have c4b := decide_eq_false c4
                  have HV := Aside0.mk (HN.out.trans (show _ = ob from by rw [c3b, c4b]; simp))
                  replace c3 := eq_true c3
                  replace c4 := eq_false c4
                  go_wp2_with fail
                  go_quiet (fail)
                  go_wp2_with fail
                  go_roundg k2
                  case measure => omega
                  case rel => exact ⟨x12 + 1, by rw [W1.out], by rw [HV.out], ⟨by have := P4.out; omega, by have := HK2.out; omega⟩, ⟨Kd.C_drewN HC.out _⟩, ⟨pw_below_drewN HB.out _⟩⟩
              · have c3b := decide_eq_false c3
                have HV := Aside0.mk (HN.out.trans (show _ = ob from by rw [c3b]; simp))
                replace c3 := eq_false c3
                go_wp2_with fail
                go_quiet (fail)
                go_wp2_with fail
                go_roundg k2
                case measure => omega
                case rel => exact ⟨x12 + 1, by rw [W1.out], by rw [HV.out], ⟨by have := P4.out; omega, by have := HK2.out; omega⟩, ⟨Kd.C_drewN HC.out _⟩, ⟨pw_below_drewN HB.out _⟩⟩
            · have c2b := decide_eq_false c2
              have hx : x12.toNat = l.length := by have := HK2.out; omega
              rw [hx, List.take_length]
              obtain ⟨ad3, e3, hy0⟩ := Kd.at_int HC.out xp P2.out P3.out
              cases e3
              obtain ⟨ad3', e3, hy1⟩ := Kd.at_int HC.out x10 P1.out Q1.out
              obtain rfl : ad3 = ad3' := by injection e3
              have hw2 := HW2.out
              have HU := Aside0.mk (fun (hlt : gapX l E x10 + (rd E x10 - rd E xp) < 18446744073709551616) => u64_sum (z := gapX l E x10) (m := rd E xp) (s := rd E x10) HGa.out.1 HEl2.out HMa.out.1 HMa.out.2 HMb.out.1 HMb.out.2 hlt)
              generalize gapX l E x10 = z at *
              generalize rd E xp = a at *
              generalize rd E x10 = b at *
              clear hx
              cases hov : overB l a b with
              | true =>
                rw [hov, if_pos rfl] at HNx
                have HU2 := Aside0.mk (HU.out (by have h1 := HNx.out; have h2 := HGb.out; have h3 := HG.out; have h4 := HCl.out; omega))
                go_wp2_with fail
                go_quiet (fail)
                go_wp2_with fail
                go_roundg k1
                case measure => omega
                case rel => exact ⟨x10 + 1, by rw [HW1.out], by rw [HU2.out, HNx.out], ⟨by have := HK1.out; omega, by have := HK1.out; omega, .inr (by have := Q1.out; omega)⟩, ⟨Kd.C_drewN HC.out _⟩, ⟨pw_below_drewN HB.out _⟩⟩
              | false =>
                rw [hov, if_neg (by simp)] at HNx
                go_wp2_with fail
                go_roundg k1
                case measure => omega
                case rel => exact ⟨x10 + 1, by rw [HW1.out], by rw [HNx.out, Int.add_zero], ⟨by have := HK1.out; omega, by have := HK1.out; omega, .inr (by have := Q1.out; omega)⟩, HC, HB⟩
        · have c1b := decide_eq_false c1
          have HE := Aside0.mk (show gapX l E x10 = (coverN l : Int) from by
            rw [← HG.out, ← HGe.out]
            unfold gapX
            congr 1
            have := HK1.out
            omega)
          go_wp2_with fail
          go_ret
          exact ⟨by rw [HE.out]; rfl, HB.out⟩
end Go.Proofs.Ytmfdhcgdibefiaa.L

/- parent.cycles, plain: places are coloured along each walk up; none is called just if all walks up end. -/
namespace Go.Proofs.Ytmfdhcgdibefiaa.L
open Go.RowKit Go.Proofs.YtmfdhcgdibefiaaW.PrintWords
set_option linter.unusedVariables false

theorem rdC_set (l : List Int) (i j v : Int) (h0 : 0 ≤ i) (h1 : i < l.length) (hj : 0 ≤ j) : rd (l.set i.toNat v) j = if i = j then v else rd l j := by
  unfold rd
  simp only [List.getD_eq_getElem?_getD, List.getElem?_set]
  by_cases e : i = j
  · subst e
    rw [if_pos rfl, if_pos rfl, if_pos (by omega)]; rfl
  · rw [if_neg e, if_neg (by omega)]
/-- So many parents up. -/
def upL (ps : List Int) (at_ : Int) : Nat → Int
  | 0 => at_
  | k + 1 => if at_ < 0 then at_ else upL ps (rd ps at_) k
theorem upL_neg (ps : List Int) {a : Int} (h : a < 0) : ∀ k, upL ps a k = a
  | 0 => rfl
  | k + 1 => by unfold upL; rw [if_pos h]
theorem upL_more (ps : List Int) : ∀ (k : Nat) (a : Int), upL ps a k < 0 → ∀ d, upL ps a (k + d) < 0
  | 0, a, h, d => by
    have h' : a < 0 := h
    rw [upL_neg ps h']
    exact h'
  | k + 1, a, h, d => by
    rw [show k + 1 + d = (k + d) + 1 by omega]
    unfold upL at h ⊢
    split
    · assumption
    · rename_i c
      rw [if_neg c] at h
      exact upL_more ps k _ h d
def endsAt (ps : List Int) (a : Int) : Prop := ∃ k, upL ps a k < 0
/-- A walk up by these places, to another one. -/
inductive Walk (ps : List Int) : Int → List Int → Int → Prop
  | none (a : Int) : Walk ps a [] a
  | step {a : Int} {L : List Int} {b : Int} : 0 ≤ a → Walk ps (rd ps a) L b → Walk ps a (a :: L) b
theorem Walk.up {ps : List Int} {a : Int} {L : List Int} {b : Int} (h : Walk ps a L b) : upL ps a L.length = b := by
  induction h with
  | none a => rfl
  | step h0 _ ih => simp only [List.length_cons, upL]; rw [if_neg (by omega)]; exact ih
theorem Walk.ends {ps : List Int} {a : Int} {L : List Int} {b : Int} (h : Walk ps a L b) (hb : endsAt ps b) : endsAt ps a ∧ ∀ x ∈ L, endsAt ps x := by
  induction h with
  | none a => exact ⟨hb, fun x hx => by cases hx⟩
  | @step a L b h0 _ ih =>
    obtain ⟨⟨k, hk⟩, h2⟩ := ih hb
    have ha : endsAt ps a := ⟨k + 1, by unfold upL; rw [if_neg (by omega)]; exact hk⟩
    refine ⟨ha, fun x hx => ?_⟩
    rcases List.mem_cons.1 hx with e | e
    · rw [e]; exact ha
    · exact h2 x e
/-- What a walk goes on to. -/
theorem Walk.next {ps : List Int} {a : Int} {L : List Int} {b : Int} (h : Walk ps a L b) : ∀ x ∈ L, 0 ≤ x ∧ (rd ps x ∈ L ∨ rd ps x = b) := by
  induction h with
  | none a => intro x hx; cases hx
  | @step a L b h0 hw ih =>
    intro x hx
    rcases List.mem_cons.1 hx with e | e
    · subst e
      refine ⟨h0, ?_⟩
      cases hw with
      | none => exact .inr rfl
      | step _ _ => exact .inl (List.mem_cons_of_mem _ (List.mem_cons_self ..))
    · obtain ⟨h1, h2⟩ := ih x e
      exact ⟨h1, h2.elim (fun h => .inl (List.mem_cons_of_mem _ h)) .inr⟩
/-- A walk back to one of its own places: from there, and from all ahead, none ends. -/
theorem Walk.round {ps : List Int} {a : Int} {L : List Int} {b : Int} (h : Walk ps a L b) (hb : b ∈ L) : ∀ x ∈ L, ¬ endsAt ps x := by
  have hn := h.next
  have key : ∀ (k : Nat) (x : Int), x ∈ L → 0 ≤ upL ps x k := by
    intro k
    induction k with
    | zero => intro x hx; exact (hn x hx).1
    | succ k ih =>
      intro x hx
      obtain ⟨h0, h1⟩ := hn x hx
      unfold upL
      rw [if_neg (by omega)]
      rcases h1 with h1 | h1
      · exact ih _ h1
      · rw [h1]; exact ih _ hb
  rintro x hx ⟨k, hk⟩
  have := key k x hx
  omega
/-- Places, coloured. -/
def mark (v : Int) (L : List Int) (st : List Int) : List Int := L.foldl (fun s x => s.set x.toNat v) st
theorem mark_len (v : Int) : ∀ (L st : List Int), (mark v L st).length = st.length
  | [], _ => rfl
  | x :: L, st => by
    have := mark_len v L (st.set x.toNat v)
    rw [List.length_set] at this
    exact this
theorem rd_mark (v : Int) : ∀ (L st : List Int), (∀ x ∈ L, 0 ≤ x ∧ x < st.length) → ∀ j : Int, 0 ≤ j → rd (mark v L st) j = if j ∈ L then v else rd st j
  | [], st, _, j, _ => by simp [mark]
  | x :: L, st, h, j, hj => by
    have hx := h x (List.mem_cons_self ..)
    have e : mark v (x :: L) st = mark v L (st.set x.toNat v) := rfl
    rw [e, rd_mark v L _ (fun y hy => by rw [List.length_set]; exact h y (List.mem_cons_of_mem _ hy)) j hj, rdC_set st x j v hx.1 hx.2 hj]
    by_cases c : j ∈ L
    · rw [if_pos c, if_pos (List.mem_cons_of_mem _ c)]
    · rw [if_neg c]
      by_cases d : x = j
      · rw [if_pos d, if_pos (by rw [d]; exact List.mem_cons_self ..)]
      · rw [if_neg d, if_neg (fun h => (List.mem_cons.1 h).elim (fun h => d h.symm) c)]
/-- Up, as long as places are fresh. -/
def go1 (ps : List Int) : Nat → List Int → Int → List Int × Int
  | 0, st, a => (st, a)
  | f + 1, st, a => if 0 ≤ a ∧ rd st a = 0 then go1 ps f (st.set a.toNat 1) (rd ps a) else (st, a)
/-- Up, as long as places are on the walk. -/
def go2 (ps : List Int) : Nat → List Int → Int → List Int
  | 0, st, _ => st
  | f + 1, st, a => if 0 ≤ a ∧ rd st a = 1 then go2 ps f (st.set a.toNat 2) (rd ps a) else st
def inR (n : Nat) (ps : List Int) : Prop := ps.length = n ∧ ∀ p ∈ ps, -1 ≤ p ∧ p < n
theorem inR_rd {n : Nat} {ps : List Int} (h : inR n ps) {a : Int} (h0 : 0 ≤ a) (h1 : a < n) : -1 ≤ rd ps a ∧ rd ps a < n := by
  have hx : a.toNat < ps.length := by rw [h.1]; omega
  have e : rd ps a = ps[a.toNat] := by simp [rd, List.getD, hx]
  rw [e]
  exact h.2 _ (List.getElem_mem _)
def zeros (st : List Int) : Nat := st.countP (fun x => decide (x = 0))
theorem zeros_set {st : List Int} {a : Int} (h0 : 0 ≤ a) (h1 : a < st.length) (hz : rd st a = 0) : zeros (st.set a.toNat 1) + 1 = zeros st := by
  have hx : a.toNat < st.length := by omega
  have e : st[a.toNat] = 0 := by simpa [rd, List.getD, hx] using hz
  unfold zeros
  rw [List.countP_set hx, e]
  have : 0 < st.countP (fun x => decide (x = 0)) := List.countP_pos_iff.2 ⟨0, by rw [← e]; exact List.getElem_mem _, by decide⟩
  simp
  omega
theorem go1_spec {n : Nat} {ps : List Int} (hp : inR n ps) : ∀ (f : Nat) (st : List Int) (a : Int), st.length = n → zeros st < f → a < n → ∃ L b, go1 ps f st a = (mark 1 L st, b) ∧ Walk ps a L b ∧ L.Nodup ∧ (∀ x ∈ L, 0 ≤ x ∧ x < n ∧ rd st x = 0) ∧ b < n ∧ (b < 0 ∨ rd (mark 1 L st) b ≠ 0)
  | 0, st, a, hl, hz, ha => by omega
  | f + 1, st, a, hl, hz, ha => by
    unfold go1
    by_cases c : 0 ≤ a ∧ rd st a = 0
    · rw [if_pos c]
      have hzs := zeros_set c.1 (by rw [hl]; exact ha) c.2
      obtain ⟨L, b, h1, h2, h3, h4, h5, h6⟩ := go1_spec hp f (st.set a.toNat 1) (rd ps a) (by rw [List.length_set, hl]) (by omega) (inR_rd hp c.1 ha).2
      have hset : ∀ x : Int, 0 ≤ x → rd (st.set a.toNat 1) x = if a = x then 1 else rd st x := fun x hx => rdC_set st a x 1 c.1 (by rw [hl]; exact ha) hx
      have hna : ∀ x ∈ L, x ≠ a ∧ rd st x = 0 := by
        intro x hx
        obtain ⟨g0, g1, g2⟩ := h4 x hx
        rw [hset x g0] at g2
        by_cases e : a = x
        · rw [if_pos e] at g2; omega
        · rw [if_neg e] at g2; exact ⟨fun h => e h.symm, g2⟩
      refine ⟨a :: L, b, h1, .step c.1 h2, List.nodup_cons.2 ⟨fun h => (hna a h).1 rfl, h3⟩, ?_, h5, h6⟩
      intro x hx
      rcases List.mem_cons.1 hx with e | e
      · rw [e]; exact ⟨c.1, ha, c.2⟩
      · exact ⟨(h4 x e).1, (h4 x e).2.1, (hna x e).2⟩
    · rw [if_neg c]
      refine ⟨[], a, rfl, .none a, List.nodup_nil, (fun x hx => absurd hx (by simp)), ha, ?_⟩
      show a < 0 ∨ rd st a ≠ 0
      rcases Int.lt_or_le a 0 with h | h
      · exact .inl h
      · exact .inr fun e => c ⟨h, e⟩
theorem go2_spec {ps : List Int} {a : Int} {L : List Int} {b : Int} (h : Walk ps a L b) : ∀ (f : Nat) (st : List Int), L.Nodup → (∀ x ∈ L, 0 ≤ x ∧ x < st.length ∧ rd st x = 1) → (b < 0 ∨ rd (mark 2 L st) b ≠ 1) → L.length < f → go2 ps f st a = mark 2 L st := by
  induction h with
  | none a =>
    intro f st _ _ hb hf
    obtain ⟨f, rfl⟩ : ∃ g, f = g + 1 := ⟨f - 1, by simp at hf; omega⟩
    unfold go2
    rw [if_neg (fun c => hb.elim (fun h => by omega) (fun h => h c.2))]
    rfl
  | @step a L b h0 hw ih =>
    intro f st nd hx hb hf
    rw [List.length_cons] at hf
    obtain ⟨f, rfl⟩ : ∃ g, f = g + 1 := ⟨f - 1, by omega⟩
    have ha := hx a (List.mem_cons_self ..)
    have nd2 := List.nodup_cons.1 nd
    unfold go2
    rw [if_pos ⟨h0, ha.2.2⟩]
    refine ih f (st.set a.toNat 2) nd2.2 ?_ hb (by omega)
    intro x hxl
    obtain ⟨g0, g1, g2⟩ := hx x (List.mem_cons_of_mem _ hxl)
    rw [List.length_set, rdC_set st a x 2 h0 ha.2.1 g0, if_neg (show ¬ a = x from fun e => nd2.1 (by rw [e]; exact hxl))]
    exact ⟨g0, g1, g2⟩
/-- One place's round: the colours, and who is called. -/
def roundC (ps : List Int) (z : List Int × List Int) (i : Int) : List Int × List Int :=
  let r := go1 ps (ps.length + 1) z.1 i
  (go2 ps (ps.length + 1) r.1 i, if 0 ≤ r.2 ∧ rd r.1 r.2 = 1 then z.2 ++ [r.2] else z.2)
structure CycInv (n : Nat) (ps : List Int) (z : List Int × List Int) : Prop where
  len : z.1.length = n
  two : ∀ a : Int, 0 ≤ a → a < n → rd z.1 a = 0 ∨ rd z.1 a = 2
  ends : z.2 = [] → ∀ a : Int, 0 ≤ a → a < n → rd z.1 a = 2 → endsAt ps a
  bad : z.2 ≠ [] → ∃ a : Int, 0 ≤ a ∧ a < n ∧ ¬ endsAt ps a
theorem zeros_le (st : List Int) : zeros st ≤ st.length := List.countP_le_length
theorem nodup_len {n : Nat} {L : List Int} (nd : L.Nodup) (h : ∀ x ∈ L, 0 ≤ x ∧ x < n) : L.length ≤ n := by
  have key : ∀ (l m : List Int), l.Nodup → (∀ x ∈ l, x ∈ m) → l.length ≤ m.length := by
    intro l
    induction l with
    | nil => intro m _ _; exact Nat.zero_le _
    | cons a l ih =>
      intro m nd h
      have ha := h a (List.mem_cons_self ..)
      have nd2 := List.nodup_cons.1 nd
      have := ih (m.erase a) nd2.2 (fun x hx => (List.mem_erase_of_ne (show x ≠ a from fun e => nd2.1 (by rw [← e]; exact hx))).2 (h x (List.mem_cons_of_mem _ hx)))
      rw [List.length_erase_of_mem ha] at this
      have h0 : 0 < m.length := List.length_pos_of_mem ha
      rw [List.length_cons]
      omega
  have := key L ((List.range n).map fun i : Nat => (i : Int)) nd (fun x hx => List.mem_map.2 ⟨x.toNat, List.mem_range.2 (by have := h x hx; omega), by have := h x hx; omega⟩)
  simpa using this
theorem round_inv {n : Nat} {ps : List Int} (hp : inR n ps) {z : List Int × List Int} (h : CycInv n ps z) {i : Int} (h0 : 0 ≤ i) (h1 : i < n) : CycInv n ps (roundC ps z i) ∧ rd (roundC ps z i).1 i = 2 ∧ ∀ a : Int, 0 ≤ a → a < n → rd z.1 a = 2 → rd (roundC ps z i).1 a = 2 := by
  obtain ⟨st, fl⟩ := z
  obtain ⟨hlen, htwo, hends, hbad⟩ := h
  dsimp only at hlen htwo hends hbad
  have hzl := zeros_le st
  obtain ⟨L, b, g1, g2, g3, g4, g5, g6⟩ := go1_spec hp (ps.length + 1) st i hlen (by rw [hp.1]; omega) h1
  have hL : L.length ≤ n := nodup_len g3 (fun x hx => ⟨(g4 x hx).1, (g4 x hx).2.1⟩)
  have m1 : ∀ j : Int, 0 ≤ j → rd (mark 1 L st) j = if j ∈ L then 1 else rd st j := rd_mark 1 L st (fun x hx => ⟨(g4 x hx).1, by rw [hlen]; exact (g4 x hx).2.1⟩)
  have m2 : ∀ j : Int, 0 ≤ j → rd (mark 2 L (mark 1 L st)) j = if j ∈ L then 2 else rd st j := by
    intro j hj
    rw [rd_mark 2 L _ (fun x hx => ⟨(g4 x hx).1, by rw [mark_len, hlen]; exact (g4 x hx).2.1⟩) j hj, m1 j hj]
    by_cases c : j ∈ L
    · rw [if_pos c, if_pos c]
    · rw [if_neg c, if_neg c]; rw [if_neg c]
  have e2 : go2 ps (ps.length + 1) (mark 1 L st) i = mark 2 L (mark 1 L st) := by
    refine go2_spec g2 _ _ g3 (fun x hx => ⟨(g4 x hx).1, by rw [mark_len, hlen]; exact (g4 x hx).2.1, by rw [m1 x (g4 x hx).1, if_pos hx]⟩) ?_ (by rw [hp.1]; omega)
    rcases Int.lt_or_le b 0 with c | c
    · exact .inl c
    · refine .inr ?_
      rw [m2 b c]
      by_cases d : b ∈ L
      · rw [if_pos d]; decide
      · rw [if_neg d]
        rcases htwo b c g5 with e | e <;> omega
  have hround : roundC ps (st, fl) i = (mark 2 L (mark 1 L st), if 0 ≤ b ∧ b ∈ L then fl ++ [b] else fl) := by
    unfold roundC
    dsimp only
    rw [g1]
    dsimp only
    rw [e2]
    congr 1
    by_cases c : 0 ≤ b
    · rw [m1 b c]
      by_cases d : b ∈ L
      · rw [if_pos d, if_pos ⟨c, rfl⟩, if_pos ⟨c, d⟩]
      · rw [if_neg d, if_neg (show ¬ (0 ≤ b ∧ rd st b = 1) from fun h => by rcases htwo b c g5 with e | e <;> omega), if_neg (show ¬ (0 ≤ b ∧ b ∈ L) from fun h => d h.2)]
    · rw [if_neg (fun h => c h.1), if_neg (fun h => c h.1)]
  have hi2 : rd (mark 2 L (mark 1 L st)) i = 2 := by
    rw [m2 i h0]
    by_cases d : i ∈ L
    · rw [if_pos d]
    · rw [if_neg d]
      rcases htwo i h0 h1 with e | e
      · exfalso
        cases g2 with
        | none =>
          rcases g6 with h | h
          · omega
          · exact h e
        | step _ _ => exact d (List.mem_cons_self ..)
      · exact e
  rw [hround]
  refine ⟨⟨by rw [mark_len, mark_len, hlen], ?_, ?_, ?_⟩, hi2, ?_⟩
  · intro a a0 a1
    dsimp only
    rw [m2 a a0]
    by_cases d : a ∈ L
    · rw [if_pos d]; exact .inr rfl
    · rw [if_neg d]; exact htwo a a0 a1
  · intro hf a a0 a1 h2
    dsimp only at hf h2
    by_cases c : 0 ≤ b ∧ b ∈ L
    · rw [if_pos c] at hf; simp at hf
    · rw [if_neg c] at hf
      rw [m2 a a0] at h2
      by_cases d : a ∈ L
      · have hb : endsAt ps b := by
          rcases Int.lt_or_le b 0 with e | e
          · exact ⟨0, e⟩
          · have hnb : b ∉ L := fun h => c ⟨e, h⟩
            refine hends hf b e g5 ?_
            rcases htwo b e g5 with q | q
            · exfalso
              rcases g6 with g | g
              · omega
              · rw [m1 b e, if_neg hnb] at g; exact g q
            · exact q
        exact (g2.ends hb).2 a d
      · rw [if_neg d] at h2
        exact hends hf a a0 a1 h2
  · intro hf
    dsimp only at hf
    by_cases c : 0 ≤ b ∧ b ∈ L
    · exact ⟨b, c.1, g5, g2.round c.2 b c.2⟩
    · rw [if_neg c] at hf
      exact hbad hf
  · intro a a0 a1 h2
    dsimp only at h2 ⊢
    rw [m2 a a0]
    by_cases d : a ∈ L
    · rw [if_pos d]
    · rw [if_neg d]; exact h2
def cycZ (ps : List Int) : Nat → List Int × List Int
  | 0 => (List.replicate ps.length 0, [])
  | k + 1 => roundC ps (cycZ ps k) (k : Int)
theorem cyc_inv {n : Nat} {ps : List Int} (hp : inR n ps) : ∀ k : Nat, k ≤ n → CycInv n ps (cycZ ps k) ∧ ∀ a : Int, 0 ≤ a → a < k → rd (cycZ ps k).1 a = 2
  | 0, _ => by
    have hr : ∀ a : Int, 0 ≤ a → a < n → rd (List.replicate ps.length (0 : Int)) a = 0 := fun a a0 a1 => by
      have hx : a.toNat < ps.length := by rw [hp.1]; omega
      simp [rd, List.getD, hx]
    refine ⟨⟨by simp [cycZ, hp.1], fun a a0 a1 => .inl (hr a a0 a1), ?_, fun h => absurd rfl h⟩, fun a a0 a1 => by omega⟩
    intro _ a a0 a1 h
    have := hr a a0 a1
    have h' : rd (List.replicate ps.length (0 : Int)) a = 2 := h
    omega
  | k + 1, hk => by
    obtain ⟨h1, h2⟩ := cyc_inv hp k (by omega)
    obtain ⟨g1, g2, g3⟩ := round_inv hp h1 (i := (k : Int)) (by omega) (by omega)
    refine ⟨g1, fun a a0 a1 => ?_⟩
    by_cases e : a = (k : Int)
    · rw [e]; exact g2
    · exact g3 a a0 (by omega) (h2 a a0 (by omega))
/-- None is called just if all walks up end. -/
theorem cyc_none {n : Nat} {ps : List Int} (hp : inR n ps) : (cycZ ps n).2 = [] ↔ ∀ a : Int, 0 ≤ a → a < n → endsAt ps a := by
  obtain ⟨h1, h2⟩ := cyc_inv hp n (Nat.le_refl _)
  constructor
  · intro h a a0 a1
    exact h1.ends h a a0 a1 (h2 a a0 a1)
  · intro h
    cases hc : (cycZ ps n).2 with
    | nil => rfl
    | cons x l =>
      obtain ⟨a, a0, a1, hb⟩ := h1.bad (by rw [hc]; simp)
      exact absurd (h a a0 a1) hb
/-- A walk that ends does so within as many steps as there are places, and one. -/
theorem ends_in {n : Nat} {ps : List Int} (hp : inR n ps) {a : Int} (a1 : a < n) : endsAt ps a ↔ upL ps a (n + 1) < 0 := by
  refine ⟨fun h => ?_, fun h => ⟨_, h⟩⟩
  have hz := zeros_le (List.replicate n (0 : Int))
  rw [List.length_replicate] at hz
  obtain ⟨L, b, g1, g2, g3, g4, g5, g6⟩ := go1_spec hp (n + 1) (List.replicate n 0) a (by simp) (by omega) a1
  have hL : L.length ≤ n := nodup_len g3 (fun x hx => ⟨(g4 x hx).1, (g4 x hx).2.1⟩)
  rcases Int.lt_or_le b 0 with c | c
  · have := upL_more ps L.length a (by rw [g2.up]; exact c) (n + 1 - L.length)
    rw [show L.length + (n + 1 - L.length) = n + 1 by omega] at this
    exact this
  · exfalso
    have hbL : b ∈ L := by
      rcases g6 with g | g
      · omega
      · rw [rd_mark 1 L _ (fun x hx => ⟨(g4 x hx).1, by rw [List.length_replicate]; exact (g4 x hx).2.1⟩) b c] at g
        by_cases d : b ∈ L
        · exact d
        · rw [if_neg d] at g
          exfalso
          apply g
          have hx : b.toNat < n := by omega
          simp [rd, List.getD, hx]
    have hr := g2.round hbL
    cases g2 with
    | none => cases hbL
    | step _ _ => exact hr a (List.mem_cons_self ..) h
end Go.Proofs.Ytmfdhcgdibefiaa.L

/- parent.Right's closure: it says no. -/
namespace Go.Proofs.Ytmfdhcgdibefiaa.L
open Go.RowKit Go.Proofs.Ytmfdhcgdibefiaa.Q Go.Proofs.YtmfdhcgdibefiaaW.PrintWords Go.Proofs.YtmfdhcgdibefiaaW.PrintLast Go.Proofs.YtmfdhcgdibefiaaW.PrintMore Go.Proofs.YtmfdhcgdibefiaaW.Lib Go.Proofs.YtmfdhcgdibefiaaW.MapB
set_option linter.unusedVariables false

theorem no_calls (x : Int) (B : Nat) (b : Bool) (w : World) (hb : Boxed w B 4 (.bool b)) :
    Calls Try.prog 94 #[.int .i64 x, .pointer (some ⟨B, 0, none⟩)] w fun e w' => e = .returned (.tuple #[]) ∧ Boxed w' B 4 (.bool false) ∧ w.grownBy w' (some B) := by
  have hc := hb.cell
  have hf := hb.frozen
  go_enter Try.func94, Try.ntmps94
  go_wp2
  go_end0
  exact ⟨rfl, hb.set _, grownBy_setCell' _ _ _⟩
end Go.Proofs.Ytmfdhcgdibefiaa.L

/- parent.cycles : the block of colours. -/
namespace Go.Proofs.Ytmfdhcgdibefiaa.L
open Go.RowKit Go.Proofs.Ytmfdhcgdibefiaa.Q Go.Proofs.YtmfdhcgdibefiaaW.PrintWords Go.Proofs.YtmfdhcgdibefiaaW.PrintLast Go.Proofs.YtmfdhcgdibefiaaW.PrintMore Go.Proofs.YtmfdhcgdibefiaaW.Lib Go.Proofs.YtmfdhcgdibefiaaW.MapB
set_option linter.unusedVariables false

/-- A block of whole numbers. -/
def rowB (W : World) (g : Nat) (st : List Int) : Prop := W.heap[g]? = some (.cells (st.map (Value.int .i64)).toArray 3 (0, 0))
theorem rowB_cell {W : World} {g : Nat} {st : List Int} (h : rowB W g st) {a : Int} (h0 : 0 ≤ a) (h1 : a < st.length) : W.cell? ⟨g, a.toNat, none⟩ = some (.int .i64 (rd st a)) := by
  have hx : a.toNat < st.length := by omega
  unfold rowB at h
  simp [World.cell?, h, rd, List.getD, hx]
theorem rowB_frozen {W : World} {g : Nat} {st : List Int} (h : rowB W g st) (a : Nat) : W.frozen? ⟨g, a, none⟩ = false := by
  unfold rowB at h
  simp [World.frozen?, h]
theorem rowB_set {W : World} {g : Nat} {st : List Int} (h : rowB W g st) (a : Nat) (v : Int) : rowB (W.setCell ⟨g, a, none⟩ (.int .i64 v)) g (st.set a v) := by
  unfold rowB at *
  obtain ⟨hlt, hk⟩ := Array.getElem?_eq_some_iff.1 h
  show (W.heap.modify g _)[g]? = _
  rw [Array.getElem?_eq_getElem (by rw [Array.size_modify]; exact hlt), Array.getElem_modify_self, hk]
  simp [List.map_set]
theorem rowB_kept {W W' : World} {g : Nat} {st : List Int} {row : Option Nat} (h : rowB W g st) (hg : W.grownBy W' row) (hne : some g ≠ row) : rowB W' g st := (hg.block g (Array.getElem?_eq_some_iff.1 h).1 hne).trans h
theorem heap_made (W : World) (z : Value) (n : Nat) (e : TypeId) : (W.alloc (.cells (madeCells #[z] n) e)).heap[W.heap.size]? = some (.cells (List.replicate n z).toArray e (0, 0)) := by
  have h := (MapKept.heap_alloc W (.cells (madeCells #[z] n) e)).1
  have e1 : madeCells #[z] n = (List.replicate n z).toArray := by
    apply Array.ext
    · simp [madeCells]
    · intro i h1 h2
      simp [madeCells, Nat.mod_one]
  exact h.trans (by rw [e1])
end Go.Proofs.Ytmfdhcgdibefiaa.L

/- parent.cycles with parent.Right's closure: the walk. -/
namespace Go.Proofs.Ytmfdhcgdibefiaa.L
open Go.RowKit Go.Proofs.Ytmfdhcgdibefiaa.Q Go.Proofs.YtmfdhcgdibefiaaW.PrintWords Go.Proofs.YtmfdhcgdibefiaaW.PrintLast Go.Proofs.YtmfdhcgdibefiaaW.PrintMore Go.Proofs.YtmfdhcgdibefiaaW.Lib Go.Proofs.YtmfdhcgdibefiaaW.MapB
set_option linter.unusedVariables false

theorem grownBy_set (W : World) (g o : Nat) (v : Value) : W.grownBy (W.setCell ⟨g, o, none⟩ v) (some g) :=
  ⟨rfl, rfl, rfl, (KeepsWalks.setCell W _ v).size, fun k _ hk => Below.heap_setCell _ _ _ k (fun e => hk (by rw [e]))⟩
theorem go1_on {ps : List Int} {f : Nat} {st : List Int} {a : Int} (c : 0 ≤ a ∧ rd st a = 0) : go1 ps (f + 1) st a = go1 ps f (st.set a.toNat 1) (rd ps a) := by
  show (if _ then _ else _) = _
  rw [if_pos c]
theorem go1_stop {ps : List Int} {f : Nat} {st : List Int} {a : Int} (c : ¬ rd st a = 0) : go1 ps (f + 1) st a = (st, a) := by
  show (if _ then _ else _) = _
  rw [if_neg (fun h => c h.2)]
theorem go1_len (ps : List Int) : ∀ (f : Nat) (st : List Int) (a : Int), (go1 ps f st a).1.length = st.length
  | 0, _, _ => rfl
  | f + 1, st, a => by
    unfold go1
    split
    · rw [go1_len ps f, List.length_set]
    · rfl
def ones (st : List Int) : Nat := st.countP (fun x => decide (x = 1))
theorem ones_set {st : List Int} {a : Int} (h0 : 0 ≤ a) (h1 : a < st.length) (hz : rd st a = 1) : ones (st.set a.toNat 2) + 1 = ones st := by
  have hx : a.toNat < st.length := by omega
  have e : st[a.toNat] = 1 := by simpa [rd, List.getD, hx] using hz
  unfold ones
  rw [List.countP_set hx, e]
  have : 0 < st.countP (fun x => decide (x = 1)) := List.countP_pos_iff.2 ⟨1, by rw [← e]; exact List.getElem_mem _, by decide⟩
  simp
  omega
theorem go2_on {ps : List Int} {f : Nat} {st : List Int} {a : Int} (c : 0 ≤ a ∧ rd st a = 1) : go2 ps (f + 1) st a = go2 ps f (st.set a.toNat 2) (rd ps a) := by
  show (if _ then _ else _) = _
  rw [if_pos c]
theorem go2_stop {ps : List Int} {f : Nat} {st : List Int} {a : Int} (c : ¬ (0 ≤ a ∧ rd st a = 1)) : go2 ps (f + 1) st a = st := by
  show (if _ then _ else _) = _
  rw [if_neg c]
set_option maxHeartbeats 1000000 in
set_option maxRecDepth 100000 in
theorem cycles_right (ps : List Int) (hp : inR ps.length ps) (hl : ps.length ≤ 1000000) (A0 : Option Addr) (c0 B : Nat) (w0 w : World) (hr0 : Kd.C (Kd.int .i64) w0 A0 ps.length ps) (hb0 : Below w0.heap.size w0 w) (hBb : w0.heap.size ≤ B) (hbox : Boxed w B 4 (.bool true)) :
    Calls Try.prog 93 #[.slice A0 ps.length c0, .func (.func 94) #[] #[.pointer (some ⟨B, 0, none⟩)]] w fun e w' => e = .returned (.tuple #[]) ∧ Boxed w' B 4 (.bool (decide ((cycZ ps ps.length).2 = []))) ∧ Below w0.heap.size w0 w' := by
  have hmk := print_make 29 3 .i64 8 Try.underlying29 (by kernel_rfl) (by omega) ps.length (by omega)
  have HR0 := Aside0.mk hr0
  have HB0 := Aside0.mk (fun o => below_alloc hb0 o)
  have HX := Aside0.mk (fun o => hbox.alloc o)
  have HBg := Aside0.mk hbox.lt
  have HP := Aside0.mk hp
  have HL := Aside0.mk hl
  have HI := Aside0.mk (cyc_inv hp)
  have hn0 : decide ((ps.length : Int) < 0) = false := decide_eq_false (by omega)
  have hnm : decide ((9223372036854775807 : Int) < (ps.length : Int)) = false := decide_eq_false (by omega)
  clear hr0 hb0 hbox hp hl
  go_enter Try.func93, Try.ntmps93
  go_wp2_with fail
  have HG0 : Aside0 (rowB (w.alloc (.cells (madeCells #[Value.int .i64 0] ps.length) 3)) w.heap.size (cycZ ps 0).1) := ⟨by
    show _ = some (Obj.cells ((List.replicate ps.length (0 : Int)).map (Value.int .i64)).toArray 3 (0, 0))
    rw [List.map_replicate]
    exact heap_made w _ _ _⟩
  generalize hgg : w.heap.size = g at *
  have HWg := Aside0.mk (show w0.heap.size ≤ g from by have := HBg.out; omega)
  go_loopg [12] ps.length (fun kq v12 w' => ∃ x : Nat, v12 = .int .i64 (x : Int) ∧ Aside0 (x + kq = ps.length) ∧ Aside0 (rowB w' g (cycZ ps x).1) ∧ Aside0 (Boxed w' B 4 (.bool (decide ((cycZ ps x).2 = [])))) ∧ Aside0 (Below w0.heap.size w0 w'))
  case atStart => exact ⟨0, rfl, ⟨by omega⟩, HG0, ⟨HX.out _⟩, ⟨HB0.out _⟩⟩
  case round =>
    clear HG0 HB0 HX
    obtain ⟨x, rfl, HK, HG, HX, HB⟩ := hrel
    by_cases c1 : (x : Int) < (ps.length : Int)
    · have c1b := decide_eq_true c1
      have HI1 := Aside0.mk (HI.out x (by omega)).1
      have HW1 := Aside0.mk (show wrap64 ((x : Int) + 1) = ((x + 1 : Nat) : Int) from by unfold wrap64; have := HL.out; omega)
      have HN := Aside0.mk (show cycZ ps (x + 1) = roundC ps (cycZ ps x) (x : Int) from rfl)
      have C1 := Aside0.mk c1
      replace c1 := eq_true c1
      obtain ⟨k1, rfl⟩ : ∃ k1, gk = k1 + 1 := ⟨gk - 1, by have := HK.out; have := C1.out; omega⟩
      go_wp2_with fail
      apply wp_scope_straight
      go_wp2_with fail
      apply wp_label
      rename_i hK
      refine hK _ _ ?_
      clear hK
      apply wp_seq_k
      intro _ _
      go_cut [6] (fun v6 wc => ∃ (a : Int) (st : List Int), v6 = .int .i64 a ∧ Aside0 (go1 ps (ps.length + 1) (cycZ ps x).1 (x : Int) = (st, a)) ∧ Aside0 (rowB wc g st) ∧ Aside0 (Boxed wc B 4 (.bool (decide ((roundC ps (cycZ ps x) (x : Int)).2 = [])))) ∧ Aside0 (Below w0.heap.size w0 wc))
      case first =>
        go_wp2_with fail
        go_loopg [6] (ps.length + 1) (fun kq v6 w' => ∃ (a : Int) (st : List Int), v6 = .int .i64 a ∧ Aside0 (go1 ps kq st a = go1 ps (ps.length + 1) (cycZ ps x).1 (x : Int) ∧ a < ps.length ∧ st.length = ps.length ∧ zeros st < kq ∧ ∀ j : Int, 0 ≤ j → j < ps.length → rd st j = 0 ∨ rd st j = 1 ∨ rd st j = 2) ∧ Aside0 (rowB w' g st) ∧ Aside0 (Boxed w' B 4 (.bool (decide ((cycZ ps x).2 = [])))) ∧ Aside0 (Below w0.heap.size w0 w'))
        case atStart => exact ⟨x, _, rfl, ⟨rfl, by have := C1.out; omega, HI1.out.len, by have := zeros_le (cycZ ps x).1; have := HI1.out.len; omega, fun j j0 j1 => (HI1.out.two j j0 j1).elim .inl (fun h => .inr (.inr h))⟩, HG, HX, HB⟩
        case round =>
          clear HG HX HB
          obtain ⟨a, st, rfl, HA, HG, HX, HB⟩ := hrel
          obtain ⟨kf, rfl⟩ : ∃ kf, gk = kf + 1 := ⟨gk - 1, by have := HA.out.2.2.2.1; omega⟩
          by_cases c2 : a < 0
          · have c2b := decide_eq_true c2
            have H1 : Aside0 (go1 ps (ps.length + 1) (cycZ ps x).1 (x : Int) = (st, a)) := ⟨by rw [← HA.out.1]; unfold go1; rw [if_neg (by omega)]⟩
            have H2 : Aside0 ((roundC ps (cycZ ps x) (x : Int)).2 = (cycZ ps x).2) := ⟨by unfold roundC; dsimp only; rw [H1.out]; dsimp only; rw [if_neg (by omega)]⟩
            replace c2 := eq_true c2
            go_wp2_with fail
            go_meet
            case rel => exact ⟨a, st, rfl, H1, HG, ⟨by rw [H2.out]; exact HX.out⟩, HB⟩
          · have c2b := decide_eq_false c2
            have p2 : 0 ≤ a := by omega
            have c3 : a < (ps.length : Int) := HA.out.2.1
            have hcell := rowB_cell HG.out p2 (by rw [HA.out.2.2.1]; exact c3)
            have hcol := HA.out.2.2.2.2 a p2 c3
            replace c2 := eq_false c2
            replace p2 := eq_true p2
            replace c3 := eq_true c3
            rcases hcol with hv | hv | hv
            · have H1 : Aside0 (go1 ps kf (st.set a.toNat 1) (rd ps a) = go1 ps (ps.length + 1) (cycZ ps x).1 (x : Int)) := ⟨by rw [← HA.out.1, go1_on ⟨of_eq_true p2, hv⟩]⟩
              have HZ := Aside0.mk (zeros_set (of_eq_true p2) (by rw [HA.out.2.2.1]; exact of_eq_true c3) hv)
              have HR := Aside0.mk (inR_rd HP.out (of_eq_true p2) (of_eq_true c3))
              have HS := Aside0.mk (rowB_set HG.out a.toNat 1)
              have hgs := grownBy_set wr g a.toNat (.int .i64 1)
              have HXs := Aside0.mk (HX.out.kept hgs (fun e => by have h := Option.some.inj e; have := HBg.out; omega))
              have HBs := Aside0.mk (HB.out.grown hgs HB.out.size (fun j hj => by cases hj; exact HWg.out))
              have hfz := rowB_frozen HG.out a.toNat
              have HSet := Aside0.mk (fun (j : Int) (hj : 0 ≤ j) => rdC_set st a j 1 (of_eq_true p2) (by rw [HA.out.2.2.1]; exact of_eq_true c3) hj)
              obtain ⟨ad, e1, hx⟩ := Kd.at_int (Kd.C_below HR0.out HBs.out) a (of_eq_true p2) (of_eq_true c3)
              cases e1
              clear hgs
              rw [hv] at hcell
              go_wp2_with fail
              go_roundg kf
              case measure => omega
              case rel => exact ⟨rd ps a, st.set a.toNat 1, rfl, ⟨H1.out, HR.out.2, by rw [List.length_set]; exact HA.out.2.2.1, by have := HZ.out; have := HA.out.2.2.2.1; omega, fun j j0 j1 => by
                rw [HSet.out j j0]
                split
                · exact .inr (.inl rfl)
                · exact HA.out.2.2.2.2 j j0 j1⟩, HS, HXs, HBs⟩
            · have H1 : Aside0 (go1 ps (ps.length + 1) (cycZ ps x).1 (x : Int) = (st, a)) := ⟨by rw [← HA.out.1, go1_stop (by omega)]⟩
              have H2 : Aside0 ((roundC ps (cycZ ps x) (x : Int)).2 ≠ []) := ⟨by unfold roundC; dsimp only; rw [H1.out]; dsimp only; rw [if_pos ⟨of_eq_true p2, hv⟩]; simp⟩
              rw [hv] at hcell
              go_wp2_with (go_at_call 94; refine (no_calls _ _ _ _ HX.out).mono ?_; rintro e w3 ⟨rfl, hb3, hg3⟩; have HX3 := Aside0.mk hb3; have HG3 := Aside0.mk (rowB_kept HG.out hg3 (fun e => by have h := Option.some.inj e; have := HBg.out; omega)); have HB3 := Aside0.mk (HB.out.grown hg3 HB.out.size (fun j hj => by cases hj; exact hBb)); clear hb3 hg3)
              go_meet
              case rel => exact ⟨a, st, rfl, H1, HG3, ⟨by rw [decide_eq_false H2.out]; exact HX3.out⟩, HB3⟩
            · have H1 : Aside0 (go1 ps (ps.length + 1) (cycZ ps x).1 (x : Int) = (st, a)) := ⟨by rw [← HA.out.1, go1_stop (by omega)]⟩
              have H2 : Aside0 ((roundC ps (cycZ ps x) (x : Int)).2 = (cycZ ps x).2) := ⟨by unfold roundC; dsimp only; rw [H1.out]; dsimp only; rw [if_neg (by omega)]⟩
              rw [hv] at hcell
              go_wp2_with fail
              go_meet
              case rel => exact ⟨a, st, rfl, H1, HG, ⟨by rw [H2.out]; exact HX.out⟩, HB⟩
      case rest =>
        obtain ⟨a, st, rfl, H1, HG2, HX2, HB2⟩ := hcut
        obtain ⟨w5, rfl⟩ : ∃ w5 : World, w5 = wc := ⟨_, rfl⟩
        have HLen := Aside0.mk (show st.length = ps.length by have h := go1_len ps (ps.length + 1) (cycZ ps x).1 (x : Int); rw [H1.out] at h; exact h.trans HI1.out.len)
        clear HG HX HB
        go_wp2_with fail
        go_loopg [6] (ps.length + 1) (fun kq v6 w' => ∃ (a : Int) (sb : List Int), v6 = .int .i64 a ∧ Aside0 (go2 ps kq sb a = go2 ps (ps.length + 1) st (x : Int) ∧ a < ps.length ∧ sb.length = ps.length ∧ ones sb < kq) ∧ Aside0 (rowB w' g sb) ∧ Aside0 (Boxed w' B 4 (.bool (decide ((roundC ps (cycZ ps x) (x : Int)).2 = [])))) ∧ Aside0 (Below w0.heap.size w0 w'))
        case atStart => exact ⟨x, st, rfl, ⟨rfl, by have := C1.out; omega, HLen.out, by have : ones st ≤ st.length := List.countP_le_length; have := HLen.out; omega⟩, HG2, HX2, HB2⟩
        case round =>
          clear HG2 HX2 HB2
          obtain ⟨a, sb, rfl, HA, HG, HX, HB⟩ := hrel
          obtain ⟨kf, rfl⟩ : ∃ kf, gk = kf + 1 := ⟨gk - 1, by have := HA.out.2.2.2; omega⟩
          by_cases c2 : a < 0
          · have c2b := decide_eq_true c2
            have HE := Aside0.mk (show (cycZ ps (x + 1)).1 = sb from by rw [HN.out]; unfold roundC; dsimp only; rw [H1.out]; dsimp only; rw [← HA.out.1, go2_stop (fun h => by omega)])
            have c2g : decide (0 ≤ a) = false := decide_eq_false (by omega)
            have c2h : (0 ≤ a) = False := eq_false (by omega)
            clear c2 c2b
            go_wp2_with fail
            rw [Exit.noGoto_normal]
            go_wp2_with fail
            go_roundg k1
            case measure => omega
            case rel => exact ⟨x + 1, by rw [HW1.out], ⟨by have := HK.out; omega⟩, ⟨by rw [HE.out]; exact HG.out⟩, ⟨by rw [HN.out]; exact HX.out⟩, HB⟩
          · have c2b := decide_eq_false c2
            have p2 : 0 ≤ a := by omega
            have c3 : a < (ps.length : Int) := HA.out.2.1
            have hcell := rowB_cell HG.out p2 (by rw [HA.out.2.2.1]; exact c3)
            by_cases hv : rd sb a = 1
            · have H3 : Aside0 (go2 ps kf (sb.set a.toNat 2) (rd ps a) = go2 ps (ps.length + 1) st (x : Int)) := ⟨by rw [← HA.out.1, go2_on ⟨p2, hv⟩]⟩
              have HZ := Aside0.mk (ones_set p2 (by rw [HA.out.2.2.1]; exact c3) hv)
              have HR := Aside0.mk (inR_rd HP.out p2 c3)
              have HS := Aside0.mk (rowB_set HG.out a.toNat 2)
              have hgs := grownBy_set wr g a.toNat (.int .i64 2)
              have HXs := Aside0.mk (HX.out.kept hgs (fun e => by have h := Option.some.inj e; have := HBg.out; omega))
              have HBs := Aside0.mk (HB.out.grown hgs HB.out.size (fun j hj => by cases hj; exact HWg.out))
              have hfz := rowB_frozen HG.out a.toNat
              obtain ⟨ad, e1, hx⟩ := Kd.at_int (Kd.C_below HR0.out HBs.out) a p2 c3
              cases e1
              clear hgs
              replace c2 := eq_false c2
              replace p2 := eq_true p2
              replace c3 := eq_true c3
              rw [hv] at hcell
              go_wp2_with fail
              go_roundg kf
              case measure => omega
              case rel => exact ⟨rd ps a, sb.set a.toNat 2, rfl, ⟨H3.out, HR.out.2, by rw [List.length_set]; exact HA.out.2.2.1, by have := HZ.out; have := HA.out.2.2.2; omega⟩, HS, HXs, HBs⟩
            · have hvb := decide_eq_false hv
              have HE := Aside0.mk (show (cycZ ps (x + 1)).1 = sb from by rw [HN.out]; unfold roundC; dsimp only; rw [H1.out]; dsimp only; rw [← HA.out.1, go2_stop (fun h => hv h.2)])
              replace c2 := eq_false c2
              replace p2 := eq_true p2
              replace c3 := eq_true c3
              generalize hq : rd sb a = q at *
              go_wp2_with fail
              rw [Exit.noGoto_normal]
              go_wp2_with fail
              go_roundg k1
              case measure => omega
              case rel => exact ⟨x + 1, by rw [HW1.out], ⟨by have := HK.out; omega⟩, ⟨by rw [HE.out]; exact HG.out⟩, ⟨by rw [HN.out]; exact HX.out⟩, HB⟩
    · have c1b := decide_eq_false c1
      have hx : x = ps.length := by have := HK.out; omega
      subst hx
      go_wp2
      go_end0
      exact ⟨rfl, HX.out, HB.out⟩
end Go.Proofs.Ytmfdhcgdibefiaa.L

/- merkhetref10.up and Right: plain. -/
namespace Go.Proofs.Ytmfdhcgdibefiaa.L
open Go.RowKit Go.Proofs.Ytmfdhcgdibefiaa.Q Go.Proofs.YtmfdhcgdibefiaaW.PrintWords Go.Proofs.YtmfdhcgdibefiaaW.Lib
set_option linter.unusedVariables false

theorem upL_ev {ps : List Int} (hp : inR ps.length ps) (hl : ps.length ≤ 1000000000) (n : Nat) (hn : n ≤ 1000000001) : ∀ (d i : Nat) (a : Int), n - i = d → i ≤ n → a < ps.length → Ev (fun k => merkhetref10_up.l0 k ps a (n : Int) (i : Int)) (upL ps a d) := by
  intro d
  induction d with
  | zero =>
    intro i a hd hi ha
    refine Ev.succ ?_
    simp only [merkhetref10_up.l0]
    exact Ev.neg (by omega) (Ev.now _)
  | succ d ih =>
    intro i a hd hi ha
    refine Ev.succ ?_
    simp only [merkhetref10_up.l0]
    unfold upL
    refine Ev.pos (by omega) ?_
    by_cases c : a < 0
    · rw [if_pos c]
      exact Ev.neg (by omega) (Ev.now _)
    · rw [if_neg c, wrap_id (by omega) (by omega)]
      refine Ev.pos (by omega) (Ev.pos (by omega) (Ev.pos ha ?_))
      exact ih (i + 1) (rd ps a) (by omega) (by omega) (inR_rd hp (by omega) ha).2
/-- A forest's. -/
def rightB (ps : List Int) : Bool := ps.all (fun p => decide (-1 ≤ p) && decide (p < ps.length)) && (List.range ps.length).all (fun i : Nat => decide (upL ps i (ps.length + 1) < 0))
theorem rright_ev (ps : List Int) (hl : ps.length ≤ 1000000000) : Ev (fun k => merkhetref10_Right.f k ps) (rightB ps) := by
  unfold merkhetref10_Right.f
  have two : ps.all (fun p => decide (-1 ≤ p) && decide (p < ps.length)) = true → ∀ (d i : Nat), ps.length - i = d → i ≤ ps.length → ((List.range ps.length).take i).all (fun i : Nat => decide (upL ps i (ps.length + 1) < 0)) = true → Ev (fun k => merkhetref10_Right.l1 k ps (i : Int)) (rightB ps) := by
    intro hin d
    have hR : inR ps.length ps := ⟨rfl, fun p hp => by have := List.all_eq_true.1 hin p hp; simpa using this⟩
    induction d with
    | zero =>
      intro i hd hi ha
      refine Ev.succ ?_
      simp only [merkhetref10_Right.l1]
      refine Ev.neg (by omega) (Ev.cast (Ev.now _) ?_)
      rw [List.take_of_length_le (by rw [List.length_range]; omega)] at ha
      unfold rightB
      rw [hin, ha]; rfl
    | succ d ih =>
      intro i hd hi ha
      have hlt : i < (List.range ps.length).length := by rw [List.length_range]; omega
      refine Ev.succ ?_
      simp only [merkhetref10_Right.l1]
      have hu := upL_ev hR hl (ps.length + 1) (by omega) (ps.length + 1) 0 (i : Int) (by omega) (by omega) (by omega)
      have hn := ih (i + 1) (by omega) (by omega)
      refine Ev.pos (by omega) ?_
      rw [wrap_id (i := (ps.length : Int) + 1) (by omega) (by omega), wrap_id (i := (i : Int) + 1) (by omega) (by omega)]
      refine Ev.bind (a := upL ps i (ps.length + 1)) (by unfold merkhetref10_up.f; exact_mod_cast hu) (Ev.ite (fun c => Ev.cast (Ev.now _) ?_) (fun c => hn ?_))
      · unfold rightB
        rw [hin, Bool.true_and]
        symm
        rw [Bool.eq_false_iff]
        intro h
        have := List.all_eq_true.1 h i (List.mem_range.2 (by omega))
        simp only [decide_eq_true_eq] at this
        omega
      · rw [List.take_succ_eq_append_getElem hlt, List.all_append, ha]
        simp only [List.getElem_range, List.all_cons, List.all_nil, Bool.and_true, Bool.true_and, decide_eq_true_eq]
        omega
  have one : ∀ (d i : Nat), ps.length - i = d → i ≤ ps.length → (ps.take i).all (fun p => decide (-1 ≤ p) && decide (p < ps.length)) = true → Ev (fun k => merkhetref10_Right.l0 k ps (i : Int)) (rightB ps) := by
    intro d
    induction d with
    | zero =>
      intro i hd hi ha
      rw [List.take_of_length_le (by omega)] at ha
      refine Ev.succ ?_
      simp only [merkhetref10_Right.l0]
      exact Ev.neg (by omega) (two ha ps.length 0 (by omega) (by omega) (by simp))
    | succ d ih =>
      intro i hd hi ha
      have hlt : i < ps.length := by omega
      have hr : rd ps (i : Int) = ps[i] := by simp [rd, List.getD, hlt]
      have hn := ih (i + 1) (by omega) (by omega)
      have bad : ¬ (-1 ≤ ps[i] ∧ ps[i] < ps.length) → rightB ps = false := by
        intro hb
        unfold rightB
        rw [Bool.and_eq_false_iff]
        left
        rw [Bool.eq_false_iff]
        intro h
        have := List.all_eq_true.1 h ps[i] (List.getElem_mem hlt)
        simp only [Bool.and_eq_true, decide_eq_true_eq] at this
        exact hb this
      refine Ev.succ ?_
      simp only [merkhetref10_Right.l0, hr]
      refine Ev.pos (by omega) (Ev.pos (by omega) (Ev.ite (fun c => Ev.cast (Ev.now _) (bad (by omega)).symm) (fun c => Ev.ite (fun c2 => Ev.cast (Ev.now _) (bad (by omega)).symm) (fun c2 => ?_))))
      rw [wrap_id (by omega) (by omega)]
      refine hn ?_
      rw [List.take_succ_eq_append_getElem hlt, List.all_append, ha]
      simp only [List.all_cons, List.all_nil, Bool.and_true, Bool.true_and, Bool.and_eq_true, decide_eq_true_eq]
      omega
  exact one ps.length 0 (by omega) (by omega) (by simp)
/-- As parent.Right says it. -/
theorem rightB_cyc {ps : List Int} (hp : inR ps.length ps) : rightB ps = decide ((cycZ ps ps.length).2 = []) := by
  rw [Bool.eq_iff_iff, decide_eq_true_eq, cyc_none hp]
  unfold rightB
  rw [Bool.and_eq_true, List.all_eq_true, List.all_eq_true]
  constructor
  · rintro ⟨_, h⟩ a a0 a1
    have := h a.toNat (List.mem_range.2 (by omega))
    rw [decide_eq_true_eq, show ((a.toNat : Nat) : Int) = a by omega] at this
    exact ⟨_, this⟩
  · intro h
    refine ⟨fun p hm => by have := hp.2 p hm; simp only [Bool.and_eq_true, decide_eq_true_eq]; exact this, fun i hi => ?_⟩
    have hi' := List.mem_range.1 hi
    rw [decide_eq_true_eq]
    exact (ends_in hp (by omega)).1 (h i (by omega) (by omega))
end Go.Proofs.Ytmfdhcgdibefiaa.L

/- parent.Right: the walk. -/
namespace Go.Proofs.Ytmfdhcgdibefiaa.L
open Go.RowKit Go.Proofs.Ytmfdhcgdibefiaa.Q Go.Proofs.YtmfdhcgdibefiaaW.PrintWords Go.Proofs.YtmfdhcgdibefiaaW.PrintLast Go.Proofs.YtmfdhcgdibefiaaW.PrintMore Go.Proofs.YtmfdhcgdibefiaaW.Lib Go.Proofs.YtmfdhcgdibefiaaW.MapB
set_option linter.unusedVariables false

def okP (n : Nat) (p : Int) : Bool := decide (-1 ≤ p) && decide (p < n)
theorem rightB_bad {ps : List Int} {x : Int} (h0 : 0 ≤ x) (h1 : x < ps.length) (hb : okP ps.length (rd ps x) = false) : rightB ps = false := by
  have hlt : x.toNat < ps.length := by omega
  have e : rd ps x = ps[x.toNat] := by simp [rd, List.getD, hlt]
  rw [e] at hb
  unfold rightB
  rw [Bool.and_eq_false_iff]
  left
  rw [Bool.eq_false_iff]
  intro h
  have := List.all_eq_true.1 h ps[x.toNat] (List.getElem_mem hlt)
  unfold okP at hb
  rw [hb] at this
  cases this
set_option maxHeartbeats 1000000 in
set_option maxRecDepth 100000 in
theorem right_calls (ps : List Int) (hl : ps.length ≤ 1000000) (A0 : Option Addr) (c0 : Nat) (w : World) (hr0 : Kd.C (Kd.int .i64) w A0 ps.length ps) (hc0 : ps.length ≤ c0) :
    Calls Try.prog 40 #[.slice A0 ps.length c0] w fun e w' => e = .returned (.bool (rightB ps)) ∧ Below w.heap.size w w' := by
  have hmf : ∀ (fn : Fn) (first cap : Array Value) (w : World), (Instr.makeFunc fn first cap).run Try.prog w = .ok (.func fn first cap) w := fun _ _ _ _ => rfl
  have HR0 := Aside0.mk hr0
  have HL := Aside0.mk hl
  have HB0 := Aside0.mk (Below.refl w.heap.size w)
  have QC := Aside0.mk (fun hp B w1 h1 h2 h3 => cycles_right ps hp hl A0 c0 B w w1 hr0 h1 h2 h3)
  clear hr0 hl hc0
  go_enter Try.func40, Try.ntmps40
  go_wp2_with fail
  go_loopg [8] ps.length (fun kq v8 w' => ∃ x8 : Int, v8 = .int .i64 x8 ∧ Aside0 (0 ≤ x8 ∧ x8 + kq = ps.length ∧ ∀ j : Nat, (j : Int) < x8 → okP ps.length (rd ps j) = true) ∧ Aside0 (w' = w))
  case atStart => exact ⟨0, rfl, ⟨by omega, by omega, fun j hj => by omega⟩, ⟨rfl⟩⟩
  case round =>
    obtain ⟨x8, rfl, HK, HW⟩ := hrel
    obtain rfl := HW.out
    by_cases c1 : x8 < (ps.length : Int)
    · have c1b := decide_eq_true c1
      have p1 : 0 ≤ x8 := HK.out.1
      obtain ⟨ad1, e1, hx0⟩ := Kd.at_int HR0.out x8 p1 c1
      cases e1
      have W1 := Aside0.mk (show wrap64 (x8 + 1) = x8 + 1 from by unfold wrap64; have := HL.out; omega)
      have HBad := Aside0.mk (fun h => rightB_bad (ps := ps) (x := x8) p1 c1 h)
      have P1 := Aside0.mk p1
      have Q1 := Aside0.mk c1
      obtain ⟨k1, rfl⟩ : ∃ k1, gk = k1 + 1 := ⟨gk - 1, by have := HK.out; omega⟩
      replace p1 := eq_true p1
      replace c1 := eq_true c1
      generalize hq : rd ps x8 = p at *
      have HQ := Aside0.mk hq
      clear hq
      by_cases c2 : p < -1
      · have c2b := decide_eq_true c2
        have HF := Aside0.mk (HBad.out (by unfold okP; rw [decide_eq_false (by omega)]; rfl))
        replace c2 := eq_true c2
        go_wp2_with fail
        go_ret
        exact ⟨by rw [HF.out]; rfl, HB0.out⟩
      · have c2b := decide_eq_false c2
        by_cases c3 : (ps.length : Int) ≤ p
        · have c3b := decide_eq_true c3
          have HF := Aside0.mk (HBad.out (by unfold okP; rw [decide_eq_false (show ¬ p < ps.length by omega)]; simp))
          replace c2 := eq_false c2
          replace c3 := eq_true c3
          go_wp2_with fail
          go_ret
          exact ⟨by rw [HF.out]; rfl, HB0.out⟩
        · have c3b := decide_eq_false c3
          have HO := Aside0.mk (show okP ps.length p = true from by unfold okP; rw [decide_eq_true (show -1 ≤ p by omega), decide_eq_true (show p < ps.length by omega)]; rfl)
          replace c2 := eq_false c2
          replace c3 := eq_false c3
          go_wp2_with fail
          go_roundg k1
          case measure => omega
          case rel => exact ⟨x8 + 1, by rw [W1.out], ⟨by have := P1.out; omega, by have := HK.out; omega, fun j hj => by
            by_cases e : (j : Int) = x8
            · rw [e, HQ.out]; exact HO.out
            · exact HK.out.2.2 j (by omega)⟩, ⟨rfl⟩⟩
    · have c1b := decide_eq_false c1
      have hin : inR ps.length ps := ⟨rfl, fun p hp => by
        obtain ⟨j, hj, rfl⟩ := List.getElem_of_mem hp
        have h := HK.out.2.2 j (by have := HK.out; omega)
        have e : rd ps (j : Int) = ps[j] := by simp [rd, List.getD, hj]
        rw [e] at h
        unfold okP at h
        rw [Bool.and_eq_true, decide_eq_true_eq, decide_eq_true_eq] at h
        exact h⟩
      have QR := Aside0.mk (QC.out hin wr.heap.size (wr.alloc (.cells #[.bool true] 4)) (below_alloc HB0.out _) (Nat.le_refl _) (Boxed.new _ _ _))
      have HE := Aside0.mk (rightB_cyc hin)
      clear hin QC c1
      go_wp2_with (go_at_call 93; refine QR.out.mono ?_; rintro e w1 ⟨rfl, hb, hbl⟩; have hcb := hb.cell; have HB := Aside0.mk hbl; clear hb hbl)
      go_ret
      exact ⟨by rw [HE.out]; rfl, HB.out⟩
end Go.Proofs.Ytmfdhcgdibefiaa.L

-- Written by wip/tools/gp.py, a program of this session round the kit's printer. Lean checks it.
namespace Go.Proofs.Ytmfdhcgdibefiaa.R
open Go.RowKit Go.Proofs.Ytmfdhcgdibefiaa.Q Go.Proofs.YtmfdhcgdibefiaaW.PrintWords Go.Proofs.YtmfdhcgdibefiaaW.PrintLast Go.Proofs.YtmfdhcgdibefiaaW.PrintMore
attribute [local go_sem] max2_int min2_int max_two min_two max_three min_three max_four min_four   -- for this text's walks alone
set_option linter.unusedVariables false
set_option linter.unusedSimpArgs false




theorem info2 : (Try.prog.info? 2).map (fun i => (i.zero, i.size, i.bytes)) = some (some (.int .i64 0), 1, 8) := by kernel_rfl
theorem info26 : (Try.prog.info? 26).map (fun i => (i.zero, i.size, i.bytes)) = some (some (.agg #[(.int .i64 0), (.int .i64 0)]), 2, 16) := by kernel_rfl
/-! #### struct type 26 -/
structure S26 where
  f0 : Int
  f1 : Int
def k26 : Kd S26 := Kd.iso (Kd.pair (Kd.int .i64) (Kd.int .i64)) (fun x : S26 => (x.f0, x.f1))
theorem k26_mkM (w : World) (base : Nat) (ok : Nat → Prop) (x : S26)  : k26.M w base ok x [.int .i64 x.f0, .int .i64 x.f1] := ⟨[.int .i64 x.f0], [.int .i64 x.f1], rfl, rfl, rfl⟩
end Go.Proofs.Ytmfdhcgdibefiaa.R

-- Written by wip/tools/gp.py, a program of this session round the kit's printer. Lean checks it.
namespace Go.Proofs.Ytmfdhcgdibefiaa.O
open Go.RowKit Go.Proofs.Ytmfdhcgdibefiaa.Q Go.Proofs.Ytmfdhcgdibefiaa.R Go.Proofs.YtmfdhcgdibefiaaW.PrintWords Go.Proofs.YtmfdhcgdibefiaaW.PrintLast Go.Proofs.YtmfdhcgdibefiaaW.PrintMore
attribute [local go_sem] max2_int min2_int max_two min_two max_three min_three max_four min_four   -- for this text's walks alone
set_option linter.unusedVariables false
set_option linter.unusedSimpArgs false




-- the values' own types

end Go.Proofs.Ytmfdhcgdibefiaa.O

-- Written by wip/tools/gp.py, a program of this session round the kit's printer. Lean checks it.
namespace Go.Proofs.Ytmfdhcgdibefiaa.Q
open Go.RowKit Go.Proofs.YtmfdhcgdibefiaaW.PrintWords Go.Proofs.YtmfdhcgdibefiaaW.PrintLast Go.Proofs.YtmfdhcgdibefiaaW.PrintMore
attribute [local go_sem] max2_int min2_int max_two min_two max_three min_three max_four min_four   -- for this text's walks alone
set_option linter.unusedVariables false
set_option linter.unusedSimpArgs false

/-! ### merkhetref10_Of: function 18 -/
mutual
def merkhetref10_Of.l0 : Nat → List (S37) → List Int → Int → Option (List Int)
  | 0, _, _, _ => none
  | k + 1, x0, x3, x4 => if x4 < (x0.length : Int) then (merkhetref10_Of.l1 k x0 x3 x4 (-1) (wrap64 ((x0.length : Int) - 1))) else (merkhetref10_Of.l2 k x0 x3 (([] : List Int)) 0)
def merkhetref10_Of.l1 : Nat → List (S37) → List Int → Int → Int → Int → Option (List Int)
  | 0, _, _, _, _, _ => none
  | k + 1, x0, x3, x4, x5, x6 => if x6 ≥ 0 then (if 0 ≤ x4 then (if x4 < (x0.length : Int) then (if ((rd_T37 x0 x4).f2) = 0 then (merkhetref10_Of.l1 k x0 x3 x4 x5 (wrap64 (x6 - 1))) else (if 0 ≤ x6 then (if x6 < (x0.length : Int) then (if ((rd_T37 x0 x6).f1) = ((rd_T37 x0 x4).f2) then (merkhetref10_Of.l1 k x0 x3 x4 x6 (wrap64 (x6 - 1))) else (merkhetref10_Of.l1 k x0 x3 x4 x5 (wrap64 (x6 - 1)))) else (none)) else (none))) else (none)) else (none)) else (if x3.length < 17592186044416 then (merkhetref10_Of.l0 k x0 (x3 ++ [x5]) (wrap64 (x4 + 1))) else (none))
def merkhetref10_Of.l2 : Nat → List (S37) → List Int → List Int → Int → Option (List Int)
  | 0, _, _, _, _ => none
  | k + 1, x0, x3, x7, x8 => if x8 < (x0.length : Int) then ((merkhetref10_on.f k x3 x8).bind fun t119 => (merkhetref10_Of.l3 k x0 x3 x7 x8 t119 x8)) else (some x7)
def merkhetref10_Of.l3 : Nat → List (S37) → List Int → List Int → Int → Bool → Int → Option (List Int)
  | 0, _, _, _, _, _, _ => none
  | k + 1, x0, x3, x7, x8, x9, x10 => if x9 = true then (if 0 ≤ x10 then (if x10 < (x3.length : Int) then (merkhetref10_Of.j4 k x0 x3 x7 x8 x9 x10 ((rd x3 x10) != x8)) else (none)) else (none)) else (merkhetref10_Of.j4 k x0 x3 x7 x8 x9 x10 false)
def merkhetref10_Of.j4 : Nat → List (S37) → List Int → List Int → Int → Bool → Int → Bool → Option (List Int)
  | 0, _, _, _, _, _, _, _ => none
  | k + 1, x0, x3, x7, x8, x9, x10, x68 => if x68 = true then (if 0 ≤ x10 then (if x10 < (x3.length : Int) then (if (rd x3 x10) < x8 then (merkhetref10_Of.l3 k x0 x3 x7 x8 false (rd x3 x10)) else (merkhetref10_Of.l3 k x0 x3 x7 x8 x9 (rd x3 x10))) else (none)) else (none)) else (if x9 = true then (if x7.length < 17592186044416 then (merkhetref10_Of.l2 k x0 x3 (x7 ++ [(-1)]) (wrap64 (x8 + 1))) else (none)) else (if 0 ≤ x8 then (if x8 < (x3.length : Int) then (if x7.length < 17592186044416 then (merkhetref10_Of.l2 k x0 x3 (x7 ++ [rd x3 x8]) (wrap64 (x8 + 1))) else (none)) else (none)) else (none)))
end
def merkhetref10_Of.f (k : Nat) (l0 : List (S37)) : Option (List Int) := merkhetref10_Of.l0 k l0 (([] : List Int)) 0
theorem merkhetref10_Of.mono_l : ∀ k, (∀ y0 y1 y2, LeO (merkhetref10_Of.l0 k y0 y1 y2) (merkhetref10_Of.l0 (k + 1) y0 y1 y2)) ∧ (∀ y0 y1 y2 y3 y4, LeO (merkhetref10_Of.l1 k y0 y1 y2 y3 y4) (merkhetref10_Of.l1 (k + 1) y0 y1 y2 y3 y4)) ∧ (∀ y0 y1 y2 y3, LeO (merkhetref10_Of.l2 k y0 y1 y2 y3) (merkhetref10_Of.l2 (k + 1) y0 y1 y2 y3)) ∧ (∀ y0 y1 y2 y3 y4 y5, LeO (merkhetref10_Of.l3 k y0 y1 y2 y3 y4 y5) (merkhetref10_Of.l3 (k + 1) y0 y1 y2 y3 y4 y5)) ∧ (∀ y0 y1 y2 y3 y4 y5 y6, LeO (merkhetref10_Of.j4 k y0 y1 y2 y3 y4 y5 y6) (merkhetref10_Of.j4 (k + 1) y0 y1 y2 y3 y4 y5 y6))
  | 0 => ⟨fun _ _ _ r h => by simp [merkhetref10_Of.l0] at h, fun _ _ _ _ _ r h => by simp [merkhetref10_Of.l1] at h, fun _ _ _ _ r h => by simp [merkhetref10_Of.l2] at h, fun _ _ _ _ _ _ r h => by simp [merkhetref10_Of.l3] at h, fun _ _ _ _ _ _ _ r h => by simp [merkhetref10_Of.j4] at h⟩
  | k + 1 => by
    obtain ⟨ih0, ih1, ih2, ih3, ih4⟩ := merkhetref10_Of.mono_l k
    refine ⟨?_, ?_, ?_, ?_, ?_⟩
    · intro y0 y1 y2
      unfold merkhetref10_Of.l0
      repeat' first
      | (with_reducible exact ih0 _ _ _)
      | (with_reducible exact ih1 _ _ _ _ _)
      | (with_reducible exact ih2 _ _ _ _)
      | (with_reducible exact ih3 _ _ _ _ _ _)
      | (with_reducible exact ih4 _ _ _ _ _ _ _)
      | (with_reducible exact merkhetref10_on.mono _ _ _)
      | (with_reducible exact LeO.refl _)
      | (with_reducible exact LeO.none _)
      | (with_reducible refine LeO.ite ?_ ?_)
      | (with_reducible refine LeO.bind ?_ (fun _ => ?_))
      | exact ih0 _ _ _
      | exact ih1 _ _ _ _ _
      | exact ih2 _ _ _ _
      | exact ih3 _ _ _ _ _ _
      | exact ih4 _ _ _ _ _ _ _
      | exact merkhetref10_on.mono _ _ _
      | exact LeO.none _
      | refine LeO.ite ?_ ?_
      | refine LeO.bind ?_ (fun _ => ?_)
    · intro y0 y1 y2 y3 y4
      unfold merkhetref10_Of.l1
      repeat' first
      | (with_reducible exact ih0 _ _ _)
      | (with_reducible exact ih1 _ _ _ _ _)
      | (with_reducible exact ih2 _ _ _ _)
      | (with_reducible exact ih3 _ _ _ _ _ _)
      | (with_reducible exact ih4 _ _ _ _ _ _ _)
      | (with_reducible exact merkhetref10_on.mono _ _ _)
      | (with_reducible exact LeO.refl _)
      | (with_reducible exact LeO.none _)
      | (with_reducible refine LeO.ite ?_ ?_)
      | (with_reducible refine LeO.bind ?_ (fun _ => ?_))
      | exact ih0 _ _ _
      | exact ih1 _ _ _ _ _
      | exact ih2 _ _ _ _
      | exact ih3 _ _ _ _ _ _
      | exact ih4 _ _ _ _ _ _ _
      | exact merkhetref10_on.mono _ _ _
      | exact LeO.none _
      | refine LeO.ite ?_ ?_
      | refine LeO.bind ?_ (fun _ => ?_)
    · intro y0 y1 y2 y3
      unfold merkhetref10_Of.l2
      repeat' first
      | (with_reducible exact ih0 _ _ _)
      | (with_reducible exact ih1 _ _ _ _ _)
      | (with_reducible exact ih2 _ _ _ _)
      | (with_reducible exact ih3 _ _ _ _ _ _)
      | (with_reducible exact ih4 _ _ _ _ _ _ _)
      | (with_reducible exact merkhetref10_on.mono _ _ _)
      | (with_reducible exact LeO.refl _)
      | (with_reducible exact LeO.none _)
      | (with_reducible refine LeO.ite ?_ ?_)
      | (with_reducible refine LeO.bind ?_ (fun _ => ?_))
      | exact ih0 _ _ _
      | exact ih1 _ _ _ _ _
      | exact ih2 _ _ _ _
      | exact ih3 _ _ _ _ _ _
      | exact ih4 _ _ _ _ _ _ _
      | exact merkhetref10_on.mono _ _ _
      | exact LeO.none _
      | refine LeO.ite ?_ ?_
      | refine LeO.bind ?_ (fun _ => ?_)
    · intro y0 y1 y2 y3 y4 y5
      unfold merkhetref10_Of.l3
      repeat' first
      | (with_reducible exact ih0 _ _ _)
      | (with_reducible exact ih1 _ _ _ _ _)
      | (with_reducible exact ih2 _ _ _ _)
      | (with_reducible exact ih3 _ _ _ _ _ _)
      | (with_reducible exact ih4 _ _ _ _ _ _ _)
      | (with_reducible exact merkhetref10_on.mono _ _ _)
      | (with_reducible exact LeO.refl _)
      | (with_reducible exact LeO.none _)
      | (with_reducible refine LeO.ite ?_ ?_)
      | (with_reducible refine LeO.bind ?_ (fun _ => ?_))
      | exact ih0 _ _ _
      | exact ih1 _ _ _ _ _
      | exact ih2 _ _ _ _
      | exact ih3 _ _ _ _ _ _
      | exact ih4 _ _ _ _ _ _ _
      | exact merkhetref10_on.mono _ _ _
      | exact LeO.none _
      | refine LeO.ite ?_ ?_
      | refine LeO.bind ?_ (fun _ => ?_)
    · intro y0 y1 y2 y3 y4 y5 y6
      unfold merkhetref10_Of.j4
      repeat' first
      | (with_reducible exact ih0 _ _ _)
      | (with_reducible exact ih1 _ _ _ _ _)
      | (with_reducible exact ih2 _ _ _ _)
      | (with_reducible exact ih3 _ _ _ _ _ _)
      | (with_reducible exact ih4 _ _ _ _ _ _ _)
      | (with_reducible exact merkhetref10_on.mono _ _ _)
      | (with_reducible exact LeO.refl _)
      | (with_reducible exact LeO.none _)
      | (with_reducible refine LeO.ite ?_ ?_)
      | (with_reducible refine LeO.bind ?_ (fun _ => ?_))
      | exact ih0 _ _ _
      | exact ih1 _ _ _ _ _
      | exact ih2 _ _ _ _
      | exact ih3 _ _ _ _ _ _
      | exact ih4 _ _ _ _ _ _ _
      | exact merkhetref10_on.mono _ _ _
      | exact LeO.none _
      | refine LeO.ite ?_ ?_
      | refine LeO.bind ?_ (fun _ => ?_)
theorem merkhetref10_Of.mono : ∀ a0 k, LeO (merkhetref10_Of.f k a0) (merkhetref10_Of.f (k + 1) a0) := by
  intro a0 k
  obtain ⟨ih0, ih1, ih2, ih3, ih4⟩ := merkhetref10_Of.mono_l k
  unfold merkhetref10_Of.f
  repeat' first
      | (with_reducible exact ih0 _ _ _)
      | (with_reducible exact ih1 _ _ _ _ _)
      | (with_reducible exact ih2 _ _ _ _)
      | (with_reducible exact ih3 _ _ _ _ _ _)
      | (with_reducible exact ih4 _ _ _ _ _ _ _)
      | (with_reducible exact merkhetref10_on.mono _ _ _)
      | (with_reducible exact LeO.refl _)
      | (with_reducible exact LeO.none _)
      | (with_reducible refine LeO.ite ?_ ?_)
      | (with_reducible refine LeO.bind ?_ (fun _ => ?_))
      | exact ih0 _ _ _
      | exact ih1 _ _ _ _ _
      | exact ih2 _ _ _ _
      | exact ih3 _ _ _ _ _ _
      | exact ih4 _ _ _ _ _ _ _
      | exact merkhetref10_on.mono _ _ _
      | exact LeO.none _
      | refine LeO.ite ?_ ?_
      | refine LeO.bind ?_ (fun _ => ?_)
set_option maxHeartbeats 8000000 in
set_option maxRecDepth 100000 in
theorem merkhetref10_Of.calls (k : Nat) (A0 : Option Addr) (c0 : Nat) (l0 : List (S37)) (r : List Int) (w : World) (hr0 : Kd.C k37 w A0 l0.length l0) (hc0 : l0.length ≤ c0) (h : merkhetref10_Of.f k l0 = some r) :
    Calls Try.prog 18 #[.slice A0 l0.length c0] w fun e w' => ∃ v0_ : Value, e = .returned (v0_) ∧ Kd.R (Kd.int .i64) 3 w' w.heap.size (fun _ => True) v0_ r ∧ Below w.heap.size w w' := by
  have HR0 := Aside0.mk hr0
  have HC0 := Aside0.mk hc0
  clear hr0 hc0
  have HB := Aside0.mk (Below.refl w.heap.size w)
  have H : (merkhetref10_Of.l0 k l0 (([] : List Int)) 0) = some r := h
  clear h
  obtain ⟨y107, hy107⟩ : ∃ y_ : List Int, y_ = (([] : List Int)) := ⟨_, rfl⟩
  replace H : (merkhetref10_Of.l0 k l0 y107 0) = some r := by first | (rw [hy107]; with_reducible exact H) | (have H2_ := (Option.bind_some _ _).symm.trans H; rw [hy107]; with_reducible exact H2_) | (have H2_ := (Option.bind_some _ _).symm.trans H; with_reducible exact H2_) | with_reducible exact H | (rw [hy107]; exact H) | exact H
  have Ny107 := Aside0.mk hy107
  clear hy107
  have H' := Aside0.mk H
  clear H
  go_enter Try.func18, Try.ntmps18
  go_wp2_with (first | ((with_reducible refine gate_dst (N := 11) rfl ?_); refine Kd.R_lit (Kd.int .i64) _ 3 ?hg (N := 11) ?hd (xs := ([] : List Int)) (inner := []) (ok := fun _ => True) (okp := fun _ => True) ?hr ?hp (fun _ hk => hk) trivial (Below.refl _ _) (Nat.le_refl _) (by simp) ?_; (case hd => rfl); (case hg => rfl); (case hr => first | (go_simp; done) | (go_simp; rfl)); (case hp => exact (Reps.none _ _)); intro v108 w2 ho3 hb hg_ hnew_; clear hg_ hnew_; (first | rw [← Ny107.out] at ho3 | (simp only [Int.reduceToNat] at ho3; rw [← Ny107.out] at ho3)); have n0_ := Aside0.mk (Kd.R_lower ho3 (below_size (by repeat (first | (with_reducible first | exact HB.out | apply below_alloc | apply pw_below_drewN | apply below_drew1) | exact HB.out)))); have n1_ := Aside0.mk (below_step (by repeat (first | (with_reducible first | exact HB.out | apply below_alloc | apply pw_below_drewN | apply below_drew1) | exact HB.out)) hb); clear HB; have HO109 := n0_; have HB := n1_; clear n0_ n1_; clear hb ho3))
  repeat (go_quiet (first | ((with_reducible refine gate_dst (N := 11) rfl ?_); refine Kd.R_lit (Kd.int .i64) _ 3 ?hg (N := 11) ?hd (xs := ([] : List Int)) (inner := []) (ok := fun _ => True) (okp := fun _ => True) ?hr ?hp (fun _ hk => hk) trivial (Below.refl _ _) (Nat.le_refl _) (by simp) ?_; (case hd => rfl); (case hg => rfl); (case hr => first | (go_simp; done) | (go_simp; rfl)); (case hp => exact (Reps.none _ _)); intro v108 w2 ho3 hb hg_ hnew_; clear hg_ hnew_; (first | rw [← Ny107.out] at ho3 | (simp only [Int.reduceToNat] at ho3; rw [← Ny107.out] at ho3)); have n0_ := Aside0.mk (Kd.R_lower ho3 (below_size (by repeat (first | (with_reducible first | exact HB.out | apply below_alloc | apply pw_below_drewN | apply below_drew1) | exact HB.out)))); have n1_ := Aside0.mk (below_step (by repeat (first | (with_reducible first | exact HB.out | apply below_alloc | apply pw_below_drewN | apply below_drew1) | exact HB.out)) hb); clear HB; have HO109 := n0_; have HB := n1_; clear n0_ n1_; clear hb ho3)); try go_wp2_with (first | ((with_reducible refine gate_dst (N := 11) rfl ?_); refine Kd.R_lit (Kd.int .i64) _ 3 ?hg (N := 11) ?hd (xs := ([] : List Int)) (inner := []) (ok := fun _ => True) (okp := fun _ => True) ?hr ?hp (fun _ hk => hk) trivial (Below.refl _ _) (Nat.le_refl _) (by simp) ?_; (case hd => rfl); (case hg => rfl); (case hr => first | (go_simp; done) | (go_simp; rfl)); (case hp => exact (Reps.none _ _)); intro v108 w2 ho3 hb hg_ hnew_; clear hg_ hnew_; (first | rw [← Ny107.out] at ho3 | (simp only [Int.reduceToNat] at ho3; rw [← Ny107.out] at ho3)); have n0_ := Aside0.mk (Kd.R_lower ho3 (below_size (by repeat (first | (with_reducible first | exact HB.out | apply below_alloc | apply pw_below_drewN | apply below_drew1) | exact HB.out)))); have n1_ := Aside0.mk (below_step (by repeat (first | (with_reducible first | exact HB.out | apply below_alloc | apply pw_below_drewN | apply below_drew1) | exact HB.out)) hb); clear HB; have HO109 := n0_; have HB := n1_; clear n0_ n1_; clear hb ho3)))
  go_loopg [3, 4] k (fun kq v3 v4 w' => ∃ (x3_1 : List Int) (x4_1 : Int), v4 = .int .i64 x4_1 ∧ Aside0 (merkhetref10_Of.l0 kq l0 x3_1 x4_1 = some r) ∧ Aside0 (kq ≤ k) ∧ Aside0 (Kd.R (Kd.int .i64) 3 w' w.heap.size (fun _ => True) v3 x3_1) ∧ Aside0 (Below w.heap.size w w'))
  case atStart => exact ⟨(y107), (0), (by first | rfl | (simp; done) | (simp [*]; done)), H', ⟨Nat.le_refl _⟩, ⟨by (with_reducible repeat (first | apply Kd.R_alloc | apply Kd.R_drewN | apply Kd.R_drew)); exact HO109.out⟩, ⟨by repeat (first | (with_reducible first | exact HB.out | apply below_alloc | apply pw_below_drewN | apply below_drew1) | exact HB.out)⟩⟩
  case round =>
    clear H'
    (try clear c1); (try clear p2)
    obtain ⟨x3_1, x4_1, rfl, HA, HK1, HO_3, HB⟩ := hrel
    cases gk with
    | zero => exact absurd HA.out (by simp [merkhetref10_Of.l0])
    | succ k1 =>
      have H := HA.out
      clear HA
      simp only [merkhetref10_Of.l0] at H
      by_cases c4 : x4_1 < (l0.length : Int)
      · rw [if_pos c4] at H
        have c4b0 : decide (x4_1 < (l0.length : Int)) = true := decide_eq_true c4
        clear c4
        have H' := Aside0.mk H
        clear H
        go_wp2
        repeat (go_quiet (fail); try go_wp2)
        go_loopg [5, 6] k1 (fun kq v5 v6 w' => ∃ (x5_2 : Int) (x6_2 : Int), v5 = .int .i64 x5_2 ∧ v6 = .int .i64 x6_2 ∧ Aside0 (merkhetref10_Of.l1 kq l0 x3_1 x4_1 x5_2 x6_2 = some r) ∧ Aside0 (kq ≤ k1) ∧ Aside0 (Kd.R (Kd.int .i64) 3 w' w.heap.size (fun _ => True) u3 x3_1) ∧ Aside0 (Below w.heap.size w w'))
        case atStart => exact ⟨((-1)), (wrap64 ((l0.length : Int) - 1)), (by first | rfl | (simp; done) | (simp [*]; done)), (by first | rfl | (simp; done) | (simp [*]; done)), H', ⟨Nat.le_refl _⟩, ⟨by (with_reducible repeat (first | apply Kd.R_alloc | apply Kd.R_drewN | apply Kd.R_drew)); exact HO_3.out⟩, ⟨by repeat (first | (with_reducible first | exact HB.out | apply below_alloc | apply pw_below_drewN | apply below_drew1) | exact HB.out)⟩⟩
        case round =>
          clear H'
          (try clear c1); (try clear p2); (try clear c4); (try clear c4b0); (try clear p2)
          obtain ⟨x5_2, x6_2, rfl, rfl, HA, HK2, HO_3, HB⟩ := hrel
          cases gk with
          | zero => exact absurd HA.out (by simp [merkhetref10_Of.l1])
          | succ k2 =>
            have H := HA.out
            clear HA
            simp only [merkhetref10_Of.l1] at H
            by_cases c5 : x6_2 ≥ 0
            · rw [if_pos c5] at H
              have c5b0 : decide (0 ≤ x6_2) = true := decide_eq_true c5
              clear c5
              by_cases c6 : 0 ≤ x4_1
              · rw [if_pos c6] at H
                have c6b0 : decide (0 ≤ x4_1) = true := decide_eq_true c6
                clear c6
                by_cases c7 : x4_1 < (l0.length : Int)
                · rw [if_pos c7] at H
                  have c7b0 : decide (x4_1 < (l0.length : Int)) = true := decide_eq_true c7
                  clear c7
                  by_cases c8 : ((rd_T37 l0 x4_1).f2) = 0
                  · rw [if_pos c8] at H
                    have c8b0 : (((rd_T37 l0 x4_1).f2) == 0) = true := beq_iff_eq.mpr c8
                    have c8b1 : (((rd_T37 l0 x4_1).f2) != 0) = false := bne_eq_false_iff_eq.mpr c8
                    clear c8
                    have H' := Aside0.mk H
                    clear H
                    have p113 : 0 ≤ (x4_1 : Int) := of_decide_eq_true (by first | (with_reducible assumption) | assumption)
                    have q113 : x4_1 < (l0.length : Int) := of_decide_eq_true (by first | (with_reducible assumption) | assumption)
                    obtain ⟨ad113, e113, hx113_0, hx113_1, hx113_2, hx113_3, hx113_4, hx113_5, hx113_6, hx113_7⟩ := at_T37 HR0.out x4_1 p113 q113
                    cases e113
                    replace hx113_0 := (HB.out.cell (World.block_lt_of_cell? w _ hx113_0)).trans hx113_0
                    replace hx113_1 := (HB.out.cell (World.block_lt_of_cell? w _ hx113_1)).trans hx113_1
                    replace hx113_2 := (HB.out.cell (World.block_lt_of_cell? w _ hx113_2)).trans hx113_2
                    replace hx113_3 := (HB.out.cell (World.block_lt_of_cell? w _ hx113_3)).trans hx113_3
                    replace hx113_4 := (HB.out.cell (World.block_lt_of_cell? w _ hx113_4)).trans hx113_4
                    replace hx113_5 := (HB.out.cell (World.block_lt_of_cell? w _ hx113_5)).trans hx113_5
                    replace hx113_6 := (HB.out.cell (World.block_lt_of_cell? w _ hx113_6)).trans hx113_6
                    replace hx113_7 := (HB.out.cell (World.block_lt_of_cell? w _ hx113_7)).trans hx113_7
                    replace p113 := eq_true p113
                    replace q113 := eq_true q113
                    go_wp2
                    repeat (go_quiet (fail); try go_wp2)
                    go_roundg k2
                    case measure => have := HK1.out; have := HK2.out; omega
                    case rel => exact ⟨(x5_2), (wrap64 (x6_2 - 1)), (by first | rfl | (simp; done) | (simp [*]; done)), (by first | rfl | (simp; done) | (simp [*]; done)), H', ⟨by have := HK1.out; have := HK2.out; omega⟩, ⟨by (with_reducible repeat (first | apply Kd.R_alloc | apply Kd.R_drewN | apply Kd.R_drew)); exact HO_3.out⟩, ⟨by repeat (first | (with_reducible first | exact HB.out | apply below_alloc | apply pw_below_drewN | apply below_drew1) | exact HB.out)⟩⟩
                  · rw [if_neg c8] at H
                    have c8b0 : (((rd_T37 l0 x4_1).f2) == 0) = false := beq_eq_false_iff_ne.mpr c8
                    have c8b1 : (((rd_T37 l0 x4_1).f2) != 0) = true := bne_iff_ne.mpr c8
                    by_cases c9 : 0 ≤ x6_2
                    · rw [if_pos c9] at H
                      have c9b0 : decide (0 ≤ x6_2) = true := decide_eq_true c9
                      clear c9
                      by_cases c10 : x6_2 < (l0.length : Int)
                      · rw [if_pos c10] at H
                        have c10b0 : decide (x6_2 < (l0.length : Int)) = true := decide_eq_true c10
                        clear c10
                        by_cases c11 : ((rd_T37 l0 x6_2).f1) = ((rd_T37 l0 x4_1).f2)
                        · rw [if_pos c11] at H
                          have c11b0 : (((rd_T37 l0 x6_2).f1) == ((rd_T37 l0 x4_1).f2)) = true := beq_iff_eq.mpr c11
                          have c11b1 : (((rd_T37 l0 x6_2).f1) != ((rd_T37 l0 x4_1).f2)) = false := bne_eq_false_iff_eq.mpr c11
                          clear c11
                          have H' := Aside0.mk H
                          clear H
                          have p113 : 0 ≤ (x4_1 : Int) := of_decide_eq_true (by first | (with_reducible assumption) | assumption)
                          have q113 : x4_1 < (l0.length : Int) := of_decide_eq_true (by first | (with_reducible assumption) | assumption)
                          obtain ⟨ad113, e113, hx113_0, hx113_1, hx113_2, hx113_3, hx113_4, hx113_5, hx113_6, hx113_7⟩ := at_T37 HR0.out x4_1 p113 q113
                          cases e113
                          replace hx113_0 := (HB.out.cell (World.block_lt_of_cell? w _ hx113_0)).trans hx113_0
                          replace hx113_1 := (HB.out.cell (World.block_lt_of_cell? w _ hx113_1)).trans hx113_1
                          replace hx113_2 := (HB.out.cell (World.block_lt_of_cell? w _ hx113_2)).trans hx113_2
                          replace hx113_3 := (HB.out.cell (World.block_lt_of_cell? w _ hx113_3)).trans hx113_3
                          replace hx113_4 := (HB.out.cell (World.block_lt_of_cell? w _ hx113_4)).trans hx113_4
                          replace hx113_5 := (HB.out.cell (World.block_lt_of_cell? w _ hx113_5)).trans hx113_5
                          replace hx113_6 := (HB.out.cell (World.block_lt_of_cell? w _ hx113_6)).trans hx113_6
                          replace hx113_7 := (HB.out.cell (World.block_lt_of_cell? w _ hx113_7)).trans hx113_7
                          replace p113 := eq_true p113
                          replace q113 := eq_true q113
                          have p114 : 0 ≤ (x6_2 : Int) := of_decide_eq_true (by first | (with_reducible assumption) | assumption)
                          have q114 : x6_2 < (l0.length : Int) := of_decide_eq_true (by first | (with_reducible assumption) | assumption)
                          obtain ⟨ad114, e114, hx114_0, hx114_1, hx114_2, hx114_3, hx114_4, hx114_5, hx114_6, hx114_7⟩ := at_T37 HR0.out x6_2 p114 q114
                          obtain rfl : ad113 = ad114 := (by injection e114)
                          replace hx114_0 := (HB.out.cell (World.block_lt_of_cell? w _ hx114_0)).trans hx114_0
                          replace hx114_1 := (HB.out.cell (World.block_lt_of_cell? w _ hx114_1)).trans hx114_1
                          replace hx114_2 := (HB.out.cell (World.block_lt_of_cell? w _ hx114_2)).trans hx114_2
                          replace hx114_3 := (HB.out.cell (World.block_lt_of_cell? w _ hx114_3)).trans hx114_3
                          replace hx114_4 := (HB.out.cell (World.block_lt_of_cell? w _ hx114_4)).trans hx114_4
                          replace hx114_5 := (HB.out.cell (World.block_lt_of_cell? w _ hx114_5)).trans hx114_5
                          replace hx114_6 := (HB.out.cell (World.block_lt_of_cell? w _ hx114_6)).trans hx114_6
                          replace hx114_7 := (HB.out.cell (World.block_lt_of_cell? w _ hx114_7)).trans hx114_7
                          replace p114 := eq_true p114
                          replace q114 := eq_true q114
                          have p115 : 0 ≤ (x4_1 : Int) := of_decide_eq_true (by first | (with_reducible assumption) | assumption)
                          have q115 : x4_1 < (l0.length : Int) := of_decide_eq_true (by first | (with_reducible assumption) | assumption)
                          obtain ⟨ad115, e115, hx115_0, hx115_1, hx115_2, hx115_3, hx115_4, hx115_5, hx115_6, hx115_7⟩ := at_T37 HR0.out x4_1 p115 q115
                          obtain rfl : ad113 = ad115 := (by injection e115)
                          replace hx115_0 := (HB.out.cell (World.block_lt_of_cell? w _ hx115_0)).trans hx115_0
                          replace hx115_1 := (HB.out.cell (World.block_lt_of_cell? w _ hx115_1)).trans hx115_1
                          replace hx115_2 := (HB.out.cell (World.block_lt_of_cell? w _ hx115_2)).trans hx115_2
                          replace hx115_3 := (HB.out.cell (World.block_lt_of_cell? w _ hx115_3)).trans hx115_3
                          replace hx115_4 := (HB.out.cell (World.block_lt_of_cell? w _ hx115_4)).trans hx115_4
                          replace hx115_5 := (HB.out.cell (World.block_lt_of_cell? w _ hx115_5)).trans hx115_5
                          replace hx115_6 := (HB.out.cell (World.block_lt_of_cell? w _ hx115_6)).trans hx115_6
                          replace hx115_7 := (HB.out.cell (World.block_lt_of_cell? w _ hx115_7)).trans hx115_7
                          replace p115 := eq_true p115
                          replace q115 := eq_true q115
                          go_wp2
                          repeat (go_quiet (fail); try go_wp2)
                          go_roundg k2
                          case measure => have := HK1.out; have := HK2.out; omega
                          case rel => exact ⟨(x6_2), (wrap64 (x6_2 - 1)), (by first | rfl | (simp; done) | (simp [*]; done)), (by first | rfl | (simp; done) | (simp [*]; done)), H', ⟨by have := HK1.out; have := HK2.out; omega⟩, ⟨by (with_reducible repeat (first | apply Kd.R_alloc | apply Kd.R_drewN | apply Kd.R_drew)); exact HO_3.out⟩, ⟨by repeat (first | (with_reducible first | exact HB.out | apply below_alloc | apply pw_below_drewN | apply below_drew1) | exact HB.out)⟩⟩
                        · rw [if_neg c11] at H
                          have c11b0 : (((rd_T37 l0 x6_2).f1) == ((rd_T37 l0 x4_1).f2)) = false := beq_eq_false_iff_ne.mpr c11
                          have c11b1 : (((rd_T37 l0 x6_2).f1) != ((rd_T37 l0 x4_1).f2)) = true := bne_iff_ne.mpr c11
                          have H' := Aside0.mk H
                          clear H
                          have p113 : 0 ≤ (x4_1 : Int) := of_decide_eq_true (by first | (with_reducible assumption) | assumption)
                          have q113 : x4_1 < (l0.length : Int) := of_decide_eq_true (by first | (with_reducible assumption) | assumption)
                          obtain ⟨ad113, e113, hx113_0, hx113_1, hx113_2, hx113_3, hx113_4, hx113_5, hx113_6, hx113_7⟩ := at_T37 HR0.out x4_1 p113 q113
                          cases e113
                          replace hx113_0 := (HB.out.cell (World.block_lt_of_cell? w _ hx113_0)).trans hx113_0
                          replace hx113_1 := (HB.out.cell (World.block_lt_of_cell? w _ hx113_1)).trans hx113_1
                          replace hx113_2 := (HB.out.cell (World.block_lt_of_cell? w _ hx113_2)).trans hx113_2
                          replace hx113_3 := (HB.out.cell (World.block_lt_of_cell? w _ hx113_3)).trans hx113_3
                          replace hx113_4 := (HB.out.cell (World.block_lt_of_cell? w _ hx113_4)).trans hx113_4
                          replace hx113_5 := (HB.out.cell (World.block_lt_of_cell? w _ hx113_5)).trans hx113_5
                          replace hx113_6 := (HB.out.cell (World.block_lt_of_cell? w _ hx113_6)).trans hx113_6
                          replace hx113_7 := (HB.out.cell (World.block_lt_of_cell? w _ hx113_7)).trans hx113_7
                          replace p113 := eq_true p113
                          replace q113 := eq_true q113
                          have p114 : 0 ≤ (x6_2 : Int) := of_decide_eq_true (by first | (with_reducible assumption) | assumption)
                          have q114 : x6_2 < (l0.length : Int) := of_decide_eq_true (by first | (with_reducible assumption) | assumption)
                          obtain ⟨ad114, e114, hx114_0, hx114_1, hx114_2, hx114_3, hx114_4, hx114_5, hx114_6, hx114_7⟩ := at_T37 HR0.out x6_2 p114 q114
                          obtain rfl : ad113 = ad114 := (by injection e114)
                          replace hx114_0 := (HB.out.cell (World.block_lt_of_cell? w _ hx114_0)).trans hx114_0
                          replace hx114_1 := (HB.out.cell (World.block_lt_of_cell? w _ hx114_1)).trans hx114_1
                          replace hx114_2 := (HB.out.cell (World.block_lt_of_cell? w _ hx114_2)).trans hx114_2
                          replace hx114_3 := (HB.out.cell (World.block_lt_of_cell? w _ hx114_3)).trans hx114_3
                          replace hx114_4 := (HB.out.cell (World.block_lt_of_cell? w _ hx114_4)).trans hx114_4
                          replace hx114_5 := (HB.out.cell (World.block_lt_of_cell? w _ hx114_5)).trans hx114_5
                          replace hx114_6 := (HB.out.cell (World.block_lt_of_cell? w _ hx114_6)).trans hx114_6
                          replace hx114_7 := (HB.out.cell (World.block_lt_of_cell? w _ hx114_7)).trans hx114_7
                          replace p114 := eq_true p114
                          replace q114 := eq_true q114
                          have p115 : 0 ≤ (x4_1 : Int) := of_decide_eq_true (by first | (with_reducible assumption) | assumption)
                          have q115 : x4_1 < (l0.length : Int) := of_decide_eq_true (by first | (with_reducible assumption) | assumption)
                          obtain ⟨ad115, e115, hx115_0, hx115_1, hx115_2, hx115_3, hx115_4, hx115_5, hx115_6, hx115_7⟩ := at_T37 HR0.out x4_1 p115 q115
                          obtain rfl : ad113 = ad115 := (by injection e115)
                          replace hx115_0 := (HB.out.cell (World.block_lt_of_cell? w _ hx115_0)).trans hx115_0
                          replace hx115_1 := (HB.out.cell (World.block_lt_of_cell? w _ hx115_1)).trans hx115_1
                          replace hx115_2 := (HB.out.cell (World.block_lt_of_cell? w _ hx115_2)).trans hx115_2
                          replace hx115_3 := (HB.out.cell (World.block_lt_of_cell? w _ hx115_3)).trans hx115_3
                          replace hx115_4 := (HB.out.cell (World.block_lt_of_cell? w _ hx115_4)).trans hx115_4
                          replace hx115_5 := (HB.out.cell (World.block_lt_of_cell? w _ hx115_5)).trans hx115_5
                          replace hx115_6 := (HB.out.cell (World.block_lt_of_cell? w _ hx115_6)).trans hx115_6
                          replace hx115_7 := (HB.out.cell (World.block_lt_of_cell? w _ hx115_7)).trans hx115_7
                          replace p115 := eq_true p115
                          replace q115 := eq_true q115
                          go_wp2
                          repeat (go_quiet (fail); try go_wp2)
                          go_roundg k2
                          case measure => have := HK1.out; have := HK2.out; omega
                          case rel => exact ⟨(x5_2), (wrap64 (x6_2 - 1)), (by first | rfl | (simp; done) | (simp [*]; done)), (by first | rfl | (simp; done) | (simp [*]; done)), H', ⟨by have := HK1.out; have := HK2.out; omega⟩, ⟨by (with_reducible repeat (first | apply Kd.R_alloc | apply Kd.R_drewN | apply Kd.R_drew)); exact HO_3.out⟩, ⟨by repeat (first | (with_reducible first | exact HB.out | apply below_alloc | apply pw_below_drewN | apply below_drew1) | exact HB.out)⟩⟩
                      · rw [if_neg c10] at H
                        exact absurd H (by simp)
                    · rw [if_neg c9] at H
                      exact absurd H (by simp)
                · rw [if_neg c7] at H
                  exact absurd H (by simp)
              · rw [if_neg c6] at H
                exact absurd H (by simp)
            · rw [if_neg c5] at H
              have c5b0 : decide (0 ≤ x6_2) = false := decide_eq_false c5
              clear c5
              by_cases c12 : x3_1.length < 17592186044416
              · rw [if_pos c12] at H
                have LMc12 := Aside0.mk c12
                clear c12
                obtain ⟨y110, hy110⟩ : ∃ y_ : List Int, y_ = (x3_1 ++ [x5_2]) := ⟨_, rfl⟩
                replace H : (merkhetref10_Of.l0 k2 l0 y110 (wrap64 (x4_1 + 1))) = some r := by first | (rw [hy110]; with_reducible exact H) | (have H2_ := (Option.bind_some _ _).symm.trans H; rw [hy110]; with_reducible exact H2_) | (have H2_ := (Option.bind_some _ _).symm.trans H; with_reducible exact H2_) | with_reducible exact H | (rw [hy110]; exact H) | exact H
                have Ny110 := Aside0.mk hy110
                clear hy110
                have H' := Aside0.mk H
                clear H
                go_wp2_with (first | ((with_reducible refine gate_builtin (b := .append) (xs := #[.tmp 45, .tmp 47]) rfl ?_); at_builtin; refine Kd.R_append (Kd.int .i64) (w0 := w) w.heap.size rfl (.tmp 45) (.tmp 47) 29 3 (.int .i64 0) 8 rfl Try.underlying29 info3 rfl (by decide) (by omega) u3 x3_1 x5_2 [.int .i64 x5_2] (fun _ => True) (fun _ => False) rfl rfl ?aP (fun _ hk => hk.elim) ?aF ?aO ?aB ?aS ?aL ?_; (case aP => exact rfl); (case aB => exact (by repeat (first | (with_reducible first | exact HB.out | apply below_alloc | apply pw_below_drewN | apply below_drew1) | exact HB.out))); (case aF => exact (fun _ _ => trivial)); (case aO => exact (by (with_reducible repeat (first | apply Kd.R_alloc | apply Kd.R_drewN | apply Kd.R_drew)); exact HO_3.out)); (case aS => exact (below_size (by repeat (first | (with_reducible first | exact HB.out | apply below_alloc | apply pw_below_drewN | apply below_drew1) | exact HB.out)))); (case aL => have := LMc12.out; omega); intro v111 w13 ho hb hg hat; rw [← Ny110.out] at ho; have n0_ := Aside0.mk (hb); have n1_ := Aside0.mk (ho); clear HB; clear HO_3; have HB := n0_; have HO112 := n1_; clear n0_ n1_; clear ho hb hg hat))
                repeat (go_quiet (first | ((with_reducible refine gate_builtin (b := .append) (xs := #[.tmp 45, .tmp 47]) rfl ?_); at_builtin; refine Kd.R_append (Kd.int .i64) (w0 := w) w.heap.size rfl (.tmp 45) (.tmp 47) 29 3 (.int .i64 0) 8 rfl Try.underlying29 info3 rfl (by decide) (by omega) u3 x3_1 x5_2 [.int .i64 x5_2] (fun _ => True) (fun _ => False) rfl rfl ?aP (fun _ hk => hk.elim) ?aF ?aO ?aB ?aS ?aL ?_; (case aP => exact rfl); (case aB => exact (by repeat (first | (with_reducible first | exact HB.out | apply below_alloc | apply pw_below_drewN | apply below_drew1) | exact HB.out))); (case aF => exact (fun _ _ => trivial)); (case aO => exact (by (with_reducible repeat (first | apply Kd.R_alloc | apply Kd.R_drewN | apply Kd.R_drew)); exact HO_3.out)); (case aS => exact (below_size (by repeat (first | (with_reducible first | exact HB.out | apply below_alloc | apply pw_below_drewN | apply below_drew1) | exact HB.out)))); (case aL => have := LMc12.out; omega); intro v111 w13 ho hb hg hat; rw [← Ny110.out] at ho; have n0_ := Aside0.mk (hb); have n1_ := Aside0.mk (ho); clear HB; clear HO_3; have HB := n0_; have HO112 := n1_; clear n0_ n1_; clear ho hb hg hat)); try go_wp2_with (first | ((with_reducible refine gate_builtin (b := .append) (xs := #[.tmp 45, .tmp 47]) rfl ?_); at_builtin; refine Kd.R_append (Kd.int .i64) (w0 := w) w.heap.size rfl (.tmp 45) (.tmp 47) 29 3 (.int .i64 0) 8 rfl Try.underlying29 info3 rfl (by decide) (by omega) u3 x3_1 x5_2 [.int .i64 x5_2] (fun _ => True) (fun _ => False) rfl rfl ?aP (fun _ hk => hk.elim) ?aF ?aO ?aB ?aS ?aL ?_; (case aP => exact rfl); (case aB => exact (by repeat (first | (with_reducible first | exact HB.out | apply below_alloc | apply pw_below_drewN | apply below_drew1) | exact HB.out))); (case aF => exact (fun _ _ => trivial)); (case aO => exact (by (with_reducible repeat (first | apply Kd.R_alloc | apply Kd.R_drewN | apply Kd.R_drew)); exact HO_3.out)); (case aS => exact (below_size (by repeat (first | (with_reducible first | exact HB.out | apply below_alloc | apply pw_below_drewN | apply below_drew1) | exact HB.out)))); (case aL => have := LMc12.out; omega); intro v111 w13 ho hb hg hat; rw [← Ny110.out] at ho; have n0_ := Aside0.mk (hb); have n1_ := Aside0.mk (ho); clear HB; clear HO_3; have HB := n0_; have HO112 := n1_; clear n0_ n1_; clear ho hb hg hat)))
                go_roundg k2
                case measure => have := HK1.out; have := HK2.out; omega
                case rel => exact ⟨(y110), (wrap64 (x4_1 + 1)), (by first | rfl | (simp; done) | (simp [*]; done)), H', ⟨by have := HK1.out; have := HK2.out; omega⟩, ⟨by (with_reducible repeat (first | apply Kd.R_alloc | apply Kd.R_drewN | apply Kd.R_drew)); exact HO112.out⟩, ⟨by repeat (first | (with_reducible first | exact HB.out | apply below_alloc | apply pw_below_drewN | apply below_drew1) | exact HB.out)⟩⟩
              · rw [if_neg c12] at H
                exact absurd H (by simp)
      · rw [if_neg c4] at H
        have c4b0 : decide (x4_1 < (l0.length : Int)) = false := decide_eq_false c4
        clear c4
        obtain ⟨y116, hy116⟩ : ∃ y_ : List Int, y_ = (([] : List Int)) := ⟨_, rfl⟩
        replace H : (merkhetref10_Of.l2 k1 l0 x3_1 y116 0) = some r := by first | (rw [hy116]; with_reducible exact H) | (have H2_ := (Option.bind_some _ _).symm.trans H; rw [hy116]; with_reducible exact H2_) | (have H2_ := (Option.bind_some _ _).symm.trans H; with_reducible exact H2_) | with_reducible exact H | (rw [hy116]; exact H) | exact H
        have Ny116 := Aside0.mk hy116
        clear hy116
        have H' := Aside0.mk H
        clear H
        go_wp2_with (first | ((with_reducible refine gate_dst (N := 49) rfl ?_); refine Kd.R_lit (Kd.int .i64) _ 3 ?hg (N := 49) ?hd (xs := ([] : List Int)) (inner := []) (ok := fun _ => True) (okp := fun _ => True) ?hr ?hp (fun _ hk => hk) trivial (Below.refl _ _) (Nat.le_refl _) (by simp) ?_; (case hd => rfl); (case hg => rfl); (case hr => first | (go_simp; done) | (go_simp; rfl)); (case hp => exact (Reps.none _ _)); intro v117 w14 ho15 hb hg_ hnew_; clear hg_ hnew_; (first | rw [← Ny116.out] at ho15 | (simp only [Int.reduceToNat] at ho15; rw [← Ny116.out] at ho15)); have n0_ := Aside0.mk (Kd.R_elder' (by (with_reducible repeat (first | apply Kd.R_alloc | apply Kd.R_drewN | apply Kd.R_drew)); exact HO_3.out) (Kd.R_base ho15) hb); have n1_ := Aside0.mk (Kd.R_lower (Kd.R_new' ho15 (Kd.R_lt (by (with_reducible repeat (first | apply Kd.R_alloc | apply Kd.R_drewN | apply Kd.R_drew)); exact HO_3.out))) (below_size (by repeat (first | (with_reducible first | exact HB.out | apply below_alloc | apply pw_below_drewN | apply below_drew1) | exact HB.out)))); have n2_ := Aside0.mk (below_step (by repeat (first | (with_reducible first | exact HB.out | apply below_alloc | apply pw_below_drewN | apply below_drew1) | exact HB.out)) hb); clear HO_3; clear HB; have HO_3 := n0_; have HO118 := n1_; have HB := n2_; clear n0_ n1_ n2_; clear hb ho15))
        repeat (go_quiet (first | ((with_reducible refine gate_dst (N := 49) rfl ?_); refine Kd.R_lit (Kd.int .i64) _ 3 ?hg (N := 49) ?hd (xs := ([] : List Int)) (inner := []) (ok := fun _ => True) (okp := fun _ => True) ?hr ?hp (fun _ hk => hk) trivial (Below.refl _ _) (Nat.le_refl _) (by simp) ?_; (case hd => rfl); (case hg => rfl); (case hr => first | (go_simp; done) | (go_simp; rfl)); (case hp => exact (Reps.none _ _)); intro v117 w14 ho15 hb hg_ hnew_; clear hg_ hnew_; (first | rw [← Ny116.out] at ho15 | (simp only [Int.reduceToNat] at ho15; rw [← Ny116.out] at ho15)); have n0_ := Aside0.mk (Kd.R_elder' (by (with_reducible repeat (first | apply Kd.R_alloc | apply Kd.R_drewN | apply Kd.R_drew)); exact HO_3.out) (Kd.R_base ho15) hb); have n1_ := Aside0.mk (Kd.R_lower (Kd.R_new' ho15 (Kd.R_lt (by (with_reducible repeat (first | apply Kd.R_alloc | apply Kd.R_drewN | apply Kd.R_drew)); exact HO_3.out))) (below_size (by repeat (first | (with_reducible first | exact HB.out | apply below_alloc | apply pw_below_drewN | apply below_drew1) | exact HB.out)))); have n2_ := Aside0.mk (below_step (by repeat (first | (with_reducible first | exact HB.out | apply below_alloc | apply pw_below_drewN | apply below_drew1) | exact HB.out)) hb); clear HO_3; clear HB; have HO_3 := n0_; have HO118 := n1_; have HB := n2_; clear n0_ n1_ n2_; clear hb ho15)); try go_wp2_with (first | ((with_reducible refine gate_dst (N := 49) rfl ?_); refine Kd.R_lit (Kd.int .i64) _ 3 ?hg (N := 49) ?hd (xs := ([] : List Int)) (inner := []) (ok := fun _ => True) (okp := fun _ => True) ?hr ?hp (fun _ hk => hk) trivial (Below.refl _ _) (Nat.le_refl _) (by simp) ?_; (case hd => rfl); (case hg => rfl); (case hr => first | (go_simp; done) | (go_simp; rfl)); (case hp => exact (Reps.none _ _)); intro v117 w14 ho15 hb hg_ hnew_; clear hg_ hnew_; (first | rw [← Ny116.out] at ho15 | (simp only [Int.reduceToNat] at ho15; rw [← Ny116.out] at ho15)); have n0_ := Aside0.mk (Kd.R_elder' (by (with_reducible repeat (first | apply Kd.R_alloc | apply Kd.R_drewN | apply Kd.R_drew)); exact HO_3.out) (Kd.R_base ho15) hb); have n1_ := Aside0.mk (Kd.R_lower (Kd.R_new' ho15 (Kd.R_lt (by (with_reducible repeat (first | apply Kd.R_alloc | apply Kd.R_drewN | apply Kd.R_drew)); exact HO_3.out))) (below_size (by repeat (first | (with_reducible first | exact HB.out | apply below_alloc | apply pw_below_drewN | apply below_drew1) | exact HB.out)))); have n2_ := Aside0.mk (below_step (by repeat (first | (with_reducible first | exact HB.out | apply below_alloc | apply pw_below_drewN | apply below_drew1) | exact HB.out)) hb); clear HO_3; clear HB; have HO_3 := n0_; have HO118 := n1_; have HB := n2_; clear n0_ n1_ n2_; clear hb ho15)))
        go_loopg [7, 8] k1 (fun kq v7 v8 w' => ∃ (x7_2 : List Int) (x8_2 : Int), v8 = .int .i64 x8_2 ∧ Aside0 (merkhetref10_Of.l2 kq l0 x3_1 x7_2 x8_2 = some r) ∧ Aside0 (kq ≤ k1) ∧ Aside0 (Kd.R (Kd.int .i64) 3 w' w.heap.size (fun k_ => some k_ ≠ (v7 : Value).ownBlock) u3 x3_1) ∧ Aside0 (Kd.R (Kd.int .i64) 3 w' w.heap.size (fun k_ => some k_ ≠ (u3 : Value).ownBlock) v7 x7_2) ∧ Aside0 (Below w.heap.size w w'))
        case atStart => exact ⟨(y116), (0), (by first | rfl | (simp; done) | (simp [*]; done)), H', ⟨Nat.le_refl _⟩, ⟨by (with_reducible repeat (first | apply Kd.R_alloc | apply Kd.R_drewN | apply Kd.R_drew)); exact Kd.R_mono HO_3.out (fun _ hk => hk.2)⟩, ⟨by (with_reducible repeat (first | apply Kd.R_alloc | apply Kd.R_drewN | apply Kd.R_drew)); exact Kd.R_mono HO118.out (fun _ hk => hk.2)⟩, ⟨by repeat (first | (with_reducible first | exact HB.out | apply below_alloc | apply pw_below_drewN | apply below_drew1) | exact HB.out)⟩⟩
        case round =>
          clear H'
          (try clear c1); (try clear p1); (try clear q1); (try clear hx1); (try clear p2); (try clear c4); (try clear c4b0); (try clear c5); (try clear c5b0); (try clear c6); (try clear c6b0); (try clear p6); (try clear c7); (try clear c7b0); (try clear c8); (try clear c8b0); (try clear c8b1); (try clear c9); (try clear c9b0); (try clear c10); (try clear c10b0); (try clear c11); (try clear c11b0); (try clear c11b1); (try clear p11); (try clear q11); (try clear hx11); (try clear c12); (try clear hx113_0); (try clear hx113_1); (try clear hx113_2); (try clear hx113_3); (try clear hx113_4); (try clear hx113_5); (try clear hx113_6); (try clear hx113_7); (try clear hx114_0); (try clear hx114_1); (try clear hx114_2); (try clear hx114_3); (try clear hx114_4); (try clear hx114_5); (try clear hx114_6); (try clear hx114_7); (try clear hx115_0); (try clear hx115_1); (try clear hx115_2); (try clear hx115_3); (try clear hx115_4); (try clear hx115_5); (try clear hx115_6); (try clear hx115_7); (try clear p113); (try clear p114); (try clear p115); (try clear p2); (try clear q113); (try clear q114); (try clear q115)
          obtain ⟨x7_2, x8_2, rfl, HA, HK2, HO_3, HO_7, HB⟩ := hrel
          cases gk with
          | zero => exact absurd HA.out (by simp [merkhetref10_Of.l2])
          | succ k2 =>
            have H := HA.out
            clear HA
            simp only [merkhetref10_Of.l2] at H
            by_cases c16 : x8_2 < (l0.length : Int)
            · rw [if_pos c16] at H
              have c16b0 : decide (x8_2 < (l0.length : Int)) = true := decide_eq_true c16
              clear c16
              replace H := Option.bind_eq_some_iff.mp H
              obtain ⟨t119, A170, H⟩ := H
              replace H : (merkhetref10_Of.l3 k2 l0 x3_1 x7_2 x8_2 t119 x8_2) = some r := H
              have A17 := Aside0.mk A170
              clear A170
              have H' := Aside0.mk H
              clear H
              obtain ⟨Ao18, co18, eo18⟩ := Kd.R_slice HO_3.out
              subst eo18
              go_wp2_with (first | (go_at_call 46; (with_reducible refine (merkhetref10_on.calls k2 _ _ x3_1 x8_2 t119 _ ?side1 ?side2 A17.out).mono ?_); (case side1 => repeat (first | exact (Kd.R_reads' HO_3.out).2.2 | (with_reducible refine Kd.C_alloc ?_ _) | (with_reducible refine Kd.C_drewN ?_ _) | (with_reducible refine Kd.C_drew ?_))); (case side2 => exact (Kd.R_reads' HO_3.out).2.1); rintro e w' ⟨rfl, ⟨nd, rfl⟩⟩; (try first | exact ⟨rfl, _, World.drewN_drewN _ _ _⟩ | exact ⟨rfl, _, Eq.trans (World.drewN_drewN _ _ _) (congrArg (World.drewN _) (Nat.add_assoc _ _ _))⟩)))
              repeat (go_quiet (first | (go_at_call 46; (with_reducible refine (merkhetref10_on.calls k2 _ _ x3_1 x8_2 t119 _ ?side1 ?side2 A17.out).mono ?_); (case side1 => repeat (first | exact (Kd.R_reads' HO_3.out).2.2 | (with_reducible refine Kd.C_alloc ?_ _) | (with_reducible refine Kd.C_drewN ?_ _) | (with_reducible refine Kd.C_drew ?_))); (case side2 => exact (Kd.R_reads' HO_3.out).2.1); rintro e w' ⟨rfl, ⟨nd, rfl⟩⟩; (try first | exact ⟨rfl, _, World.drewN_drewN _ _ _⟩ | exact ⟨rfl, _, Eq.trans (World.drewN_drewN _ _ _) (congrArg (World.drewN _) (Nat.add_assoc _ _ _))⟩))); try go_wp2_with (first | (go_at_call 46; (with_reducible refine (merkhetref10_on.calls k2 _ _ x3_1 x8_2 t119 _ ?side1 ?side2 A17.out).mono ?_); (case side1 => repeat (first | exact (Kd.R_reads' HO_3.out).2.2 | (with_reducible refine Kd.C_alloc ?_ _) | (with_reducible refine Kd.C_drewN ?_ _) | (with_reducible refine Kd.C_drew ?_))); (case side2 => exact (Kd.R_reads' HO_3.out).2.1); rintro e w' ⟨rfl, ⟨nd, rfl⟩⟩; (try first | exact ⟨rfl, _, World.drewN_drewN _ _ _⟩ | exact ⟨rfl, _, Eq.trans (World.drewN_drewN _ _ _) (congrArg (World.drewN _) (Nat.add_assoc _ _ _))⟩))))
              go_loopg [9, 10] k2 (fun kq v9 v10 w' => ∃ (x9_3 : Bool) (x10_3 : Int), v9 = .bool x9_3 ∧ v10 = .int .i64 x10_3 ∧ Aside0 (merkhetref10_Of.l3 kq l0 x3_1 x7_2 x8_2 x9_3 x10_3 = some r) ∧ Aside0 (kq ≤ k2) ∧ Aside0 (Kd.R (Kd.int .i64) 3 w' w.heap.size (fun k_ => some k_ ≠ (u7 : Value).ownBlock) (.slice Ao18 x3_1.length co18) x3_1) ∧ Aside0 (Kd.R (Kd.int .i64) 3 w' w.heap.size (fun k_ => some k_ ≠ ((.slice Ao18 x3_1.length co18) : Value).ownBlock) u7 x7_2) ∧ Aside0 (Below w.heap.size w w'))
              case atStart => exact ⟨(t119), (x8_2), (by first | rfl | (simp; done) | (simp [*]; done)), (by first | rfl | (simp; done) | (simp [*]; done)), H', ⟨Nat.le_refl _⟩, ⟨by (with_reducible repeat (first | apply Kd.R_alloc | apply Kd.R_drewN | apply Kd.R_drew)); exact HO_3.out⟩, ⟨by (with_reducible repeat (first | apply Kd.R_alloc | apply Kd.R_drewN | apply Kd.R_drew)); exact HO_7.out⟩, ⟨by repeat (first | (with_reducible first | exact HB.out | apply below_alloc | apply pw_below_drewN | apply below_drew1) | exact HB.out)⟩⟩
              case round =>
                clear H'
                (try clear c1); (try clear p1); (try clear q1); (try clear hx1); (try clear p2); (try clear c4); (try clear c4b0); (try clear c5); (try clear c5b0); (try clear c6); (try clear c6b0); (try clear p6); (try clear c7); (try clear c7b0); (try clear c8); (try clear c8b0); (try clear c8b1); (try clear c9); (try clear c9b0); (try clear c10); (try clear c10b0); (try clear c11); (try clear c11b0); (try clear c11b1); (try clear p11); (try clear q11); (try clear hx11); (try clear c12); (try clear c16); (try clear c16b0); (try clear c18); (try clear hx113_0); (try clear hx113_1); (try clear hx113_2); (try clear hx113_3); (try clear hx113_4); (try clear hx113_5); (try clear hx113_6); (try clear hx113_7); (try clear hx114_0); (try clear hx114_1); (try clear hx114_2); (try clear hx114_3); (try clear hx114_4); (try clear hx114_5); (try clear hx114_6); (try clear hx114_7); (try clear hx115_0); (try clear hx115_1); (try clear hx115_2); (try clear hx115_3); (try clear hx115_4); (try clear hx115_5); (try clear hx115_6); (try clear hx115_7); (try clear p1); (try clear p11); (try clear p113); (try clear p114); (try clear p115); (try clear p2); (try clear p6); (try clear q1); (try clear q11); (try clear q113); (try clear q114); (try clear q115)
                obtain ⟨x9_3, x10_3, rfl, rfl, HA, HK3, HO_3, HO_7, HB⟩ := hrel
                cases gk with
                | zero => exact absurd HA.out (by simp [merkhetref10_Of.l3])
                | succ k3 =>
                  have H := HA.out
                  clear HA
                  simp only [merkhetref10_Of.l3] at H
                  have HC19 := Aside0.mk H
                  clear H
                  go_upto_region 18 with (fail)
                  repeat (go_quiet (fail); go_upto_region 18 with (fail))
                  go_cut [68] (fun v68 wc => ∃ (kq : Nat) (x68_18 : Bool), v68 = .bool x68_18 ∧ Aside0 (merkhetref10_Of.j4 kq l0 x3_1 x7_2 x8_2 x9_3 x10_3 x68_18 = some r) ∧ Aside0 (kq ≤ k3) ∧ Aside0 (Kd.R (Kd.int .i64) 3 wc w.heap.size (fun k_ => some k_ ≠ (u7 : Value).ownBlock) (.slice Ao18 x3_1.length co18) x3_1) ∧ Aside0 (Kd.R (Kd.int .i64) 3 wc w.heap.size (fun k_ => some k_ ≠ ((.slice Ao18 x3_1.length co18) : Value).ownBlock) u7 x7_2) ∧ Aside0 (Below w.heap.size w wc))
                  case first =>
                    have H := HC19.out
                    clear HC19
                    by_cases c20 : x9_3 = true
                    · subst c20
                      have H1 : (if 0 ≤ x10_3 then (if x10_3 < (x3_1.length : Int) then (merkhetref10_Of.j4 k3 l0 x3_1 x7_2 x8_2 true x10_3 ((rd x3_1 x10_3) != x8_2)) else (none)) else (none)) = some r := by rw [if_pos rfl] at H; exact H
                      clear H
                      have H := H1
                      clear H1
                      by_cases c21 : 0 ≤ x10_3
                      · rw [if_pos c21] at H
                        have c21b0 : decide (0 ≤ x10_3) = true := decide_eq_true c21
                        clear c21
                        (first | rw [c21b0] | (simp only [i64_w, i32_w]; rw [c21b0]) | skip)
                        by_cases c22 : x10_3 < (x3_1.length : Int)
                        · rw [if_pos c22] at H
                          have c22b0 : decide (x10_3 < (x3_1.length : Int)) = true := decide_eq_true c22
                          clear c22
                          have H' := Aside0.mk H
                          clear H
                          have p120 : 0 ≤ (x10_3 : Int) := of_decide_eq_true (by first | (with_reducible assumption) | assumption)
                          have q120 : x10_3 < (x3_1.length : Int) := of_decide_eq_true (by first | (with_reducible assumption) | assumption)
                          obtain ⟨ad120, e120, hx120_0⟩ := Kd.at_int (Kd.R_reads' HO_3.out).2.2 x10_3 p120 q120
                          cases e120
                          replace p120 := eq_true p120
                          replace q120 := eq_true q120
                          go_wp2
                          repeat (go_quiet (fail); try go_wp2)
                          go_meet
                          case rel => exact ⟨_, (((rd x3_1 x10_3) != x8_2)), (by first | rfl | (simp; done) | (simp [*]; done)), H', ⟨by have := HK1.out; have := HK2.out; have := HK3.out; first | omega | exact Nat.le_refl _⟩, ⟨by (with_reducible repeat (first | apply Kd.R_alloc | apply Kd.R_drewN | apply Kd.R_drew)); exact HO_3.out⟩, ⟨by (with_reducible repeat (first | apply Kd.R_alloc | apply Kd.R_drewN | apply Kd.R_drew)); exact HO_7.out⟩, ⟨by repeat (first | (with_reducible first | exact HB.out | apply below_alloc | apply pw_below_drewN | apply below_drew1) | exact HB.out)⟩⟩
                        · rw [if_neg c22] at H
                          exact absurd H (by simp)
                      · rw [if_neg c21] at H
                        exact absurd H (by simp)
                    · replace c20 := Bool.eq_false_iff.mpr c20
                      subst c20
                      have H1 : (merkhetref10_Of.j4 k3 l0 x3_1 x7_2 x8_2 false x10_3 false) = some r := by rw [if_neg (show ¬ (false = true) by decide)] at H; exact H
                      clear H
                      have H := H1
                      clear H1
                      have H' := Aside0.mk H
                      clear H
                      go_wp2
                      repeat (go_quiet (fail); try go_wp2)
                      go_meet
                      case rel => exact ⟨_, (false), (by first | rfl | (simp; done) | (simp [*]; done)), H', ⟨by have := HK1.out; have := HK2.out; have := HK3.out; first | omega | exact Nat.le_refl _⟩, ⟨by (with_reducible repeat (first | apply Kd.R_alloc | apply Kd.R_drewN | apply Kd.R_drew)); exact HO_3.out⟩, ⟨by (with_reducible repeat (first | apply Kd.R_alloc | apply Kd.R_drewN | apply Kd.R_drew)); exact HO_7.out⟩, ⟨by repeat (first | (with_reducible first | exact HB.out | apply below_alloc | apply pw_below_drewN | apply below_drew1) | exact HB.out)⟩⟩
                  case rest =>
                    clear HC19
                    (try clear c1); (try clear p1); (try clear q1); (try clear hx1); (try clear c2); (try clear p2); (try clear c4); (try clear c4b0); (try clear c5); (try clear c5b0); (try clear c6); (try clear c6b0); (try clear p6); (try clear c7); (try clear c7b0); (try clear c8); (try clear c8b0); (try clear c8b1); (try clear c9); (try clear c9b0); (try clear c10); (try clear c10b0); (try clear c11); (try clear c11b0); (try clear c11b1); (try clear p11); (try clear q11); (try clear hx11); (try clear c12); (try clear p12); (try clear q12); (try clear hx12); (try clear c16); (try clear c16b0); (try clear c18); (try clear c20); (try clear c21); (try clear c21b0); (try clear c22); (try clear c22b0); (try clear hx113_0); (try clear hx113_1); (try clear hx113_2); (try clear hx113_3); (try clear hx113_4); (try clear hx113_5); (try clear hx113_6); (try clear hx113_7); (try clear hx114_0); (try clear hx114_1); (try clear hx114_2); (try clear hx114_3); (try clear hx114_4); (try clear hx114_5); (try clear hx114_6); (try clear hx114_7); (try clear hx115_0); (try clear hx115_1); (try clear hx115_2); (try clear hx115_3); (try clear hx115_4); (try clear hx115_5); (try clear hx115_6); (try clear hx115_7); (try clear hx120_0); (try clear p1); (try clear p11); (try clear p113); (try clear p114); (try clear p115); (try clear p120); (try clear p2); (try clear p6); (try clear q1); (try clear q11); (try clear q113); (try clear q114); (try clear q115); (try clear q120)
                    obtain ⟨kq, x68_18, rfl, HA, HJ18, HO_3, HO_7, HB⟩ := hcut
                    cases kq with
                    | zero => exact absurd HA.out (by simp [merkhetref10_Of.j4])
                    | succ kj18 =>
                      have H := HA.out
                      clear HA
                      simp only [merkhetref10_Of.j4] at H
                      by_cases c23 : x68_18 = true
                      · subst c23
                        have H1 : (if 0 ≤ x10_3 then (if x10_3 < (x3_1.length : Int) then (if (rd x3_1 x10_3) < x8_2 then (merkhetref10_Of.l3 kj18 l0 x3_1 x7_2 x8_2 false (rd x3_1 x10_3)) else (merkhetref10_Of.l3 kj18 l0 x3_1 x7_2 x8_2 x9_3 (rd x3_1 x10_3))) else (none)) else (none)) = some r := by rw [if_pos rfl] at H; exact H
                        clear H
                        have H := H1
                        clear H1
                        by_cases c24 : 0 ≤ x10_3
                        · rw [if_pos c24] at H
                          have c24b0 : decide (0 ≤ x10_3) = true := decide_eq_true c24
                          clear c24
                          by_cases c25 : x10_3 < (x3_1.length : Int)
                          · rw [if_pos c25] at H
                            have c25b0 : decide (x10_3 < (x3_1.length : Int)) = true := decide_eq_true c25
                            clear c25
                            by_cases c26 : (rd x3_1 x10_3) < x8_2
                            · rw [if_pos c26] at H
                              have c26b0 : decide ((rd x3_1 x10_3) < x8_2) = true := decide_eq_true c26
                              clear c26
                              have H' := Aside0.mk H
                              clear H
                              have p121 : 0 ≤ (x10_3 : Int) := of_decide_eq_true (by first | (with_reducible assumption) | assumption)
                              have q121 : x10_3 < (x3_1.length : Int) := of_decide_eq_true (by first | (with_reducible assumption) | assumption)
                              obtain ⟨ad121, e121, hx121_0⟩ := Kd.at_int (Kd.R_reads' HO_3.out).2.2 x10_3 p121 q121
                              cases e121
                              replace p121 := eq_true p121
                              replace q121 := eq_true q121
                              go_wp2
                              repeat (go_quiet (fail); try go_wp2)
                              go_roundg kj18
                              case measure => have := HK1.out; have := HK2.out; have := HK3.out; have := HJ18.out; omega
                              case rel => exact ⟨(false), (rd x3_1 x10_3), (by first | rfl | (simp; done) | (simp [*]; done)), (by first | rfl | (simp; done) | (simp [*]; done)), H', ⟨by have := HK1.out; have := HK2.out; have := HK3.out; have := HJ18.out; omega⟩, ⟨by (with_reducible repeat (first | apply Kd.R_alloc | apply Kd.R_drewN | apply Kd.R_drew)); exact HO_3.out⟩, ⟨by (with_reducible repeat (first | apply Kd.R_alloc | apply Kd.R_drewN | apply Kd.R_drew)); exact HO_7.out⟩, ⟨by repeat (first | (with_reducible first | exact HB.out | apply below_alloc | apply pw_below_drewN | apply below_drew1) | exact HB.out)⟩⟩
                            · rw [if_neg c26] at H
                              have c26b0 : decide ((rd x3_1 x10_3) < x8_2) = false := decide_eq_false c26
                              clear c26
                              have H' := Aside0.mk H
                              clear H
                              have p121 : 0 ≤ (x10_3 : Int) := of_decide_eq_true (by first | (with_reducible assumption) | assumption)
                              have q121 : x10_3 < (x3_1.length : Int) := of_decide_eq_true (by first | (with_reducible assumption) | assumption)
                              obtain ⟨ad121, e121, hx121_0⟩ := Kd.at_int (Kd.R_reads' HO_3.out).2.2 x10_3 p121 q121
                              cases e121
                              replace p121 := eq_true p121
                              replace q121 := eq_true q121
                              go_wp2
                              repeat (go_quiet (fail); try go_wp2)
                              go_roundg kj18
                              case measure => have := HK1.out; have := HK2.out; have := HK3.out; have := HJ18.out; omega
                              case rel => exact ⟨(x9_3), (rd x3_1 x10_3), (by first | rfl | (simp; done) | (simp [*]; done)), (by first | rfl | (simp; done) | (simp [*]; done)), H', ⟨by have := HK1.out; have := HK2.out; have := HK3.out; have := HJ18.out; omega⟩, ⟨by (with_reducible repeat (first | apply Kd.R_alloc | apply Kd.R_drewN | apply Kd.R_drew)); exact HO_3.out⟩, ⟨by (with_reducible repeat (first | apply Kd.R_alloc | apply Kd.R_drewN | apply Kd.R_drew)); exact HO_7.out⟩, ⟨by repeat (first | (with_reducible first | exact HB.out | apply below_alloc | apply pw_below_drewN | apply below_drew1) | exact HB.out)⟩⟩
                          · rw [if_neg c25] at H
                            exact absurd H (by simp)
                        · rw [if_neg c24] at H
                          exact absurd H (by simp)
                      · replace c23 := Bool.eq_false_iff.mpr c23
                        subst c23
                        have H1 : (if x9_3 = true then (if x7_2.length < 17592186044416 then (merkhetref10_Of.l2 kj18 l0 x3_1 (x7_2 ++ [(-1)]) (wrap64 (x8_2 + 1))) else (none)) else (if 0 ≤ x8_2 then (if x8_2 < (x3_1.length : Int) then (if x7_2.length < 17592186044416 then (merkhetref10_Of.l2 kj18 l0 x3_1 (x7_2 ++ [rd x3_1 x8_2]) (wrap64 (x8_2 + 1))) else (none)) else (none)) else (none))) = some r := by rw [if_neg (show ¬ (false = true) by decide)] at H; exact H
                        clear H
                        have H := H1
                        clear H1
                        by_cases c27 : x9_3 = true
                        · subst c27
                          have H1 : (if x7_2.length < 17592186044416 then (merkhetref10_Of.l2 kj18 l0 x3_1 (x7_2 ++ [(-1)]) (wrap64 (x8_2 + 1))) else (none)) = some r := by rw [if_pos rfl] at H; exact H
                          clear H
                          have H := H1
                          clear H1
                          by_cases c28 : x7_2.length < 17592186044416
                          · rw [if_pos c28] at H
                            have LMc28 := Aside0.mk c28
                            clear c28
                            obtain ⟨y122, hy122⟩ : ∃ y_ : List Int, y_ = (x7_2 ++ [(-1)]) := ⟨_, rfl⟩
                            replace H : (merkhetref10_Of.l2 kj18 l0 x3_1 y122 (wrap64 (x8_2 + 1))) = some r := by first | (rw [hy122]; with_reducible exact H) | (have H2_ := (Option.bind_some _ _).symm.trans H; rw [hy122]; with_reducible exact H2_) | (have H2_ := (Option.bind_some _ _).symm.trans H; with_reducible exact H2_) | with_reducible exact H | (rw [hy122]; exact H) | exact H
                            have Ny122 := Aside0.mk hy122
                            clear hy122
                            have H' := Aside0.mk H
                            clear H
                            go_wp2_with (first | ((with_reducible refine gate_builtin (b := .append) (xs := #[.tmp 77, .tmp 78]) rfl ?_); at_builtin; refine Kd.R_append (Kd.int .i64) (w0 := w) w.heap.size rfl (.tmp 77) (.tmp 78) 29 3 (.int .i64 0) 8 rfl Try.underlying29 info3 rfl (by decide) (by omega) u7 x7_2 (-1) [.int .i64 (-1)] (fun k_ => some k_ ≠ (.slice Ao18 x3_1.length co18 : Value).ownBlock) (fun _ => False) rfl rfl ?aP (fun _ hk => hk.elim) ?aF ?aO ?aB ?aS ?aL ?_; (case aP => exact rfl); (case aB => exact (by repeat (first | (with_reducible first | exact HB.out | apply below_alloc | apply pw_below_drewN | apply below_drew1) | exact HB.out))); (case aF => exact (fun k_ hk => Kd.fresh' (Kd.R_lt (by (with_reducible repeat (first | apply Kd.R_alloc | apply Kd.R_drewN | apply Kd.R_drew)); exact HO_3.out)) k_ hk)); (case aO => exact (by (with_reducible repeat (first | apply Kd.R_alloc | apply Kd.R_drewN | apply Kd.R_drew)); exact HO_7.out)); (case aS => exact (below_size (by repeat (first | (with_reducible first | exact HB.out | apply below_alloc | apply pw_below_drewN | apply below_drew1) | exact HB.out)))); (case aL => have := LMc28.out; omega); intro v123 w29 ho hb hg hat; rw [← Ny122.out] at ho; have n0_ := Aside0.mk (Kd.R_after (ok := (fun _ => True)) (by (with_reducible repeat (first | apply Kd.R_alloc | apply Kd.R_drewN | apply Kd.R_drew)); exact Kd.R_mono HO_3.out (fun _ hk => ⟨trivial, by first | exact hk | exact fun h_ => hk (h_.trans (own_len _ _ _ _ _))⟩)) hg hat); have n1_ := Aside0.mk (hb); have n2_ := Aside0.mk (ho); clear HO_3; clear HB; clear HO_7; have HO_3 := n0_; have HB := n1_; have HO124 := n2_; clear n0_ n1_ n2_; clear ho hb hg hat))
                            repeat (go_quiet (first | ((with_reducible refine gate_builtin (b := .append) (xs := #[.tmp 77, .tmp 78]) rfl ?_); at_builtin; refine Kd.R_append (Kd.int .i64) (w0 := w) w.heap.size rfl (.tmp 77) (.tmp 78) 29 3 (.int .i64 0) 8 rfl Try.underlying29 info3 rfl (by decide) (by omega) u7 x7_2 (-1) [.int .i64 (-1)] (fun k_ => some k_ ≠ (.slice Ao18 x3_1.length co18 : Value).ownBlock) (fun _ => False) rfl rfl ?aP (fun _ hk => hk.elim) ?aF ?aO ?aB ?aS ?aL ?_; (case aP => exact rfl); (case aB => exact (by repeat (first | (with_reducible first | exact HB.out | apply below_alloc | apply pw_below_drewN | apply below_drew1) | exact HB.out))); (case aF => exact (fun k_ hk => Kd.fresh' (Kd.R_lt (by (with_reducible repeat (first | apply Kd.R_alloc | apply Kd.R_drewN | apply Kd.R_drew)); exact HO_3.out)) k_ hk)); (case aO => exact (by (with_reducible repeat (first | apply Kd.R_alloc | apply Kd.R_drewN | apply Kd.R_drew)); exact HO_7.out)); (case aS => exact (below_size (by repeat (first | (with_reducible first | exact HB.out | apply below_alloc | apply pw_below_drewN | apply below_drew1) | exact HB.out)))); (case aL => have := LMc28.out; omega); intro v123 w29 ho hb hg hat; rw [← Ny122.out] at ho; have n0_ := Aside0.mk (Kd.R_after (ok := (fun _ => True)) (by (with_reducible repeat (first | apply Kd.R_alloc | apply Kd.R_drewN | apply Kd.R_drew)); exact Kd.R_mono HO_3.out (fun _ hk => ⟨trivial, by first | exact hk | exact fun h_ => hk (h_.trans (own_len _ _ _ _ _))⟩)) hg hat); have n1_ := Aside0.mk (hb); have n2_ := Aside0.mk (ho); clear HO_3; clear HB; clear HO_7; have HO_3 := n0_; have HB := n1_; have HO124 := n2_; clear n0_ n1_ n2_; clear ho hb hg hat)); try go_wp2_with (first | ((with_reducible refine gate_builtin (b := .append) (xs := #[.tmp 77, .tmp 78]) rfl ?_); at_builtin; refine Kd.R_append (Kd.int .i64) (w0 := w) w.heap.size rfl (.tmp 77) (.tmp 78) 29 3 (.int .i64 0) 8 rfl Try.underlying29 info3 rfl (by decide) (by omega) u7 x7_2 (-1) [.int .i64 (-1)] (fun k_ => some k_ ≠ (.slice Ao18 x3_1.length co18 : Value).ownBlock) (fun _ => False) rfl rfl ?aP (fun _ hk => hk.elim) ?aF ?aO ?aB ?aS ?aL ?_; (case aP => exact rfl); (case aB => exact (by repeat (first | (with_reducible first | exact HB.out | apply below_alloc | apply pw_below_drewN | apply below_drew1) | exact HB.out))); (case aF => exact (fun k_ hk => Kd.fresh' (Kd.R_lt (by (with_reducible repeat (first | apply Kd.R_alloc | apply Kd.R_drewN | apply Kd.R_drew)); exact HO_3.out)) k_ hk)); (case aO => exact (by (with_reducible repeat (first | apply Kd.R_alloc | apply Kd.R_drewN | apply Kd.R_drew)); exact HO_7.out)); (case aS => exact (below_size (by repeat (first | (with_reducible first | exact HB.out | apply below_alloc | apply pw_below_drewN | apply below_drew1) | exact HB.out)))); (case aL => have := LMc28.out; omega); intro v123 w29 ho hb hg hat; rw [← Ny122.out] at ho; have n0_ := Aside0.mk (Kd.R_after (ok := (fun _ => True)) (by (with_reducible repeat (first | apply Kd.R_alloc | apply Kd.R_drewN | apply Kd.R_drew)); exact Kd.R_mono HO_3.out (fun _ hk => ⟨trivial, by first | exact hk | exact fun h_ => hk (h_.trans (own_len _ _ _ _ _))⟩)) hg hat); have n1_ := Aside0.mk (hb); have n2_ := Aside0.mk (ho); clear HO_3; clear HB; clear HO_7; have HO_3 := n0_; have HB := n1_; have HO124 := n2_; clear n0_ n1_ n2_; clear ho hb hg hat)))
                            go_roundg kj18
                            case measure => have := HK1.out; have := HK2.out; have := HK3.out; have := HJ18.out; omega
                            case rel => exact ⟨(y122), (wrap64 (x8_2 + 1)), (by first | rfl | (simp; done) | (simp [*]; done)), H', ⟨by have := HK1.out; have := HK2.out; have := HK3.out; have := HJ18.out; omega⟩, ⟨by (with_reducible repeat (first | apply Kd.R_alloc | apply Kd.R_drewN | apply Kd.R_drew)); exact Kd.R_mono HO_3.out (fun _ hk => hk.2)⟩, ⟨by (with_reducible repeat (first | apply Kd.R_alloc | apply Kd.R_drewN | apply Kd.R_drew)); exact HO124.out⟩, ⟨by repeat (first | (with_reducible first | exact HB.out | apply below_alloc | apply pw_below_drewN | apply below_drew1) | exact HB.out)⟩⟩
                          · rw [if_neg c28] at H
                            exact absurd H (by simp)
                        · replace c27 := Bool.eq_false_iff.mpr c27
                          subst c27
                          have H1 : (if 0 ≤ x8_2 then (if x8_2 < (x3_1.length : Int) then (if x7_2.length < 17592186044416 then (merkhetref10_Of.l2 kj18 l0 x3_1 (x7_2 ++ [rd x3_1 x8_2]) (wrap64 (x8_2 + 1))) else (none)) else (none)) else (none)) = some r := by rw [if_neg (show ¬ (false = true) by decide)] at H; exact H
                          clear H
                          have H := H1
                          clear H1
                          by_cases c30 : 0 ≤ x8_2
                          · rw [if_pos c30] at H
                            have c30b0 : decide (0 ≤ x8_2) = true := decide_eq_true c30
                            clear c30
                            by_cases c31 : x8_2 < (x3_1.length : Int)
                            · rw [if_pos c31] at H
                              have c31b0 : decide (x8_2 < (x3_1.length : Int)) = true := decide_eq_true c31
                              clear c31
                              by_cases c32 : x7_2.length < 17592186044416
                              · rw [if_pos c32] at H
                                have LMc32 := Aside0.mk c32
                                clear c32
                                obtain ⟨y126, hy126⟩ : ∃ y_ : List Int, y_ = (x7_2 ++ [rd x3_1 x8_2]) := ⟨_, rfl⟩
                                replace H : (merkhetref10_Of.l2 kj18 l0 x3_1 y126 (wrap64 (x8_2 + 1))) = some r := by first | (rw [hy126]; with_reducible exact H) | (have H2_ := (Option.bind_some _ _).symm.trans H; rw [hy126]; with_reducible exact H2_) | (have H2_ := (Option.bind_some _ _).symm.trans H; with_reducible exact H2_) | with_reducible exact H | (rw [hy126]; exact H) | exact H
                                have Ny126 := Aside0.mk hy126
                                clear hy126
                                have H' := Aside0.mk H
                                clear H
                                have p125 : 0 ≤ (x8_2 : Int) := of_decide_eq_true (by first | (with_reducible assumption) | assumption)
                                have q125 : x8_2 < (x3_1.length : Int) := of_decide_eq_true (by first | (with_reducible assumption) | assumption)
                                obtain ⟨ad125, e125, hx125_0⟩ := Kd.at_int (Kd.R_reads' HO_3.out).2.2 x8_2 p125 q125
                                cases e125
                                replace p125 := eq_true p125
                                replace q125 := eq_true q125
                                go_wp2_with (first | ((with_reducible refine gate_builtin (b := .append) (xs := #[.tmp 80, .tmp 85]) rfl ?_); at_builtin; refine Kd.R_append (Kd.int .i64) (w0 := w) w.heap.size rfl (.tmp 80) (.tmp 85) 29 3 (.int .i64 0) 8 rfl Try.underlying29 info3 rfl (by decide) (by omega) u7 x7_2 (rd x3_1 x8_2) [.int .i64 (rd x3_1 x8_2)] (fun k_ => some k_ ≠ (.slice (some ad125) x3_1.length co18 : Value).ownBlock) (fun _ => False) rfl rfl ?aP (fun _ hk => hk.elim) ?aF ?aO ?aB ?aS ?aL ?_; (case aP => exact rfl); (case aB => exact (by repeat (first | (with_reducible first | exact HB.out | apply below_alloc | apply pw_below_drewN | apply below_drew1) | exact HB.out))); (case aF => exact (fun k_ hk => Kd.fresh' (Kd.R_lt (by (with_reducible repeat (first | apply Kd.R_alloc | apply Kd.R_drewN | apply Kd.R_drew)); exact HO_3.out)) k_ hk)); (case aO => exact (by (with_reducible repeat (first | apply Kd.R_alloc | apply Kd.R_drewN | apply Kd.R_drew)); exact HO_7.out)); (case aS => exact (below_size (by repeat (first | (with_reducible first | exact HB.out | apply below_alloc | apply pw_below_drewN | apply below_drew1) | exact HB.out)))); (case aL => have := LMc32.out; omega); intro v127 w33 ho hb hg hat; rw [← Ny126.out] at ho; have n0_ := Aside0.mk (Kd.R_after (ok := (fun _ => True)) (by (with_reducible repeat (first | apply Kd.R_alloc | apply Kd.R_drewN | apply Kd.R_drew)); exact Kd.R_mono HO_3.out (fun _ hk => ⟨trivial, by first | exact hk | exact fun h_ => hk (h_.trans (own_len _ _ _ _ _))⟩)) hg hat); have n1_ := Aside0.mk (hb); have n2_ := Aside0.mk (ho); clear HO_3; clear HB; clear HO_7; have HO_3 := n0_; have HB := n1_; have HO128 := n2_; clear n0_ n1_ n2_; clear ho hb hg hat))
                                repeat (go_quiet (first | ((with_reducible refine gate_builtin (b := .append) (xs := #[.tmp 80, .tmp 85]) rfl ?_); at_builtin; refine Kd.R_append (Kd.int .i64) (w0 := w) w.heap.size rfl (.tmp 80) (.tmp 85) 29 3 (.int .i64 0) 8 rfl Try.underlying29 info3 rfl (by decide) (by omega) u7 x7_2 (rd x3_1 x8_2) [.int .i64 (rd x3_1 x8_2)] (fun k_ => some k_ ≠ (.slice (some ad125) x3_1.length co18 : Value).ownBlock) (fun _ => False) rfl rfl ?aP (fun _ hk => hk.elim) ?aF ?aO ?aB ?aS ?aL ?_; (case aP => exact rfl); (case aB => exact (by repeat (first | (with_reducible first | exact HB.out | apply below_alloc | apply pw_below_drewN | apply below_drew1) | exact HB.out))); (case aF => exact (fun k_ hk => Kd.fresh' (Kd.R_lt (by (with_reducible repeat (first | apply Kd.R_alloc | apply Kd.R_drewN | apply Kd.R_drew)); exact HO_3.out)) k_ hk)); (case aO => exact (by (with_reducible repeat (first | apply Kd.R_alloc | apply Kd.R_drewN | apply Kd.R_drew)); exact HO_7.out)); (case aS => exact (below_size (by repeat (first | (with_reducible first | exact HB.out | apply below_alloc | apply pw_below_drewN | apply below_drew1) | exact HB.out)))); (case aL => have := LMc32.out; omega); intro v127 w33 ho hb hg hat; rw [← Ny126.out] at ho; have n0_ := Aside0.mk (Kd.R_after (ok := (fun _ => True)) (by (with_reducible repeat (first | apply Kd.R_alloc | apply Kd.R_drewN | apply Kd.R_drew)); exact Kd.R_mono HO_3.out (fun _ hk => ⟨trivial, by first | exact hk | exact fun h_ => hk (h_.trans (own_len _ _ _ _ _))⟩)) hg hat); have n1_ := Aside0.mk (hb); have n2_ := Aside0.mk (ho); clear HO_3; clear HB; clear HO_7; have HO_3 := n0_; have HB := n1_; have HO128 := n2_; clear n0_ n1_ n2_; clear ho hb hg hat)); try go_wp2_with (first | ((with_reducible refine gate_builtin (b := .append) (xs := #[.tmp 80, .tmp 85]) rfl ?_); at_builtin; refine Kd.R_append (Kd.int .i64) (w0 := w) w.heap.size rfl (.tmp 80) (.tmp 85) 29 3 (.int .i64 0) 8 rfl Try.underlying29 info3 rfl (by decide) (by omega) u7 x7_2 (rd x3_1 x8_2) [.int .i64 (rd x3_1 x8_2)] (fun k_ => some k_ ≠ (.slice (some ad125) x3_1.length co18 : Value).ownBlock) (fun _ => False) rfl rfl ?aP (fun _ hk => hk.elim) ?aF ?aO ?aB ?aS ?aL ?_; (case aP => exact rfl); (case aB => exact (by repeat (first | (with_reducible first | exact HB.out | apply below_alloc | apply pw_below_drewN | apply below_drew1) | exact HB.out))); (case aF => exact (fun k_ hk => Kd.fresh' (Kd.R_lt (by (with_reducible repeat (first | apply Kd.R_alloc | apply Kd.R_drewN | apply Kd.R_drew)); exact HO_3.out)) k_ hk)); (case aO => exact (by (with_reducible repeat (first | apply Kd.R_alloc | apply Kd.R_drewN | apply Kd.R_drew)); exact HO_7.out)); (case aS => exact (below_size (by repeat (first | (with_reducible first | exact HB.out | apply below_alloc | apply pw_below_drewN | apply below_drew1) | exact HB.out)))); (case aL => have := LMc32.out; omega); intro v127 w33 ho hb hg hat; rw [← Ny126.out] at ho; have n0_ := Aside0.mk (Kd.R_after (ok := (fun _ => True)) (by (with_reducible repeat (first | apply Kd.R_alloc | apply Kd.R_drewN | apply Kd.R_drew)); exact Kd.R_mono HO_3.out (fun _ hk => ⟨trivial, by first | exact hk | exact fun h_ => hk (h_.trans (own_len _ _ _ _ _))⟩)) hg hat); have n1_ := Aside0.mk (hb); have n2_ := Aside0.mk (ho); clear HO_3; clear HB; clear HO_7; have HO_3 := n0_; have HB := n1_; have HO128 := n2_; clear n0_ n1_ n2_; clear ho hb hg hat)))
                                go_roundg kj18
                                case measure => have := HK1.out; have := HK2.out; have := HK3.out; have := HJ18.out; omega
                                case rel => exact ⟨(y126), (wrap64 (x8_2 + 1)), (by first | rfl | (simp; done) | (simp [*]; done)), H', ⟨by have := HK1.out; have := HK2.out; have := HK3.out; have := HJ18.out; omega⟩, ⟨by (with_reducible repeat (first | apply Kd.R_alloc | apply Kd.R_drewN | apply Kd.R_drew)); exact Kd.R_mono HO_3.out (fun _ hk => hk.2)⟩, ⟨by (with_reducible repeat (first | apply Kd.R_alloc | apply Kd.R_drewN | apply Kd.R_drew)); exact HO128.out⟩, ⟨by repeat (first | (with_reducible first | exact HB.out | apply below_alloc | apply pw_below_drewN | apply below_drew1) | exact HB.out)⟩⟩
                              · rw [if_neg c32] at H
                                exact absurd H (by simp)
                            · rw [if_neg c31] at H
                              exact absurd H (by simp)
                          · rw [if_neg c30] at H
                            exact absurd H (by simp)
            · rw [if_neg c16] at H
              have c16b0 : decide (x8_2 < (l0.length : Int)) = false := decide_eq_false c16
              clear c16
              obtain rfl := Option.some.inj H
              go_wp2
              repeat (go_quiet (fail); try go_wp2)
              go_ret
              exact ⟨_, by first | rfl | (simp [errW_none, errW_some] <;> rfl) | (simp [*, errW_none, errW_some] <;> rfl), by (with_reducible repeat (first | apply Kd.R_alloc | apply Kd.R_drewN | apply Kd.R_drew)); exact Kd.R_mono HO_7.out (fun _ hk => trivial), by repeat (first | (with_reducible first | exact HB.out | apply below_alloc | apply pw_below_drewN | apply below_drew1) | exact HB.out)⟩

end Go.Proofs.Ytmfdhcgdibefiaa.Q

-- Written by wip/tools/gp.py, a program of this session round the kit's printer. Lean checks it.
namespace Go.Proofs.Ytmfdhcgdibefiaa.R
open Go.RowKit Go.Proofs.Ytmfdhcgdibefiaa.Q Go.Proofs.YtmfdhcgdibefiaaW.PrintWords Go.Proofs.YtmfdhcgdibefiaaW.PrintLast Go.Proofs.YtmfdhcgdibefiaaW.PrintMore
attribute [local go_sem] max2_int min2_int max_two min_two max_three min_three max_four min_four   -- for this text's walks alone
set_option linter.unusedVariables false
set_option linter.unusedSimpArgs false

/-! ### merkhetlaw27_fixed_1: function 35 -/
def merkhetlaw27_fixed_1.f (a0 : Int) (a1 : Int) (a2 : Int) : Option (Int × Int × Int × Int × ByteArray × ByteArray × Int × Int) := some (1, a0, 0, 0, (⟨#[97]⟩ : ByteArray), (⟨#[98]⟩ : ByteArray), a1, a2)
set_option maxHeartbeats 8000000 in
set_option maxRecDepth 100000 in
theorem merkhetlaw27_fixed_1.calls (a0 : Int) (a1 : Int) (a2 : Int) (r1 : Int) (r2 : Int) (r3 : Int) (r4 : Int) (r5 : ByteArray) (r6 : ByteArray) (r7 : Int) (r8 : Int) (w : World) (h : merkhetlaw27_fixed_1.f a0 a1 a2 = some (r1, r2, r3, r4, r5, r6, r7, r8)) :
    Calls Try.prog 35 #[.int .u64 a0, .int .i64 a1, .int .i64 a2] w fun e w' => e = .returned (.agg #[.int .u64 r1, .int .u64 r2, .int .u64 r3, .int .u8 r4, .string r5, .string r6, .int .i64 r7, .int .i64 r8]) ∧ Below w.heap.size w w' := by
  have hu37 := Try.underlying37
  have HB := Aside0.mk (Below.refl w.heap.size w)
  have H : (some (1, a0, 0, 0, (⟨#[97]⟩ : ByteArray), (⟨#[98]⟩ : ByteArray), a1, a2)) = some (r1, r2, r3, r4, r5, r6, r7, r8) := h
  clear h
  simp only [Option.some.injEq, Prod.mk.injEq] at H
  obtain ⟨rfl, rfl, rfl, rfl, rfl, rfl, rfl, rfl⟩ := H
  go_enter Try.func35, Try.ntmps35
  go_wp2_with (first | ((with_reducible refine gate_dst (N := 6) rfl ?_); refine box_event ?hg (N := 6) ?hd (cs := #[.int .u64 0, .int .u64 0, .int .u64 0, .int .u8 0, .string (⟨#[]⟩ : ByteArray), .string (⟨#[]⟩ : ByteArray), .int .i64 0, .int .i64 0]) (t := 37) ?hr ?_; (case hd => rfl); (case hg => rfl); (case hr => first | (go_simp; done) | (go_simp; rfl)); intro gb101 hg w4 hbox hb; have n0_ := Aside0.mk (below_step (by repeat (first | (with_reducible first | exact HB.out | apply below_alloc | apply pw_below_drewN | apply below_drew1) | exact HB.out)) hb); have n1_ := Aside0.mk (hbox); have n2_ := Aside0.mk ((by rw [hg]; exact (below_size (by repeat (first | (with_reducible first | exact HB.out | apply below_alloc | apply pw_below_drewN | apply below_drew1) | exact HB.out))) : w.heap.size ≤ gb101)); have n3_ := Aside0.mk ((by rw [hg]; exact (below_size (by repeat (first | (with_reducible first | exact HB.out | apply below_alloc | apply pw_below_drewN | apply below_drew1) | exact HB.out))) : w.heap.size ≤ gb101)); clear HB; have HB := n0_; have BK101 := n1_; have GW101 := n2_; have GE101 := n3_; clear n0_ n1_ n2_ n3_; clear hb hbox hg; have hcz5_0 : w4.cell? ⟨gb101, 0, none⟩ = some (.int .u64 0) := (blk_cell BK101.out 0).trans rfl; have hcz5_1 : w4.cell? ⟨gb101, 1, none⟩ = some (.int .u64 0) := (blk_cell BK101.out 1).trans rfl; have hcz5_2 : w4.cell? ⟨gb101, 2, none⟩ = some (.int .u64 0) := (blk_cell BK101.out 2).trans rfl; have hcz5_3 : w4.cell? ⟨gb101, 3, none⟩ = some (.int .u8 0) := (blk_cell BK101.out 3).trans rfl; have hcz5_4 : w4.cell? ⟨gb101, 4, none⟩ = some (.string (⟨#[]⟩ : ByteArray)) := (blk_cell BK101.out 4).trans rfl; have hcz5_5 : w4.cell? ⟨gb101, 5, none⟩ = some (.string (⟨#[]⟩ : ByteArray)) := (blk_cell BK101.out 5).trans rfl; have hcz5_6 : w4.cell? ⟨gb101, 6, none⟩ = some (.int .i64 0) := (blk_cell BK101.out 6).trans rfl; have hcz5_7 : w4.cell? ⟨gb101, 7, none⟩ = some (.int .i64 0) := (blk_cell BK101.out 7).trans rfl; have hfz5_0 := blk_frozen BK101.out 0; have hfz5_1 := blk_frozen BK101.out 1; have hfz5_2 := blk_frozen BK101.out 2; have hfz5_3 := blk_frozen BK101.out 3; have hfz5_4 := blk_frozen BK101.out 4; have hfz5_5 := blk_frozen BK101.out 5; have hfz5_6 := blk_frozen BK101.out 6; have hfz5_7 := blk_frozen BK101.out 7))
  refine bodyPost_ret (results_cell_row rfl _ _ gb101 37 #[.int .u64 1, .int .u64 a0, .int .u64 0, .int .u8 0, .string (⟨#[97]⟩ : ByteArray), .string (⟨#[98]⟩ : ByteArray), .int .i64 a1, .int .i64 a2] (0, 0) _ rfl (by (with_reducible repeat (first | refine blk_drewN ?_ _ | refine blk_drew ?_ | refine blk_alloc ?_ _)); refine blk_put (cs := #[.int .u64 1, .int .u64 a0, .int .u64 0, .int .u8 0, .string (⟨#[97]⟩ : ByteArray), .string (⟨#[98]⟩ : ByteArray), .int .i64 a1, .int .i64 0]) ?_ 7 _ rfl; (with_reducible repeat (first | refine blk_drewN ?_ _ | refine blk_drew ?_ | refine blk_alloc ?_ _)); refine blk_put (cs := #[.int .u64 1, .int .u64 a0, .int .u64 0, .int .u8 0, .string (⟨#[97]⟩ : ByteArray), .string (⟨#[98]⟩ : ByteArray), .int .i64 0, .int .i64 0]) ?_ 6 _ rfl; (with_reducible repeat (first | refine blk_drewN ?_ _ | refine blk_drew ?_ | refine blk_alloc ?_ _)); refine blk_put (cs := #[.int .u64 1, .int .u64 a0, .int .u64 0, .int .u8 0, .string (⟨#[97]⟩ : ByteArray), .string (⟨#[]⟩ : ByteArray), .int .i64 0, .int .i64 0]) ?_ 5 _ rfl; (with_reducible repeat (first | refine blk_drewN ?_ _ | refine blk_drew ?_ | refine blk_alloc ?_ _)); refine blk_put (cs := #[.int .u64 1, .int .u64 a0, .int .u64 0, .int .u8 0, .string (⟨#[]⟩ : ByteArray), .string (⟨#[]⟩ : ByteArray), .int .i64 0, .int .i64 0]) ?_ 4 _ rfl; (with_reducible repeat (first | refine blk_drewN ?_ _ | refine blk_drew ?_ | refine blk_alloc ?_ _)); refine blk_put (cs := #[.int .u64 1, .int .u64 a0, .int .u64 0, .int .u8 0, .string (⟨#[]⟩ : ByteArray), .string (⟨#[]⟩ : ByteArray), .int .i64 0, .int .i64 0]) ?_ 3 _ rfl; (with_reducible repeat (first | refine blk_drewN ?_ _ | refine blk_drew ?_ | refine blk_alloc ?_ _)); refine blk_put (cs := #[.int .u64 1, .int .u64 a0, .int .u64 0, .int .u8 0, .string (⟨#[]⟩ : ByteArray), .string (⟨#[]⟩ : ByteArray), .int .i64 0, .int .i64 0]) ?_ 2 _ rfl; (with_reducible repeat (first | refine blk_drewN ?_ _ | refine blk_drew ?_ | refine blk_alloc ?_ _)); refine blk_put (cs := #[.int .u64 1, .int .u64 0, .int .u64 0, .int .u8 0, .string (⟨#[]⟩ : ByteArray), .string (⟨#[]⟩ : ByteArray), .int .i64 0, .int .i64 0]) ?_ 1 _ rfl; (with_reducible repeat (first | refine blk_drewN ?_ _ | refine blk_drew ?_ | refine blk_alloc ?_ _)); refine blk_put (cs := #[.int .u64 0, .int .u64 0, .int .u64 0, .int .u8 0, .string (⟨#[]⟩ : ByteArray), .string (⟨#[]⟩ : ByteArray), .int .i64 0, .int .i64 0]) ?_ 0 _ rfl; (with_reducible repeat (first | refine blk_drewN ?_ _ | refine blk_drew ?_ | refine blk_alloc ?_ _)); exact BK101.out) Try.underlying37 rfl (by kernel_rfl)) rfl ?_
  exact ⟨by first | rfl | (simp [errW_none, errW_some] <;> rfl) | (simp [*, errW_none, errW_some] <;> rfl), by repeat (first | (with_reducible first | exact HB.out | apply below_alloc | apply pw_below_drewN | apply below_drew1 | refine below_set ?_ GE101.out) | exact HB.out)⟩

/-! ### stats_Own_1: function 42 (given) -/
def stats_Own_1.f (l0 : List S37) : Option Bool := if l0.length ≤ 1000000000 ∧ (∀ s ∈ l0, L.fitS s) then some (l0.any (fun s => !L.mayS s)) else none
theorem stats_Own_1.calls (A0 : Option Addr) (c0 : Nat) (l0 : List (S37)) (r : Bool) (w : World) (hr0 : Kd.C k37 w A0 l0.length l0) (hc0 : l0.length ≤ c0) (h : stats_Own_1.f l0 = some r) :
    Calls Try.prog 41 #[.slice A0 l0.length c0, .func (.func 42) #[] #[]] w fun e w' => e = .returned (.bool r) ∧ Below w.heap.size w w' := by
  unfold stats_Own_1.f at h
  split at h
  · rename_i hl
    obtain rfl := Option.some.inj h
    exact L.own_contains l0 hl.1 A0 c0 w hr0 (fun e he W hb => L.ownmay_calls e (hl.2 e he) W)
  · cases h

/-! ### stats_Cover: function 13 (given) -/
def stats_Cover.f (l0 : List S26) : Option Int := if l0.length ≤ 1759218604441 ∧ (∀ s ∈ l0, L.inI (s.f0, s.f1)) then some (L.coverN (l0.map (fun s => (s.f0, s.f1))) : Int) else none
theorem stats_Cover.calls (A0 : Option Addr) (c0 : Nat) (l0 : List (S26)) (r : Int) (w : World) (hr0 : Kd.C k26 w A0 l0.length l0) (hc0 : l0.length ≤ c0) (h : stats_Cover.f l0 = some r) :
    Calls Try.prog 13 #[.slice A0 l0.length c0] w fun e w' => e = .returned (.int .u64 r) ∧ Below w.heap.size w w' := by
  unfold stats_Cover.f at h
  split at h
  · rename_i hl
    obtain rfl := Option.some.inj h
    have h1 := L.C_iso (f := fun s : S26 => (s.f0, s.f1)) hr0
    have h2 := L.cover_calls (l0.map (fun s => (s.f0, s.f1))) (by rw [List.length_map]; exact hl.1) (L.mapI hl.2) A0 c0 w (by rw [List.length_map]; exact h1) (by rw [List.length_map]; exact hc0)
    rw [List.length_map] at h2
    exact h2
  · cases h

/-! ### parent_Right: function 40 (given) -/
def parent_Right.f (l0 : List Int) : Option Bool := if l0.length ≤ 1000000 then some (L.rightB l0) else none
theorem parent_Right.calls (A0 : Option Addr) (c0 : Nat) (l0 : List Int) (r : Bool) (w : World) (hr0 : Kd.C (Kd.int .i64) w A0 l0.length l0) (hc0 : l0.length ≤ c0) (h : parent_Right.f l0 = some r) :
    Calls Try.prog 40 #[.slice A0 l0.length c0] w fun e w' => e = .returned (.bool r) ∧ Below w.heap.size w w' := by
  unfold parent_Right.f at h
  split at h
  · rename_i hl
    obtain rfl := Option.some.inj h
    exact L.right_calls l0 hl A0 c0 w hr0 hc0
  · cases h

-- NOT PRINTED: function 95 (api_Span_95)

-- NOT PRINTED: function 41 (api_Span_41)

end Go.Proofs.Ytmfdhcgdibefiaa.R

