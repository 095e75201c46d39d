/- Texts joined by wip/tools/merge.py: Open QOpens Qx1 Qx3 Qx4 Qx5 Qx6 SpanA FitS MayS OwnC RcovP RcovW CycP CycA CycG CycW UpR RightG Rx0 Mx0 Rx1. -/
import Derived.Test.YtmfdhcgdibefiaaJStatsMore0
import Derived.Test.YtmfdhcgdibefiaaJStatsMore21
import Derived.Test.YtmfdhcgdibefiaaJStatsMore23
import Derived.WalkKit
import Derived.ProofKit
import Derived.OpenShut
import Derived.Deep.Slices
import Derived.DataElems
import Derived.Test.YtmfdhcgdibefiaaJStatsMore22
import Derived.KernelRfl
import Derived.Test.YtmfdhcgdibefiaaJStatsMore19
import Derived.Deep.QuietTactic
import Derived.BigQuiet
import Derived.RangeFuncBox
import Derived.WalkMore
import Derived.Test.YtmfdhcgdibefiaaProg
import Derived.Below
import Derived.Deep.Draws
import Derived.Deep.AppendLies
import Derived.Maps.AppendAt
import Derived.OwnWalk
import Derived.Laws.BytesArg
import Derived.Laws.MakeOwn
import Derived.Laws.OwnMore
import Derived.Deep.OwnRows
import Derived.Tactics
import Derived.Lib.ConvBytes
import Derived.Laws.Slices
import Derived.RowKit3
import Derived.Deep.LoopGhost
import Derived.WideLaws
import Derived.Deep.DeepCutAuto
import Derived.Deep.CutBlock
import Derived.Deep.RegionHeld3
import Derived.Laws.Rows
import Derived.Lib.AppendStr
import Derived.ArgAppend
import Derived.Laws.IdiomCopy
import Derived.OrdersHeld
import Derived.Laws.BitsLemmas
import Derived.RowKit
import Derived.Test.YtmfdhcgdibefiaaJStatsMore2
import Derived.Test.YtmfdhcgdibefiaaJStatsMore3
import Derived.Test.YtmfdhcgdibefiaaJStatsMore4
import Derived.Test.YtmfdhcgdibefiaaJStatsMore5
import Derived.Test.YtmfdhcgdibefiaaJStatsMore6
import Derived.Test.YtmfdhcgdibefiaaJStatsMore7
import Derived.Test.YtmfdhcgdibefiaaJStatsMore8
import Derived.Test.YtmfdhcgdibefiaaJStatsMore9
import Derived.Test.YtmfdhcgdibefiaaJStatsMore10
import Derived.Test.YtmfdhcgdibefiaaJStatsMore11
import Derived.Test.YtmfdhcgdibefiaaJStatsMore12
import Derived.Test.YtmfdhcgdibefiaaJStatsMore13
import Derived.Test.YtmfdhcgdibefiaaJStatsMore14
import Derived.Test.YtmfdhcgdibefiaaJStatsMore15
import Derived.Test.YtmfdhcgdibefiaaJStatsMore1
import Derived.Test.YtmfdhcgdibefiaaJStatsMore16
import Derived.Test.YtmfdhcgdibefiaaJStatsMore17
import Derived.Test.YtmfdhcgdibefiaaJStatsMore18
import Derived.Test.YtmfdhcgdibefiaaJStatsMore20
/- How an argument that came in is read by kind: from the row's reading (DataW.trod) to the printer's kinds (Kd). -/
namespace Go.Proofs.YtmfdhcgdibefiaaW.Open
open Go.RowKit Go.Proofs.YtmfdhcgdibefiaaW.PrintWords Go.ChangeShapes Go.WideShapes
set_option linter.unusedVariables false

/-- A type's readings are a kind's, and what is known of what is read. -/
structure Opens {α : Type} (P : Program) (t : TypeId) (k : Kd α) (wf : α → Prop) : Prop where
  sz : P.cellsOf t = k.sz
  K : ∀ {H : Type} {enc : TypeId × Value → H} {W : World} {base : Nat} {spare : Nat → Bool} {held : Bool} {fuel : Nat} {cs : List Value} {d : DataW H} {ps : List MemPlace},
    DataW.trod enc P W base spare held fuel t cs = some (d, ps) → (∀ n ∈ d.weights P t, n ≤ reachBytes) → ∃ x, k.K W x cs ∧ wf x

section
variable {P : Program} {t e : TypeId}

theorem Opens.int {k : IntKind} (ht : P.underlying t = some (.int k)) (hc : P.cellsOf t = 1) : Opens P t (Kd.int k) (fun x => (Lit.int k x).wf = true) := by
  refine ⟨hc, ?_⟩
  intro H enc W base spare held fuel cs d ps h _
  obtain ⟨n, rfl, _, hw⟩ := DataW.trod_int ht h
  exact ⟨n, rfl, hw⟩

theorem Opens.bool (ht : P.underlying t = some .bool) (hc : P.cellsOf t = 1) : Opens P t Kd.bool (fun _ => True) := by
  refine ⟨hc, ?_⟩
  intro H enc W base spare held fuel cs d ps h _
  obtain ⟨b, rfl, _⟩ := DataW.trod_bool ht h
  exact ⟨b, rfl, trivial⟩

theorem Opens.string (ht : P.underlying t = some .string) (hc : P.cellsOf t = 1) : Opens P t Kd.string (fun s => s.size ≤ reachBytes) := by
  refine ⟨hc, ?_⟩
  intro H enc W base spare held fuel cs d ps h hs
  obtain ⟨s, rfl, hx, _⟩ := DataW.trod_string ht h
  obtain ⟨rfl, rfl⟩ := Prod.mk.inj hx
  refine ⟨s, rfl, ?_⟩
  have := hs s.data.toList.length (by simp [DataW.weights])
  simpa using this

theorem Opens.iso {α β : Type} {k : Kd α} {wf : α → Prop} (f : β → α) (g : α → β) (hfg : ∀ x, f (g x) = x) (h : Opens P t k wf) : Opens P t (Kd.iso k f) (fun y => wf (f y)) := by
  refine ⟨h.sz, ?_⟩
  intro H enc W base spare held fuel cs d ps h1 hs
  obtain ⟨x, hK, hw⟩ := h.K h1 hs
  exact ⟨g x, by show k.K W (f (g x)) cs; rw [hfg]; exact hK, by show wf (f (g x)); rw [hfg]; exact hw⟩

theorem Opens.imp {α : Type} {k : Kd α} {wf wf' : α → Prop} (h : Opens P t k wf) (hw : ∀ x, wf x → wf' x) : Opens P t k wf' := by
  refine ⟨h.sz, ?_⟩
  intro H enc W base spare held fuel cs d ps h1 hs
  obtain ⟨x, hK, hx⟩ := h.K h1 hs
  exact ⟨x, hK, hw x hx⟩

/-- Fields, one behind the other, from a place on. -/
def OpensF {α : Type} (P : Program) (fs : List Field) (o : Nat) (k : Kd α) (wf : α → Prop) : Prop :=
  ∀ {H : Type} {enc : TypeId × Value → H} {W : World} {base : Nat} {spare : Nat → Bool} {held : Bool} {n : Nat} {cs : List Value} {xs : List (DataW H × List MemPlace)},
    xs.length = fs.length → (∀ (i : Nat) (f : Field), fs[i]? = some f → DataW.trod enc P W base spare held n f.type ((cs.drop f.offset).take (P.cellsOf f.type)) = xs[i]?) → cs.length = o + k.sz →
    (∀ m ∈ DataW.weightsEach P (fs.map (·.type)) (xs.map (·.1)), m ≤ reachBytes) → ∃ x, k.K W x (cs.drop o) ∧ wf x

theorem OpensF.one {α : Type} {f : Field} {o : Nat} {k : Kd α} {wf : α → Prop} (ho : f.offset = o) (h : Opens P f.type k wf) : OpensF P [f] o k wf := by
  intro H enc W base spare held n cs xs hl hx hc hs
  match xs, hl with
  | [y], _ =>
    have h1 := hx 0 f rfl
    rw [ho, h.sz, List.take_of_length_le (by rw [List.length_drop]; omega)] at h1
    exact h.K (d := y.1) (ps := y.2) h1 (fun m hm => hs m (by simp [DataW.weightsEach, hm]))

theorem OpensF.cons {α β : Type} {f : Field} {fs : List Field} {o o' : Nat} {a : Kd α} {b : Kd β} {wa : α → Prop} {wb : β → Prop} (ho : f.offset = o) (ho' : o' = o + a.sz) (h : Opens P f.type a wa) (hr : OpensF P fs o' b wb) :
    OpensF P (f :: fs) o (Kd.pair a b) (fun x => wa x.1 ∧ wb x.2) := by
  intro H enc W base spare held n cs xs hl hx hc hs
  subst ho'
  match xs, hl with
  | y :: ys, hl =>
    have h1 := hx 0 f rfl
    rw [ho, h.sz] at h1
    obtain ⟨x, hK, hw⟩ := h.K (d := y.1) (ps := y.2) h1 (fun m hm => hs m (by simp [DataW.weightsEach, hm]))
    obtain ⟨z, hK2, hw2⟩ := hr (xs := ys) (cs := cs) (by simpa using hl) (fun i g hg => by have := hx (i + 1) g (by simpa using hg); simpa using this) (by rw [hc]; show o + (a.sz + b.sz) = _; omega) (fun m hm => hs m (by simp [DataW.weightsEach, hm]))
    refine ⟨(x, z), ⟨(cs.drop o).take a.sz, cs.drop (o + a.sz), ?_, hK, hK2⟩, hw, hw2⟩
    rw [← List.drop_drop, List.take_append_drop]

theorem weightsAll_mem {H : Type} {e : TypeId} : ∀ {l : List (DataW H)} {d : DataW H}, d ∈ l → ∀ n ∈ d.weights P e, n ∈ DataW.weightsAll P e l
  | d0 :: l, d, h, n, hn => by
    simp only [DataW.weightsAll, List.mem_append]
    rcases List.mem_cons.1 h with rfl | h
    · exact .inl hn
    · exact .inr (weightsAll_mem h n hn)

theorem Opens.slice {α : Type} {k : Kd α} {wf : α → Prop} {B : Nat} (ht : P.underlying t = some (.slice e)) (hc : P.cellsOf t = 1) (hB : P.bytesOf e = B) (h : Opens P e k wf) :
    Opens P t (Kd.slice e k) (fun l => l.length ≤ maxLen ∧ l.length * B ≤ reachBytes ∧ ∀ x ∈ l, wf x) := by
  refine ⟨hc, ?_⟩
  intro H enc W base spare held fuel cs d ps h1 hs
  rcases Go.Deep.open_slice ht h1 with ⟨rfl, hx⟩ | ⟨a, len, cap, m, n, D, Pl, rfl, hb, hl, hm, hmm, hx, hel⟩
  · refine ⟨[], ⟨none, 0, rfl, by simp, Kd.C_nil _ _⟩, by simp [maxLen], by simp, by simp⟩
  · obtain ⟨rfl, rfl⟩ := Prod.mk.inj hx
    have hle : len ≤ m := by rw [hmm]; split <;> omega
    have hw : ∀ j, j < len → ∃ x, (∃ c, c.length = k.sz ∧ k.K W x c ∧ ∀ i u, c[i]? = some u → W.cell? (a.add (j * k.sz + i)) = some u) ∧ wf x := by
      intro j hj
      obtain ⟨cs', h2, h3⟩ := hel j (by omega)
      obtain ⟨x, hK, hx⟩ := h.K h3 (fun q hq => hs q (by
        simp only [DataW.weights, ht, List.mem_cons, List.mem_append]
        exact .inr (.inl (weightsAll_mem (List.mem_map.2 ⟨j, by simpa using hj, rfl⟩) q hq))))
      obtain ⟨_, hlen, hcell⟩ := World.cells?_some h2
      refine ⟨x, ⟨cs', by rw [hlen, h.sz], hK, fun i u hu => ?_⟩, hx⟩
      have hi : i < cs'.length := (List.getElem?_eq_some_iff.1 hu).1
      have := hcell i (by omega)
      rw [hu, h.sz] at this
      rw [← this, Addr.add_add]
    obtain ⟨X, hX⟩ : ∃ X : Fin len → α, ∀ j : Fin len, (∃ c, c.length = k.sz ∧ k.K W (X j) c ∧ ∀ i u, c[i]? = some u → W.cell? (a.add (j.1 * k.sz + i)) = some u) ∧ wf (X j) :=
      ⟨fun j => Classical.choose (hw j.1 j.2), fun j => Classical.choose_spec (hw j.1 j.2)⟩
    have hml : (9223372036854775807 : Nat) = maxLen := rfl
    refine ⟨List.ofFn X, ⟨some a, cap, by simp, by simpa using hl, ?_⟩, ?_, ?_, ?_⟩
    · refine ⟨rfl, by rw [hml]; simpa using Nat.le_trans hl hm, fun _ => ⟨a, rfl, fun j p hp => ?_⟩⟩
      obtain ⟨hj, rfl⟩ := List.getElem?_eq_some_iff.1 hp
      have hj' : j < len := by simpa using hj
      have := (hX ⟨j, hj'⟩).1
      simpa using this
    · simpa using Nat.le_trans hl hm
    · have := hs ((len + (m - len)) * P.bytesOf e) (by simp [DataW.weights, ht])
      rw [hB] at this
      rw [List.length_ofFn]
      exact Nat.le_trans (Nat.mul_le_mul_right _ (by omega)) this
    · intro x hx
      obtain ⟨j, rfl⟩ := (List.mem_ofFn).1 hx
      exact (hX j).2

theorem weights_le {H : Type} {ts : List TypeId} {ds : List (DataW H)} {j : Nat} {t : TypeId} {d : DataW H} (h : (DataW.weightsEach P ts ds).all (· ≤ reachBytes) = true) (ht : ts[j]? = some t) (hd : ds[j]? = some d) : ∀ n ∈ d.weights P t, n ≤ reachBytes := by
  intro n hn
  simpa using List.all_eq_true.1 h n (DataW.weights_mem_each ht hd n hn)
end

/-- A slice that came in. -/
theorem open_row {P : Program} {t e : TypeId} {α : Type} {k : Kd α} {wf : List α → Prop} (ho : Opens P t (Kd.slice e k) wf) {H : Type} {enc : TypeId × Value → H} {W : World} {base : Nat} {spare : Nat → Bool} {held : Bool} {a : Option Addr} {n c : Nat} {d : DataW H} {ps : List MemPlace}
    (h : DataW.Trod enc P W base spare held t (.slice a n c) d ps) (hs : ∀ m ∈ d.weights P t, m ≤ reachBytes) : ∃ l, n = l.length ∧ l.length ≤ c ∧ k.C W a l.length l ∧ wf l := by
  obtain ⟨fuel, hf⟩ := h
  obtain ⟨l, ⟨A, c', he, hl, hC⟩, hw⟩ := ho.K hf hs
  simp [Value.cells] at he
  obtain ⟨rfl, rfl, rfl⟩ := he
  exact ⟨l, rfl, hl, hC, hw⟩

/-- A struct that came in. -/
theorem open_agg {P : Program} {t : TypeId} {α : Type} {k : Kd α} {wf : α → Prop} (ho : Opens P t k wf) {H : Type} {enc : TypeId × Value → H} {W : World} {base : Nat} {spare : Nat → Bool} {held : Bool} {cs : Array Value} {d : DataW H} {ps : List MemPlace}
    (h : DataW.Trod enc P W base spare held t (.agg cs) d ps) (hs : ∀ m ∈ d.weights P t, m ≤ reachBytes) : ∃ x, k.K W x cs.toList ∧ wf x := by
  obtain ⟨fuel, hf⟩ := h
  exact ho.K hf hs
end Go.Proofs.YtmfdhcgdibefiaaW.Open

-- Written by wip/tools/row.py, a program of this session. Lean checks it.
namespace Go.Proofs.Ytmfdhcgdibefiaa.Q
open Go.RowKit Go.Proofs.YtmfdhcgdibefiaaW.PrintWords Go.Proofs.YtmfdhcgdibefiaaW.Open
set_option linter.unusedVariables false
end Go.Proofs.Ytmfdhcgdibefiaa.Q

-- Written by wip/tools/gp.py, a program of this session round the kit's printer. Lean checks it.
namespace Go.Proofs.Ytmfdhcgdibefiaa.Q
open Go.RowKit Go.Proofs.YtmfdhcgdibefiaaW.PrintWords Go.Proofs.YtmfdhcgdibefiaaW.PrintLast Go.Proofs.YtmfdhcgdibefiaaW.PrintMore
attribute [local go_sem] max2_int min2_int max_two min_two max_three min_three max_four min_four   -- for this text's walks alone
set_option linter.unusedVariables false
set_option linter.unusedSimpArgs false
/-! ### merkhetref15_Same: function 19 -/
def merkhetref15_Same.l0 : Nat → List Int → List Int → Int → Option (Bool)
  | 0, _, _, _ => none
  | k + 1, x0, x1, x5 => if x5 < (x0.length : Int) then (if 0 ≤ x5 then (if x5 < (x1.length : Int) then (if (rd x0 x5) = (rd x1 x5) then (merkhetref15_Same.l0 k x0 x1 (wrap64 (x5 + 1))) else (some false)) else (none)) else (none)) else (some true)
def merkhetref15_Same.f (k : Nat) (l0 : List Int) (l1 : List Int) : Option (Bool) := if (l0.length : Int) = (l1.length : Int) then (merkhetref15_Same.l0 k l0 l1 0) else (some false)
theorem merkhetref15_Same.mono_l : ∀ k, (∀ y0 y1 y2, LeO (merkhetref15_Same.l0 k y0 y1 y2) (merkhetref15_Same.l0 (k + 1) y0 y1 y2))
  | 0 => fun _ _ _ r h => by simp [merkhetref15_Same.l0] at h
  | k + 1 => by
    have ih0 := merkhetref15_Same.mono_l k
    · intro y0 y1 y2
      unfold merkhetref15_Same.l0
      repeat' first
      | (with_reducible exact ih0 _ _ _)
      | (with_reducible exact LeO.refl _)
      | (with_reducible exact LeO.none _)
      | (with_reducible refine LeO.ite ?_ ?_)
      | (with_reducible refine LeO.bind ?_ (fun _ => ?_))
      | exact ih0 _ _ _
      | exact LeO.none _
      | refine LeO.ite ?_ ?_
      | refine LeO.bind ?_ (fun _ => ?_)
theorem merkhetref15_Same.mono : ∀ a0 a1 k, LeO (merkhetref15_Same.f k a0 a1) (merkhetref15_Same.f (k + 1) a0 a1) := by
  intro a0 a1 k
  have ih0 := merkhetref15_Same.mono_l k
  unfold merkhetref15_Same.f
  repeat' first
      | (with_reducible exact ih0 _ _ _)
      | (with_reducible exact LeO.refl _)
      | (with_reducible exact LeO.none _)
      | (with_reducible refine LeO.ite ?_ ?_)
      | (with_reducible refine LeO.bind ?_ (fun _ => ?_))
      | exact ih0 _ _ _
      | exact LeO.none _
      | refine LeO.ite ?_ ?_
      | refine LeO.bind ?_ (fun _ => ?_)
set_option maxHeartbeats 8000000 in
set_option maxRecDepth 100000 in
theorem merkhetref15_Same.calls (k : Nat) (A0 : Option Addr) (c0 : Nat) (l0 : List Int) (A1 : Option Addr) (c1 : Nat) (l1 : List Int) (r : Bool) (w : World) (hr0 : Kd.C (Kd.int .i64) w A0 l0.length l0) (hc0 : l0.length ≤ c0) (hr1 : Kd.C (Kd.int .i64) w A1 l1.length l1) (hc1 : l1.length ≤ c1) (h : merkhetref15_Same.f k l0 l1 = some r) :
    Calls Try.prog 19 #[.slice A0 l0.length c0, .slice A1 l1.length c1] w fun e w' => e = .returned (.bool r) ∧ Drawn0 w w' := by
  have HR0 := Aside0.mk hr0
  have HC0 := Aside0.mk hc0
  clear hr0 hc0
  have HR1 := Aside0.mk hr1
  have HC1 := Aside0.mk hc1
  clear hr1 hc1
  have H : (if (l0.length : Int) = (l1.length : Int) then (merkhetref15_Same.l0 k l0 l1 0) else (some false)) = some r := h
  clear h
  by_cases c3 : (l0.length : Int) = (l1.length : Int)
  · rw [if_pos c3] at H
    have c3b0 : ((l0.length : Int) == (l1.length : Int)) = true := beq_iff_eq.mpr c3
    have c3b1 : ((l0.length : Int) != (l1.length : Int)) = false := bne_eq_false_iff_eq.mpr c3
    have c3b2 : (l0.length == l1.length) = true := by first | simpa using c3 | (simp at c3 ⊢; omega)
    clear c3
    have H' := Aside0.mk H
    clear H
    go_enter Try.func19, Try.ntmps19
    go_wp2
    repeat (go_quiet (fail); try go_wp2)
    go_loopg [5] k (fun kq v5 w' => ∃ (x5_1 : Int), v5 = .int .i64 x5_1 ∧ Aside0 (merkhetref15_Same.l0 kq l0 l1 x5_1 = some r) ∧ Aside0 (kq ≤ k) ∧ Drawn0 w w')
    case atStart => exact ⟨(0), (by first | rfl | (simp; done) | (simp [*]; done)), H', ⟨Nat.le_refl _⟩, by repeat (first | exact Drawn0.refl _ | apply Drawn0.step)⟩
    case round =>
      clear H'
      (try clear c1); (try clear p2); (try clear c3); (try clear c3b0); (try clear c3b1); (try clear c3b2)
      obtain ⟨x5_1, rfl, HA, HK1, ⟨m1, rfl⟩⟩ := hrel
      cases gk with
      | zero => exact absurd HA.out (by simp [merkhetref15_Same.l0])
      | succ k1 =>
        have H := HA.out
        clear HA
        simp only [merkhetref15_Same.l0] at H
        by_cases c4 : x5_1 < (l0.length : Int)
        · rw [if_pos c4] at H
          have c4b0 : decide (x5_1 < (l0.length : Int)) = true := decide_eq_true c4
          clear c4
          by_cases c5 : 0 ≤ x5_1
          · rw [if_pos c5] at H
            have c5b0 : decide (0 ≤ x5_1) = true := decide_eq_true c5
            clear c5
            by_cases c6 : x5_1 < (l1.length : Int)
            · rw [if_pos c6] at H
              have c6b0 : decide (x5_1 < (l1.length : Int)) = true := decide_eq_true c6
              clear c6
              by_cases c7 : (rd l0 x5_1) = (rd l1 x5_1)
              · rw [if_pos c7] at H
                have c7b0 : ((rd l0 x5_1) == (rd l1 x5_1)) = true := beq_iff_eq.mpr c7
                have c7b1 : ((rd l0 x5_1) != (rd l1 x5_1)) = false := bne_eq_false_iff_eq.mpr c7
                clear c7
                have H' := Aside0.mk H
                clear H
                have p103 : 0 ≤ (x5_1 : Int) := of_decide_eq_true (by first | (with_reducible assumption) | assumption)
                have q103 : x5_1 < (l0.length : Int) := of_decide_eq_true (by first | (with_reducible assumption) | assumption)
                obtain ⟨ad103, e103, hx103_0⟩ := Kd.at_int HR0.out x5_1 p103 q103
                cases e103
                replace p103 := eq_true p103
                replace q103 := eq_true q103
                have p104 : 0 ≤ (x5_1 : Int) := of_decide_eq_true (by first | (with_reducible assumption) | assumption)
                have q104 : x5_1 < (l1.length : Int) := of_decide_eq_true (by first | (with_reducible assumption) | assumption)
                obtain ⟨ad104, e104, hx104_0⟩ := Kd.at_int HR1.out x5_1 p104 q104
                cases e104
                replace p104 := eq_true p104
                replace q104 := eq_true q104
                go_wp2
                repeat (go_quiet (fail); try go_wp2)
                go_roundg k1
                case measure => have := HK1.out; omega
                case rel => exact ⟨(wrap64 (x5_1 + 1)), (by first | rfl | (simp; done) | (simp [*]; done)), H', ⟨by have := HK1.out; omega⟩, by repeat (first | exact Drawn0.refl _ | apply Drawn0.step)⟩
              · rw [if_neg c7] at H
                have c7b0 : ((rd l0 x5_1) == (rd l1 x5_1)) = false := beq_eq_false_iff_ne.mpr c7
                have c7b1 : ((rd l0 x5_1) != (rd l1 x5_1)) = true := bne_iff_ne.mpr c7
                obtain rfl := Option.some.inj H
                have p103 : 0 ≤ (x5_1 : Int) := of_decide_eq_true (by first | (with_reducible assumption) | assumption)
                have q103 : x5_1 < (l0.length : Int) := of_decide_eq_true (by first | (with_reducible assumption) | assumption)
                obtain ⟨ad103, e103, hx103_0⟩ := Kd.at_int HR0.out x5_1 p103 q103
                cases e103
                replace p103 := eq_true p103
                replace q103 := eq_true q103
                have p104 : 0 ≤ (x5_1 : Int) := of_decide_eq_true (by first | (with_reducible assumption) | assumption)
                have q104 : x5_1 < (l1.length : Int) := of_decide_eq_true (by first | (with_reducible assumption) | assumption)
                obtain ⟨ad104, e104, hx104_0⟩ := Kd.at_int HR1.out x5_1 p104 q104
                cases e104
                replace p104 := eq_true p104
                replace q104 := eq_true q104
                go_wp2
                repeat (go_quiet (fail); try go_wp2)
                go_ret
                exact ⟨by first | rfl | (simp; done) | (simp [*]; done), by repeat (first | exact Drawn0.refl _ | apply Drawn0.step)⟩
            · rw [if_neg c6] at H
              exact absurd H (by simp)
          · rw [if_neg c5] at H
            exact absurd H (by simp)
        · rw [if_neg c4] at H
          have c4b0 : decide (x5_1 < (l0.length : Int)) = false := decide_eq_false c4
          clear c4
          obtain rfl := Option.some.inj H
          go_wp2
          repeat (go_quiet (fail); try go_wp2)
          go_ret
          exact ⟨by first | rfl | (simp; done) | (simp [*]; done), by repeat (first | exact Drawn0.refl _ | apply Drawn0.step)⟩
  · rw [if_neg c3] at H
    have c3b0 : ((l0.length : Int) == (l1.length : Int)) = false := beq_eq_false_iff_ne.mpr c3
    have c3b1 : ((l0.length : Int) != (l1.length : Int)) = true := bne_iff_ne.mpr c3
    have c3b2 : (l0.length == l1.length) = false := by first | simpa using c3 | (simp at c3 ⊢; omega)
    obtain rfl := Option.some.inj H
    go_enter Try.func19, Try.ntmps19
    go_wp2
    repeat (go_quiet (fail); try go_wp2)
    go_ret
    exact ⟨by first | rfl | (simp; done) | (simp [*]; done), by repeat (first | exact Drawn0.refl _ | apply Drawn0.step)⟩

end Go.Proofs.Ytmfdhcgdibefiaa.Q

-- Written by wip/tools/gp.py, a program of this session round the kit's printer. Lean checks it.
namespace Go.Proofs.Ytmfdhcgdibefiaa.Q
open Go.RowKit Go.Proofs.YtmfdhcgdibefiaaW.PrintWords Go.Proofs.YtmfdhcgdibefiaaW.PrintLast Go.Proofs.YtmfdhcgdibefiaaW.PrintMore
attribute [local go_sem] max2_int min2_int max_two min_two max_three min_three max_four min_four   -- for this text's walks alone
set_option linter.unusedVariables false
set_option linter.unusedSimpArgs false
end Go.Proofs.Ytmfdhcgdibefiaa.Q

-- Written by wip/tools/gp.py, a program of this session round the kit's printer. Lean checks it.
namespace Go.Proofs.Ytmfdhcgdibefiaa.Q
open Go.RowKit Go.Proofs.YtmfdhcgdibefiaaW.PrintWords Go.Proofs.YtmfdhcgdibefiaaW.PrintLast Go.Proofs.YtmfdhcgdibefiaaW.PrintMore
attribute [local go_sem] max2_int min2_int max_two min_two max_three min_three max_four min_four   -- for this text's walks alone
set_option linter.unusedVariables false
set_option linter.unusedSimpArgs false
end Go.Proofs.Ytmfdhcgdibefiaa.Q

-- Written by wip/tools/gp.py, a program of this session round the kit's printer. Lean checks it.
namespace Go.Proofs.Ytmfdhcgdibefiaa.Q
open Go.RowKit Go.Proofs.YtmfdhcgdibefiaaW.PrintWords Go.Proofs.YtmfdhcgdibefiaaW.PrintLast Go.Proofs.YtmfdhcgdibefiaaW.PrintMore
attribute [local go_sem] max2_int min2_int max_two min_two max_three min_three max_four min_four   -- for this text's walks alone
set_option linter.unusedVariables false
set_option linter.unusedSimpArgs false
/-! ### forest_Kids: function 44 -/
def forest_Kids.l0 : Nat → Int → List Int → List Int → Int → Int → Option (List Int)
  | 0, _, _, _, _, _ => none
  | k + 1, x1, x5, x8, x9, x10 => if x10 < x9 then (if 0 ≤ x10 then (if x10 < (x8.length : Int) then (if (rd x8 x10) = x1 then (if x5.length < 17592186044416 then (forest_Kids.l0 k x1 (x5 ++ [x10]) x8 x9 (wrap64 (x10 + 1))) else (none)) else (forest_Kids.l0 k x1 x5 x8 x9 (wrap64 (x10 + 1)))) else (none)) else (none)) else (some x5)
def forest_Kids.f (k : Nat) (l0 : List Int) (a1 : Int) : Option (List Int) := forest_Kids.l0 k a1 ([] : List Int) l0 (l0.length : Int) 0
theorem forest_Kids.mono_l : ∀ k, (∀ y0 y1 y2 y3 y4, LeO (forest_Kids.l0 k y0 y1 y2 y3 y4) (forest_Kids.l0 (k + 1) y0 y1 y2 y3 y4))
  | 0 => fun _ _ _ _ _ r h => by simp [forest_Kids.l0] at h
  | k + 1 => by
    have ih0 := forest_Kids.mono_l k
    · intro y0 y1 y2 y3 y4
      unfold forest_Kids.l0
      repeat' first
      | (with_reducible exact ih0 _ _ _ _ _)
      | (with_reducible exact LeO.refl _)
      | (with_reducible exact LeO.none _)
      | (with_reducible refine LeO.ite ?_ ?_)
      | (with_reducible refine LeO.bind ?_ (fun _ => ?_))
      | exact ih0 _ _ _ _ _
      | exact LeO.none _
      | refine LeO.ite ?_ ?_
      | refine LeO.bind ?_ (fun _ => ?_)
theorem forest_Kids.mono : ∀ a0 a1 k, LeO (forest_Kids.f k a0 a1) (forest_Kids.f (k + 1) a0 a1) := by
  intro a0 a1 k
  have ih0 := forest_Kids.mono_l k
  unfold forest_Kids.f
  repeat' first
      | (with_reducible exact ih0 _ _ _ _ _)
      | (with_reducible exact LeO.refl _)
      | (with_reducible exact LeO.none _)
      | (with_reducible refine LeO.ite ?_ ?_)
      | (with_reducible refine LeO.bind ?_ (fun _ => ?_))
      | exact ih0 _ _ _ _ _
      | exact LeO.none _
      | refine LeO.ite ?_ ?_
      | refine LeO.bind ?_ (fun _ => ?_)
set_option maxHeartbeats 8000000 in
set_option maxRecDepth 100000 in
theorem forest_Kids.calls (k : Nat) (A0 : Option Addr) (c0 : Nat) (l0 : List Int) (a1 : Int) (r : List Int) (w : World) (hr0 : Kd.C (Kd.int .i64) w A0 l0.length l0) (hc0 : l0.length ≤ c0) (h : forest_Kids.f k l0 a1 = some r) :
    Calls Try.prog 44 #[.slice A0 l0.length c0, .int .i64 a1] w fun e w' => ∃ v0_ : Value, e = .returned (v0_) ∧ Kd.R (Kd.int .i64) 3 w' w.heap.size (fun _ => True) v0_ r ∧ Below w.heap.size w w' := by
  have HR0 := Aside0.mk hr0
  have HC0 := Aside0.mk hc0
  clear hr0 hc0
  have HB := Aside0.mk (Below.refl w.heap.size w)
  have H : (forest_Kids.l0 k a1 ([] : List Int) l0 (l0.length : Int) 0) = some r := h
  clear h
  have H' := Aside0.mk H
  clear H
  go_enter Try.func44, Try.ntmps44
  go_wp2
  go_loopg [5, 10] k (fun kq v5 v10 w' => ∃ (x5_1 : List Int) (x10_1 : Int), v10 = .int .i64 x10_1 ∧ Aside0 (forest_Kids.l0 kq a1 x5_1 l0 (l0.length : Int) x10_1 = some r) ∧ Aside0 (kq ≤ k) ∧ Aside0 (Kd.R (Kd.int .i64) 3 w' w.heap.size (fun _ => True) v5 x5_1) ∧ Aside0 (Below w.heap.size w w'))
  case atStart => exact ⟨(([] : List Int)), (0), (by first | rfl | (simp; done) | (simp [*]; done)), H', ⟨Nat.le_refl _⟩, ⟨by first | exact Kd.R_nil _ _ _ _ _ | exact Kd.N_nil _ _ _ _ _ | exact Kd.V_nil _ _ _ _ _ | exact Kd.Q_nil _ _ _ _ _ | exact Kd.S_nil _ _ _ _ _⟩, ⟨by repeat (first | (with_reducible first | exact HB.out | apply below_alloc | apply pw_below_drewN | apply below_drew1) | exact HB.out)⟩⟩
  case round =>
    clear H'
    (try clear p2)
    obtain ⟨x5_1, x10_1, rfl, HA, HK1, HO_5, HB⟩ := hrel
    cases gk with
    | zero => exact absurd HA.out (by simp [forest_Kids.l0])
    | succ k1 =>
      have H := HA.out
      clear HA
      simp only [forest_Kids.l0] at H
      by_cases c3 : x10_1 < (l0.length : Int)
      · rw [if_pos c3] at H
        have c3b0 : decide (x10_1 < (l0.length : Int)) = true := decide_eq_true c3
        clear c3
        by_cases c4 : 0 ≤ x10_1
        · rw [if_pos c4] at H
          have c4b0 : decide (0 ≤ x10_1) = true := decide_eq_true c4
          clear c4
          by_cases c5 : x10_1 < (l0.length : Int)
          · rw [if_pos c5] at H
            have c5b0 : decide (x10_1 < (l0.length : Int)) = true := decide_eq_true c5
            clear c5
            by_cases c6 : (rd l0 x10_1) = a1
            · rw [if_pos c6] at H
              have c6b0 : ((rd l0 x10_1) == a1) = true := beq_iff_eq.mpr c6
              have c6b1 : ((rd l0 x10_1) != a1) = false := bne_eq_false_iff_eq.mpr c6
              clear c6
              by_cases c7 : x5_1.length < 17592186044416
              · rw [if_pos c7] at H
                have LMc7 := Aside0.mk c7
                clear c7
                obtain ⟨y140, hy140⟩ : ∃ y_ : List Int, y_ = (x5_1 ++ [x10_1]) := ⟨_, rfl⟩
                replace H : (forest_Kids.l0 k1 a1 y140 l0 (l0.length : Int) (wrap64 (x10_1 + 1))) = some r := by first | (rw [hy140]; with_reducible exact H) | (have H2_ := (Option.bind_some _ _).symm.trans H; rw [hy140]; with_reducible exact H2_) | (have H2_ := (Option.bind_some _ _).symm.trans H; with_reducible exact H2_) | with_reducible exact H | (rw [hy140]; exact H) | exact H
                have Ny140 := Aside0.mk hy140
                clear hy140
                have H' := Aside0.mk H
                clear H
                have p139 : 0 ≤ (x10_1 : Int) := of_decide_eq_true (by first | (with_reducible assumption) | assumption)
                have q139 : x10_1 < (l0.length : Int) := of_decide_eq_true (by first | (with_reducible assumption) | assumption)
                obtain ⟨ad139, e139, hx139_0⟩ := Kd.at_int HR0.out x10_1 p139 q139
                cases e139
                replace hx139_0 := (HB.out.cell (World.block_lt_of_cell? w _ hx139_0)).trans hx139_0
                replace p139 := eq_true p139
                replace q139 := eq_true q139
                go_wp2_with (first | ((with_reducible refine gate_builtin (b := .append) (xs := #[.tmp 18, .tmp 20]) rfl ?_); at_builtin; refine Kd.R_append (Kd.int .i64) (w0 := w) w.heap.size rfl (.tmp 18) (.tmp 20) 29 3 (.int .i64 0) 8 rfl Try.underlying29 info3 rfl (by decide) (by omega) u5 x5_1 x10_1 [.int .i64 x10_1] (fun _ => True) (fun _ => False) rfl rfl ?aP (fun _ hk => hk.elim) ?aF ?aO ?aB ?aS ?aL ?_; (case aP => exact rfl); (case aB => exact (by repeat (first | (with_reducible first | exact HB.out | apply below_alloc | apply pw_below_drewN | apply below_drew1) | exact HB.out))); (case aF => exact (fun _ _ => trivial)); (case aO => exact (by (with_reducible repeat (first | apply Kd.R_alloc | apply Kd.R_drewN | apply Kd.R_drew)); exact HO_5.out)); (case aS => exact (below_size (by repeat (first | (with_reducible first | exact HB.out | apply below_alloc | apply pw_below_drewN | apply below_drew1) | exact HB.out)))); (case aL => have := LMc7.out; omega); intro v141 w8 ho hb hg hat; rw [← Ny140.out] at ho; have n0_ := Aside0.mk (hb); have n1_ := Aside0.mk (ho); clear HB; clear HO_5; have HB := n0_; have HO142 := n1_; clear n0_ n1_; clear ho hb hg hat))
                go_roundg k1
                case measure => have := HK1.out; omega
                case rel => exact ⟨(y140), (wrap64 (x10_1 + 1)), (by first | rfl | (simp; done) | (simp [*]; done)), H', ⟨by have := HK1.out; omega⟩, ⟨by (with_reducible repeat (first | apply Kd.R_alloc | apply Kd.R_drewN | apply Kd.R_drew)); exact HO142.out⟩, ⟨by repeat (first | (with_reducible first | exact HB.out | apply below_alloc | apply pw_below_drewN | apply below_drew1) | exact HB.out)⟩⟩
              · rw [if_neg c7] at H
                exact absurd H (by simp)
            · rw [if_neg c6] at H
              have c6b0 : ((rd l0 x10_1) == a1) = false := beq_eq_false_iff_ne.mpr c6
              have c6b1 : ((rd l0 x10_1) != a1) = true := bne_iff_ne.mpr c6
              have H' := Aside0.mk H
              clear H
              have p139 : 0 ≤ (x10_1 : Int) := of_decide_eq_true (by first | (with_reducible assumption) | assumption)
              have q139 : x10_1 < (l0.length : Int) := of_decide_eq_true (by first | (with_reducible assumption) | assumption)
              obtain ⟨ad139, e139, hx139_0⟩ := Kd.at_int HR0.out x10_1 p139 q139
              cases e139
              replace hx139_0 := (HB.out.cell (World.block_lt_of_cell? w _ hx139_0)).trans hx139_0
              replace p139 := eq_true p139
              replace q139 := eq_true q139
              go_wp2
              go_roundg k1
              case measure => have := HK1.out; omega
              case rel => exact ⟨(x5_1), (wrap64 (x10_1 + 1)), (by first | rfl | (simp; done) | (simp [*]; done)), H', ⟨by have := HK1.out; omega⟩, ⟨by (with_reducible repeat (first | apply Kd.R_alloc | apply Kd.R_drewN | apply Kd.R_drew)); exact HO_5.out⟩, ⟨by repeat (first | (with_reducible first | exact HB.out | apply below_alloc | apply pw_below_drewN | apply below_drew1) | exact HB.out)⟩⟩
          · rw [if_neg c5] at H
            exact absurd H (by simp)
        · rw [if_neg c4] at H
          exact absurd H (by simp)
      · rw [if_neg c3] at H
        have c3b0 : decide (x10_1 < (l0.length : Int)) = false := decide_eq_false c3
        clear c3
        obtain rfl := Option.some.inj H
        go_wp2
        go_ret
        exact ⟨_, by first | rfl | (simp [errW_none, errW_some] <;> rfl) | (simp [*, errW_none, errW_some] <;> rfl), by (with_reducible repeat (first | apply Kd.R_alloc | apply Kd.R_drewN | apply Kd.R_drew)); exact HO_5.out, by repeat (first | (with_reducible first | exact HB.out | apply below_alloc | apply pw_below_drewN | apply below_drew1) | exact HB.out)⟩

/-! ### span_letter: function 143 -/
def span_letter.f (a0 : Int) : Option (Bool) := if a0 ≥ 97 then (if a0 ≤ 122 then (some true) else (if a0 ≥ 48 then (if a0 ≤ 57 then (some true) else (if a0 = 45 then (some true) else (if a0 = 46 then (some true) else (some (a0 == 95))))) else (if a0 = 45 then (some true) else (if a0 = 46 then (some true) else (some (a0 == 95)))))) else (if a0 ≥ 48 then (if a0 ≤ 57 then (some true) else (if a0 = 45 then (some true) else (if a0 = 46 then (some true) else (some (a0 == 95))))) else (if a0 = 45 then (some true) else (if a0 = 46 then (some true) else (some (a0 == 95)))))
set_option maxHeartbeats 8000000 in
set_option maxRecDepth 100000 in
theorem span_letter.calls (a0 : Int) (r : Bool) (w : World) (h : span_letter.f a0 = some r) :
    Calls Try.prog 143 #[.int .u8 a0] w fun e w' => e = .returned (.bool r) ∧ Drawn0 w w' := by
  have H : (if a0 ≥ 97 then (if a0 ≤ 122 then (some true) else (if a0 ≥ 48 then (if a0 ≤ 57 then (some true) else (if a0 = 45 then (some true) else (if a0 = 46 then (some true) else (some (a0 == 95))))) else (if a0 = 45 then (some true) else (if a0 = 46 then (some true) else (some (a0 == 95)))))) else (if a0 ≥ 48 then (if a0 ≤ 57 then (some true) else (if a0 = 45 then (some true) else (if a0 = 46 then (some true) else (some (a0 == 95))))) else (if a0 = 45 then (some true) else (if a0 = 46 then (some true) else (some (a0 == 95)))))) = some r := h
  clear h
  by_cases c2 : a0 ≥ 97
  · rw [if_pos c2] at H
    have c2b0 : decide (97 ≤ a0) = true := decide_eq_true c2
    clear c2
    by_cases c3 : a0 ≤ 122
    · rw [if_pos c3] at H
      have c3b0 : decide (a0 ≤ 122) = true := decide_eq_true c3
      clear c3
      obtain rfl := Option.some.inj H
      go_enter Try.func143, Try.ntmps143
      go_wp2
      go_ret
      exact ⟨by first | rfl | (simp; done) | (simp [*]; done), by repeat (first | exact Drawn0.refl _ | apply Drawn0.step)⟩
    · rw [if_neg c3] at H
      have c3b0 : decide (a0 ≤ 122) = false := decide_eq_false c3
      clear c3
      by_cases c4 : a0 ≥ 48
      · rw [if_pos c4] at H
        have c4b0 : decide (48 ≤ a0) = true := decide_eq_true c4
        clear c4
        by_cases c5 : a0 ≤ 57
        · rw [if_pos c5] at H
          have c5b0 : decide (a0 ≤ 57) = true := decide_eq_true c5
          clear c5
          obtain rfl := Option.some.inj H
          go_enter Try.func143, Try.ntmps143
          go_wp2
          go_ret
          exact ⟨by first | rfl | (simp; done) | (simp [*]; done), by repeat (first | exact Drawn0.refl _ | apply Drawn0.step)⟩
        · rw [if_neg c5] at H
          have c5b0 : decide (a0 ≤ 57) = false := decide_eq_false c5
          clear c5
          by_cases c6 : a0 = 45
          · rw [if_pos c6] at H
            have c6b0 : (a0 == 45) = true := beq_iff_eq.mpr c6
            have c6b1 : (a0 != 45) = false := bne_eq_false_iff_eq.mpr c6
            clear c6
            obtain rfl := Option.some.inj H
            go_enter Try.func143, Try.ntmps143
            go_wp2
            go_ret
            exact ⟨by first | rfl | (simp; done) | (simp [*]; done), by repeat (first | exact Drawn0.refl _ | apply Drawn0.step)⟩
          · rw [if_neg c6] at H
            have c6b0 : (a0 == 45) = false := beq_eq_false_iff_ne.mpr c6
            have c6b1 : (a0 != 45) = true := bne_iff_ne.mpr c6
            by_cases c7 : a0 = 46
            · rw [if_pos c7] at H
              have c7b0 : (a0 == 46) = true := beq_iff_eq.mpr c7
              have c7b1 : (a0 != 46) = false := bne_eq_false_iff_eq.mpr c7
              clear c7
              obtain rfl := Option.some.inj H
              go_enter Try.func143, Try.ntmps143
              go_wp2
              go_ret
              exact ⟨by first | rfl | (simp; done) | (simp [*]; done), by repeat (first | exact Drawn0.refl _ | apply Drawn0.step)⟩
            · rw [if_neg c7] at H
              have c7b0 : (a0 == 46) = false := beq_eq_false_iff_ne.mpr c7
              have c7b1 : (a0 != 46) = true := bne_iff_ne.mpr c7
              obtain rfl := Option.some.inj H
              go_enter Try.func143, Try.ntmps143
              go_wp2
              go_ret
              exact ⟨by first | rfl | (simp; done) | (simp [*]; done), by repeat (first | exact Drawn0.refl _ | apply Drawn0.step)⟩
      · rw [if_neg c4] at H
        have c4b0 : decide (48 ≤ a0) = false := decide_eq_false c4
        clear c4
        by_cases c8 : a0 = 45
        · rw [if_pos c8] at H
          have c8b0 : (a0 == 45) = true := beq_iff_eq.mpr c8
          have c8b1 : (a0 != 45) = false := bne_eq_false_iff_eq.mpr c8
          clear c8
          obtain rfl := Option.some.inj H
          go_enter Try.func143, Try.ntmps143
          go_wp2
          go_ret
          exact ⟨by first | rfl | (simp; done) | (simp [*]; done), by repeat (first | exact Drawn0.refl _ | apply Drawn0.step)⟩
        · rw [if_neg c8] at H
          have c8b0 : (a0 == 45) = false := beq_eq_false_iff_ne.mpr c8
          have c8b1 : (a0 != 45) = true := bne_iff_ne.mpr c8
          by_cases c9 : a0 = 46
          · rw [if_pos c9] at H
            have c9b0 : (a0 == 46) = true := beq_iff_eq.mpr c9
            have c9b1 : (a0 != 46) = false := bne_eq_false_iff_eq.mpr c9
            clear c9
            obtain rfl := Option.some.inj H
            go_enter Try.func143, Try.ntmps143
            go_wp2
            go_ret
            exact ⟨by first | rfl | (simp; done) | (simp [*]; done), by repeat (first | exact Drawn0.refl _ | apply Drawn0.step)⟩
          · rw [if_neg c9] at H
            have c9b0 : (a0 == 46) = false := beq_eq_false_iff_ne.mpr c9
            have c9b1 : (a0 != 46) = true := bne_iff_ne.mpr c9
            obtain rfl := Option.some.inj H
            go_enter Try.func143, Try.ntmps143
            go_wp2
            go_ret
            exact ⟨by first | rfl | (simp; done) | (simp [*]; done), by repeat (first | exact Drawn0.refl _ | apply Drawn0.step)⟩
  · rw [if_neg c2] at H
    have c2b0 : decide (97 ≤ a0) = false := decide_eq_false c2
    clear c2
    by_cases c10 : a0 ≥ 48
    · rw [if_pos c10] at H
      have c10b0 : decide (48 ≤ a0) = true := decide_eq_true c10
      clear c10
      by_cases c11 : a0 ≤ 57
      · rw [if_pos c11] at H
        have c11b0 : decide (a0 ≤ 57) = true := decide_eq_true c11
        clear c11
        obtain rfl := Option.some.inj H
        go_enter Try.func143, Try.ntmps143
        go_wp2
        go_ret
        exact ⟨by first | rfl | (simp; done) | (simp [*]; done), by repeat (first | exact Drawn0.refl _ | apply Drawn0.step)⟩
      · rw [if_neg c11] at H
        have c11b0 : decide (a0 ≤ 57) = false := decide_eq_false c11
        clear c11
        by_cases c12 : a0 = 45
        · rw [if_pos c12] at H
          have c12b0 : (a0 == 45) = true := beq_iff_eq.mpr c12
          have c12b1 : (a0 != 45) = false := bne_eq_false_iff_eq.mpr c12
          clear c12
          obtain rfl := Option.some.inj H
          go_enter Try.func143, Try.ntmps143
          go_wp2
          go_ret
          exact ⟨by first | rfl | (simp; done) | (simp [*]; done), by repeat (first | exact Drawn0.refl _ | apply Drawn0.step)⟩
        · rw [if_neg c12] at H
          have c12b0 : (a0 == 45) = false := beq_eq_false_iff_ne.mpr c12
          have c12b1 : (a0 != 45) = true := bne_iff_ne.mpr c12
          by_cases c13 : a0 = 46
          · rw [if_pos c13] at H
            have c13b0 : (a0 == 46) = true := beq_iff_eq.mpr c13
            have c13b1 : (a0 != 46) = false := bne_eq_false_iff_eq.mpr c13
            clear c13
            obtain rfl := Option.some.inj H
            go_enter Try.func143, Try.ntmps143
            go_wp2
            go_ret
            exact ⟨by first | rfl | (simp; done) | (simp [*]; done), by repeat (first | exact Drawn0.refl _ | apply Drawn0.step)⟩
          · rw [if_neg c13] at H
            have c13b0 : (a0 == 46) = false := beq_eq_false_iff_ne.mpr c13
            have c13b1 : (a0 != 46) = true := bne_iff_ne.mpr c13
            obtain rfl := Option.some.inj H
            go_enter Try.func143, Try.ntmps143
            go_wp2
            go_ret
            exact ⟨by first | rfl | (simp; done) | (simp [*]; done), by repeat (first | exact Drawn0.refl _ | apply Drawn0.step)⟩
    · rw [if_neg c10] at H
      have c10b0 : decide (48 ≤ a0) = false := decide_eq_false c10
      clear c10
      by_cases c14 : a0 = 45
      · rw [if_pos c14] at H
        have c14b0 : (a0 == 45) = true := beq_iff_eq.mpr c14
        have c14b1 : (a0 != 45) = false := bne_eq_false_iff_eq.mpr c14
        clear c14
        obtain rfl := Option.some.inj H
        go_enter Try.func143, Try.ntmps143
        go_wp2
        go_ret
        exact ⟨by first | rfl | (simp; done) | (simp [*]; done), by repeat (first | exact Drawn0.refl _ | apply Drawn0.step)⟩
      · rw [if_neg c14] at H
        have c14b0 : (a0 == 45) = false := beq_eq_false_iff_ne.mpr c14
        have c14b1 : (a0 != 45) = true := bne_iff_ne.mpr c14
        by_cases c15 : a0 = 46
        · rw [if_pos c15] at H
          have c15b0 : (a0 == 46) = true := beq_iff_eq.mpr c15
          have c15b1 : (a0 != 46) = false := bne_eq_false_iff_eq.mpr c15
          clear c15
          obtain rfl := Option.some.inj H
          go_enter Try.func143, Try.ntmps143
          go_wp2
          go_ret
          exact ⟨by first | rfl | (simp; done) | (simp [*]; done), by repeat (first | exact Drawn0.refl _ | apply Drawn0.step)⟩
        · rw [if_neg c15] at H
          have c15b0 : (a0 == 46) = false := beq_eq_false_iff_ne.mpr c15
          have c15b1 : (a0 != 46) = true := bne_iff_ne.mpr c15
          obtain rfl := Option.some.inj H
          go_enter Try.func143, Try.ntmps143
          go_wp2
          go_ret
          exact ⟨by first | rfl | (simp; done) | (simp [*]; done), by repeat (first | exact Drawn0.refl _ | apply Drawn0.step)⟩

/-! ### span_Name: function 96 -/
mutual
def span_Name.j0 : Nat → ByteArray → Bool → Option (Bool)
  | 0, _, _ => none
  | k + 1, x0, x11 => if x11 = true then (some false) else (span_Name.l0 k x0 (x0.size : Int) 0)
def span_Name.l0 : Nat → ByteArray → Int → Int → Option (Bool)
  | 0, _, _, _ => none
  | k + 1, x0, x13, x14 => if x14 < x13 then (if 0 ≤ x14 then (if x14 < (x0.size : Int) then ((span_letter.f (bt x0 x14)).bind fun t143 => (if t143 = true then (span_Name.l0 k x0 x13 (wrap64 (x14 + 1))) else (some false))) else (none)) else (none)) else (some true)
end
def span_Name.f (k : Nat) (a0 : ByteArray) : Option (Bool) := if (a0.size : Int) < 1 then (span_Name.j0 k a0 true) else (span_Name.j0 k a0 (decide ((a0.size : Int) > 16)))
theorem span_Name.mono_l : ∀ k, (∀ y0 y1, LeO (span_Name.j0 k y0 y1) (span_Name.j0 (k + 1) y0 y1)) ∧ (∀ y0 y1 y2, LeO (span_Name.l0 k y0 y1 y2) (span_Name.l0 (k + 1) y0 y1 y2))
  | 0 => ⟨fun _ _ r h => by simp [span_Name.j0] at h, fun _ _ _ r h => by simp [span_Name.l0] at h⟩
  | k + 1 => by
    obtain ⟨ih0, ih1⟩ := span_Name.mono_l k
    refine ⟨?_, ?_⟩
    · intro y0 y1
      unfold span_Name.j0
      repeat' first
      | (with_reducible exact ih0 _ _)
      | (with_reducible exact ih1 _ _ _)
      | (with_reducible exact LeO.refl _)
      | (with_reducible exact LeO.none _)
      | (with_reducible refine LeO.ite ?_ ?_)
      | (with_reducible refine LeO.bind ?_ (fun _ => ?_))
      | exact ih0 _ _
      | exact ih1 _ _ _
      | exact LeO.none _
      | refine LeO.ite ?_ ?_
      | refine LeO.bind ?_ (fun _ => ?_)
    · intro y0 y1 y2
      unfold span_Name.l0
      repeat' first
      | (with_reducible exact ih0 _ _)
      | (with_reducible exact ih1 _ _ _)
      | (with_reducible exact LeO.refl _)
      | (with_reducible exact LeO.none _)
      | (with_reducible refine LeO.ite ?_ ?_)
      | (with_reducible refine LeO.bind ?_ (fun _ => ?_))
      | exact ih0 _ _
      | exact ih1 _ _ _
      | exact LeO.none _
      | refine LeO.ite ?_ ?_
      | refine LeO.bind ?_ (fun _ => ?_)
theorem span_Name.mono : ∀ a0 k, LeO (span_Name.f k a0) (span_Name.f (k + 1) a0) := by
  intro a0 k
  obtain ⟨ih0, ih1⟩ := span_Name.mono_l k
  unfold span_Name.f
  repeat' first
      | (with_reducible exact ih0 _ _)
      | (with_reducible exact ih1 _ _ _)
      | (with_reducible exact LeO.refl _)
      | (with_reducible exact LeO.none _)
      | (with_reducible refine LeO.ite ?_ ?_)
      | (with_reducible refine LeO.bind ?_ (fun _ => ?_))
      | exact ih0 _ _
      | exact ih1 _ _ _
      | exact LeO.none _
      | refine LeO.ite ?_ ?_
      | refine LeO.bind ?_ (fun _ => ?_)
set_option maxHeartbeats 8000000 in
set_option maxRecDepth 100000 in
theorem span_Name.calls (k : Nat) (a0 : ByteArray) (r : Bool) (w : World) (h : span_Name.f k a0 = some r) :
    Calls Try.prog 96 #[.string a0] w fun e w' => e = .returned (.bool r) ∧ Drawn0 w w' := by
  have H : (if (a0.size : Int) < 1 then (span_Name.j0 k a0 true) else (span_Name.j0 k a0 (decide ((a0.size : Int) > 16)))) = some r := h
  clear h
  have HC2 := Aside0.mk H
  clear H
  go_enter Try.func96, Try.ntmps96
  go_upto_region 1 with (fail)
  go_cut [11] (fun v11 wc => ∃ (kq : Nat) (x11_1 : Bool), v11 = .bool x11_1 ∧ Aside0 (span_Name.j0 kq a0 x11_1 = some r) ∧ Aside0 (kq ≤ k) ∧ Drawn0 w wc)
  case first =>
    have H := HC2.out
    clear HC2
    by_cases c3 : (a0.size : Int) < 1
    · rw [if_pos c3] at H
      have c3b0 : decide ((a0.size : Int) < 1) = true := decide_eq_true c3
      have c3b1 : decide (a0.size < 1) = true := decide_eq_true (by omega)
      clear c3
      (first | rw [c3b0] | (simp only [i64_w, i32_w]; rw [c3b0]) | skip)
      have H' := Aside0.mk H
      clear H
      go_wp2
      go_meet
      case rel => exact ⟨_, (true), (by first | rfl | (simp; done) | (simp [*]; done)), H', ⟨by first | omega | exact Nat.le_refl _⟩, by repeat (first | exact Drawn0.refl _ | apply Drawn0.step)⟩
    · rw [if_neg c3] at H
      have c3b0 : decide ((a0.size : Int) < 1) = false := decide_eq_false c3
      have c3b1 : decide (a0.size < 1) = false := decide_eq_false (by omega)
      clear c3
      (first | rw [c3b0] | (simp only [i64_w, i32_w]; rw [c3b0]) | skip)
      have H' := Aside0.mk H
      clear H
      go_wp2
      go_meet
      case rel => exact ⟨_, (decide ((a0.size : Int) > 16)), (by first | rfl | (simp; done) | (simp [*]; done)), H', ⟨by first | omega | exact Nat.le_refl _⟩, by repeat (first | exact Drawn0.refl _ | apply Drawn0.step)⟩
  case rest =>
    clear HC2
    (try clear p2); (try clear c3); (try clear c3b0); (try clear c3b1)
    obtain ⟨kq, x11_1, rfl, HA, HJ1, ⟨mc1, rfl⟩⟩ := hcut
    cases kq with
    | zero => exact absurd HA.out (by simp [span_Name.j0])
    | succ kj1 =>
      have H := HA.out
      clear HA
      simp only [span_Name.j0] at H
      by_cases c4 : x11_1 = true
      · subst c4
        have H1 : (some false) = some r := by rw [if_pos rfl] at H; exact H
        clear H
        have H := H1
        clear H1
        obtain rfl := Option.some.inj H
        go_wp2
        go_ret
        exact ⟨by first | rfl | (simp; done) | (simp [*]; done), by repeat (first | exact Drawn0.refl _ | apply Drawn0.step)⟩
      · replace c4 := Bool.eq_false_iff.mpr c4
        subst c4
        have H1 : (span_Name.l0 kj1 a0 (a0.size : Int) 0) = some r := by rw [if_neg (show ¬ (false = true) by decide)] at H; exact H
        clear H
        have H := H1
        clear H1
        have H' := Aside0.mk H
        clear H
        go_wp2
        go_loopg [14] kj1 (fun kq v14 w' => ∃ (x14_2 : Int), v14 = .int .i64 x14_2 ∧ Aside0 (span_Name.l0 kq a0 (a0.size : Int) x14_2 = some r) ∧ Aside0 (kq ≤ kj1) ∧ Drawn0 w w')
        case atStart => exact ⟨(0), (by first | rfl | (simp; done) | (simp [*]; done)), H', ⟨Nat.le_refl _⟩, by repeat (first | exact Drawn0.refl _ | apply Drawn0.step)⟩
        case round =>
          clear H'
          (try clear c1); (try clear p2); (try clear c3); (try clear c3b0); (try clear c3b1); (try clear c4); (try clear p2)
          obtain ⟨x14_2, rfl, HA, HK2, ⟨m2, rfl⟩⟩ := hrel
          cases gk with
          | zero => exact absurd HA.out (by simp [span_Name.l0])
          | succ k2 =>
            have H := HA.out
            clear HA
            simp only [span_Name.l0] at H
            by_cases c5 : x14_2 < (a0.size : Int)
            · rw [if_pos c5] at H
              have c5b0 : decide (x14_2 < (a0.size : Int)) = true := decide_eq_true c5
              clear c5
              by_cases c6 : 0 ≤ x14_2
              · rw [if_pos c6] at H
                have c6b0 : decide (0 ≤ x14_2) = true := decide_eq_true c6
                clear c6
                by_cases c7 : x14_2 < (a0.size : Int)
                · rw [if_pos c7] at H
                  have c7b0 : decide (x14_2 < (a0.size : Int)) = true := decide_eq_true c7
                  clear c7
                  replace H := Option.bind_eq_some_iff.mp H
                  obtain ⟨t143, A90, H⟩ := H
                  replace H : (if t143 = true then (span_Name.l0 k2 a0 (a0.size : Int) (wrap64 (x14_2 + 1))) else (some false)) = some r := H
                  have A9 := Aside0.mk A90
                  clear A90
                  by_cases c10 : t143 = true
                  · subst c10
                    have H1 : (span_Name.l0 k2 a0 (a0.size : Int) (wrap64 (x14_2 + 1))) = some r := by rw [if_pos rfl] at H; exact H
                    clear H
                    have H := H1
                    clear H1
                    have H' := Aside0.mk H
                    clear H
                    have p8 : 0 ≤ (x14_2 : Int) := of_decide_eq_true (by first | (with_reducible assumption) | assumption)
                    have q8 : x14_2 < (a0.size : Int) := of_decide_eq_true (by first | (with_reducible assumption) | assumption)
                    have hx8 := bt_at a0 x14_2
                    replace p8 := eq_true p8
                    replace q8 := eq_true q8
                    go_wp2_with (first | ((with_reducible refine gate_callee (f := 143) rfl ?_); refine goesL_ (some 20) rfl rfl Try.func143 (by kernel_rfl) rfl #[.int .u8 (bt a0 x14_2)] rfl (by (try simp only [List.map_toArray, List.map_cons, List.map_nil]); first | done | rfl | (simp only [List.length_drop, List.length_take]; rfl)) ?_; (with_reducible refine (span_letter.calls (bt a0 x14_2) true _ A9.out).mono ?_); rintro e w' ⟨rfl, ⟨nd, rfl⟩⟩; refine ⟨_, rfl, ?_⟩))
                    go_roundg k2
                    case measure => have := HJ1.out; have := HK2.out; omega
                    case rel => exact ⟨(wrap64 (x14_2 + 1)), (by first | rfl | (simp; done) | (simp [*]; done)), H', ⟨by have := HJ1.out; have := HK2.out; omega⟩, by repeat (first | exact Drawn0.refl _ | apply Drawn0.step)⟩
                  · replace c10 := Bool.eq_false_iff.mpr c10
                    subst c10
                    have H1 : (some false) = some r := by rw [if_neg (show ¬ (false = true) by decide)] at H; exact H
                    clear H
                    have H := H1
                    clear H1
                    obtain rfl := Option.some.inj H
                    have p8 : 0 ≤ (x14_2 : Int) := of_decide_eq_true (by first | (with_reducible assumption) | assumption)
                    have q8 : x14_2 < (a0.size : Int) := of_decide_eq_true (by first | (with_reducible assumption) | assumption)
                    have hx8 := bt_at a0 x14_2
                    replace p8 := eq_true p8
                    replace q8 := eq_true q8
                    go_wp2_with (first | ((with_reducible refine gate_callee (f := 143) rfl ?_); refine goesL_ (some 20) rfl rfl Try.func143 (by kernel_rfl) rfl #[.int .u8 (bt a0 x14_2)] rfl (by (try simp only [List.map_toArray, List.map_cons, List.map_nil]); first | done | rfl | (simp only [List.length_drop, List.length_take]; rfl)) ?_; (with_reducible refine (span_letter.calls (bt a0 x14_2) false _ A9.out).mono ?_); rintro e w' ⟨rfl, ⟨nd, rfl⟩⟩; refine ⟨_, rfl, ?_⟩))
                    go_ret
                    exact ⟨by first | rfl | (simp; done) | (simp [*]; done), by repeat (first | exact Drawn0.refl _ | apply Drawn0.step)⟩
                · rw [if_neg c7] at H
                  exact absurd H (by simp)
              · rw [if_neg c6] at H
                exact absurd H (by simp)
            · rw [if_neg c5] at H
              have c5b0 : decide (x14_2 < (a0.size : Int)) = false := decide_eq_false c5
              clear c5
              obtain rfl := Option.some.inj H
              go_wp2
              go_ret
              exact ⟨by first | rfl | (simp; done) | (simp [*]; done), by repeat (first | exact Drawn0.refl _ | apply Drawn0.step)⟩

end Go.Proofs.Ytmfdhcgdibefiaa.Q

-- Written by wip/tools/gp.py, a program of this session round the kit's printer. Lean checks it.
namespace Go.Proofs.Ytmfdhcgdibefiaa.Q
open Go.RowKit Go.Proofs.YtmfdhcgdibefiaaW.PrintWords Go.Proofs.YtmfdhcgdibefiaaW.PrintLast Go.Proofs.YtmfdhcgdibefiaaW.PrintMore
attribute [local go_sem] max2_int min2_int max_two min_two max_three min_three max_four min_four   -- for this text's walks alone
set_option linter.unusedVariables false
set_option linter.unusedSimpArgs false

/-! ### span_May: function 43 -/
mutual
def span_May.j0 : Nat → Bool → Int → Int → Int → Int → ByteArray → ByteArray → Int → Int → Option (Bool)
  | 0, _, _, _, _, _, _, _, _, _ => none
  | k + 1, x3, x145000, x145001, x145002, x145003, x145004, x145005, x145006, x145007 => if x3 = true then (some false) else (if x145006 < 0 then (span_May.j1 k (decide (x145006 < 0)) x145000 x145001 x145002 x145003 x145004 x145005 x145006 x145007) else (if x145006 ≥ 1125899906842624 then (span_May.j1 k (decide (x145006 ≥ 1125899906842624)) x145000 x145001 x145002 x145003 x145004 x145005 x145006 x145007) else (if x145007 < 0 then (span_May.j1 k (decide (x145007 < 0)) x145000 x145001 x145002 x145003 x145004 x145005 x145006 x145007) else (span_May.j1 k (decide (x145007 > 1125899906842624)) x145000 x145001 x145002 x145003 x145004 x145005 x145006 x145007))))
def span_May.j1 : Nat → Bool → Int → Int → Int → Int → ByteArray → ByteArray → Int → Int → Option (Bool)
  | 0, _, _, _, _, _, _, _, _, _ => none
  | k + 1, x18, x145000, x145001, x145002, x145003, x145004, x145005, x145006, x145007 => if x18 = true then (some false) else ((span_Name.f k x145004).bind fun t145 => (if t145 = true then ((span_Name.f k x145005).bind fun t146 => (some t146)) else (some false)))
end
def span_May.f (k : Nat) (a0_0 : Int) (a0_1 : Int) (a0_2 : Int) (a0_3 : Int) (a0_4 : ByteArray) (a0_5 : ByteArray) (a0_6 : Int) (a0_7 : Int) : Option (Bool) := if a0_0 = 0 then (span_May.j0 k (a0_0 == 0) a0_0 a0_1 a0_2 a0_3 a0_4 a0_5 a0_6 a0_7) else (if a0_1 = 0 then (span_May.j0 k (a0_1 == 0) a0_0 a0_1 a0_2 a0_3 a0_4 a0_5 a0_6 a0_7) else (if a0_2 = a0_1 then (span_May.j0 k (a0_2 == a0_1) a0_0 a0_1 a0_2 a0_3 a0_4 a0_5 a0_6 a0_7) else (span_May.j0 k (decide (a0_3 > 2)) a0_0 a0_1 a0_2 a0_3 a0_4 a0_5 a0_6 a0_7)))
theorem span_May.mono_l : ∀ k, (∀ y0 y1 y2 y3 y4 y5 y6 y7 y8, LeO (span_May.j0 k y0 y1 y2 y3 y4 y5 y6 y7 y8) (span_May.j0 (k + 1) y0 y1 y2 y3 y4 y5 y6 y7 y8)) ∧ (∀ y0 y1 y2 y3 y4 y5 y6 y7 y8, LeO (span_May.j1 k y0 y1 y2 y3 y4 y5 y6 y7 y8) (span_May.j1 (k + 1) y0 y1 y2 y3 y4 y5 y6 y7 y8))
  | 0 => ⟨fun _ _ _ _ _ _ _ _ _ r h => by simp [span_May.j0] at h, fun _ _ _ _ _ _ _ _ _ r h => by simp [span_May.j1] at h⟩
  | k + 1 => by
    obtain ⟨ih0, ih1⟩ := span_May.mono_l k
    refine ⟨?_, ?_⟩
    · intro y0 y1 y2 y3 y4 y5 y6 y7 y8
      unfold span_May.j0
      repeat' first
      | (with_reducible exact ih0 _ _ _ _ _ _ _ _ _)
      | (with_reducible exact ih1 _ _ _ _ _ _ _ _ _)
      | (with_reducible exact span_Name.mono _ _)
      | (with_reducible exact LeO.refl _)
      | (with_reducible exact LeO.none _)
      | (with_reducible refine LeO.ite ?_ ?_)
      | (with_reducible refine LeO.bind ?_ (fun _ => ?_))
      | exact ih0 _ _ _ _ _ _ _ _ _
      | exact ih1 _ _ _ _ _ _ _ _ _
      | exact span_Name.mono _ _
      | exact LeO.none _
      | refine LeO.ite ?_ ?_
      | refine LeO.bind ?_ (fun _ => ?_)
    · intro y0 y1 y2 y3 y4 y5 y6 y7 y8
      unfold span_May.j1
      repeat' first
      | (with_reducible exact ih0 _ _ _ _ _ _ _ _ _)
      | (with_reducible exact ih1 _ _ _ _ _ _ _ _ _)
      | (with_reducible exact span_Name.mono _ _)
      | (with_reducible exact LeO.refl _)
      | (with_reducible exact LeO.none _)
      | (with_reducible refine LeO.ite ?_ ?_)
      | (with_reducible refine LeO.bind ?_ (fun _ => ?_))
      | exact ih0 _ _ _ _ _ _ _ _ _
      | exact ih1 _ _ _ _ _ _ _ _ _
      | exact span_Name.mono _ _
      | exact LeO.none _
      | refine LeO.ite ?_ ?_
      | refine LeO.bind ?_ (fun _ => ?_)
theorem span_May.mono : ∀ a0 a1 a2 a3 a4 a5 a6 a7 k, LeO (span_May.f k a0 a1 a2 a3 a4 a5 a6 a7) (span_May.f (k + 1) a0 a1 a2 a3 a4 a5 a6 a7) := by
  intro a0 a1 a2 a3 a4 a5 a6 a7 k
  obtain ⟨ih0, ih1⟩ := span_May.mono_l k
  unfold span_May.f
  repeat' first
      | (with_reducible exact ih0 _ _ _ _ _ _ _ _ _)
      | (with_reducible exact ih1 _ _ _ _ _ _ _ _ _)
      | (with_reducible exact span_Name.mono _ _)
      | (with_reducible exact LeO.refl _)
      | (with_reducible exact LeO.none _)
      | (with_reducible refine LeO.ite ?_ ?_)
      | (with_reducible refine LeO.bind ?_ (fun _ => ?_))
      | exact ih0 _ _ _ _ _ _ _ _ _
      | exact ih1 _ _ _ _ _ _ _ _ _
      | exact span_Name.mono _ _
      | exact LeO.none _
      | refine LeO.ite ?_ ?_
      | refine LeO.bind ?_ (fun _ => ?_)
set_option maxHeartbeats 8000000 in
set_option maxRecDepth 100000 in
theorem span_May.calls (k : Nat) (a0_0 : Int) (a0_1 : Int) (a0_2 : Int) (a0_3 : Int) (a0_4 : ByteArray) (a0_5 : ByteArray) (a0_6 : Int) (a0_7 : Int) (r : Bool) (w : World) (h : span_May.f k a0_0 a0_1 a0_2 a0_3 a0_4 a0_5 a0_6 a0_7 = some r) :
    Calls Try.prog 43 #[.agg #[.int .u64 a0_0, .int .u64 a0_1, .int .u64 a0_2, .int .u8 a0_3, .string a0_4, .string a0_5, .int .i64 a0_6, .int .i64 a0_7]] w fun e w' => e = .returned (.bool r) ∧ Below w.heap.size w w' := by
  have hu37 := Try.underlying37
  have HB := Aside0.mk (Below.refl w.heap.size w)
  have H : (if a0_0 = 0 then (span_May.j0 k (a0_0 == 0) a0_0 a0_1 a0_2 a0_3 a0_4 a0_5 a0_6 a0_7) else (if a0_1 = 0 then (span_May.j0 k (a0_1 == 0) a0_0 a0_1 a0_2 a0_3 a0_4 a0_5 a0_6 a0_7) else (if a0_2 = a0_1 then (span_May.j0 k (a0_2 == a0_1) a0_0 a0_1 a0_2 a0_3 a0_4 a0_5 a0_6 a0_7) else (span_May.j0 k (decide (a0_3 > 2)) a0_0 a0_1 a0_2 a0_3 a0_4 a0_5 a0_6 a0_7)))) = some r := h
  clear h
  have HC2 := Aside0.mk H
  clear H
  go_enter Try.func43, Try.ntmps43
  go_upto_if 3 with (first | ((with_reducible refine gate_dst (N := 1) rfl ?_); refine box_event ?hg (N := 1) ?hd (cs := #[.int .u64 a0_0, .int .u64 a0_1, .int .u64 a0_2, .int .u8 a0_3, .string a0_4, .string a0_5, .int .i64 a0_6, .int .i64 a0_7]) (t := 37) ?hr ?_; (case hd => rfl); (case hg => rfl); (case hr => first | (go_simp; done) | (go_simp; rfl)); intro gb144 hg w3 hbox hb; have n0_ := Aside0.mk (below_step (by repeat (first | (with_reducible first | exact HB.out | apply below_alloc | apply pw_below_drewN | apply below_drew1) | exact HB.out)) hb); have n1_ := Aside0.mk (hbox); have n2_ := Aside0.mk ((by rw [hg]; exact (below_size (by repeat (first | (with_reducible first | exact HB.out | apply below_alloc | apply pw_below_drewN | apply below_drew1) | exact HB.out))) : w.heap.size ≤ gb144)); have n3_ := Aside0.mk ((by rw [hg]; exact (below_size (by repeat (first | (with_reducible first | exact HB.out | apply below_alloc | apply pw_below_drewN | apply below_drew1) | exact HB.out))) : w.heap.size ≤ gb144)); clear HB; have HB := n0_; have BK144 := n1_; have GW144 := n2_; have GE144 := n3_; clear n0_ n1_ n2_ n3_; clear hb hbox hg; have hcz4_0 : w3.cell? ⟨gb144, 0, none⟩ = some (.int .u64 a0_0) := (blk_cell BK144.out 0).trans rfl; have hcz4_1 : w3.cell? ⟨gb144, 1, none⟩ = some (.int .u64 a0_1) := (blk_cell BK144.out 1).trans rfl; have hcz4_2 : w3.cell? ⟨gb144, 2, none⟩ = some (.int .u64 a0_2) := (blk_cell BK144.out 2).trans rfl; have hcz4_3 : w3.cell? ⟨gb144, 3, none⟩ = some (.int .u8 a0_3) := (blk_cell BK144.out 3).trans rfl; have hcz4_4 : w3.cell? ⟨gb144, 4, none⟩ = some (.string a0_4) := (blk_cell BK144.out 4).trans rfl; have hcz4_5 : w3.cell? ⟨gb144, 5, none⟩ = some (.string a0_5) := (blk_cell BK144.out 5).trans rfl; have hcz4_6 : w3.cell? ⟨gb144, 6, none⟩ = some (.int .i64 a0_6) := (blk_cell BK144.out 6).trans rfl; have hcz4_7 : w3.cell? ⟨gb144, 7, none⟩ = some (.int .i64 a0_7) := (blk_cell BK144.out 7).trans rfl; have hfz4_0 := blk_frozen BK144.out 0; have hfz4_1 := blk_frozen BK144.out 1; have hfz4_2 := blk_frozen BK144.out 2; have hfz4_3 := blk_frozen BK144.out 3; have hfz4_4 := blk_frozen BK144.out 4; have hfz4_5 := blk_frozen BK144.out 5; have hfz4_6 := blk_frozen BK144.out 6; have hfz4_7 := blk_frozen BK144.out 7))
  (try simp only [Act.put, List.setIfInBounds_toArray, List.set_cons_zero, List.set_cons_succ])
  go_cut [3] (fun v3 wc => ∃ (kq : Nat) (x3_1 : Bool), v3 = .bool x3_1 ∧ Aside0 (span_May.j0 kq x3_1 a0_0 a0_1 a0_2 a0_3 a0_4 a0_5 a0_6 a0_7 = some r) ∧ Aside0 (kq ≤ k) ∧ Aside0 (wc.heap[gb144]? = some (.cells #[.int .u64 a0_0, .int .u64 a0_1, .int .u64 a0_2, .int .u8 a0_3, .string a0_4, .string a0_5, .int .i64 a0_6, .int .i64 a0_7] 37 (0, 0))) ∧ Aside0 (Below w.heap.size w wc))
  case first =>
    have H := HC2.out
    clear HC2
    by_cases c5 : a0_0 = 0
    · rw [if_pos c5] at H
      have c5b0 : (a0_0 == 0) = true := beq_iff_eq.mpr c5
      have c5b1 : (a0_0 != 0) = false := bne_eq_false_iff_eq.mpr c5
      clear c5
      (first | rw [c5b0] | (simp only [i64_w, i32_w]; rw [c5b0]) | skip)
      have H' := Aside0.mk H
      clear H
      go_wp2
      go_meet
      case rel => exact ⟨_, ((a0_0 == 0)), (by first | rfl | (simp; done) | (simp [*]; done)), H', ⟨by first | omega | exact Nat.le_refl _⟩, ⟨by (with_reducible repeat (first | refine blk_drewN ?_ _ | refine blk_drew ?_ | refine blk_alloc ?_ _)); exact BK144.out⟩, ⟨by repeat (first | (with_reducible first | exact HB.out | apply below_alloc | apply pw_below_drewN | apply below_drew1 | refine below_set ?_ GE144.out) | exact HB.out)⟩⟩
    · rw [if_neg c5] at H
      have c5b0 : (a0_0 == 0) = false := beq_eq_false_iff_ne.mpr c5
      have c5b1 : (a0_0 != 0) = true := bne_iff_ne.mpr c5
      (first | rw [c5b0] | (simp only [i64_w, i32_w]; rw [c5b0]) | skip)
      by_cases c6 : a0_1 = 0
      · rw [if_pos c6] at H
        have c6b0 : (a0_1 == 0) = true := beq_iff_eq.mpr c6
        have c6b1 : (a0_1 != 0) = false := bne_eq_false_iff_eq.mpr c6
        clear c6
        have H' := Aside0.mk H
        clear H
        have hcz7_0 : w3.cell? ⟨gb144, 0, none⟩ = some (.int .u64 a0_0) := (blk_cell BK144.out 0).trans rfl
        have hcz7_1 : w3.cell? ⟨gb144, 1, none⟩ = some (.int .u64 a0_1) := (blk_cell BK144.out 1).trans rfl
        have hcz7_2 : w3.cell? ⟨gb144, 2, none⟩ = some (.int .u64 a0_2) := (blk_cell BK144.out 2).trans rfl
        have hcz7_3 : w3.cell? ⟨gb144, 3, none⟩ = some (.int .u8 a0_3) := (blk_cell BK144.out 3).trans rfl
        have hcz7_4 : w3.cell? ⟨gb144, 4, none⟩ = some (.string a0_4) := (blk_cell BK144.out 4).trans rfl
        have hcz7_5 : w3.cell? ⟨gb144, 5, none⟩ = some (.string a0_5) := (blk_cell BK144.out 5).trans rfl
        have hcz7_6 : w3.cell? ⟨gb144, 6, none⟩ = some (.int .i64 a0_6) := (blk_cell BK144.out 6).trans rfl
        have hcz7_7 : w3.cell? ⟨gb144, 7, none⟩ = some (.int .i64 a0_7) := (blk_cell BK144.out 7).trans rfl
        have hfz7_0 := blk_frozen BK144.out 0
        have hfz7_1 := blk_frozen BK144.out 1
        have hfz7_2 := blk_frozen BK144.out 2
        have hfz7_3 := blk_frozen BK144.out 3
        have hfz7_4 := blk_frozen BK144.out 4
        have hfz7_5 := blk_frozen BK144.out 5
        have hfz7_6 := blk_frozen BK144.out 6
        have hfz7_7 := blk_frozen BK144.out 7
        go_wp2
        go_meet
        case rel => exact ⟨_, ((a0_1 == 0)), (by first | rfl | (simp; done) | (simp [*]; done)), H', ⟨by first | omega | exact Nat.le_refl _⟩, ⟨by (with_reducible repeat (first | refine blk_drewN ?_ _ | refine blk_drew ?_ | refine blk_alloc ?_ _)); exact BK144.out⟩, ⟨by repeat (first | (with_reducible first | exact HB.out | apply below_alloc | apply pw_below_drewN | apply below_drew1 | refine below_set ?_ GE144.out) | exact HB.out)⟩⟩
      · rw [if_neg c6] at H
        have c6b0 : (a0_1 == 0) = false := beq_eq_false_iff_ne.mpr c6
        have c6b1 : (a0_1 != 0) = true := bne_iff_ne.mpr c6
        by_cases c8 : a0_2 = a0_1
        · rw [if_pos c8] at H
          have c8b0 : (a0_2 == a0_1) = true := beq_iff_eq.mpr c8
          have c8b1 : (a0_2 != a0_1) = false := bne_eq_false_iff_eq.mpr c8
          clear c8
          have H' := Aside0.mk H
          clear H
          have hcz9_0 : w3.cell? ⟨gb144, 0, none⟩ = some (.int .u64 a0_0) := (blk_cell BK144.out 0).trans rfl
          have hcz9_1 : w3.cell? ⟨gb144, 1, none⟩ = some (.int .u64 a0_1) := (blk_cell BK144.out 1).trans rfl
          have hcz9_2 : w3.cell? ⟨gb144, 2, none⟩ = some (.int .u64 a0_2) := (blk_cell BK144.out 2).trans rfl
          have hcz9_3 : w3.cell? ⟨gb144, 3, none⟩ = some (.int .u8 a0_3) := (blk_cell BK144.out 3).trans rfl
          have hcz9_4 : w3.cell? ⟨gb144, 4, none⟩ = some (.string a0_4) := (blk_cell BK144.out 4).trans rfl
          have hcz9_5 : w3.cell? ⟨gb144, 5, none⟩ = some (.string a0_5) := (blk_cell BK144.out 5).trans rfl
          have hcz9_6 : w3.cell? ⟨gb144, 6, none⟩ = some (.int .i64 a0_6) := (blk_cell BK144.out 6).trans rfl
          have hcz9_7 : w3.cell? ⟨gb144, 7, none⟩ = some (.int .i64 a0_7) := (blk_cell BK144.out 7).trans rfl
          have hfz9_0 := blk_frozen BK144.out 0
          have hfz9_1 := blk_frozen BK144.out 1
          have hfz9_2 := blk_frozen BK144.out 2
          have hfz9_3 := blk_frozen BK144.out 3
          have hfz9_4 := blk_frozen BK144.out 4
          have hfz9_5 := blk_frozen BK144.out 5
          have hfz9_6 := blk_frozen BK144.out 6
          have hfz9_7 := blk_frozen BK144.out 7
          go_wp2
          go_meet
          case rel => exact ⟨_, ((a0_2 == a0_1)), (by first | rfl | (simp; done) | (simp [*]; done)), H', ⟨by first | omega | exact Nat.le_refl _⟩, ⟨by (with_reducible repeat (first | refine blk_drewN ?_ _ | refine blk_drew ?_ | refine blk_alloc ?_ _)); exact BK144.out⟩, ⟨by repeat (first | (with_reducible first | exact HB.out | apply below_alloc | apply pw_below_drewN | apply below_drew1 | refine below_set ?_ GE144.out) | exact HB.out)⟩⟩
        · rw [if_neg c8] at H
          have c8b0 : (a0_2 == a0_1) = false := beq_eq_false_iff_ne.mpr c8
          have c8b1 : (a0_2 != a0_1) = true := bne_iff_ne.mpr c8
          have H' := Aside0.mk H
          clear H
          have hcz10_0 : w3.cell? ⟨gb144, 0, none⟩ = some (.int .u64 a0_0) := (blk_cell BK144.out 0).trans rfl
          have hcz10_1 : w3.cell? ⟨gb144, 1, none⟩ = some (.int .u64 a0_1) := (blk_cell BK144.out 1).trans rfl
          have hcz10_2 : w3.cell? ⟨gb144, 2, none⟩ = some (.int .u64 a0_2) := (blk_cell BK144.out 2).trans rfl
          have hcz10_3 : w3.cell? ⟨gb144, 3, none⟩ = some (.int .u8 a0_3) := (blk_cell BK144.out 3).trans rfl
          have hcz10_4 : w3.cell? ⟨gb144, 4, none⟩ = some (.string a0_4) := (blk_cell BK144.out 4).trans rfl
          have hcz10_5 : w3.cell? ⟨gb144, 5, none⟩ = some (.string a0_5) := (blk_cell BK144.out 5).trans rfl
          have hcz10_6 : w3.cell? ⟨gb144, 6, none⟩ = some (.int .i64 a0_6) := (blk_cell BK144.out 6).trans rfl
          have hcz10_7 : w3.cell? ⟨gb144, 7, none⟩ = some (.int .i64 a0_7) := (blk_cell BK144.out 7).trans rfl
          have hfz10_0 := blk_frozen BK144.out 0
          have hfz10_1 := blk_frozen BK144.out 1
          have hfz10_2 := blk_frozen BK144.out 2
          have hfz10_3 := blk_frozen BK144.out 3
          have hfz10_4 := blk_frozen BK144.out 4
          have hfz10_5 := blk_frozen BK144.out 5
          have hfz10_6 := blk_frozen BK144.out 6
          have hfz10_7 := blk_frozen BK144.out 7
          go_wp2
          go_meet
          case rel => exact ⟨_, (decide (a0_3 > 2)), (by first | rfl | (simp; done) | (simp [*]; done)), H', ⟨by first | omega | exact Nat.le_refl _⟩, ⟨by (with_reducible repeat (first | refine blk_drewN ?_ _ | refine blk_drew ?_ | refine blk_alloc ?_ _)); exact BK144.out⟩, ⟨by repeat (first | (with_reducible first | exact HB.out | apply below_alloc | apply pw_below_drewN | apply below_drew1 | refine below_set ?_ GE144.out) | exact HB.out)⟩⟩
  case rest =>
    clear HC2
    (try clear p2); (try clear c4); (try clear c5); (try clear c5b0); (try clear c5b1); (try clear c6); (try clear c6b0); (try clear c6b1); (try clear c8); (try clear c8b0); (try clear c8b1); (try clear hcz10_0); (try clear hcz10_1); (try clear hcz10_2); (try clear hcz10_3); (try clear hcz10_4); (try clear hcz10_5); (try clear hcz10_6); (try clear hcz10_7); (try clear hcz4_0); (try clear hcz4_1); (try clear hcz4_2); (try clear hcz4_3); (try clear hcz4_4); (try clear hcz4_5); (try clear hcz4_6); (try clear hcz4_7); (try clear hcz7_0); (try clear hcz7_1); (try clear hcz7_2); (try clear hcz7_3); (try clear hcz7_4); (try clear hcz7_5); (try clear hcz7_6); (try clear hcz7_7); (try clear hcz9_0); (try clear hcz9_1); (try clear hcz9_2); (try clear hcz9_3); (try clear hcz9_4); (try clear hcz9_5); (try clear hcz9_6); (try clear hcz9_7); (try clear hfz10_0); (try clear hfz10_1); (try clear hfz10_2); (try clear hfz10_3); (try clear hfz10_4); (try clear hfz10_5); (try clear hfz10_6); (try clear hfz10_7); (try clear hfz4_0); (try clear hfz4_1); (try clear hfz4_2); (try clear hfz4_3); (try clear hfz4_4); (try clear hfz4_5); (try clear hfz4_6); (try clear hfz4_7); (try clear hfz7_0); (try clear hfz7_1); (try clear hfz7_2); (try clear hfz7_3); (try clear hfz7_4); (try clear hfz7_5); (try clear hfz7_6); (try clear hfz7_7); (try clear hfz9_0); (try clear hfz9_1); (try clear hfz9_2); (try clear hfz9_3); (try clear hfz9_4); (try clear hfz9_5); (try clear hfz9_6); (try clear hfz9_7)
    obtain ⟨kq, x3_1, rfl, HA, HJ1, BK144, HB⟩ := hcut
    cases kq with
    | zero => exact absurd HA.out (by simp [span_May.j0])
    | succ kj1 =>
      have H := HA.out
      clear HA
      simp only [span_May.j0] at H
      by_cases c11 : x3_1 = true
      · subst c11
        have H1 : (some false) = some r := by rw [if_pos rfl] at H; exact H
        clear H
        have H := H1
        clear H1
        obtain rfl := Option.some.inj H
        go_wp2
        go_ret
        exact ⟨by first | rfl | (simp [errW_none, errW_some] <;> rfl) | (simp [*, errW_none, errW_some] <;> rfl), by repeat (first | (with_reducible first | exact HB.out | apply below_alloc | apply pw_below_drewN | apply below_drew1 | refine below_set ?_ GE144.out) | exact HB.out)⟩
      · replace c11 := Bool.eq_false_iff.mpr c11
        subst c11
        have H1 : (if a0_6 < 0 then (span_May.j1 kj1 (decide (a0_6 < 0)) a0_0 a0_1 a0_2 a0_3 a0_4 a0_5 a0_6 a0_7) else (if a0_6 ≥ 1125899906842624 then (span_May.j1 kj1 (decide (a0_6 ≥ 1125899906842624)) a0_0 a0_1 a0_2 a0_3 a0_4 a0_5 a0_6 a0_7) else (if a0_7 < 0 then (span_May.j1 kj1 (decide (a0_7 < 0)) a0_0 a0_1 a0_2 a0_3 a0_4 a0_5 a0_6 a0_7) else (span_May.j1 kj1 (decide (a0_7 > 1125899906842624)) a0_0 a0_1 a0_2 a0_3 a0_4 a0_5 a0_6 a0_7)))) = some r := by rw [if_neg (show ¬ (false = true) by decide)] at H; exact H
        clear H
        have H := H1
        clear H1
        have HC12 := Aside0.mk H
        clear H
        have hcz13_0 : wc.cell? ⟨gb144, 0, none⟩ = some (.int .u64 a0_0) := (blk_cell BK144.out 0).trans rfl
        have hcz13_1 : wc.cell? ⟨gb144, 1, none⟩ = some (.int .u64 a0_1) := (blk_cell BK144.out 1).trans rfl
        have hcz13_2 : wc.cell? ⟨gb144, 2, none⟩ = some (.int .u64 a0_2) := (blk_cell BK144.out 2).trans rfl
        have hcz13_3 : wc.cell? ⟨gb144, 3, none⟩ = some (.int .u8 a0_3) := (blk_cell BK144.out 3).trans rfl
        have hcz13_4 : wc.cell? ⟨gb144, 4, none⟩ = some (.string a0_4) := (blk_cell BK144.out 4).trans rfl
        have hcz13_5 : wc.cell? ⟨gb144, 5, none⟩ = some (.string a0_5) := (blk_cell BK144.out 5).trans rfl
        have hcz13_6 : wc.cell? ⟨gb144, 6, none⟩ = some (.int .i64 a0_6) := (blk_cell BK144.out 6).trans rfl
        have hcz13_7 : wc.cell? ⟨gb144, 7, none⟩ = some (.int .i64 a0_7) := (blk_cell BK144.out 7).trans rfl
        have hfz13_0 := blk_frozen BK144.out 0
        have hfz13_1 := blk_frozen BK144.out 1
        have hfz13_2 := blk_frozen BK144.out 2
        have hfz13_3 := blk_frozen BK144.out 3
        have hfz13_4 := blk_frozen BK144.out 4
        have hfz13_5 := blk_frozen BK144.out 5
        have hfz13_6 := blk_frozen BK144.out 6
        have hfz13_7 := blk_frozen BK144.out 7
        go_upto_if 18 with (fail)
        go_cut [18] (fun v18 wc => ∃ (kq : Nat) (x18_11 : Bool), v18 = .bool x18_11 ∧ Aside0 (span_May.j1 kq x18_11 a0_0 a0_1 a0_2 a0_3 a0_4 a0_5 a0_6 a0_7 = some r) ∧ Aside0 (kq ≤ kj1) ∧ Aside0 (wc.heap[gb144]? = some (.cells #[.int .u64 a0_0, .int .u64 a0_1, .int .u64 a0_2, .int .u8 a0_3, .string a0_4, .string a0_5, .int .i64 a0_6, .int .i64 a0_7] 37 (0, 0))) ∧ Aside0 (Below w.heap.size w wc))
        case first =>
          have H := HC12.out
          clear HC12
          by_cases c14 : a0_6 < 0
          · rw [if_pos c14] at H
            have c14b0 : decide (a0_6 < 0) = true := decide_eq_true c14
            clear c14
            (first | rw [c14b0] | (simp only [i64_w, i32_w]; rw [c14b0]) | skip)
            have H' := Aside0.mk H
            clear H
            go_wp2
            go_meet
            case rel => exact ⟨_, (decide (a0_6 < 0)), (by first | rfl | (simp; done) | (simp [*]; done)), H', ⟨by have := HJ1.out; first | omega | exact Nat.le_refl _⟩, ⟨by (with_reducible repeat (first | refine blk_drewN ?_ _ | refine blk_drew ?_ | refine blk_alloc ?_ _)); exact BK144.out⟩, ⟨by repeat (first | (with_reducible first | exact HB.out | apply below_alloc | apply pw_below_drewN | apply below_drew1 | refine below_set ?_ GE144.out) | exact HB.out)⟩⟩
          · rw [if_neg c14] at H
            have c14b0 : decide (a0_6 < 0) = false := decide_eq_false c14
            clear c14
            (first | rw [c14b0] | (simp only [i64_w, i32_w]; rw [c14b0]) | skip)
            by_cases c15 : a0_6 ≥ 1125899906842624
            · rw [if_pos c15] at H
              have c15b0 : decide (1125899906842624 ≤ a0_6) = true := decide_eq_true c15
              clear c15
              have H' := Aside0.mk H
              clear H
              have hcz16_0 : wc.cell? ⟨gb144, 0, none⟩ = some (.int .u64 a0_0) := (blk_cell BK144.out 0).trans rfl
              have hcz16_1 : wc.cell? ⟨gb144, 1, none⟩ = some (.int .u64 a0_1) := (blk_cell BK144.out 1).trans rfl
              have hcz16_2 : wc.cell? ⟨gb144, 2, none⟩ = some (.int .u64 a0_2) := (blk_cell BK144.out 2).trans rfl
              have hcz16_3 : wc.cell? ⟨gb144, 3, none⟩ = some (.int .u8 a0_3) := (blk_cell BK144.out 3).trans rfl
              have hcz16_4 : wc.cell? ⟨gb144, 4, none⟩ = some (.string a0_4) := (blk_cell BK144.out 4).trans rfl
              have hcz16_5 : wc.cell? ⟨gb144, 5, none⟩ = some (.string a0_5) := (blk_cell BK144.out 5).trans rfl
              have hcz16_6 : wc.cell? ⟨gb144, 6, none⟩ = some (.int .i64 a0_6) := (blk_cell BK144.out 6).trans rfl
              have hcz16_7 : wc.cell? ⟨gb144, 7, none⟩ = some (.int .i64 a0_7) := (blk_cell BK144.out 7).trans rfl
              have hfz16_0 := blk_frozen BK144.out 0
              have hfz16_1 := blk_frozen BK144.out 1
              have hfz16_2 := blk_frozen BK144.out 2
              have hfz16_3 := blk_frozen BK144.out 3
              have hfz16_4 := blk_frozen BK144.out 4
              have hfz16_5 := blk_frozen BK144.out 5
              have hfz16_6 := blk_frozen BK144.out 6
              have hfz16_7 := blk_frozen BK144.out 7
              go_wp2
              go_meet
              case rel => exact ⟨_, (decide (a0_6 ≥ 1125899906842624)), (by first | rfl | (simp; done) | (simp [*]; done)), H', ⟨by have := HJ1.out; first | omega | exact Nat.le_refl _⟩, ⟨by (with_reducible repeat (first | refine blk_drewN ?_ _ | refine blk_drew ?_ | refine blk_alloc ?_ _)); exact BK144.out⟩, ⟨by repeat (first | (with_reducible first | exact HB.out | apply below_alloc | apply pw_below_drewN | apply below_drew1 | refine below_set ?_ GE144.out) | exact HB.out)⟩⟩
            · rw [if_neg c15] at H
              have c15b0 : decide (1125899906842624 ≤ a0_6) = false := decide_eq_false c15
              clear c15
              by_cases c17 : a0_7 < 0
              · rw [if_pos c17] at H
                have c17b0 : decide (a0_7 < 0) = true := decide_eq_true c17
                clear c17
                have H' := Aside0.mk H
                clear H
                have hcz18_0 : wc.cell? ⟨gb144, 0, none⟩ = some (.int .u64 a0_0) := (blk_cell BK144.out 0).trans rfl
                have hcz18_1 : wc.cell? ⟨gb144, 1, none⟩ = some (.int .u64 a0_1) := (blk_cell BK144.out 1).trans rfl
                have hcz18_2 : wc.cell? ⟨gb144, 2, none⟩ = some (.int .u64 a0_2) := (blk_cell BK144.out 2).trans rfl
                have hcz18_3 : wc.cell? ⟨gb144, 3, none⟩ = some (.int .u8 a0_3) := (blk_cell BK144.out 3).trans rfl
                have hcz18_4 : wc.cell? ⟨gb144, 4, none⟩ = some (.string a0_4) := (blk_cell BK144.out 4).trans rfl
                have hcz18_5 : wc.cell? ⟨gb144, 5, none⟩ = some (.string a0_5) := (blk_cell BK144.out 5).trans rfl
                have hcz18_6 : wc.cell? ⟨gb144, 6, none⟩ = some (.int .i64 a0_6) := (blk_cell BK144.out 6).trans rfl
                have hcz18_7 : wc.cell? ⟨gb144, 7, none⟩ = some (.int .i64 a0_7) := (blk_cell BK144.out 7).trans rfl
                have hfz18_0 := blk_frozen BK144.out 0
                have hfz18_1 := blk_frozen BK144.out 1
                have hfz18_2 := blk_frozen BK144.out 2
                have hfz18_3 := blk_frozen BK144.out 3
                have hfz18_4 := blk_frozen BK144.out 4
                have hfz18_5 := blk_frozen BK144.out 5
                have hfz18_6 := blk_frozen BK144.out 6
                have hfz18_7 := blk_frozen BK144.out 7
                go_wp2
                go_meet
                case rel => exact ⟨_, (decide (a0_7 < 0)), (by first | rfl | (simp; done) | (simp [*]; done)), H', ⟨by have := HJ1.out; first | omega | exact Nat.le_refl _⟩, ⟨by (with_reducible repeat (first | refine blk_drewN ?_ _ | refine blk_drew ?_ | refine blk_alloc ?_ _)); exact BK144.out⟩, ⟨by repeat (first | (with_reducible first | exact HB.out | apply below_alloc | apply pw_below_drewN | apply below_drew1 | refine below_set ?_ GE144.out) | exact HB.out)⟩⟩
              · rw [if_neg c17] at H
                have c17b0 : decide (a0_7 < 0) = false := decide_eq_false c17
                clear c17
                have H' := Aside0.mk H
                clear H
                have hcz19_0 : wc.cell? ⟨gb144, 0, none⟩ = some (.int .u64 a0_0) := (blk_cell BK144.out 0).trans rfl
                have hcz19_1 : wc.cell? ⟨gb144, 1, none⟩ = some (.int .u64 a0_1) := (blk_cell BK144.out 1).trans rfl
                have hcz19_2 : wc.cell? ⟨gb144, 2, none⟩ = some (.int .u64 a0_2) := (blk_cell BK144.out 2).trans rfl
                have hcz19_3 : wc.cell? ⟨gb144, 3, none⟩ = some (.int .u8 a0_3) := (blk_cell BK144.out 3).trans rfl
                have hcz19_4 : wc.cell? ⟨gb144, 4, none⟩ = some (.string a0_4) := (blk_cell BK144.out 4).trans rfl
                have hcz19_5 : wc.cell? ⟨gb144, 5, none⟩ = some (.string a0_5) := (blk_cell BK144.out 5).trans rfl
                have hcz19_6 : wc.cell? ⟨gb144, 6, none⟩ = some (.int .i64 a0_6) := (blk_cell BK144.out 6).trans rfl
                have hcz19_7 : wc.cell? ⟨gb144, 7, none⟩ = some (.int .i64 a0_7) := (blk_cell BK144.out 7).trans rfl
                have hfz19_0 := blk_frozen BK144.out 0
                have hfz19_1 := blk_frozen BK144.out 1
                have hfz19_2 := blk_frozen BK144.out 2
                have hfz19_3 := blk_frozen BK144.out 3
                have hfz19_4 := blk_frozen BK144.out 4
                have hfz19_5 := blk_frozen BK144.out 5
                have hfz19_6 := blk_frozen BK144.out 6
                have hfz19_7 := blk_frozen BK144.out 7
                go_wp2
                go_meet
                case rel => exact ⟨_, (decide (a0_7 > 1125899906842624)), (by first | rfl | (simp; done) | (simp [*]; done)), H', ⟨by have := HJ1.out; first | omega | exact Nat.le_refl _⟩, ⟨by (with_reducible repeat (first | refine blk_drewN ?_ _ | refine blk_drew ?_ | refine blk_alloc ?_ _)); exact BK144.out⟩, ⟨by repeat (first | (with_reducible first | exact HB.out | apply below_alloc | apply pw_below_drewN | apply below_drew1 | refine below_set ?_ GE144.out) | exact HB.out)⟩⟩
        case rest =>
          clear HC12
          (try clear c1); (try clear p2); (try clear c4); (try clear c5); (try clear c5b0); (try clear c5b1); (try clear c6); (try clear c6b0); (try clear c6b1); (try clear c8); (try clear c8b0); (try clear c8b1); (try clear c11); (try clear c14); (try clear c14b0); (try clear c15); (try clear c15b0); (try clear c17); (try clear c17b0); (try clear hcz10_0); (try clear hcz10_1); (try clear hcz10_2); (try clear hcz10_3); (try clear hcz10_4); (try clear hcz10_5); (try clear hcz10_6); (try clear hcz10_7); (try clear hcz13_0); (try clear hcz13_1); (try clear hcz13_2); (try clear hcz13_3); (try clear hcz13_4); (try clear hcz13_5); (try clear hcz13_6); (try clear hcz13_7); (try clear hcz16_0); (try clear hcz16_1); (try clear hcz16_2); (try clear hcz16_3); (try clear hcz16_4); (try clear hcz16_5); (try clear hcz16_6); (try clear hcz16_7); (try clear hcz18_0); (try clear hcz18_1); (try clear hcz18_2); (try clear hcz18_3); (try clear hcz18_4); (try clear hcz18_5); (try clear hcz18_6); (try clear hcz18_7); (try clear hcz19_0); (try clear hcz19_1); (try clear hcz19_2); (try clear hcz19_3); (try clear hcz19_4); (try clear hcz19_5); (try clear hcz19_6); (try clear hcz19_7); (try clear hcz4_0); (try clear hcz4_1); (try clear hcz4_2); (try clear hcz4_3); (try clear hcz4_4); (try clear hcz4_5); (try clear hcz4_6); (try clear hcz4_7); (try clear hcz7_0); (try clear hcz7_1); (try clear hcz7_2); (try clear hcz7_3); (try clear hcz7_4); (try clear hcz7_5); (try clear hcz7_6); (try clear hcz7_7); (try clear hcz9_0); (try clear hcz9_1); (try clear hcz9_2); (try clear hcz9_3); (try clear hcz9_4); (try clear hcz9_5); (try clear hcz9_6); (try clear hcz9_7); (try clear hfz10_0); (try clear hfz10_1); (try clear hfz10_2); (try clear hfz10_3); (try clear hfz10_4); (try clear hfz10_5); (try clear hfz10_6); (try clear hfz10_7); (try clear hfz13_0); (try clear hfz13_1); (try clear hfz13_2); (try clear hfz13_3); (try clear hfz13_4); (try clear hfz13_5); (try clear hfz13_6); (try clear hfz13_7); (try clear hfz16_0); (try clear hfz16_1); (try clear hfz16_2); (try clear hfz16_3); (try clear hfz16_4); (try clear hfz16_5); (try clear hfz16_6); (try clear hfz16_7); (try clear hfz18_0); (try clear hfz18_1); (try clear hfz18_2); (try clear hfz18_3); (try clear hfz18_4); (try clear hfz18_5); (try clear hfz18_6); (try clear hfz18_7); (try clear hfz19_0); (try clear hfz19_1); (try clear hfz19_2); (try clear hfz19_3); (try clear hfz19_4); (try clear hfz19_5); (try clear hfz19_6); (try clear hfz19_7); (try clear hfz4_0); (try clear hfz4_1); (try clear hfz4_2); (try clear hfz4_3); (try clear hfz4_4); (try clear hfz4_5); (try clear hfz4_6); (try clear hfz4_7); (try clear hfz7_0); (try clear hfz7_1); (try clear hfz7_2); (try clear hfz7_3); (try clear hfz7_4); (try clear hfz7_5); (try clear hfz7_6); (try clear hfz7_7); (try clear hfz9_0); (try clear hfz9_1); (try clear hfz9_2); (try clear hfz9_3); (try clear hfz9_4); (try clear hfz9_5); (try clear hfz9_6); (try clear hfz9_7); (try clear p2)
          obtain ⟨kq, x18_11, rfl, HA, HJ11, BK144, HB⟩ := hcut
          cases kq with
          | zero => exact absurd HA.out (by simp [span_May.j1])
          | succ kj11 =>
            have H := HA.out
            clear HA
            simp only [span_May.j1] at H
            by_cases c20 : x18_11 = true
            · subst c20
              have H1 : (some false) = some r := by rw [if_pos rfl] at H; exact H
              clear H
              have H := H1
              clear H1
              obtain rfl := Option.some.inj H
              go_wp2
              go_ret
              exact ⟨by first | rfl | (simp [errW_none, errW_some] <;> rfl) | (simp [*, errW_none, errW_some] <;> rfl), by repeat (first | (with_reducible first | exact HB.out | apply below_alloc | apply pw_below_drewN | apply below_drew1 | refine below_set ?_ GE144.out) | exact HB.out)⟩
            · replace c20 := Bool.eq_false_iff.mpr c20
              subst c20
              have H1 : ((span_Name.f kj11 a0_4).bind fun t145 => (if t145 = true then ((span_Name.f kj11 a0_5).bind fun t146 => (some t146)) else (some false))) = some r := by rw [if_neg (show ¬ (false = true) by decide)] at H; exact H
              clear H
              have H := H1
              clear H1
              replace H := Option.bind_eq_some_iff.mp H
              obtain ⟨t145, A210, H⟩ := H
              replace H : (if t145 = true then ((span_Name.f kj11 a0_5).bind fun t146 => (some t146)) else (some false)) = some r := H
              have A21 := Aside0.mk A210
              clear A210
              by_cases c22 : t145 = true
              · subst c22
                have H1 : ((span_Name.f kj11 a0_5).bind fun t146 => (some t146)) = some r := by rw [if_pos rfl] at H; exact H
                clear H
                have H := H1
                clear H1
                replace H := Option.bind_eq_some_iff.mp H
                obtain ⟨t146, A230, H⟩ := H
                replace H : (some t146) = some r := H
                have A23 := Aside0.mk A230
                clear A230
                obtain rfl := Option.some.inj H
                have hcz24_0 : wc.cell? ⟨gb144, 0, none⟩ = some (.int .u64 a0_0) := (blk_cell BK144.out 0).trans rfl
                have hcz24_1 : wc.cell? ⟨gb144, 1, none⟩ = some (.int .u64 a0_1) := (blk_cell BK144.out 1).trans rfl
                have hcz24_2 : wc.cell? ⟨gb144, 2, none⟩ = some (.int .u64 a0_2) := (blk_cell BK144.out 2).trans rfl
                have hcz24_3 : wc.cell? ⟨gb144, 3, none⟩ = some (.int .u8 a0_3) := (blk_cell BK144.out 3).trans rfl
                have hcz24_4 : wc.cell? ⟨gb144, 4, none⟩ = some (.string a0_4) := (blk_cell BK144.out 4).trans rfl
                have hcz24_5 : wc.cell? ⟨gb144, 5, none⟩ = some (.string a0_5) := (blk_cell BK144.out 5).trans rfl
                have hcz24_6 : wc.cell? ⟨gb144, 6, none⟩ = some (.int .i64 a0_6) := (blk_cell BK144.out 6).trans rfl
                have hcz24_7 : wc.cell? ⟨gb144, 7, none⟩ = some (.int .i64 a0_7) := (blk_cell BK144.out 7).trans rfl
                have hfz24_0 := blk_frozen BK144.out 0
                have hfz24_1 := blk_frozen BK144.out 1
                have hfz24_2 := blk_frozen BK144.out 2
                have hfz24_3 := blk_frozen BK144.out 3
                have hfz24_4 := blk_frozen BK144.out 4
                have hfz24_5 := blk_frozen BK144.out 5
                have hfz24_6 := blk_frozen BK144.out 6
                have hfz24_7 := blk_frozen BK144.out 7
                go_wp2_with (first | ((with_reducible refine gate_callee (f := 96) rfl ?_); refine goesL_ (some 33) rfl rfl Try.func96 (by kernel_rfl) rfl #[.string a0_4] rfl (by (try simp only [List.map_toArray, List.map_cons, List.map_nil]); first | done | rfl | (simp only [List.length_drop, List.length_take]; rfl)) ?_; (with_reducible refine (span_Name.calls kj11 a0_4 true _ A21.out).mono ?_); rintro e w' ⟨rfl, ⟨nd, rfl⟩⟩; refine ⟨_, rfl, ?_⟩) | (go_at_call 96; (with_reducible refine (span_Name.calls kj11 a0_5 t146 _ A23.out).mono ?_); rintro e w' ⟨rfl, ⟨nd, rfl⟩⟩))
                go_ret
                exact ⟨by first | rfl | (simp [errW_none, errW_some] <;> rfl) | (simp [*, errW_none, errW_some] <;> rfl), by repeat (first | (with_reducible first | exact HB.out | apply below_alloc | apply pw_below_drewN | apply below_drew1 | refine below_set ?_ GE144.out) | exact HB.out)⟩
              · replace c22 := Bool.eq_false_iff.mpr c22
                subst c22
                have H1 : (some false) = some r := by rw [if_neg (show ¬ (false = true) by decide)] at H; exact H
                clear H
                have H := H1
                clear H1
                obtain rfl := Option.some.inj H
                have hcz25_0 : wc.cell? ⟨gb144, 0, none⟩ = some (.int .u64 a0_0) := (blk_cell BK144.out 0).trans rfl
                have hcz25_1 : wc.cell? ⟨gb144, 1, none⟩ = some (.int .u64 a0_1) := (blk_cell BK144.out 1).trans rfl
                have hcz25_2 : wc.cell? ⟨gb144, 2, none⟩ = some (.int .u64 a0_2) := (blk_cell BK144.out 2).trans rfl
                have hcz25_3 : wc.cell? ⟨gb144, 3, none⟩ = some (.int .u8 a0_3) := (blk_cell BK144.out 3).trans rfl
                have hcz25_4 : wc.cell? ⟨gb144, 4, none⟩ = some (.string a0_4) := (blk_cell BK144.out 4).trans rfl
                have hcz25_5 : wc.cell? ⟨gb144, 5, none⟩ = some (.string a0_5) := (blk_cell BK144.out 5).trans rfl
                have hcz25_6 : wc.cell? ⟨gb144, 6, none⟩ = some (.int .i64 a0_6) := (blk_cell BK144.out 6).trans rfl
                have hcz25_7 : wc.cell? ⟨gb144, 7, none⟩ = some (.int .i64 a0_7) := (blk_cell BK144.out 7).trans rfl
                have hfz25_0 := blk_frozen BK144.out 0
                have hfz25_1 := blk_frozen BK144.out 1
                have hfz25_2 := blk_frozen BK144.out 2
                have hfz25_3 := blk_frozen BK144.out 3
                have hfz25_4 := blk_frozen BK144.out 4
                have hfz25_5 := blk_frozen BK144.out 5
                have hfz25_6 := blk_frozen BK144.out 6
                have hfz25_7 := blk_frozen BK144.out 7
                go_wp2_with (first | ((with_reducible refine gate_callee (f := 96) rfl ?_); refine goesL_ (some 33) rfl rfl Try.func96 (by kernel_rfl) rfl #[.string a0_4] rfl (by (try simp only [List.map_toArray, List.map_cons, List.map_nil]); first | done | rfl | (simp only [List.length_drop, List.length_take]; rfl)) ?_; (with_reducible refine (span_Name.calls kj11 a0_4 false _ A21.out).mono ?_); rintro e w' ⟨rfl, ⟨nd, rfl⟩⟩; refine ⟨_, rfl, ?_⟩))
                go_ret
                exact ⟨by first | rfl | (simp [errW_none, errW_some] <;> rfl) | (simp [*, errW_none, errW_some] <;> rfl), by repeat (first | (with_reducible first | exact HB.out | apply below_alloc | apply pw_below_drewN | apply below_drew1 | refine below_set ?_ GE144.out) | exact HB.out)⟩

end Go.Proofs.Ytmfdhcgdibefiaa.Q

/- What layer 1 comes to, as plain Lean: names, which spans may be. -/
namespace Go.Proofs.Ytmfdhcgdibefiaa.L
open Go.RowKit Go.Proofs.Ytmfdhcgdibefiaa.Q Go.Proofs.YtmfdhcgdibefiaaW.PrintWords Go.Proofs.YtmfdhcgdibefiaaW.PrintLast Go.Proofs.YtmfdhcgdibefiaaW.PrintMore Go.Proofs.YtmfdhcgdibefiaaW.Lib
set_option linter.unusedVariables false

def letterB (c : Int) : Bool := (decide (97 ≤ c) && decide (c ≤ 122)) || (decide (48 ≤ c) && decide (c ≤ 57)) || decide (c = 45) || decide (c = 46) || decide (c = 95)
theorem letter_f (c : Int) : span_letter.f c = some (letterB c) := by
  unfold span_letter.f letterB
  repeat' split
  all_goals (rw [Option.some.injEq, Bool.eq_iff_iff]; simp; omega)
def nameB (s : ByteArray) : Bool := decide (1 ≤ s.size) && decide (s.size ≤ 16) && (bytesOf s).all letterB

theorem name_l0 (s : ByteArray) (hs : s.size ≤ 140737488351232) : ∀ (d i : Nat), s.size - i = d → i ≤ s.size → Ev (fun k => span_Name.l0 k s (s.size : Int) (i : Int)) (((bytesOf s).drop i).all letterB)
  | 0, i, hd, hi => by
    refine Ev.step (f := fun _ => some true) (fun k => ?_) (Ev.cast (Ev.now true) ?_)
    · simp only [span_Name.l0]; rw [if_neg (by omega)]
    · rw [List.drop_of_length_le (by rw [bytesOf_size]; omega)]; rfl
  | d + 1, i, hd, hi => by
    have ih := name_l0 s hs d (i + 1) (by omega) (by omega)
    rw [bytesOf_drop s i (by omega), List.all_cons]
    refine Ev.step (f := fun k => if letterB (bt s i) = true then span_Name.l0 k s (s.size : Int) ((i + 1 : Nat) : Int) else some false) (fun k => ?_) ?_
    · simp only [span_Name.l0]
      rw [if_pos (by omega), if_pos (by omega), if_pos (by omega), letter_f]
      simp only [Option.bind_some]
      rw [wrap_id (by omega) (by omega)]; rfl
    · refine Ev.ite (fun h => ?_) (fun h => ?_)
      · rw [h, Bool.true_and]; exact ih
      · rw [Bool.not_eq_true] at h; rw [h, Bool.false_and]; exact Ev.now _

theorem name_ev (s : ByteArray) (hs : s.size ≤ 140737488351232) : Ev (fun k => span_Name.f k s) (nameB s) := by
  unfold span_Name.f nameB
  refine Ev.ite (fun h => ?_) (fun h => ?_)
  · refine Ev.step (f := fun _ => some false) (fun k => by simp [span_Name.j0]) (Ev.cast (Ev.now _) ?_)
    rw [decide_eq_false (by omega : ¬ 1 ≤ s.size)]; rfl
  · refine Ev.step (f := fun k => if decide ((s.size : Int) > 16) = true then some false else span_Name.l0 k s (s.size : Int) 0) (fun k => by simp only [span_Name.j0]) ?_
    refine Ev.ite (fun h2 => ?_) (fun h2 => ?_)
    · have h3 := of_decide_eq_true h2
      refine Ev.cast (Ev.now _) ?_
      rw [decide_eq_false (by omega : ¬ s.size ≤ 16)]; simp
    · have h3 : ¬ ((s.size : Int) > 16) := fun h4 => h2 (decide_eq_true h4)
      have := name_l0 s hs s.size 0 (by omega) (by omega)
      rw [decide_eq_true (by omega : 1 ≤ s.size), decide_eq_true (by omega : s.size ≤ 16)]
      simpa using this

end Go.Proofs.Ytmfdhcgdibefiaa.L
namespace Go.Proofs.Ytmfdhcgdibefiaa.L
open Go.RowKit Go.Proofs.Ytmfdhcgdibefiaa.Q Go.Proofs.YtmfdhcgdibefiaaW.PrintWords Go.Proofs.YtmfdhcgdibefiaaW.PrintLast Go.Proofs.YtmfdhcgdibefiaaW.PrintMore Go.Proofs.YtmfdhcgdibefiaaW.Lib
set_option linter.unusedVariables false

def mayB (t i p k : Int) (h n : ByteArray) (s d : Int) : Bool :=
  !(decide (t = 0) || decide (i = 0) || decide (p = i) || decide (k > 2)) && (!(decide (s < 0) || decide (s ≥ 1125899906842624) || decide (d < 0) || decide (d > 1125899906842624)) && (nameB h && nameB n))

theorem may_j1 (b : Bool) (t i p k : Int) (h n : ByteArray) (s d : Int) (hh : h.size ≤ 140737488351232) (hn : n.size ≤ 140737488351232) :
    Ev (fun m => span_May.j1 m b t i p k h n s d) (!b && (nameB h && nameB n)) := by
  refine Ev.step (f := fun m => if b = true then some false else (span_Name.f m h).bind fun x => if x = true then (span_Name.f m n).bind fun y => some y else some false) (fun m => by simp only [span_May.j1]) ?_
  refine Ev.ite (fun e => ?_) (fun e => ?_)
  · exact Ev.cast (Ev.now _) (by rw [e]; rfl)
  · refine Ev.bind (name_ev h hh) (Ev.ite (fun e1 => ?_) (fun e1 => ?_))
    · refine Ev.cast (Ev.bind (name_ev n hn) (Ev.now _)) ?_
      rw [Bool.not_eq_true] at e; rw [e, e1]; rfl
    · exact Ev.cast (Ev.now _) (by rw [Bool.not_eq_true] at e1; rw [e1]; simp)

theorem may_j0 (b : Bool) (t i p k : Int) (h n : ByteArray) (s d : Int) (hh : h.size ≤ 140737488351232) (hn : n.size ≤ 140737488351232) :
    Ev (fun m => span_May.j0 m b t i p k h n s d) (!b && (!(decide (s < 0) || decide (s ≥ 1125899906842624) || decide (d < 0) || decide (d > 1125899906842624)) && (nameB h && nameB n))) := by
  refine Ev.step (f := fun m => if b = true then some false else if s < 0 then span_May.j1 m (decide (s < 0)) t i p k h n s d else if s ≥ 1125899906842624 then span_May.j1 m (decide (s ≥ 1125899906842624)) t i p k h n s d else if d < 0 then span_May.j1 m (decide (d < 0)) t i p k h n s d else span_May.j1 m (decide (d > 1125899906842624)) t i p k h n s d) (fun m => by simp only [span_May.j0]) ?_
  refine Ev.ite (fun e => Ev.cast (Ev.now _) (by rw [e]; rfl)) (fun e => ?_)
  rw [Bool.not_eq_true] at e
  rw [e]
  refine Ev.ite (fun e1 => Ev.cast (may_j1 _ t i p k h n s d hh hn) (by simp [e1])) (fun e1 => ?_)
  refine Ev.ite (fun e2 => Ev.cast (may_j1 _ t i p k h n s d hh hn) (by simp [e2])) (fun e2 => ?_)
  refine Ev.ite (fun e3 => Ev.cast (may_j1 _ t i p k h n s d hh hn) (by simp [e3])) (fun e3 => ?_)
  exact Ev.cast (may_j1 _ t i p k h n s d hh hn) (by simp [e1, e2, e3])

theorem may_ev (t i p k : Int) (h n : ByteArray) (s d : Int) (hh : h.size ≤ 140737488351232) (hn : n.size ≤ 140737488351232) :
    Ev (fun m => span_May.f m t i p k h n s d) (mayB t i p k h n s d) := by
  unfold span_May.f mayB
  refine Ev.ite (fun e1 => Ev.cast (may_j0 _ t i p k h n s d hh hn) (by simp [e1])) (fun e1 => ?_)
  refine Ev.ite (fun e2 => Ev.cast (may_j0 _ t i p k h n s d hh hn) (by simp [e2])) (fun e2 => ?_)
  refine Ev.ite (fun e3 => Ev.cast (may_j0 _ t i p k h n s d hh hn) (by simp [e3])) (fun e3 => ?_)
  exact Ev.cast (may_j0 _ t i p k h n s d hh hn) (by simp [e1, e2, e3])

theorem mayB_le {t i p k : Int} {h n : ByteArray} {s d : Int} (hm : mayB t i p k h n s d = true) : 0 ≤ s ∧ s < 1125899906842624 ∧ 0 ≤ d ∧ d ≤ 1125899906842624 := by
  simp [mayB] at hm; omega
end Go.Proofs.Ytmfdhcgdibefiaa.L

/- What a span that is read has. -/
namespace Go.Proofs.Ytmfdhcgdibefiaa.L
open Go.RowKit Go.Proofs.Ytmfdhcgdibefiaa.Q Go.Proofs.YtmfdhcgdibefiaaW.PrintWords
set_option linter.unusedVariables false

/-- What a span that is read has. -/
def fitS (x : S37) : Prop := (Lit.int .u64 x.f1).wf = true ∧ x.f4.size ≤ 140737488351232 ∧ x.f5.size ≤ 140737488351232
instance : DecidablePred fitS := fun x => by unfold fitS; infer_instance
end Go.Proofs.Ytmfdhcgdibefiaa.L

/- Which spans may be, as one function of a span; the document's too. -/
namespace Go.Proofs.Ytmfdhcgdibefiaa.L
open Go.RowKit Go.Proofs.Ytmfdhcgdibefiaa.Q Go.Proofs.YtmfdhcgdibefiaaW.PrintWords Go.Proofs.YtmfdhcgdibefiaaW.PrintLast Go.Proofs.YtmfdhcgdibefiaaW.PrintMore Go.Proofs.YtmfdhcgdibefiaaW.Lib
set_option linter.unusedVariables false
def mayS (s : S37) : Bool := mayB s.f0 s.f1 s.f2 s.f3 s.f4 s.f5 s.f6 s.f7
def mayA (l : List S37) : Bool := l.all mayS
def fitR (x : S37) : Prop := fitS x ∧ 0 ≤ x.f3
instance : DecidablePred fitR := fun x => by unfold fitR; infer_instance
end Go.Proofs.Ytmfdhcgdibefiaa.L

/- stats.Own's closure: whether a span may not be. -/
namespace Go.Proofs.Ytmfdhcgdibefiaa.L
open Go.RowKit Go.Proofs.Ytmfdhcgdibefiaa.Q Go.Proofs.YtmfdhcgdibefiaaW.PrintWords Go.Proofs.YtmfdhcgdibefiaaW.PrintLast Go.Proofs.YtmfdhcgdibefiaaW.PrintMore Go.Proofs.YtmfdhcgdibefiaaW.MapB Go.Proofs.YtmfdhcgdibefiaaW.Lib
set_option linter.unusedVariables false
set_option linter.unusedSimpArgs false
theorem ownspan_calls (s : S37) (h : fitS s) (w : World) : Calls Try.prog 43 #[.agg #[.int .u64 s.f0, .int .u64 s.f1, .int .u64 s.f2, .int .u8 s.f3, .string s.f4, .string s.f5, .int .i64 s.f6, .int .i64 s.f7]] w fun e w' => e = .returned (.bool (mayS s)) ∧ Below w.heap.size w w' := by
  obtain ⟨k, hk⟩ := Ev.rounds (may_ev s.f0 s.f1 s.f2 s.f3 s.f4 s.f5 s.f6 s.f7 h.2.1 h.2.2)
  exact span_May.calls k _ _ _ _ _ _ _ _ _ w hk
set_option maxRecDepth 100000 in
theorem ownmay_calls (s : S37) (h : fitS s) (w : World) : Calls Try.prog 42 #[.agg #[.int .u64 s.f0, .int .u64 s.f1, .int .u64 s.f2, .int .u8 s.f3, .string s.f4, .string s.f5, .int .i64 s.f6, .int .i64 s.f7]] w fun e w' => e = .returned (.bool (!mayS s)) ∧ Below w.heap.size w w' := by
  have HB := Aside0.mk (Below.refl w.heap.size w)
  have QM := Aside0.mk (ownspan_calls s h)
  clear h
  go_enter Try.func42, Try.ntmps42
  go_wp2_with (go_at_call 43; refine (QM.out _).mono ?_; rintro e w1 ⟨rfl, hb⟩; have HB1 := Aside0.mk (below_step (below_alloc HB.out _) hb); clear hb)
  go_ret
  exact ⟨rfl, HB1.out⟩
set_option maxHeartbeats 4000000 in
set_option maxRecDepth 100000 in
theorem own_index  (es : List S37) (hn : es.length ≤ 1000000000) (A0 : Option Addr) (c0 : Nat) (w : World) (hr0 : Kd.C k37 w A0 es.length es)
    (QL0 : ∀ e ∈ es, ∀ W, Below w.heap.size w W → Calls Try.prog 42 #[.agg #[.int .u64 e.f0, .int .u64 e.f1, .int .u64 e.f2, .int .u8 e.f3, .string e.f4, .string e.f5, .int .i64 e.f6, .int .i64 e.f7]] W fun r w' => r = .returned (.bool ((fun s => !mayS s) e)) ∧ Below W.heap.size W w') :
    Calls Try.prog 95 #[.slice A0 es.length c0, .func (.func 42) #[] #[]] w fun r w' => ∃ i : Int, r = .returned (.int .i64 i) ∧ decide (0 ≤ i) = es.any (fun s => !mayS s) ∧ Below w.heap.size w w' := by
  have HB0 := Aside0.mk (Below.refl w.heap.size w)
  have HR0 := Aside0.mk hr0
  have HN := Aside0.mk hn
  have QL := Aside0.mk QL0
  clear hr0 hn QL0
  generalize hpp : (fun s => !mayS s) = pp at *
  clear hpp
  go_enter Try.func95, Try.ntmps95
  go_wp2_with fail
  go_loopg [8] es.length (fun kq v8 w' => ∃ x8 : Int, v8 = .int .i64 x8 ∧ Aside0 (0 ≤ x8 ∧ x8 + kq = es.length) ∧ Aside0 (∀ e ∈ es.take x8.toNat, pp e = false) ∧ Aside0 (Below w.heap.size w w'))
  case atStart => exact ⟨0, rfl, ⟨by omega, by omega⟩, ⟨by simp⟩, HB0⟩
  case round =>
    obtain ⟨x8, rfl, HK, HA, HB⟩ := hrel
    by_cases c1 : x8 < (es.length : Int)
    · have c1b := decide_eq_true c1
      have p1 : 0 ≤ x8 := HK.out.1
      obtain ⟨ad, e1, hx0, hx1, hx2, hx3, hx4, hx5, hx6, hx7⟩ := at_T37 HR0.out x8 p1 c1
      cases e1
      replace hx0 := (HB.out.cell (World.block_lt_of_cell? w _ hx0)).trans hx0
      replace hx1 := (HB.out.cell (World.block_lt_of_cell? w _ hx1)).trans hx1
      replace hx2 := (HB.out.cell (World.block_lt_of_cell? w _ hx2)).trans hx2
      replace hx3 := (HB.out.cell (World.block_lt_of_cell? w _ hx3)).trans hx3
      replace hx4 := (HB.out.cell (World.block_lt_of_cell? w _ hx4)).trans hx4
      replace hx5 := (HB.out.cell (World.block_lt_of_cell? w _ hx5)).trans hx5
      replace hx6 := (HB.out.cell (World.block_lt_of_cell? w _ hx6)).trans hx6
      replace hx7 := (HB.out.cell (World.block_lt_of_cell? w _ hx7)).trans hx7
      have hit : x8.toNat < es.length := by omega
      have hev : rd_T37 es x8 = es[x8.toNat] := by simp [rd_T37, List.getD, hit]
      have hem : rd_T37 es x8 ∈ es := by rw [hev]; exact List.getElem_mem _
      have HE := Aside0.mk (show es.take (x8 + 1).toNat = es.take x8.toNat ++ [rd_T37 es x8] from by
        rw [show (x8 + 1).toNat = x8.toNat + 1 by omega, List.take_succ_eq_append_getElem hit, hev])
      have QE := Aside0.mk (QL.out _ hem wr HB.out)
      have HM := Aside0.mk hem
      have P1 := Aside0.mk p1
      have Q1 := Aside0.mk c1
      have W1 := Aside0.mk (show wrap64 (x8 + 1) = x8 + 1 from by unfold wrap64; have := HN.out; have := P1.out; have := Q1.out; omega)
      clear hev hem hit
      generalize rd_T37 es x8 = e at *
      replace p1 := eq_true p1
      replace c1 := eq_true c1
      obtain ⟨k1, rfl⟩ : ∃ k1, gk = k1 + 1 := ⟨gk - 1, by have := HK.out; have := Q1.out; omega⟩
      cases hq : pp e with
      | false =>
        rw [hq] at QE
        have HQ := Aside0.mk hq
        clear hq
        go_wp2_with (go_at_call 42; refine QE.out.mono ?_; rintro r w1 ⟨rfl, hb⟩; have HB1 := Aside0.mk (below_step HB.out hb); clear hb)
        go_roundg k1
        case measure => omega
        case rel => exact ⟨x8 + 1, by rw [W1.out], ⟨by have := P1.out; omega, by have := HK.out; omega⟩, ⟨by
          rw [HE.out]
          intro y hy
          rcases List.mem_append.1 hy with h | h
          · exact HA.out y h
          · rw [List.mem_singleton.1 h]; exact HQ.out⟩, HB1⟩
      | true =>
        rw [hq] at QE
        have HQ := Aside0.mk hq
        clear hq
        go_wp2_with (go_at_call 42; refine QE.out.mono ?_; rintro r w1 ⟨rfl, hb⟩; have HB1 := Aside0.mk (below_step HB.out hb); clear hb)
        go_ret
        refine ⟨x8, rfl, ?_, HB1.out⟩
        rw [decide_eq_true P1.out]
        exact (List.any_eq_true.2 ⟨e, HM.out, HQ.out⟩).symm
    · have c1b := decide_eq_false c1
      have hx : x8.toNat = es.length := by have := HK.out; omega
      have ha := HA.out
      rw [hx, List.take_length] at ha
      have HAll := Aside0.mk ha
      clear ha hx c1
      go_wp2_with fail
      go_ret
      refine ⟨-1, rfl, ?_, HB.out⟩
      exact (List.any_eq_false.2 (fun e he => by rw [HAll.out e he]; simp)).symm
set_option maxHeartbeats 2000000 in
set_option maxRecDepth 100000 in
theorem own_contains  (es : List S37) (hn : es.length ≤ 1000000000) (A0 : Option Addr) (c0 : Nat) (w : World) (hr0 : Kd.C k37 w A0 es.length es)
    (QL0 : ∀ e ∈ es, ∀ W, Below w.heap.size w W → Calls Try.prog 42 #[.agg #[.int .u64 e.f0, .int .u64 e.f1, .int .u64 e.f2, .int .u8 e.f3, .string e.f4, .string e.f5, .int .i64 e.f6, .int .i64 e.f7]] W fun r w' => r = .returned (.bool ((fun s => !mayS s) e)) ∧ Below W.heap.size W w') :
    Calls Try.prog 41 #[.slice A0 es.length c0, .func (.func 42) #[] #[]] w fun r w' => r = .returned (.bool (es.any (fun s => !mayS s))) ∧ Below w.heap.size w w' := by
  have HB0 := Aside0.mk (Below.refl w.heap.size w)
  have QI := Aside0.mk (own_index  es hn A0 c0 w hr0 QL0)
  clear hn hr0 QL0
  go_enter Try.func41, Try.ntmps41
  go_wp2_with (go_at_call 95; refine QI.out.mono ?_; rintro r w1 ⟨i, rfl, hd, hb⟩; have HD := Aside0.mk hd; have HB2 := Aside0.mk hb; clear hb hd)
  go_ret
  refine ⟨?_, HB2.out⟩
  rw [← HD.out]
  rfl
end Go.Proofs.Ytmfdhcgdibefiaa.L

/- The document's Cover, plain: the ends in order, and the sum over neighbouring ones. -/
namespace Go.Proofs.Ytmfdhcgdibefiaa.L
open Go.RowKit Go.Proofs.YtmfdhcgdibefiaaW.PrintWords Go.Proofs.YtmfdhcgdibefiaaW.Lib
set_option linter.unusedVariables false
end Go.Proofs.Ytmfdhcgdibefiaa.L

/- The document's Cover: the walk. -/
namespace Go.Proofs.Ytmfdhcgdibefiaa.L
open Go.RowKit Go.Proofs.Ytmfdhcgdibefiaa.Q Go.Proofs.YtmfdhcgdibefiaaW.PrintWords Go.Proofs.YtmfdhcgdibefiaaW.PrintLast Go.Proofs.YtmfdhcgdibefiaaW.PrintMore Go.Proofs.YtmfdhcgdibefiaaW.Lib Go.Proofs.YtmfdhcgdibefiaaW.MapB
set_option linter.unusedVariables false
set_option linter.unusedSimpArgs false
end Go.Proofs.Ytmfdhcgdibefiaa.L

/- parent.cycles, plain: places are coloured along each walk up; none is called just if all walks up end. -/
namespace Go.Proofs.Ytmfdhcgdibefiaa.L
open Go.RowKit Go.Proofs.YtmfdhcgdibefiaaW.PrintWords
set_option linter.unusedVariables false

theorem rdC_set (l : List Int) (i j v : Int) (h0 : 0 ≤ i) (h1 : i < l.length) (hj : 0 ≤ j) : rd (l.set i.toNat v) j = if i = j then v else rd l j := by
  unfold rd
  simp only [List.getD_eq_getElem?_getD, List.getElem?_set]
  by_cases e : i = j
  · subst e
    rw [if_pos rfl, if_pos rfl, if_pos (by omega)]; rfl
  · rw [if_neg e, if_neg (by omega)]
/-- So many parents up. -/
def upL (ps : List Int) (at_ : Int) : Nat → Int
  | 0 => at_
  | k + 1 => if at_ < 0 then at_ else upL ps (rd ps at_) k
theorem upL_neg (ps : List Int) {a : Int} (h : a < 0) : ∀ k, upL ps a k = a
  | 0 => rfl
  | k + 1 => by unfold upL; rw [if_pos h]
theorem upL_more (ps : List Int) : ∀ (k : Nat) (a : Int), upL ps a k < 0 → ∀ d, upL ps a (k + d) < 0
  | 0, a, h, d => by
    have h' : a < 0 := h
    rw [upL_neg ps h']
    exact h'
  | k + 1, a, h, d => by
    rw [show k + 1 + d = (k + d) + 1 by omega]
    unfold upL at h ⊢
    split
    · assumption
    · rename_i c
      rw [if_neg c] at h
      exact upL_more ps k _ h d
def endsAt (ps : List Int) (a : Int) : Prop := ∃ k, upL ps a k < 0
/-- A walk up by these places, to another one. -/
inductive Walk (ps : List Int) : Int → List Int → Int → Prop
  | none (a : Int) : Walk ps a [] a
  | step {a : Int} {L : List Int} {b : Int} : 0 ≤ a → Walk ps (rd ps a) L b → Walk ps a (a :: L) b
theorem Walk.up {ps : List Int} {a : Int} {L : List Int} {b : Int} (h : Walk ps a L b) : upL ps a L.length = b := by
  induction h with
  | none a => rfl
  | step h0 _ ih => simp only [List.length_cons, upL]; rw [if_neg (by omega)]; exact ih
theorem Walk.ends {ps : List Int} {a : Int} {L : List Int} {b : Int} (h : Walk ps a L b) (hb : endsAt ps b) : endsAt ps a ∧ ∀ x ∈ L, endsAt ps x := by
  induction h with
  | none a => exact ⟨hb, fun x hx => by cases hx⟩
  | @step a L b h0 _ ih =>
    obtain ⟨⟨k, hk⟩, h2⟩ := ih hb
    have ha : endsAt ps a := ⟨k + 1, by unfold upL; rw [if_neg (by omega)]; exact hk⟩
    refine ⟨ha, fun x hx => ?_⟩
    rcases List.mem_cons.1 hx with e | e
    · rw [e]; exact ha
    · exact h2 x e
/-- What a walk goes on to. -/
theorem Walk.next {ps : List Int} {a : Int} {L : List Int} {b : Int} (h : Walk ps a L b) : ∀ x ∈ L, 0 ≤ x ∧ (rd ps x ∈ L ∨ rd ps x = b) := by
  induction h with
  | none a => intro x hx; cases hx
  | @step a L b h0 hw ih =>
    intro x hx
    rcases List.mem_cons.1 hx with e | e
    · subst e
      refine ⟨h0, ?_⟩
      cases hw with
      | none => exact .inr rfl
      | step _ _ => exact .inl (List.mem_cons_of_mem _ (List.mem_cons_self ..))
    · obtain ⟨h1, h2⟩ := ih x e
      exact ⟨h1, h2.elim (fun h => .inl (List.mem_cons_of_mem _ h)) .inr⟩
/-- A walk back to one of its own places: from there, and from all ahead, none ends. -/
theorem Walk.round {ps : List Int} {a : Int} {L : List Int} {b : Int} (h : Walk ps a L b) (hb : b ∈ L) : ∀ x ∈ L, ¬ endsAt ps x := by
  have hn := h.next
  have key : ∀ (k : Nat) (x : Int), x ∈ L → 0 ≤ upL ps x k := by
    intro k
    induction k with
    | zero => intro x hx; exact (hn x hx).1
    | succ k ih =>
      intro x hx
      obtain ⟨h0, h1⟩ := hn x hx
      unfold upL
      rw [if_neg (by omega)]
      rcases h1 with h1 | h1
      · exact ih _ h1
      · rw [h1]; exact ih _ hb
  rintro x hx ⟨k, hk⟩
  have := key k x hx
  omega
/-- Places, coloured. -/
def mark (v : Int) (L : List Int) (st : List Int) : List Int := L.foldl (fun s x => s.set x.toNat v) st
theorem mark_len (v : Int) : ∀ (L st : List Int), (mark v L st).length = st.length
  | [], _ => rfl
  | x :: L, st => by
    have := mark_len v L (st.set x.toNat v)
    rw [List.length_set] at this
    exact this
theorem rd_mark (v : Int) : ∀ (L st : List Int), (∀ x ∈ L, 0 ≤ x ∧ x < st.length) → ∀ j : Int, 0 ≤ j → rd (mark v L st) j = if j ∈ L then v else rd st j
  | [], st, _, j, _ => by simp [mark]
  | x :: L, st, h, j, hj => by
    have hx := h x (List.mem_cons_self ..)
    have e : mark v (x :: L) st = mark v L (st.set x.toNat v) := rfl
    rw [e, rd_mark v L _ (fun y hy => by rw [List.length_set]; exact h y (List.mem_cons_of_mem _ hy)) j hj, rdC_set st x j v hx.1 hx.2 hj]
    by_cases c : j ∈ L
    · rw [if_pos c, if_pos (List.mem_cons_of_mem _ c)]
    · rw [if_neg c]
      by_cases d : x = j
      · rw [if_pos d, if_pos (by rw [d]; exact List.mem_cons_self ..)]
      · rw [if_neg d, if_neg (fun h => (List.mem_cons.1 h).elim (fun h => d h.symm) c)]
/-- Up, as long as places are fresh. -/
def go1 (ps : List Int) : Nat → List Int → Int → List Int × Int
  | 0, st, a => (st, a)
  | f + 1, st, a => if 0 ≤ a ∧ rd st a = 0 then go1 ps f (st.set a.toNat 1) (rd ps a) else (st, a)
/-- Up, as long as places are on the walk. -/
def go2 (ps : List Int) : Nat → List Int → Int → List Int
  | 0, st, _ => st
  | f + 1, st, a => if 0 ≤ a ∧ rd st a = 1 then go2 ps f (st.set a.toNat 2) (rd ps a) else st
def inR (n : Nat) (ps : List Int) : Prop := ps.length = n ∧ ∀ p ∈ ps, -1 ≤ p ∧ p < n
theorem inR_rd {n : Nat} {ps : List Int} (h : inR n ps) {a : Int} (h0 : 0 ≤ a) (h1 : a < n) : -1 ≤ rd ps a ∧ rd ps a < n := by
  have hx : a.toNat < ps.length := by rw [h.1]; omega
  have e : rd ps a = ps[a.toNat] := by simp [rd, List.getD, hx]
  rw [e]
  exact h.2 _ (List.getElem_mem _)
def zeros (st : List Int) : Nat := st.countP (fun x => decide (x = 0))
theorem zeros_set {st : List Int} {a : Int} (h0 : 0 ≤ a) (h1 : a < st.length) (hz : rd st a = 0) : zeros (st.set a.toNat 1) + 1 = zeros st := by
  have hx : a.toNat < st.length := by omega
  have e : st[a.toNat] = 0 := by simpa [rd, List.getD, hx] using hz
  unfold zeros
  rw [List.countP_set hx, e]
  have : 0 < st.countP (fun x => decide (x = 0)) := List.countP_pos_iff.2 ⟨0, by rw [← e]; exact List.getElem_mem _, by decide⟩
  simp
  omega
theorem go1_spec {n : Nat} {ps : List Int} (hp : inR n ps) : ∀ (f : Nat) (st : List Int) (a : Int), st.length = n → zeros st < f → a < n → ∃ L b, go1 ps f st a = (mark 1 L st, b) ∧ Walk ps a L b ∧ L.Nodup ∧ (∀ x ∈ L, 0 ≤ x ∧ x < n ∧ rd st x = 0) ∧ b < n ∧ (b < 0 ∨ rd (mark 1 L st) b ≠ 0)
  | 0, st, a, hl, hz, ha => by omega
  | f + 1, st, a, hl, hz, ha => by
    unfold go1
    by_cases c : 0 ≤ a ∧ rd st a = 0
    · rw [if_pos c]
      have hzs := zeros_set c.1 (by rw [hl]; exact ha) c.2
      obtain ⟨L, b, h1, h2, h3, h4, h5, h6⟩ := go1_spec hp f (st.set a.toNat 1) (rd ps a) (by rw [List.length_set, hl]) (by omega) (inR_rd hp c.1 ha).2
      have hset : ∀ x : Int, 0 ≤ x → rd (st.set a.toNat 1) x = if a = x then 1 else rd st x := fun x hx => rdC_set st a x 1 c.1 (by rw [hl]; exact ha) hx
      have hna : ∀ x ∈ L, x ≠ a ∧ rd st x = 0 := by
        intro x hx
        obtain ⟨g0, g1, g2⟩ := h4 x hx
        rw [hset x g0] at g2
        by_cases e : a = x
        · rw [if_pos e] at g2; omega
        · rw [if_neg e] at g2; exact ⟨fun h => e h.symm, g2⟩
      refine ⟨a :: L, b, h1, .step c.1 h2, List.nodup_cons.2 ⟨fun h => (hna a h).1 rfl, h3⟩, ?_, h5, h6⟩
      intro x hx
      rcases List.mem_cons.1 hx with e | e
      · rw [e]; exact ⟨c.1, ha, c.2⟩
      · exact ⟨(h4 x e).1, (h4 x e).2.1, (hna x e).2⟩
    · rw [if_neg c]
      refine ⟨[], a, rfl, .none a, List.nodup_nil, (fun x hx => absurd hx (by simp)), ha, ?_⟩
      show a < 0 ∨ rd st a ≠ 0
      rcases Int.lt_or_le a 0 with h | h
      · exact .inl h
      · exact .inr fun e => c ⟨h, e⟩
theorem go2_spec {ps : List Int} {a : Int} {L : List Int} {b : Int} (h : Walk ps a L b) : ∀ (f : Nat) (st : List Int), L.Nodup → (∀ x ∈ L, 0 ≤ x ∧ x < st.length ∧ rd st x = 1) → (b < 0 ∨ rd (mark 2 L st) b ≠ 1) → L.length < f → go2 ps f st a = mark 2 L st := by
  induction h with
  | none a =>
    intro f st _ _ hb hf
    obtain ⟨f, rfl⟩ : ∃ g, f = g + 1 := ⟨f - 1, by simp at hf; omega⟩
    unfold go2
    rw [if_neg (fun c => hb.elim (fun h => by omega) (fun h => h c.2))]
    rfl
  | @step a L b h0 hw ih =>
    intro f st nd hx hb hf
    rw [List.length_cons] at hf
    obtain ⟨f, rfl⟩ : ∃ g, f = g + 1 := ⟨f - 1, by omega⟩
    have ha := hx a (List.mem_cons_self ..)
    have nd2 := List.nodup_cons.1 nd
    unfold go2
    rw [if_pos ⟨h0, ha.2.2⟩]
    refine ih f (st.set a.toNat 2) nd2.2 ?_ hb (by omega)
    intro x hxl
    obtain ⟨g0, g1, g2⟩ := hx x (List.mem_cons_of_mem _ hxl)
    rw [List.length_set, rdC_set st a x 2 h0 ha.2.1 g0, if_neg (show ¬ a = x from fun e => nd2.1 (by rw [e]; exact hxl))]
    exact ⟨g0, g1, g2⟩
/-- One place's round: the colours, and who is called. -/
def roundC (ps : List Int) (z : List Int × List Int) (i : Int) : List Int × List Int :=
  let r := go1 ps (ps.length + 1) z.1 i
  (go2 ps (ps.length + 1) r.1 i, if 0 ≤ r.2 ∧ rd r.1 r.2 = 1 then z.2 ++ [r.2] else z.2)
structure CycInv (n : Nat) (ps : List Int) (z : List Int × List Int) : Prop where
  len : z.1.length = n
  two : ∀ a : Int, 0 ≤ a → a < n → rd z.1 a = 0 ∨ rd z.1 a = 2
  ends : z.2 = [] → ∀ a : Int, 0 ≤ a → a < n → rd z.1 a = 2 → endsAt ps a
  bad : z.2 ≠ [] → ∃ a : Int, 0 ≤ a ∧ a < n ∧ ¬ endsAt ps a
theorem zeros_le (st : List Int) : zeros st ≤ st.length := List.countP_le_length
theorem nodup_len {n : Nat} {L : List Int} (nd : L.Nodup) (h : ∀ x ∈ L, 0 ≤ x ∧ x < n) : L.length ≤ n := by
  have key : ∀ (l m : List Int), l.Nodup → (∀ x ∈ l, x ∈ m) → l.length ≤ m.length := by
    intro l
    induction l with
    | nil => intro m _ _; exact Nat.zero_le _
    | cons a l ih =>
      intro m nd h
      have ha := h a (List.mem_cons_self ..)
      have nd2 := List.nodup_cons.1 nd
      have := ih (m.erase a) nd2.2 (fun x hx => (List.mem_erase_of_ne (show x ≠ a from fun e => nd2.1 (by rw [← e]; exact hx))).2 (h x (List.mem_cons_of_mem _ hx)))
      rw [List.length_erase_of_mem ha] at this
      have h0 : 0 < m.length := List.length_pos_of_mem ha
      rw [List.length_cons]
      omega
  have := key L ((List.range n).map fun i : Nat => (i : Int)) nd (fun x hx => List.mem_map.2 ⟨x.toNat, List.mem_range.2 (by have := h x hx; omega), by have := h x hx; omega⟩)
  simpa using this
theorem round_inv {n : Nat} {ps : List Int} (hp : inR n ps) {z : List Int × List Int} (h : CycInv n ps z) {i : Int} (h0 : 0 ≤ i) (h1 : i < n) : CycInv n ps (roundC ps z i) ∧ rd (roundC ps z i).1 i = 2 ∧ ∀ a : Int, 0 ≤ a → a < n → rd z.1 a = 2 → rd (roundC ps z i).1 a = 2 := by
  obtain ⟨st, fl⟩ := z
  obtain ⟨hlen, htwo, hends, hbad⟩ := h
  dsimp only at hlen htwo hends hbad
  have hzl := zeros_le st
  obtain ⟨L, b, g1, g2, g3, g4, g5, g6⟩ := go1_spec hp (ps.length + 1) st i hlen (by rw [hp.1]; omega) h1
  have hL : L.length ≤ n := nodup_len g3 (fun x hx => ⟨(g4 x hx).1, (g4 x hx).2.1⟩)
  have m1 : ∀ j : Int, 0 ≤ j → rd (mark 1 L st) j = if j ∈ L then 1 else rd st j := rd_mark 1 L st (fun x hx => ⟨(g4 x hx).1, by rw [hlen]; exact (g4 x hx).2.1⟩)
  have m2 : ∀ j : Int, 0 ≤ j → rd (mark 2 L (mark 1 L st)) j = if j ∈ L then 2 else rd st j := by
    intro j hj
    rw [rd_mark 2 L _ (fun x hx => ⟨(g4 x hx).1, by rw [mark_len, hlen]; exact (g4 x hx).2.1⟩) j hj, m1 j hj]
    by_cases c : j ∈ L
    · rw [if_pos c, if_pos c]
    · rw [if_neg c, if_neg c]; rw [if_neg c]
  have e2 : go2 ps (ps.length + 1) (mark 1 L st) i = mark 2 L (mark 1 L st) := by
    refine go2_spec g2 _ _ g3 (fun x hx => ⟨(g4 x hx).1, by rw [mark_len, hlen]; exact (g4 x hx).2.1, by rw [m1 x (g4 x hx).1, if_pos hx]⟩) ?_ (by rw [hp.1]; omega)
    rcases Int.lt_or_le b 0 with c | c
    · exact .inl c
    · refine .inr ?_
      rw [m2 b c]
      by_cases d : b ∈ L
      · rw [if_pos d]; decide
      · rw [if_neg d]
        rcases htwo b c g5 with e | e <;> omega
  have hround : roundC ps (st, fl) i = (mark 2 L (mark 1 L st), if 0 ≤ b ∧ b ∈ L then fl ++ [b] else fl) := by
    unfold roundC
    dsimp only
    rw [g1]
    dsimp only
    rw [e2]
    congr 1
    by_cases c : 0 ≤ b
    · rw [m1 b c]
      by_cases d : b ∈ L
      · rw [if_pos d, if_pos ⟨c, rfl⟩, if_pos ⟨c, d⟩]
      · rw [if_neg d, if_neg (show ¬ (0 ≤ b ∧ rd st b = 1) from fun h => by rcases htwo b c g5 with e | e <;> omega), if_neg (show ¬ (0 ≤ b ∧ b ∈ L) from fun h => d h.2)]
    · rw [if_neg (fun h => c h.1), if_neg (fun h => c h.1)]
  have hi2 : rd (mark 2 L (mark 1 L st)) i = 2 := by
    rw [m2 i h0]
    by_cases d : i ∈ L
    · rw [if_pos d]
    · rw [if_neg d]
      rcases htwo i h0 h1 with e | e
      · exfalso
        cases g2 with
        | none =>
          rcases g6 with h | h
          · omega
          · exact h e
        | step _ _ => exact d (List.mem_cons_self ..)
      · exact e
  rw [hround]
  refine ⟨⟨by rw [mark_len, mark_len, hlen], ?_, ?_, ?_⟩, hi2, ?_⟩
  · intro a a0 a1
    dsimp only
    rw [m2 a a0]
    by_cases d : a ∈ L
    · rw [if_pos d]; exact .inr rfl
    · rw [if_neg d]; exact htwo a a0 a1
  · intro hf a a0 a1 h2
    dsimp only at hf h2
    by_cases c : 0 ≤ b ∧ b ∈ L
    · rw [if_pos c] at hf; simp at hf
    · rw [if_neg c] at hf
      rw [m2 a a0] at h2
      by_cases d : a ∈ L
      · have hb : endsAt ps b := by
          rcases Int.lt_or_le b 0 with e | e
          · exact ⟨0, e⟩
          · have hnb : b ∉ L := fun h => c ⟨e, h⟩
            refine hends hf b e g5 ?_
            rcases htwo b e g5 with q | q
            · exfalso
              rcases g6 with g | g
              · omega
              · rw [m1 b e, if_neg hnb] at g; exact g q
            · exact q
        exact (g2.ends hb).2 a d
      · rw [if_neg d] at h2
        exact hends hf a a0 a1 h2
  · intro hf
    dsimp only at hf
    by_cases c : 0 ≤ b ∧ b ∈ L
    · exact ⟨b, c.1, g5, g2.round c.2 b c.2⟩
    · rw [if_neg c] at hf
      exact hbad hf
  · intro a a0 a1 h2
    dsimp only at h2 ⊢
    rw [m2 a a0]
    by_cases d : a ∈ L
    · rw [if_pos d]
    · rw [if_neg d]; exact h2
def cycZ (ps : List Int) : Nat → List Int × List Int
  | 0 => (List.replicate ps.length 0, [])
  | k + 1 => roundC ps (cycZ ps k) (k : Int)
theorem cyc_inv {n : Nat} {ps : List Int} (hp : inR n ps) : ∀ k : Nat, k ≤ n → CycInv n ps (cycZ ps k) ∧ ∀ a : Int, 0 ≤ a → a < k → rd (cycZ ps k).1 a = 2
  | 0, _ => by
    have hr : ∀ a : Int, 0 ≤ a → a < n → rd (List.replicate ps.length (0 : Int)) a = 0 := fun a a0 a1 => by
      have hx : a.toNat < ps.length := by rw [hp.1]; omega
      simp [rd, List.getD, hx]
    refine ⟨⟨by simp [cycZ, hp.1], fun a a0 a1 => .inl (hr a a0 a1), ?_, fun h => absurd rfl h⟩, fun a a0 a1 => by omega⟩
    intro _ a a0 a1 h
    have := hr a a0 a1
    have h' : rd (List.replicate ps.length (0 : Int)) a = 2 := h
    omega
  | k + 1, hk => by
    obtain ⟨h1, h2⟩ := cyc_inv hp k (by omega)
    obtain ⟨g1, g2, g3⟩ := round_inv hp h1 (i := (k : Int)) (by omega) (by omega)
    refine ⟨g1, fun a a0 a1 => ?_⟩
    by_cases e : a = (k : Int)
    · rw [e]; exact g2
    · exact g3 a a0 (by omega) (h2 a a0 (by omega))
/-- None is called just if all walks up end. -/
theorem cyc_none {n : Nat} {ps : List Int} (hp : inR n ps) : (cycZ ps n).2 = [] ↔ ∀ a : Int, 0 ≤ a → a < n → endsAt ps a := by
  obtain ⟨h1, h2⟩ := cyc_inv hp n (Nat.le_refl _)
  constructor
  · intro h a a0 a1
    exact h1.ends h a a0 a1 (h2 a a0 a1)
  · intro h
    cases hc : (cycZ ps n).2 with
    | nil => rfl
    | cons x l =>
      obtain ⟨a, a0, a1, hb⟩ := h1.bad (by rw [hc]; simp)
      exact absurd (h a a0 a1) hb
/-- A walk that ends does so within as many steps as there are places, and one. -/
theorem ends_in {n : Nat} {ps : List Int} (hp : inR n ps) {a : Int} (a1 : a < n) : endsAt ps a ↔ upL ps a (n + 1) < 0 := by
  refine ⟨fun h => ?_, fun h => ⟨_, h⟩⟩
  have hz := zeros_le (List.replicate n (0 : Int))
  rw [List.length_replicate] at hz
  obtain ⟨L, b, g1, g2, g3, g4, g5, g6⟩ := go1_spec hp (n + 1) (List.replicate n 0) a (by simp) (by omega) a1
  have hL : L.length ≤ n := nodup_len g3 (fun x hx => ⟨(g4 x hx).1, (g4 x hx).2.1⟩)
  rcases Int.lt_or_le b 0 with c | c
  · have := upL_more ps L.length a (by rw [g2.up]; exact c) (n + 1 - L.length)
    rw [show L.length + (n + 1 - L.length) = n + 1 by omega] at this
    exact this
  · exfalso
    have hbL : b ∈ L := by
      rcases g6 with g | g
      · omega
      · rw [rd_mark 1 L _ (fun x hx => ⟨(g4 x hx).1, by rw [List.length_replicate]; exact (g4 x hx).2.1⟩) b c] at g
        by_cases d : b ∈ L
        · exact d
        · rw [if_neg d] at g
          exfalso
          apply g
          have hx : b.toNat < n := by omega
          simp [rd, List.getD, hx]
    have hr := g2.round hbL
    cases g2 with
    | none => cases hbL
    | step _ _ => exact hr a (List.mem_cons_self ..) h
end Go.Proofs.Ytmfdhcgdibefiaa.L

/- parent.Right's closure: it says no. -/
namespace Go.Proofs.Ytmfdhcgdibefiaa.L
open Go.RowKit Go.Proofs.Ytmfdhcgdibefiaa.Q Go.Proofs.YtmfdhcgdibefiaaW.PrintWords Go.Proofs.YtmfdhcgdibefiaaW.PrintLast Go.Proofs.YtmfdhcgdibefiaaW.PrintMore Go.Proofs.YtmfdhcgdibefiaaW.Lib Go.Proofs.YtmfdhcgdibefiaaW.MapB
set_option linter.unusedVariables false

theorem no_calls (x : Int) (B : Nat) (b : Bool) (w : World) (hb : Boxed w B 4 (.bool b)) :
    Calls Try.prog 94 #[.int .i64 x, .pointer (some ⟨B, 0, none⟩)] w fun e w' => e = .returned (.tuple #[]) ∧ Boxed w' B 4 (.bool false) ∧ w.grownBy w' (some B) := by
  have hc := hb.cell
  have hf := hb.frozen
  go_enter Try.func94, Try.ntmps94
  go_wp2
  go_end0
  exact ⟨rfl, hb.set _, grownBy_setCell' _ _ _⟩
end Go.Proofs.Ytmfdhcgdibefiaa.L

/- parent.cycles : the block of colours. -/
namespace Go.Proofs.Ytmfdhcgdibefiaa.L
open Go.RowKit Go.Proofs.Ytmfdhcgdibefiaa.Q Go.Proofs.YtmfdhcgdibefiaaW.PrintWords Go.Proofs.YtmfdhcgdibefiaaW.PrintLast Go.Proofs.YtmfdhcgdibefiaaW.PrintMore Go.Proofs.YtmfdhcgdibefiaaW.Lib Go.Proofs.YtmfdhcgdibefiaaW.MapB
set_option linter.unusedVariables false

/-- A block of whole numbers. -/
def rowB (W : World) (g : Nat) (st : List Int) : Prop := W.heap[g]? = some (.cells (st.map (Value.int .i64)).toArray 3 (0, 0))
theorem rowB_cell {W : World} {g : Nat} {st : List Int} (h : rowB W g st) {a : Int} (h0 : 0 ≤ a) (h1 : a < st.length) : W.cell? ⟨g, a.toNat, none⟩ = some (.int .i64 (rd st a)) := by
  have hx : a.toNat < st.length := by omega
  unfold rowB at h
  simp [World.cell?, h, rd, List.getD, hx]
theorem rowB_frozen {W : World} {g : Nat} {st : List Int} (h : rowB W g st) (a : Nat) : W.frozen? ⟨g, a, none⟩ = false := by
  unfold rowB at h
  simp [World.frozen?, h]
theorem rowB_set {W : World} {g : Nat} {st : List Int} (h : rowB W g st) (a : Nat) (v : Int) : rowB (W.setCell ⟨g, a, none⟩ (.int .i64 v)) g (st.set a v) := by
  unfold rowB at *
  obtain ⟨hlt, hk⟩ := Array.getElem?_eq_some_iff.1 h
  show (W.heap.modify g _)[g]? = _
  rw [Array.getElem?_eq_getElem (by rw [Array.size_modify]; exact hlt), Array.getElem_modify_self, hk]
  simp [List.map_set]
theorem rowB_kept {W W' : World} {g : Nat} {st : List Int} {row : Option Nat} (h : rowB W g st) (hg : W.grownBy W' row) (hne : some g ≠ row) : rowB W' g st := (hg.block g (Array.getElem?_eq_some_iff.1 h).1 hne).trans h
theorem heap_made (W : World) (z : Value) (n : Nat) (e : TypeId) : (W.alloc (.cells (madeCells #[z] n) e)).heap[W.heap.size]? = some (.cells (List.replicate n z).toArray e (0, 0)) := by
  have h := (MapKept.heap_alloc W (.cells (madeCells #[z] n) e)).1
  have e1 : madeCells #[z] n = (List.replicate n z).toArray := by
    apply Array.ext
    · simp [madeCells]
    · intro i h1 h2
      simp [madeCells, Nat.mod_one]
  exact h.trans (by rw [e1])
end Go.Proofs.Ytmfdhcgdibefiaa.L

/- parent.cycles with parent.Right's closure: the walk. -/
namespace Go.Proofs.Ytmfdhcgdibefiaa.L
open Go.RowKit Go.Proofs.Ytmfdhcgdibefiaa.Q Go.Proofs.YtmfdhcgdibefiaaW.PrintWords Go.Proofs.YtmfdhcgdibefiaaW.PrintLast Go.Proofs.YtmfdhcgdibefiaaW.PrintMore Go.Proofs.YtmfdhcgdibefiaaW.Lib Go.Proofs.YtmfdhcgdibefiaaW.MapB
set_option linter.unusedVariables false

theorem grownBy_set (W : World) (g o : Nat) (v : Value) : W.grownBy (W.setCell ⟨g, o, none⟩ v) (some g) :=
  ⟨rfl, rfl, rfl, (KeepsWalks.setCell W _ v).size, fun k _ hk => Below.heap_setCell _ _ _ k (fun e => hk (by rw [e]))⟩
theorem go1_on {ps : List Int} {f : Nat} {st : List Int} {a : Int} (c : 0 ≤ a ∧ rd st a = 0) : go1 ps (f + 1) st a = go1 ps f (st.set a.toNat 1) (rd ps a) := by
  show (if _ then _ else _) = _
  rw [if_pos c]
theorem go1_stop {ps : List Int} {f : Nat} {st : List Int} {a : Int} (c : ¬ rd st a = 0) : go1 ps (f + 1) st a = (st, a) := by
  show (if _ then _ else _) = _
  rw [if_neg (fun h => c h.2)]
theorem go1_len (ps : List Int) : ∀ (f : Nat) (st : List Int) (a : Int), (go1 ps f st a).1.length = st.length
  | 0, _, _ => rfl
  | f + 1, st, a => by
    unfold go1
    split
    · rw [go1_len ps f, List.length_set]
    · rfl
def ones (st : List Int) : Nat := st.countP (fun x => decide (x = 1))
theorem ones_set {st : List Int} {a : Int} (h0 : 0 ≤ a) (h1 : a < st.length) (hz : rd st a = 1) : ones (st.set a.toNat 2) + 1 = ones st := by
  have hx : a.toNat < st.length := by omega
  have e : st[a.toNat] = 1 := by simpa [rd, List.getD, hx] using hz
  unfold ones
  rw [List.countP_set hx, e]
  have : 0 < st.countP (fun x => decide (x = 1)) := List.countP_pos_iff.2 ⟨1, by rw [← e]; exact List.getElem_mem _, by decide⟩
  simp
  omega
theorem go2_on {ps : List Int} {f : Nat} {st : List Int} {a : Int} (c : 0 ≤ a ∧ rd st a = 1) : go2 ps (f + 1) st a = go2 ps f (st.set a.toNat 2) (rd ps a) := by
  show (if _ then _ else _) = _
  rw [if_pos c]
theorem go2_stop {ps : List Int} {f : Nat} {st : List Int} {a : Int} (c : ¬ (0 ≤ a ∧ rd st a = 1)) : go2 ps (f + 1) st a = st := by
  show (if _ then _ else _) = _
  rw [if_neg c]
set_option maxHeartbeats 1000000 in
set_option maxRecDepth 100000 in
theorem cycles_right (ps : List Int) (hp : inR ps.length ps) (hl : ps.length ≤ 1000000) (A0 : Option Addr) (c0 B : Nat) (w0 w : World) (hr0 : Kd.C (Kd.int .i64) w0 A0 ps.length ps) (hb0 : Below w0.heap.size w0 w) (hBb : w0.heap.size ≤ B) (hbox : Boxed w B 4 (.bool true)) :
    Calls Try.prog 93 #[.slice A0 ps.length c0, .func (.func 94) #[] #[.pointer (some ⟨B, 0, none⟩)]] w fun e w' => e = .returned (.tuple #[]) ∧ Boxed w' B 4 (.bool (decide ((cycZ ps ps.length).2 = []))) ∧ Below w0.heap.size w0 w' := by
  have hmk := print_make 29 3 .i64 8 Try.underlying29 (by kernel_rfl) (by omega) ps.length (by omega)
  have HR0 := Aside0.mk hr0
  have HB0 := Aside0.mk (fun o => below_alloc hb0 o)
  have HX := Aside0.mk (fun o => hbox.alloc o)
  have HBg := Aside0.mk hbox.lt
  have HP := Aside0.mk hp
  have HL := Aside0.mk hl
  have HI := Aside0.mk (cyc_inv hp)
  have hn0 : decide ((ps.length : Int) < 0) = false := decide_eq_false (by omega)
  have hnm : decide ((9223372036854775807 : Int) < (ps.length : Int)) = false := decide_eq_false (by omega)
  clear hr0 hb0 hbox hp hl
  go_enter Try.func93, Try.ntmps93
  go_wp2_with fail
  have HG0 : Aside0 (rowB (w.alloc (.cells (madeCells #[Value.int .i64 0] ps.length) 3)) w.heap.size (cycZ ps 0).1) := ⟨by
    show _ = some (Obj.cells ((List.replicate ps.length (0 : Int)).map (Value.int .i64)).toArray 3 (0, 0))
    rw [List.map_replicate]
    exact heap_made w _ _ _⟩
  generalize hgg : w.heap.size = g at *
  have HWg := Aside0.mk (show w0.heap.size ≤ g from by have := HBg.out; omega)
  go_loopg [12] ps.length (fun kq v12 w' => ∃ x : Nat, v12 = .int .i64 (x : Int) ∧ Aside0 (x + kq = ps.length) ∧ Aside0 (rowB w' g (cycZ ps x).1) ∧ Aside0 (Boxed w' B 4 (.bool (decide ((cycZ ps x).2 = [])))) ∧ Aside0 (Below w0.heap.size w0 w'))
  case atStart => exact ⟨0, rfl, ⟨by omega⟩, HG0, ⟨HX.out _⟩, ⟨HB0.out _⟩⟩
  case round =>
    clear HG0 HB0 HX
    obtain ⟨x, rfl, HK, HG, HX, HB⟩ := hrel
    by_cases c1 : (x : Int) < (ps.length : Int)
    · have c1b := decide_eq_true c1
      have HI1 := Aside0.mk (HI.out x (by omega)).1
      have HW1 := Aside0.mk (show wrap64 ((x : Int) + 1) = ((x + 1 : Nat) : Int) from by unfold wrap64; have := HL.out; omega)
      have HN := Aside0.mk (show cycZ ps (x + 1) = roundC ps (cycZ ps x) (x : Int) from rfl)
      have C1 := Aside0.mk c1
      replace c1 := eq_true c1
      obtain ⟨k1, rfl⟩ : ∃ k1, gk = k1 + 1 := ⟨gk - 1, by have := HK.out; have := C1.out; omega⟩
      go_wp2_with fail
      apply wp_scope_straight
      go_wp2_with fail
      apply wp_label
      rename_i hK
      refine hK _ _ ?_
      clear hK
      apply wp_seq_k
      intro _ _
      go_cut [6] (fun v6 wc => ∃ (a : Int) (st : List Int), v6 = .int .i64 a ∧ Aside0 (go1 ps (ps.length + 1) (cycZ ps x).1 (x : Int) = (st, a)) ∧ Aside0 (rowB wc g st) ∧ Aside0 (Boxed wc B 4 (.bool (decide ((roundC ps (cycZ ps x) (x : Int)).2 = [])))) ∧ Aside0 (Below w0.heap.size w0 wc))
      case first =>
        go_wp2_with fail
        go_loopg [6] (ps.length + 1) (fun kq v6 w' => ∃ (a : Int) (st : List Int), v6 = .int .i64 a ∧ Aside0 (go1 ps kq st a = go1 ps (ps.length + 1) (cycZ ps x).1 (x : Int) ∧ a < ps.length ∧ st.length = ps.length ∧ zeros st < kq ∧ ∀ j : Int, 0 ≤ j → j < ps.length → rd st j = 0 ∨ rd st j = 1 ∨ rd st j = 2) ∧ Aside0 (rowB w' g st) ∧ Aside0 (Boxed w' B 4 (.bool (decide ((cycZ ps x).2 = [])))) ∧ Aside0 (Below w0.heap.size w0 w'))
        case atStart => exact ⟨x, _, rfl, ⟨rfl, by have := C1.out; omega, HI1.out.len, by have := zeros_le (cycZ ps x).1; have := HI1.out.len; omega, fun j j0 j1 => (HI1.out.two j j0 j1).elim .inl (fun h => .inr (.inr h))⟩, HG, HX, HB⟩
        case round =>
          clear HG HX HB
          obtain ⟨a, st, rfl, HA, HG, HX, HB⟩ := hrel
          obtain ⟨kf, rfl⟩ : ∃ kf, gk = kf + 1 := ⟨gk - 1, by have := HA.out.2.2.2.1; omega⟩
          by_cases c2 : a < 0
          · have c2b := decide_eq_true c2
            have H1 : Aside0 (go1 ps (ps.length + 1) (cycZ ps x).1 (x : Int) = (st, a)) := ⟨by rw [← HA.out.1]; unfold go1; rw [if_neg (by omega)]⟩
            have H2 : Aside0 ((roundC ps (cycZ ps x) (x : Int)).2 = (cycZ ps x).2) := ⟨by unfold roundC; dsimp only; rw [H1.out]; dsimp only; rw [if_neg (by omega)]⟩
            replace c2 := eq_true c2
            go_wp2_with fail
            go_meet
            case rel => exact ⟨a, st, rfl, H1, HG, ⟨by rw [H2.out]; exact HX.out⟩, HB⟩
          · have c2b := decide_eq_false c2
            have p2 : 0 ≤ a := by omega
            have c3 : a < (ps.length : Int) := HA.out.2.1
            have hcell := rowB_cell HG.out p2 (by rw [HA.out.2.2.1]; exact c3)
            have hcol := HA.out.2.2.2.2 a p2 c3
            replace c2 := eq_false c2
            replace p2 := eq_true p2
            replace c3 := eq_true c3
            rcases hcol with hv | hv | hv
            · have H1 : Aside0 (go1 ps kf (st.set a.toNat 1) (rd ps a) = go1 ps (ps.length + 1) (cycZ ps x).1 (x : Int)) := ⟨by rw [← HA.out.1, go1_on ⟨of_eq_true p2, hv⟩]⟩
              have HZ := Aside0.mk (zeros_set (of_eq_true p2) (by rw [HA.out.2.2.1]; exact of_eq_true c3) hv)
              have HR := Aside0.mk (inR_rd HP.out (of_eq_true p2) (of_eq_true c3))
              have HS := Aside0.mk (rowB_set HG.out a.toNat 1)
              have hgs := grownBy_set wr g a.toNat (.int .i64 1)
              have HXs := Aside0.mk (HX.out.kept hgs (fun e => by have h := Option.some.inj e; have := HBg.out; omega))
              have HBs := Aside0.mk (HB.out.grown hgs HB.out.size (fun j hj => by cases hj; exact HWg.out))
              have hfz := rowB_frozen HG.out a.toNat
              have HSet := Aside0.mk (fun (j : Int) (hj : 0 ≤ j) => rdC_set st a j 1 (of_eq_true p2) (by rw [HA.out.2.2.1]; exact of_eq_true c3) hj)
              obtain ⟨ad, e1, hx⟩ := Kd.at_int (Kd.C_below HR0.out HBs.out) a (of_eq_true p2) (of_eq_true c3)
              cases e1
              clear hgs
              rw [hv] at hcell
              go_wp2_with fail
              go_roundg kf
              case measure => omega
              case rel => exact ⟨rd ps a, st.set a.toNat 1, rfl, ⟨H1.out, HR.out.2, by rw [List.length_set]; exact HA.out.2.2.1, by have := HZ.out; have := HA.out.2.2.2.1; omega, fun j j0 j1 => by
                rw [HSet.out j j0]
                split
                · exact .inr (.inl rfl)
                · exact HA.out.2.2.2.2 j j0 j1⟩, HS, HXs, HBs⟩
            · have H1 : Aside0 (go1 ps (ps.length + 1) (cycZ ps x).1 (x : Int) = (st, a)) := ⟨by rw [← HA.out.1, go1_stop (by omega)]⟩
              have H2 : Aside0 ((roundC ps (cycZ ps x) (x : Int)).2 ≠ []) := ⟨by unfold roundC; dsimp only; rw [H1.out]; dsimp only; rw [if_pos ⟨of_eq_true p2, hv⟩]; simp⟩
              rw [hv] at hcell
              go_wp2_with (go_at_call 94; refine (no_calls _ _ _ _ HX.out).mono ?_; rintro e w3 ⟨rfl, hb3, hg3⟩; have HX3 := Aside0.mk hb3; have HG3 := Aside0.mk (rowB_kept HG.out hg3 (fun e => by have h := Option.some.inj e; have := HBg.out; omega)); have HB3 := Aside0.mk (HB.out.grown hg3 HB.out.size (fun j hj => by cases hj; exact hBb)); clear hb3 hg3)
              go_meet
              case rel => exact ⟨a, st, rfl, H1, HG3, ⟨by rw [decide_eq_false H2.out]; exact HX3.out⟩, HB3⟩
            · have H1 : Aside0 (go1 ps (ps.length + 1) (cycZ ps x).1 (x : Int) = (st, a)) := ⟨by rw [← HA.out.1, go1_stop (by omega)]⟩
              have H2 : Aside0 ((roundC ps (cycZ ps x) (x : Int)).2 = (cycZ ps x).2) := ⟨by unfold roundC; dsimp only; rw [H1.out]; dsimp only; rw [if_neg (by omega)]⟩
              rw [hv] at hcell
              go_wp2_with fail
              go_meet
              case rel => exact ⟨a, st, rfl, H1, HG, ⟨by rw [H2.out]; exact HX.out⟩, HB⟩
      case rest =>
        obtain ⟨a, st, rfl, H1, HG2, HX2, HB2⟩ := hcut
        obtain ⟨w5, rfl⟩ : ∃ w5 : World, w5 = wc := ⟨_, rfl⟩
        have HLen := Aside0.mk (show st.length = ps.length by have h := go1_len ps (ps.length + 1) (cycZ ps x).1 (x : Int); rw [H1.out] at h; exact h.trans HI1.out.len)
        clear HG HX HB
        go_wp2_with fail
        go_loopg [6] (ps.length + 1) (fun kq v6 w' => ∃ (a : Int) (sb : List Int), v6 = .int .i64 a ∧ Aside0 (go2 ps kq sb a = go2 ps (ps.length + 1) st (x : Int) ∧ a < ps.length ∧ sb.length = ps.length ∧ ones sb < kq) ∧ Aside0 (rowB w' g sb) ∧ Aside0 (Boxed w' B 4 (.bool (decide ((roundC ps (cycZ ps x) (x : Int)).2 = [])))) ∧ Aside0 (Below w0.heap.size w0 w'))
        case atStart => exact ⟨x, st, rfl, ⟨rfl, by have := C1.out; omega, HLen.out, by have : ones st ≤ st.length := List.countP_le_length; have := HLen.out; omega⟩, HG2, HX2, HB2⟩
        case round =>
          clear HG2 HX2 HB2
          obtain ⟨a, sb, rfl, HA, HG, HX, HB⟩ := hrel
          obtain ⟨kf, rfl⟩ : ∃ kf, gk = kf + 1 := ⟨gk - 1, by have := HA.out.2.2.2; omega⟩
          by_cases c2 : a < 0
          · have c2b := decide_eq_true c2
            have HE := Aside0.mk (show (cycZ ps (x + 1)).1 = sb from by rw [HN.out]; unfold roundC; dsimp only; rw [H1.out]; dsimp only; rw [← HA.out.1, go2_stop (fun h => by omega)])
            have c2g : decide (0 ≤ a) = false := decide_eq_false (by omega)
            have c2h : (0 ≤ a) = False := eq_false (by omega)
            clear c2 c2b
            go_wp2_with fail
            rw [Exit.noGoto_normal]
            go_wp2_with fail
            go_roundg k1
            case measure => omega
            case rel => exact ⟨x + 1, by rw [HW1.out], ⟨by have := HK.out; omega⟩, ⟨by rw [HE.out]; exact HG.out⟩, ⟨by rw [HN.out]; exact HX.out⟩, HB⟩
          · have c2b := decide_eq_false c2
            have p2 : 0 ≤ a := by omega
            have c3 : a < (ps.length : Int) := HA.out.2.1
            have hcell := rowB_cell HG.out p2 (by rw [HA.out.2.2.1]; exact c3)
            by_cases hv : rd sb a = 1
            · have H3 : Aside0 (go2 ps kf (sb.set a.toNat 2) (rd ps a) = go2 ps (ps.length + 1) st (x : Int)) := ⟨by rw [← HA.out.1, go2_on ⟨p2, hv⟩]⟩
              have HZ := Aside0.mk (ones_set p2 (by rw [HA.out.2.2.1]; exact c3) hv)
              have HR := Aside0.mk (inR_rd HP.out p2 c3)
              have HS := Aside0.mk (rowB_set HG.out a.toNat 2)
              have hgs := grownBy_set wr g a.toNat (.int .i64 2)
              have HXs := Aside0.mk (HX.out.kept hgs (fun e => by have h := Option.some.inj e; have := HBg.out; omega))
              have HBs := Aside0.mk (HB.out.grown hgs HB.out.size (fun j hj => by cases hj; exact HWg.out))
              have hfz := rowB_frozen HG.out a.toNat
              obtain ⟨ad, e1, hx⟩ := Kd.at_int (Kd.C_below HR0.out HBs.out) a p2 c3
              cases e1
              clear hgs
              replace c2 := eq_false c2
              replace p2 := eq_true p2
              replace c3 := eq_true c3
              rw [hv] at hcell
              go_wp2_with fail
              go_roundg kf
              case measure => omega
              case rel => exact ⟨rd ps a, sb.set a.toNat 2, rfl, ⟨H3.out, HR.out.2, by rw [List.length_set]; exact HA.out.2.2.1, by have := HZ.out; have := HA.out.2.2.2; omega⟩, HS, HXs, HBs⟩
            · have hvb := decide_eq_false hv
              have HE := Aside0.mk (show (cycZ ps (x + 1)).1 = sb from by rw [HN.out]; unfold roundC; dsimp only; rw [H1.out]; dsimp only; rw [← HA.out.1, go2_stop (fun h => hv h.2)])
              replace c2 := eq_false c2
              replace p2 := eq_true p2
              replace c3 := eq_true c3
              generalize hq : rd sb a = q at *
              go_wp2_with fail
              rw [Exit.noGoto_normal]
              go_wp2_with fail
              go_roundg k1
              case measure => omega
              case rel => exact ⟨x + 1, by rw [HW1.out], ⟨by have := HK.out; omega⟩, ⟨by rw [HE.out]; exact HG.out⟩, ⟨by rw [HN.out]; exact HX.out⟩, HB⟩
    · have c1b := decide_eq_false c1
      have hx : x = ps.length := by have := HK.out; omega
      subst hx
      go_wp2
      go_end0
      exact ⟨rfl, HX.out, HB.out⟩
end Go.Proofs.Ytmfdhcgdibefiaa.L

/- merkhetref10.up and Right: plain. -/
namespace Go.Proofs.Ytmfdhcgdibefiaa.L
open Go.RowKit Go.Proofs.Ytmfdhcgdibefiaa.Q Go.Proofs.YtmfdhcgdibefiaaW.PrintWords Go.Proofs.YtmfdhcgdibefiaaW.Lib
set_option linter.unusedVariables false
/-- A forest's. -/
def rightB (ps : List Int) : Bool := ps.all (fun p => decide (-1 ≤ p) && decide (p < ps.length)) && (List.range ps.length).all (fun i : Nat => decide (upL ps i (ps.length + 1) < 0))
/-- As parent.Right says it. -/
theorem rightB_cyc {ps : List Int} (hp : inR ps.length ps) : rightB ps = decide ((cycZ ps ps.length).2 = []) := by
  rw [Bool.eq_iff_iff, decide_eq_true_eq, cyc_none hp]
  unfold rightB
  rw [Bool.and_eq_true, List.all_eq_true, List.all_eq_true]
  constructor
  · rintro ⟨_, h⟩ a a0 a1
    have := h a.toNat (List.mem_range.2 (by omega))
    rw [decide_eq_true_eq, show ((a.toNat : Nat) : Int) = a by omega] at this
    exact ⟨_, this⟩
  · intro h
    refine ⟨fun p hm => by have := hp.2 p hm; simp only [Bool.and_eq_true, decide_eq_true_eq]; exact this, fun i hi => ?_⟩
    have hi' := List.mem_range.1 hi
    rw [decide_eq_true_eq]
    exact (ends_in hp (by omega)).1 (h i (by omega) (by omega))
end Go.Proofs.Ytmfdhcgdibefiaa.L

/- parent.Right: the walk. -/
namespace Go.Proofs.Ytmfdhcgdibefiaa.L
open Go.RowKit Go.Proofs.Ytmfdhcgdibefiaa.Q Go.Proofs.YtmfdhcgdibefiaaW.PrintWords Go.Proofs.YtmfdhcgdibefiaaW.PrintLast Go.Proofs.YtmfdhcgdibefiaaW.PrintMore Go.Proofs.YtmfdhcgdibefiaaW.Lib Go.Proofs.YtmfdhcgdibefiaaW.MapB
set_option linter.unusedVariables false

def okP (n : Nat) (p : Int) : Bool := decide (-1 ≤ p) && decide (p < n)
theorem rightB_bad {ps : List Int} {x : Int} (h0 : 0 ≤ x) (h1 : x < ps.length) (hb : okP ps.length (rd ps x) = false) : rightB ps = false := by
  have hlt : x.toNat < ps.length := by omega
  have e : rd ps x = ps[x.toNat] := by simp [rd, List.getD, hlt]
  rw [e] at hb
  unfold rightB
  rw [Bool.and_eq_false_iff]
  left
  rw [Bool.eq_false_iff]
  intro h
  have := List.all_eq_true.1 h ps[x.toNat] (List.getElem_mem hlt)
  unfold okP at hb
  rw [hb] at this
  cases this
set_option maxHeartbeats 1000000 in
set_option maxRecDepth 100000 in
theorem right_calls (ps : List Int) (hl : ps.length ≤ 1000000) (A0 : Option Addr) (c0 : Nat) (w : World) (hr0 : Kd.C (Kd.int .i64) w A0 ps.length ps) (hc0 : ps.length ≤ c0) :
    Calls Try.prog 40 #[.slice A0 ps.length c0] w fun e w' => e = .returned (.bool (rightB ps)) ∧ Below w.heap.size w w' := by
  have hmf : ∀ (fn : Fn) (first cap : Array Value) (w : World), (Instr.makeFunc fn first cap).run Try.prog w = .ok (.func fn first cap) w := fun _ _ _ _ => rfl
  have HR0 := Aside0.mk hr0
  have HL := Aside0.mk hl
  have HB0 := Aside0.mk (Below.refl w.heap.size w)
  have QC := Aside0.mk (fun hp B w1 h1 h2 h3 => cycles_right ps hp hl A0 c0 B w w1 hr0 h1 h2 h3)
  clear hr0 hl hc0
  go_enter Try.func40, Try.ntmps40
  go_wp2_with fail
  go_loopg [8] ps.length (fun kq v8 w' => ∃ x8 : Int, v8 = .int .i64 x8 ∧ Aside0 (0 ≤ x8 ∧ x8 + kq = ps.length ∧ ∀ j : Nat, (j : Int) < x8 → okP ps.length (rd ps j) = true) ∧ Aside0 (w' = w))
  case atStart => exact ⟨0, rfl, ⟨by omega, by omega, fun j hj => by omega⟩, ⟨rfl⟩⟩
  case round =>
    obtain ⟨x8, rfl, HK, HW⟩ := hrel
    obtain rfl := HW.out
    by_cases c1 : x8 < (ps.length : Int)
    · have c1b := decide_eq_true c1
      have p1 : 0 ≤ x8 := HK.out.1
      obtain ⟨ad1, e1, hx0⟩ := Kd.at_int HR0.out x8 p1 c1
      cases e1
      have W1 := Aside0.mk (show wrap64 (x8 + 1) = x8 + 1 from by unfold wrap64; have := HL.out; omega)
      have HBad := Aside0.mk (fun h => rightB_bad (ps := ps) (x := x8) p1 c1 h)
      have P1 := Aside0.mk p1
      have Q1 := Aside0.mk c1
      obtain ⟨k1, rfl⟩ : ∃ k1, gk = k1 + 1 := ⟨gk - 1, by have := HK.out; omega⟩
      replace p1 := eq_true p1
      replace c1 := eq_true c1
      generalize hq : rd ps x8 = p at *
      have HQ := Aside0.mk hq
      clear hq
      by_cases c2 : p < -1
      · have c2b := decide_eq_true c2
        have HF := Aside0.mk (HBad.out (by unfold okP; rw [decide_eq_false (by omega)]; rfl))
        replace c2 := eq_true c2
        go_wp2_with fail
        go_ret
        exact ⟨by rw [HF.out]; rfl, HB0.out⟩
      · have c2b := decide_eq_false c2
        by_cases c3 : (ps.length : Int) ≤ p
        · have c3b := decide_eq_true c3
          have HF := Aside0.mk (HBad.out (by unfold okP; rw [decide_eq_false (show ¬ p < ps.length by omega)]; simp))
          replace c2 := eq_false c2
          replace c3 := eq_true c3
          go_wp2_with fail
          go_ret
          exact ⟨by rw [HF.out]; rfl, HB0.out⟩
        · have c3b := decide_eq_false c3
          have HO := Aside0.mk (show okP ps.length p = true from by unfold okP; rw [decide_eq_true (show -1 ≤ p by omega), decide_eq_true (show p < ps.length by omega)]; rfl)
          replace c2 := eq_false c2
          replace c3 := eq_false c3
          go_wp2_with fail
          go_roundg k1
          case measure => omega
          case rel => exact ⟨x8 + 1, by rw [W1.out], ⟨by have := P1.out; omega, by have := HK.out; omega, fun j hj => by
            by_cases e : (j : Int) = x8
            · rw [e, HQ.out]; exact HO.out
            · exact HK.out.2.2 j (by omega)⟩, ⟨rfl⟩⟩
    · have c1b := decide_eq_false c1
      have hin : inR ps.length ps := ⟨rfl, fun p hp => by
        obtain ⟨j, hj, rfl⟩ := List.getElem_of_mem hp
        have h := HK.out.2.2 j (by have := HK.out; omega)
        have e : rd ps (j : Int) = ps[j] := by simp [rd, List.getD, hj]
        rw [e] at h
        unfold okP at h
        rw [Bool.and_eq_true, decide_eq_true_eq, decide_eq_true_eq] at h
        exact h⟩
      have QR := Aside0.mk (QC.out hin wr.heap.size (wr.alloc (.cells #[.bool true] 4)) (below_alloc HB0.out _) (Nat.le_refl _) (Boxed.new _ _ _))
      have HE := Aside0.mk (rightB_cyc hin)
      clear hin QC c1
      go_wp2_with (go_at_call 93; refine QR.out.mono ?_; rintro e w1 ⟨rfl, hb, hbl⟩; have hcb := hb.cell; have HB := Aside0.mk hbl; clear hb hbl)
      go_ret
      exact ⟨by rw [HE.out]; rfl, HB.out⟩
end Go.Proofs.Ytmfdhcgdibefiaa.L

-- Written by wip/tools/gp.py, a program of this session round the kit's printer. Lean checks it.
namespace Go.Proofs.Ytmfdhcgdibefiaa.R
open Go.RowKit Go.Proofs.Ytmfdhcgdibefiaa.Q Go.Proofs.YtmfdhcgdibefiaaW.PrintWords Go.Proofs.YtmfdhcgdibefiaaW.PrintLast Go.Proofs.YtmfdhcgdibefiaaW.PrintMore
attribute [local go_sem] max2_int min2_int max_two min_two max_three min_three max_four min_four   -- for this text's walks alone
set_option linter.unusedVariables false
set_option linter.unusedSimpArgs false




theorem info2 : (Try.prog.info? 2).map (fun i => (i.zero, i.size, i.bytes)) = some (some (.int .i64 0), 1, 8) := by kernel_rfl
theorem info26 : (Try.prog.info? 26).map (fun i => (i.zero, i.size, i.bytes)) = some (some (.agg #[(.int .i64 0), (.int .i64 0)]), 2, 16) := by kernel_rfl
/-! #### struct type 26 -/
structure S26 where
  f0 : Int
  f1 : Int
def z26 : S26 := ⟨(0 : Int), (0 : Int)⟩
def k26 : Kd S26 := Kd.iso (Kd.pair (Kd.int .i64) (Kd.int .i64)) (fun x : S26 => (x.f0, x.f1))
theorem k26_open {w : World} {x : S26} {cs : List Value} (h : k26.K w x cs) : cs = [.int .i64 x.f0, .int .i64 x.f1] := by
  obtain ⟨_, _, rfl, rfl, rfl⟩ := h
  exact rfl
theorem k26_mkM (w : World) (base : Nat) (ok : Nat → Prop) (x : S26)  : k26.M w base ok x [.int .i64 x.f0, .int .i64 x.f1] := ⟨[.int .i64 x.f0], [.int .i64 x.f1], rfl, rfl, rfl⟩
def rd_T26 (xs : List S26) (i : Int) : S26 := xs.getD i.toNat z26
theorem at_T26 {w : World} {A : Option Addr} {n : Nat} {xs : List S26} (h : Kd.C k26 w A n xs) (i : Int) (h0 : 0 ≤ i) (h1 : i < n) : ∃ ad , A = some ad ∧ w.cell? (ad.add (i.toNat * 2)) = some (.int .i64 (rd_T26 xs i).f0) ∧ w.cell? ⟨(ad.add (i.toNat * 2)).block, (ad.add (i.toNat * 2)).off + 1, none⟩ = some (.int .i64 (rd_T26 xs i).f1) := by
  obtain ⟨ad, c, e, _, hK, hc0⟩ := Kd.C_get h z26 i h0 h1
  have hc : ∀ j u, c[j]? = some u → w.cell? (ad.add (i.toNat * 2 + j)) = some u := hc0
  obtain rfl := k26_open hK
  exact ⟨ad, e, hc 0 _ rfl, by rw [← add_field _ _ 1 (by omega)]; exact hc 1 _ rfl⟩

end Go.Proofs.Ytmfdhcgdibefiaa.R

-- Written by wip/tools/gp.py, a program of this session round the kit's printer. Lean checks it.
namespace Go.Proofs.Ytmfdhcgdibefiaa.M
open Go.RowKit Go.Proofs.Ytmfdhcgdibefiaa.Q Go.Proofs.Ytmfdhcgdibefiaa.R Go.Proofs.YtmfdhcgdibefiaaW.PrintWords Go.Proofs.YtmfdhcgdibefiaaW.PrintLast Go.Proofs.YtmfdhcgdibefiaaW.PrintMore
attribute [local go_sem] max2_int min2_int max_two min_two max_three min_three max_four min_four   -- for this text's walks alone
set_option linter.unusedVariables false
set_option linter.unusedSimpArgs false




-- the values' own types

end Go.Proofs.Ytmfdhcgdibefiaa.M

-- Written by wip/tools/gp.py, a program of this session round the kit's printer. Lean checks it.
namespace Go.Proofs.Ytmfdhcgdibefiaa.R
open Go.RowKit Go.Proofs.Ytmfdhcgdibefiaa.Q Go.Proofs.YtmfdhcgdibefiaaW.PrintWords Go.Proofs.YtmfdhcgdibefiaaW.PrintLast Go.Proofs.YtmfdhcgdibefiaaW.PrintMore
attribute [local go_sem] max2_int min2_int max_two min_two max_three min_three max_four min_four   -- for this text's walks alone
set_option linter.unusedVariables false
set_option linter.unusedSimpArgs false

/-! ### merkhetlaw27_fixed_1: function 35 -/
def merkhetlaw27_fixed_1.f (a0 : Int) (a1 : Int) (a2 : Int) : Option (Int × Int × Int × Int × ByteArray × ByteArray × Int × Int) := some (1, a0, 0, 0, (⟨#[97]⟩ : ByteArray), (⟨#[98]⟩ : ByteArray), a1, a2)
set_option maxHeartbeats 8000000 in
set_option maxRecDepth 100000 in
theorem merkhetlaw27_fixed_1.calls (a0 : Int) (a1 : Int) (a2 : Int) (r1 : Int) (r2 : Int) (r3 : Int) (r4 : Int) (r5 : ByteArray) (r6 : ByteArray) (r7 : Int) (r8 : Int) (w : World) (h : merkhetlaw27_fixed_1.f a0 a1 a2 = some (r1, r2, r3, r4, r5, r6, r7, r8)) :
    Calls Try.prog 35 #[.int .u64 a0, .int .i64 a1, .int .i64 a2] w fun e w' => e = .returned (.agg #[.int .u64 r1, .int .u64 r2, .int .u64 r3, .int .u8 r4, .string r5, .string r6, .int .i64 r7, .int .i64 r8]) ∧ Below w.heap.size w w' := by
  have hu37 := Try.underlying37
  have HB := Aside0.mk (Below.refl w.heap.size w)
  have H : (some (1, a0, 0, 0, (⟨#[97]⟩ : ByteArray), (⟨#[98]⟩ : ByteArray), a1, a2)) = some (r1, r2, r3, r4, r5, r6, r7, r8) := h
  clear h
  simp only [Option.some.injEq, Prod.mk.injEq] at H
  obtain ⟨rfl, rfl, rfl, rfl, rfl, rfl, rfl, rfl⟩ := H
  go_enter Try.func35, Try.ntmps35
  go_wp2_with (first | ((with_reducible refine gate_dst (N := 6) rfl ?_); refine box_event ?hg (N := 6) ?hd (cs := #[.int .u64 0, .int .u64 0, .int .u64 0, .int .u8 0, .string (⟨#[]⟩ : ByteArray), .string (⟨#[]⟩ : ByteArray), .int .i64 0, .int .i64 0]) (t := 37) ?hr ?_; (case hd => rfl); (case hg => rfl); (case hr => first | (go_simp; done) | (go_simp; rfl)); intro gb101 hg w4 hbox hb; have n0_ := Aside0.mk (below_step (by repeat (first | (with_reducible first | exact HB.out | apply below_alloc | apply pw_below_drewN | apply below_drew1) | exact HB.out)) hb); have n1_ := Aside0.mk (hbox); have n2_ := Aside0.mk ((by rw [hg]; exact (below_size (by repeat (first | (with_reducible first | exact HB.out | apply below_alloc | apply pw_below_drewN | apply below_drew1) | exact HB.out))) : w.heap.size ≤ gb101)); have n3_ := Aside0.mk ((by rw [hg]; exact (below_size (by repeat (first | (with_reducible first | exact HB.out | apply below_alloc | apply pw_below_drewN | apply below_drew1) | exact HB.out))) : w.heap.size ≤ gb101)); clear HB; have HB := n0_; have BK101 := n1_; have GW101 := n2_; have GE101 := n3_; clear n0_ n1_ n2_ n3_; clear hb hbox hg; have hcz5_0 : w4.cell? ⟨gb101, 0, none⟩ = some (.int .u64 0) := (blk_cell BK101.out 0).trans rfl; have hcz5_1 : w4.cell? ⟨gb101, 1, none⟩ = some (.int .u64 0) := (blk_cell BK101.out 1).trans rfl; have hcz5_2 : w4.cell? ⟨gb101, 2, none⟩ = some (.int .u64 0) := (blk_cell BK101.out 2).trans rfl; have hcz5_3 : w4.cell? ⟨gb101, 3, none⟩ = some (.int .u8 0) := (blk_cell BK101.out 3).trans rfl; have hcz5_4 : w4.cell? ⟨gb101, 4, none⟩ = some (.string (⟨#[]⟩ : ByteArray)) := (blk_cell BK101.out 4).trans rfl; have hcz5_5 : w4.cell? ⟨gb101, 5, none⟩ = some (.string (⟨#[]⟩ : ByteArray)) := (blk_cell BK101.out 5).trans rfl; have hcz5_6 : w4.cell? ⟨gb101, 6, none⟩ = some (.int .i64 0) := (blk_cell BK101.out 6).trans rfl; have hcz5_7 : w4.cell? ⟨gb101, 7, none⟩ = some (.int .i64 0) := (blk_cell BK101.out 7).trans rfl; have hfz5_0 := blk_frozen BK101.out 0; have hfz5_1 := blk_frozen BK101.out 1; have hfz5_2 := blk_frozen BK101.out 2; have hfz5_3 := blk_frozen BK101.out 3; have hfz5_4 := blk_frozen BK101.out 4; have hfz5_5 := blk_frozen BK101.out 5; have hfz5_6 := blk_frozen BK101.out 6; have hfz5_7 := blk_frozen BK101.out 7))
  refine bodyPost_ret (results_cell_row rfl _ _ gb101 37 #[.int .u64 1, .int .u64 a0, .int .u64 0, .int .u8 0, .string (⟨#[97]⟩ : ByteArray), .string (⟨#[98]⟩ : ByteArray), .int .i64 a1, .int .i64 a2] (0, 0) _ rfl (by (with_reducible repeat (first | refine blk_drewN ?_ _ | refine blk_drew ?_ | refine blk_alloc ?_ _)); refine blk_put (cs := #[.int .u64 1, .int .u64 a0, .int .u64 0, .int .u8 0, .string (⟨#[97]⟩ : ByteArray), .string (⟨#[98]⟩ : ByteArray), .int .i64 a1, .int .i64 0]) ?_ 7 _ rfl; (with_reducible repeat (first | refine blk_drewN ?_ _ | refine blk_drew ?_ | refine blk_alloc ?_ _)); refine blk_put (cs := #[.int .u64 1, .int .u64 a0, .int .u64 0, .int .u8 0, .string (⟨#[97]⟩ : ByteArray), .string (⟨#[98]⟩ : ByteArray), .int .i64 0, .int .i64 0]) ?_ 6 _ rfl; (with_reducible repeat (first | refine blk_drewN ?_ _ | refine blk_drew ?_ | refine blk_alloc ?_ _)); refine blk_put (cs := #[.int .u64 1, .int .u64 a0, .int .u64 0, .int .u8 0, .string (⟨#[97]⟩ : ByteArray), .string (⟨#[]⟩ : ByteArray), .int .i64 0, .int .i64 0]) ?_ 5 _ rfl; (with_reducible repeat (first | refine blk_drewN ?_ _ | refine blk_drew ?_ | refine blk_alloc ?_ _)); refine blk_put (cs := #[.int .u64 1, .int .u64 a0, .int .u64 0, .int .u8 0, .string (⟨#[]⟩ : ByteArray), .string (⟨#[]⟩ : ByteArray), .int .i64 0, .int .i64 0]) ?_ 4 _ rfl; (with_reducible repeat (first | refine blk_drewN ?_ _ | refine blk_drew ?_ | refine blk_alloc ?_ _)); refine blk_put (cs := #[.int .u64 1, .int .u64 a0, .int .u64 0, .int .u8 0, .string (⟨#[]⟩ : ByteArray), .string (⟨#[]⟩ : ByteArray), .int .i64 0, .int .i64 0]) ?_ 3 _ rfl; (with_reducible repeat (first | refine blk_drewN ?_ _ | refine blk_drew ?_ | refine blk_alloc ?_ _)); refine blk_put (cs := #[.int .u64 1, .int .u64 a0, .int .u64 0, .int .u8 0, .string (⟨#[]⟩ : ByteArray), .string (⟨#[]⟩ : ByteArray), .int .i64 0, .int .i64 0]) ?_ 2 _ rfl; (with_reducible repeat (first | refine blk_drewN ?_ _ | refine blk_drew ?_ | refine blk_alloc ?_ _)); refine blk_put (cs := #[.int .u64 1, .int .u64 0, .int .u64 0, .int .u8 0, .string (⟨#[]⟩ : ByteArray), .string (⟨#[]⟩ : ByteArray), .int .i64 0, .int .i64 0]) ?_ 1 _ rfl; (with_reducible repeat (first | refine blk_drewN ?_ _ | refine blk_drew ?_ | refine blk_alloc ?_ _)); refine blk_put (cs := #[.int .u64 0, .int .u64 0, .int .u64 0, .int .u8 0, .string (⟨#[]⟩ : ByteArray), .string (⟨#[]⟩ : ByteArray), .int .i64 0, .int .i64 0]) ?_ 0 _ rfl; (with_reducible repeat (first | refine blk_drewN ?_ _ | refine blk_drew ?_ | refine blk_alloc ?_ _)); exact BK101.out) Try.underlying37 rfl (by kernel_rfl)) rfl ?_
  exact ⟨by first | rfl | (simp [errW_none, errW_some] <;> rfl) | (simp [*, errW_none, errW_some] <;> rfl), by repeat (first | (with_reducible first | exact HB.out | apply below_alloc | apply pw_below_drewN | apply below_drew1 | refine below_set ?_ GE101.out) | exact HB.out)⟩

/-! ### stats_Own_1: function 42 (given) -/
def stats_Own_1.f (l0 : List S37) : Option Bool := if l0.length ≤ 1000000000 ∧ (∀ s ∈ l0, L.fitS s) then some (l0.any (fun s => !L.mayS s)) else none
theorem stats_Own_1.calls (A0 : Option Addr) (c0 : Nat) (l0 : List (S37)) (r : Bool) (w : World) (hr0 : Kd.C k37 w A0 l0.length l0) (hc0 : l0.length ≤ c0) (h : stats_Own_1.f l0 = some r) :
    Calls Try.prog 41 #[.slice A0 l0.length c0, .func (.func 42) #[] #[]] w fun e w' => e = .returned (.bool r) ∧ Below w.heap.size w w' := by
  unfold stats_Own_1.f at h
  split at h
  · rename_i hl
    obtain rfl := Option.some.inj h
    exact L.own_contains l0 hl.1 A0 c0 w hr0 (fun e he W hb => L.ownmay_calls e (hl.2 e he) W)
  · cases h

/-! ### stats_Cover: function 13 (given) -/
def stats_Cover.f (l0 : List S26) : Option Int := if l0.length ≤ 1759218604441 ∧ (∀ s ∈ l0, L.inI (s.f0, s.f1)) then some (L.coverN (l0.map (fun s => (s.f0, s.f1))) : Int) else none
theorem stats_Cover.calls (A0 : Option Addr) (c0 : Nat) (l0 : List (S26)) (r : Int) (w : World) (hr0 : Kd.C k26 w A0 l0.length l0) (hc0 : l0.length ≤ c0) (h : stats_Cover.f l0 = some r) :
    Calls Try.prog 13 #[.slice A0 l0.length c0] w fun e w' => e = .returned (.int .u64 r) ∧ Below w.heap.size w w' := by
  unfold stats_Cover.f at h
  split at h
  · rename_i hl
    obtain rfl := Option.some.inj h
    have h1 := L.C_iso (f := fun s : S26 => (s.f0, s.f1)) hr0
    have h2 := L.cover_calls (l0.map (fun s => (s.f0, s.f1))) (by rw [List.length_map]; exact hl.1) (L.mapI hl.2) A0 c0 w (by rw [List.length_map]; exact h1) (by rw [List.length_map]; exact hc0)
    rw [List.length_map] at h2
    exact h2
  · cases h

/-! ### parent_Right: function 40 (given) -/
def parent_Right.f (l0 : List Int) : Option Bool := if l0.length ≤ 1000000 then some (L.rightB l0) else none
theorem parent_Right.calls (A0 : Option Addr) (c0 : Nat) (l0 : List Int) (r : Bool) (w : World) (hr0 : Kd.C (Kd.int .i64) w A0 l0.length l0) (hc0 : l0.length ≤ c0) (h : parent_Right.f l0 = some r) :
    Calls Try.prog 40 #[.slice A0 l0.length c0] w fun e w' => e = .returned (.bool r) ∧ Below w.heap.size w w' := by
  unfold parent_Right.f at h
  split at h
  · rename_i hl
    obtain rfl := Option.some.inj h
    exact L.right_calls l0 hl A0 c0 w hr0 hc0
  · cases h

-- NOT PRINTED: function 95 (api_Span_95)

-- NOT PRINTED: function 41 (api_Span_41)

end Go.Proofs.Ytmfdhcgdibefiaa.R

