/- Texts joined by wip/tools/merge.py: Open QOpens Qx1 Qx2 Qx3 SpanA FitS MayS Ax2 ChkC Bx0 Bx1 ChtS Flt FltW PlaneA FltC PlaneB PlaneC PlaneD PlaneE. -/
import Derived.Test.YtmfdhcgdibefiaaJChartTurns0
import Derived.Test.YtmfdhcgdibefiaaJChartTurns11
import Derived.Test.YtmfdhcgdibefiaaJChartTurns23
import Derived.WalkKit
import Derived.ProofKit
import Derived.OpenShut
import Derived.Deep.Slices
import Derived.DataElems
import Derived.Test.YtmfdhcgdibefiaaJChartTurns22
import Derived.KernelRfl
import Derived.Test.YtmfdhcgdibefiaaJChartTurns12
import Derived.Test.YtmfdhcgdibefiaaJChartTurns21
import Derived.Test.YtmfdhcgdibefiaaProg
import Derived.Below
import Derived.Deep.Draws
import Derived.Deep.AppendLies
import Derived.Maps.AppendAt
import Derived.OwnWalk
import Derived.Laws.BytesArg
import Derived.Laws.MakeOwn
import Derived.Laws.OwnMore
import Derived.Deep.OwnRows
import Derived.Tactics
import Derived.Lib.ConvBytes
import Derived.Laws.Slices
import Derived.RowKit3
import Derived.Deep.LoopGhost
import Derived.Deep.QuietTactic
import Derived.BigQuiet
import Derived.WideLaws
import Derived.Deep.DeepCutAuto
import Derived.Deep.CutBlock
import Derived.Deep.RegionHeld3
import Derived.Laws.Rows
import Derived.Lib.AppendStr
import Derived.ArgAppend
import Derived.Laws.IdiomCopy
import Derived.OrdersHeld
import Derived.Laws.BitsLemmas
import Derived.RowKit
import Derived.Test.YtmfdhcgdibefiaaJChartTurns1
import Derived.Test.YtmfdhcgdibefiaaJChartTurns13
import Derived.Test.YtmfdhcgdibefiaaJChartTurns14
import Derived.Test.YtmfdhcgdibefiaaJChartTurns2
import Derived.Test.YtmfdhcgdibefiaaJChartTurns3
import Derived.Test.YtmfdhcgdibefiaaJChartTurns4
import Derived.Test.YtmfdhcgdibefiaaJChartTurns5
import Derived.Test.YtmfdhcgdibefiaaJChartTurns6
import Derived.Test.YtmfdhcgdibefiaaJChartTurns7
import Derived.Test.YtmfdhcgdibefiaaJChartTurns8
import Derived.Test.YtmfdhcgdibefiaaJChartTurns9
import Derived.Test.YtmfdhcgdibefiaaJChartTurns15
import Derived.Test.YtmfdhcgdibefiaaJChartTurns16
import Derived.Test.YtmfdhcgdibefiaaJChartTurns17
import Derived.Test.YtmfdhcgdibefiaaJChartTurns18
import Derived.Test.YtmfdhcgdibefiaaJChartTurns19
import Derived.Test.YtmfdhcgdibefiaaJChartTurns20
import Derived.Test.YtmfdhcgdibefiaaJChartTurns10
import Derived.RangeFuncBox
import Derived.Tactics2
import Derived.StillTailTactics
import GoSem.Core.Float
import Derived.Laws.FloatArith
import Derived.Lib.Walk
import Derived.WalkSmall
import Derived.Handy
/- How an argument that came in is read by kind: from the row's reading (DataW.trod) to the printer's kinds (Kd). -/
namespace Go.Proofs.YtmfdhcgdibefiaaW.Open
open Go.RowKit Go.Proofs.YtmfdhcgdibefiaaW.PrintWords Go.ChangeShapes Go.WideShapes
set_option linter.unusedVariables false

/-- A type's readings are a kind's, and what is known of what is read. -/
structure Opens {α : Type} (P : Program) (t : TypeId) (k : Kd α) (wf : α → Prop) : Prop where
  sz : P.cellsOf t = k.sz
  K : ∀ {H : Type} {enc : TypeId × Value → H} {W : World} {base : Nat} {spare : Nat → Bool} {held : Bool} {fuel : Nat} {cs : List Value} {d : DataW H} {ps : List MemPlace},
    DataW.trod enc P W base spare held fuel t cs = some (d, ps) → (∀ n ∈ d.weights P t, n ≤ reachBytes) → ∃ x, k.K W x cs ∧ wf x

section
variable {P : Program} {t e : TypeId}

theorem Opens.int {k : IntKind} (ht : P.underlying t = some (.int k)) (hc : P.cellsOf t = 1) : Opens P t (Kd.int k) (fun x => (Lit.int k x).wf = true) := by
  refine ⟨hc, ?_⟩
  intro H enc W base spare held fuel cs d ps h _
  obtain ⟨n, rfl, _, hw⟩ := DataW.trod_int ht h
  exact ⟨n, rfl, hw⟩

theorem Opens.bool (ht : P.underlying t = some .bool) (hc : P.cellsOf t = 1) : Opens P t Kd.bool (fun _ => True) := by
  refine ⟨hc, ?_⟩
  intro H enc W base spare held fuel cs d ps h _
  obtain ⟨b, rfl, _⟩ := DataW.trod_bool ht h
  exact ⟨b, rfl, trivial⟩

theorem Opens.string (ht : P.underlying t = some .string) (hc : P.cellsOf t = 1) : Opens P t Kd.string (fun s => s.size ≤ reachBytes) := by
  refine ⟨hc, ?_⟩
  intro H enc W base spare held fuel cs d ps h hs
  obtain ⟨s, rfl, hx, _⟩ := DataW.trod_string ht h
  obtain ⟨rfl, rfl⟩ := Prod.mk.inj hx
  refine ⟨s, rfl, ?_⟩
  have := hs s.data.toList.length (by simp [DataW.weights])
  simpa using this

theorem Opens.iso {α β : Type} {k : Kd α} {wf : α → Prop} (f : β → α) (g : α → β) (hfg : ∀ x, f (g x) = x) (h : Opens P t k wf) : Opens P t (Kd.iso k f) (fun y => wf (f y)) := by
  refine ⟨h.sz, ?_⟩
  intro H enc W base spare held fuel cs d ps h1 hs
  obtain ⟨x, hK, hw⟩ := h.K h1 hs
  exact ⟨g x, by show k.K W (f (g x)) cs; rw [hfg]; exact hK, by show wf (f (g x)); rw [hfg]; exact hw⟩

theorem Opens.imp {α : Type} {k : Kd α} {wf wf' : α → Prop} (h : Opens P t k wf) (hw : ∀ x, wf x → wf' x) : Opens P t k wf' := by
  refine ⟨h.sz, ?_⟩
  intro H enc W base spare held fuel cs d ps h1 hs
  obtain ⟨x, hK, hx⟩ := h.K h1 hs
  exact ⟨x, hK, hw x hx⟩

/-- Fields, one behind the other, from a place on. -/
def OpensF {α : Type} (P : Program) (fs : List Field) (o : Nat) (k : Kd α) (wf : α → Prop) : Prop :=
  ∀ {H : Type} {enc : TypeId × Value → H} {W : World} {base : Nat} {spare : Nat → Bool} {held : Bool} {n : Nat} {cs : List Value} {xs : List (DataW H × List MemPlace)},
    xs.length = fs.length → (∀ (i : Nat) (f : Field), fs[i]? = some f → DataW.trod enc P W base spare held n f.type ((cs.drop f.offset).take (P.cellsOf f.type)) = xs[i]?) → cs.length = o + k.sz →
    (∀ m ∈ DataW.weightsEach P (fs.map (·.type)) (xs.map (·.1)), m ≤ reachBytes) → ∃ x, k.K W x (cs.drop o) ∧ wf x

theorem OpensF.one {α : Type} {f : Field} {o : Nat} {k : Kd α} {wf : α → Prop} (ho : f.offset = o) (h : Opens P f.type k wf) : OpensF P [f] o k wf := by
  intro H enc W base spare held n cs xs hl hx hc hs
  match xs, hl with
  | [y], _ =>
    have h1 := hx 0 f rfl
    rw [ho, h.sz, List.take_of_length_le (by rw [List.length_drop]; omega)] at h1
    exact h.K (d := y.1) (ps := y.2) h1 (fun m hm => hs m (by simp [DataW.weightsEach, hm]))

theorem OpensF.cons {α β : Type} {f : Field} {fs : List Field} {o o' : Nat} {a : Kd α} {b : Kd β} {wa : α → Prop} {wb : β → Prop} (ho : f.offset = o) (ho' : o' = o + a.sz) (h : Opens P f.type a wa) (hr : OpensF P fs o' b wb) :
    OpensF P (f :: fs) o (Kd.pair a b) (fun x => wa x.1 ∧ wb x.2) := by
  intro H enc W base spare held n cs xs hl hx hc hs
  subst ho'
  match xs, hl with
  | y :: ys, hl =>
    have h1 := hx 0 f rfl
    rw [ho, h.sz] at h1
    obtain ⟨x, hK, hw⟩ := h.K (d := y.1) (ps := y.2) h1 (fun m hm => hs m (by simp [DataW.weightsEach, hm]))
    obtain ⟨z, hK2, hw2⟩ := hr (xs := ys) (cs := cs) (by simpa using hl) (fun i g hg => by have := hx (i + 1) g (by simpa using hg); simpa using this) (by rw [hc]; show o + (a.sz + b.sz) = _; omega) (fun m hm => hs m (by simp [DataW.weightsEach, hm]))
    refine ⟨(x, z), ⟨(cs.drop o).take a.sz, cs.drop (o + a.sz), ?_, hK, hK2⟩, hw, hw2⟩
    rw [← List.drop_drop, List.take_append_drop]

theorem Opens.struct {α : Type} {fs : Array Field} {k : Kd α} {wf : α → Prop} (ht : P.underlying t = some (.struct fs)) (hc : P.cellsOf t = k.sz) (h : OpensF P fs.toList 0 k wf) : Opens P t k wf := by
  refine ⟨hc, ?_⟩
  intro H enc W base spare held fuel cs d ps h1 hs
  obtain ⟨xs, n, _, hx, hl, hlen, hf⟩ := DataW.trod_struct ht h1
  obtain ⟨rfl, rfl⟩ := Prod.mk.inj hx
  have := h (cs := cs) (xs := xs) (by simpa using hlen) (fun i f hif => hf i f (by simpa using hif)) (by omega) (fun m hm => hs m (by simpa [DataW.weights, ht] using hm))
  simpa using this

theorem weightsAll_mem {H : Type} {e : TypeId} : ∀ {l : List (DataW H)} {d : DataW H}, d ∈ l → ∀ n ∈ d.weights P e, n ∈ DataW.weightsAll P e l
  | d0 :: l, d, h, n, hn => by
    simp only [DataW.weightsAll, List.mem_append]
    rcases List.mem_cons.1 h with rfl | h
    · exact .inl hn
    · exact .inr (weightsAll_mem h n hn)

theorem Opens.slice {α : Type} {k : Kd α} {wf : α → Prop} {B : Nat} (ht : P.underlying t = some (.slice e)) (hc : P.cellsOf t = 1) (hB : P.bytesOf e = B) (h : Opens P e k wf) :
    Opens P t (Kd.slice e k) (fun l => l.length ≤ maxLen ∧ l.length * B ≤ reachBytes ∧ ∀ x ∈ l, wf x) := by
  refine ⟨hc, ?_⟩
  intro H enc W base spare held fuel cs d ps h1 hs
  rcases Go.Deep.open_slice ht h1 with ⟨rfl, hx⟩ | ⟨a, len, cap, m, n, D, Pl, rfl, hb, hl, hm, hmm, hx, hel⟩
  · refine ⟨[], ⟨none, 0, rfl, by simp, Kd.C_nil _ _⟩, by simp [maxLen], by simp, by simp⟩
  · obtain ⟨rfl, rfl⟩ := Prod.mk.inj hx
    have hle : len ≤ m := by rw [hmm]; split <;> omega
    have hw : ∀ j, j < len → ∃ x, (∃ c, c.length = k.sz ∧ k.K W x c ∧ ∀ i u, c[i]? = some u → W.cell? (a.add (j * k.sz + i)) = some u) ∧ wf x := by
      intro j hj
      obtain ⟨cs', h2, h3⟩ := hel j (by omega)
      obtain ⟨x, hK, hx⟩ := h.K h3 (fun q hq => hs q (by
        simp only [DataW.weights, ht, List.mem_cons, List.mem_append]
        exact .inr (.inl (weightsAll_mem (List.mem_map.2 ⟨j, by simpa using hj, rfl⟩) q hq))))
      obtain ⟨_, hlen, hcell⟩ := World.cells?_some h2
      refine ⟨x, ⟨cs', by rw [hlen, h.sz], hK, fun i u hu => ?_⟩, hx⟩
      have hi : i < cs'.length := (List.getElem?_eq_some_iff.1 hu).1
      have := hcell i (by omega)
      rw [hu, h.sz] at this
      rw [← this, Addr.add_add]
    obtain ⟨X, hX⟩ : ∃ X : Fin len → α, ∀ j : Fin len, (∃ c, c.length = k.sz ∧ k.K W (X j) c ∧ ∀ i u, c[i]? = some u → W.cell? (a.add (j.1 * k.sz + i)) = some u) ∧ wf (X j) :=
      ⟨fun j => Classical.choose (hw j.1 j.2), fun j => Classical.choose_spec (hw j.1 j.2)⟩
    have hml : (9223372036854775807 : Nat) = maxLen := rfl
    refine ⟨List.ofFn X, ⟨some a, cap, by simp, by simpa using hl, ?_⟩, ?_, ?_, ?_⟩
    · refine ⟨rfl, by rw [hml]; simpa using Nat.le_trans hl hm, fun _ => ⟨a, rfl, fun j p hp => ?_⟩⟩
      obtain ⟨hj, rfl⟩ := List.getElem?_eq_some_iff.1 hp
      have hj' : j < len := by simpa using hj
      have := (hX ⟨j, hj'⟩).1
      simpa using this
    · simpa using Nat.le_trans hl hm
    · have := hs ((len + (m - len)) * P.bytesOf e) (by simp [DataW.weights, ht])
      rw [hB] at this
      rw [List.length_ofFn]
      exact Nat.le_trans (Nat.mul_le_mul_right _ (by omega)) this
    · intro x hx
      obtain ⟨j, rfl⟩ := (List.mem_ofFn).1 hx
      exact (hX j).2

theorem weights_le {H : Type} {ts : List TypeId} {ds : List (DataW H)} {j : Nat} {t : TypeId} {d : DataW H} (h : (DataW.weightsEach P ts ds).all (· ≤ reachBytes) = true) (ht : ts[j]? = some t) (hd : ds[j]? = some d) : ∀ n ∈ d.weights P t, n ≤ reachBytes := by
  intro n hn
  simpa using List.all_eq_true.1 h n (DataW.weights_mem_each ht hd n hn)
end

/-- A slice that came in. -/
theorem open_row {P : Program} {t e : TypeId} {α : Type} {k : Kd α} {wf : List α → Prop} (ho : Opens P t (Kd.slice e k) wf) {H : Type} {enc : TypeId × Value → H} {W : World} {base : Nat} {spare : Nat → Bool} {held : Bool} {a : Option Addr} {n c : Nat} {d : DataW H} {ps : List MemPlace}
    (h : DataW.Trod enc P W base spare held t (.slice a n c) d ps) (hs : ∀ m ∈ d.weights P t, m ≤ reachBytes) : ∃ l, n = l.length ∧ l.length ≤ c ∧ k.C W a l.length l ∧ wf l := by
  obtain ⟨fuel, hf⟩ := h
  obtain ⟨l, ⟨A, c', he, hl, hC⟩, hw⟩ := ho.K hf hs
  simp [Value.cells] at he
  obtain ⟨rfl, rfl, rfl⟩ := he
  exact ⟨l, rfl, hl, hC, hw⟩

end Go.Proofs.YtmfdhcgdibefiaaW.Open

-- Written by wip/tools/row.py, a program of this session. Lean checks it.
namespace Go.Proofs.Ytmfdhcgdibefiaa.Q
open Go.RowKit Go.Proofs.YtmfdhcgdibefiaaW.PrintWords Go.Proofs.YtmfdhcgdibefiaaW.Open
set_option linter.unusedVariables false
end Go.Proofs.Ytmfdhcgdibefiaa.Q

-- Written by wip/tools/gp.py, a program of this session round the kit's printer. Lean checks it.
namespace Go.Proofs.Ytmfdhcgdibefiaa.Q
open Go.RowKit Go.Proofs.YtmfdhcgdibefiaaW.PrintWords Go.Proofs.YtmfdhcgdibefiaaW.PrintLast Go.Proofs.YtmfdhcgdibefiaaW.PrintMore
attribute [local go_sem] max2_int min2_int max_two min_two max_three min_three max_four min_four   -- for this text's walks alone
set_option linter.unusedVariables false
set_option linter.unusedSimpArgs false

/-! ### span_letter: function 143 -/
def span_letter.f (a0 : Int) : Option (Bool) := if a0 ≥ 97 then (if a0 ≤ 122 then (some true) else (if a0 ≥ 48 then (if a0 ≤ 57 then (some true) else (if a0 = 45 then (some true) else (if a0 = 46 then (some true) else (some (a0 == 95))))) else (if a0 = 45 then (some true) else (if a0 = 46 then (some true) else (some (a0 == 95)))))) else (if a0 ≥ 48 then (if a0 ≤ 57 then (some true) else (if a0 = 45 then (some true) else (if a0 = 46 then (some true) else (some (a0 == 95))))) else (if a0 = 45 then (some true) else (if a0 = 46 then (some true) else (some (a0 == 95)))))
set_option maxHeartbeats 8000000 in
set_option maxRecDepth 100000 in
theorem span_letter.calls (a0 : Int) (r : Bool) (w : World) (h : span_letter.f a0 = some r) :
    Calls Try.prog 143 #[.int .u8 a0] w fun e w' => e = .returned (.bool r) ∧ Drawn0 w w' := by
  have H : (if a0 ≥ 97 then (if a0 ≤ 122 then (some true) else (if a0 ≥ 48 then (if a0 ≤ 57 then (some true) else (if a0 = 45 then (some true) else (if a0 = 46 then (some true) else (some (a0 == 95))))) else (if a0 = 45 then (some true) else (if a0 = 46 then (some true) else (some (a0 == 95)))))) else (if a0 ≥ 48 then (if a0 ≤ 57 then (some true) else (if a0 = 45 then (some true) else (if a0 = 46 then (some true) else (some (a0 == 95))))) else (if a0 = 45 then (some true) else (if a0 = 46 then (some true) else (some (a0 == 95)))))) = some r := h
  clear h
  by_cases c2 : a0 ≥ 97
  · rw [if_pos c2] at H
    have c2b0 : decide (97 ≤ a0) = true := decide_eq_true c2
    clear c2
    by_cases c3 : a0 ≤ 122
    · rw [if_pos c3] at H
      have c3b0 : decide (a0 ≤ 122) = true := decide_eq_true c3
      clear c3
      obtain rfl := Option.some.inj H
      go_enter Try.func143, Try.ntmps143
      go_wp2
      go_ret
      exact ⟨by first | rfl | (simp; done) | (simp [*]; done), by repeat (first | exact Drawn0.refl _ | apply Drawn0.step)⟩
    · rw [if_neg c3] at H
      have c3b0 : decide (a0 ≤ 122) = false := decide_eq_false c3
      clear c3
      by_cases c4 : a0 ≥ 48
      · rw [if_pos c4] at H
        have c4b0 : decide (48 ≤ a0) = true := decide_eq_true c4
        clear c4
        by_cases c5 : a0 ≤ 57
        · rw [if_pos c5] at H
          have c5b0 : decide (a0 ≤ 57) = true := decide_eq_true c5
          clear c5
          obtain rfl := Option.some.inj H
          go_enter Try.func143, Try.ntmps143
          go_wp2
          go_ret
          exact ⟨by first | rfl | (simp; done) | (simp [*]; done), by repeat (first | exact Drawn0.refl _ | apply Drawn0.step)⟩
        · rw [if_neg c5] at H
          have c5b0 : decide (a0 ≤ 57) = false := decide_eq_false c5
          clear c5
          by_cases c6 : a0 = 45
          · rw [if_pos c6] at H
            have c6b0 : (a0 == 45) = true := beq_iff_eq.mpr c6
            have c6b1 : (a0 != 45) = false := bne_eq_false_iff_eq.mpr c6
            clear c6
            obtain rfl := Option.some.inj H
            go_enter Try.func143, Try.ntmps143
            go_wp2
            go_ret
            exact ⟨by first | rfl | (simp; done) | (simp [*]; done), by repeat (first | exact Drawn0.refl _ | apply Drawn0.step)⟩
          · rw [if_neg c6] at H
            have c6b0 : (a0 == 45) = false := beq_eq_false_iff_ne.mpr c6
            have c6b1 : (a0 != 45) = true := bne_iff_ne.mpr c6
            by_cases c7 : a0 = 46
            · rw [if_pos c7] at H
              have c7b0 : (a0 == 46) = true := beq_iff_eq.mpr c7
              have c7b1 : (a0 != 46) = false := bne_eq_false_iff_eq.mpr c7
              clear c7
              obtain rfl := Option.some.inj H
              go_enter Try.func143, Try.ntmps143
              go_wp2
              go_ret
              exact ⟨by first | rfl | (simp; done) | (simp [*]; done), by repeat (first | exact Drawn0.refl _ | apply Drawn0.step)⟩
            · rw [if_neg c7] at H
              have c7b0 : (a0 == 46) = false := beq_eq_false_iff_ne.mpr c7
              have c7b1 : (a0 != 46) = true := bne_iff_ne.mpr c7
              obtain rfl := Option.some.inj H
              go_enter Try.func143, Try.ntmps143
              go_wp2
              go_ret
              exact ⟨by first | rfl | (simp; done) | (simp [*]; done), by repeat (first | exact Drawn0.refl _ | apply Drawn0.step)⟩
      · rw [if_neg c4] at H
        have c4b0 : decide (48 ≤ a0) = false := decide_eq_false c4
        clear c4
        by_cases c8 : a0 = 45
        · rw [if_pos c8] at H
          have c8b0 : (a0 == 45) = true := beq_iff_eq.mpr c8
          have c8b1 : (a0 != 45) = false := bne_eq_false_iff_eq.mpr c8
          clear c8
          obtain rfl := Option.some.inj H
          go_enter Try.func143, Try.ntmps143
          go_wp2
          go_ret
          exact ⟨by first | rfl | (simp; done) | (simp [*]; done), by repeat (first | exact Drawn0.refl _ | apply Drawn0.step)⟩
        · rw [if_neg c8] at H
          have c8b0 : (a0 == 45) = false := beq_eq_false_iff_ne.mpr c8
          have c8b1 : (a0 != 45) = true := bne_iff_ne.mpr c8
          by_cases c9 : a0 = 46
          · rw [if_pos c9] at H
            have c9b0 : (a0 == 46) = true := beq_iff_eq.mpr c9
            have c9b1 : (a0 != 46) = false := bne_eq_false_iff_eq.mpr c9
            clear c9
            obtain rfl := Option.some.inj H
            go_enter Try.func143, Try.ntmps143
            go_wp2
            go_ret
            exact ⟨by first | rfl | (simp; done) | (simp [*]; done), by repeat (first | exact Drawn0.refl _ | apply Drawn0.step)⟩
          · rw [if_neg c9] at H
            have c9b0 : (a0 == 46) = false := beq_eq_false_iff_ne.mpr c9
            have c9b1 : (a0 != 46) = true := bne_iff_ne.mpr c9
            obtain rfl := Option.some.inj H
            go_enter Try.func143, Try.ntmps143
            go_wp2
            go_ret
            exact ⟨by first | rfl | (simp; done) | (simp [*]; done), by repeat (first | exact Drawn0.refl _ | apply Drawn0.step)⟩
  · rw [if_neg c2] at H
    have c2b0 : decide (97 ≤ a0) = false := decide_eq_false c2
    clear c2
    by_cases c10 : a0 ≥ 48
    · rw [if_pos c10] at H
      have c10b0 : decide (48 ≤ a0) = true := decide_eq_true c10
      clear c10
      by_cases c11 : a0 ≤ 57
      · rw [if_pos c11] at H
        have c11b0 : decide (a0 ≤ 57) = true := decide_eq_true c11
        clear c11
        obtain rfl := Option.some.inj H
        go_enter Try.func143, Try.ntmps143
        go_wp2
        go_ret
        exact ⟨by first | rfl | (simp; done) | (simp [*]; done), by repeat (first | exact Drawn0.refl _ | apply Drawn0.step)⟩
      · rw [if_neg c11] at H
        have c11b0 : decide (a0 ≤ 57) = false := decide_eq_false c11
        clear c11
        by_cases c12 : a0 = 45
        · rw [if_pos c12] at H
          have c12b0 : (a0 == 45) = true := beq_iff_eq.mpr c12
          have c12b1 : (a0 != 45) = false := bne_eq_false_iff_eq.mpr c12
          clear c12
          obtain rfl := Option.some.inj H
          go_enter Try.func143, Try.ntmps143
          go_wp2
          go_ret
          exact ⟨by first | rfl | (simp; done) | (simp [*]; done), by repeat (first | exact Drawn0.refl _ | apply Drawn0.step)⟩
        · rw [if_neg c12] at H
          have c12b0 : (a0 == 45) = false := beq_eq_false_iff_ne.mpr c12
          have c12b1 : (a0 != 45) = true := bne_iff_ne.mpr c12
          by_cases c13 : a0 = 46
          · rw [if_pos c13] at H
            have c13b0 : (a0 == 46) = true := beq_iff_eq.mpr c13
            have c13b1 : (a0 != 46) = false := bne_eq_false_iff_eq.mpr c13
            clear c13
            obtain rfl := Option.some.inj H
            go_enter Try.func143, Try.ntmps143
            go_wp2
            go_ret
            exact ⟨by first | rfl | (simp; done) | (simp [*]; done), by repeat (first | exact Drawn0.refl _ | apply Drawn0.step)⟩
          · rw [if_neg c13] at H
            have c13b0 : (a0 == 46) = false := beq_eq_false_iff_ne.mpr c13
            have c13b1 : (a0 != 46) = true := bne_iff_ne.mpr c13
            obtain rfl := Option.some.inj H
            go_enter Try.func143, Try.ntmps143
            go_wp2
            go_ret
            exact ⟨by first | rfl | (simp; done) | (simp [*]; done), by repeat (first | exact Drawn0.refl _ | apply Drawn0.step)⟩
    · rw [if_neg c10] at H
      have c10b0 : decide (48 ≤ a0) = false := decide_eq_false c10
      clear c10
      by_cases c14 : a0 = 45
      · rw [if_pos c14] at H
        have c14b0 : (a0 == 45) = true := beq_iff_eq.mpr c14
        have c14b1 : (a0 != 45) = false := bne_eq_false_iff_eq.mpr c14
        clear c14
        obtain rfl := Option.some.inj H
        go_enter Try.func143, Try.ntmps143
        go_wp2
        go_ret
        exact ⟨by first | rfl | (simp; done) | (simp [*]; done), by repeat (first | exact Drawn0.refl _ | apply Drawn0.step)⟩
      · rw [if_neg c14] at H
        have c14b0 : (a0 == 45) = false := beq_eq_false_iff_ne.mpr c14
        have c14b1 : (a0 != 45) = true := bne_iff_ne.mpr c14
        by_cases c15 : a0 = 46
        · rw [if_pos c15] at H
          have c15b0 : (a0 == 46) = true := beq_iff_eq.mpr c15
          have c15b1 : (a0 != 46) = false := bne_eq_false_iff_eq.mpr c15
          clear c15
          obtain rfl := Option.some.inj H
          go_enter Try.func143, Try.ntmps143
          go_wp2
          go_ret
          exact ⟨by first | rfl | (simp; done) | (simp [*]; done), by repeat (first | exact Drawn0.refl _ | apply Drawn0.step)⟩
        · rw [if_neg c15] at H
          have c15b0 : (a0 == 46) = false := beq_eq_false_iff_ne.mpr c15
          have c15b1 : (a0 != 46) = true := bne_iff_ne.mpr c15
          obtain rfl := Option.some.inj H
          go_enter Try.func143, Try.ntmps143
          go_wp2
          go_ret
          exact ⟨by first | rfl | (simp; done) | (simp [*]; done), by repeat (first | exact Drawn0.refl _ | apply Drawn0.step)⟩

/-! ### span_Name: function 96 -/
mutual
def span_Name.j0 : Nat → ByteArray → Bool → Option (Bool)
  | 0, _, _ => none
  | k + 1, x0, x11 => if x11 = true then (some false) else (span_Name.l0 k x0 (x0.size : Int) 0)
def span_Name.l0 : Nat → ByteArray → Int → Int → Option (Bool)
  | 0, _, _, _ => none
  | k + 1, x0, x13, x14 => if x14 < x13 then (if 0 ≤ x14 then (if x14 < (x0.size : Int) then ((span_letter.f (bt x0 x14)).bind fun t101 => (if t101 = true then (span_Name.l0 k x0 x13 (wrap64 (x14 + 1))) else (some false))) else (none)) else (none)) else (some true)
end
def span_Name.f (k : Nat) (a0 : ByteArray) : Option (Bool) := if (a0.size : Int) < 1 then (span_Name.j0 k a0 true) else (span_Name.j0 k a0 (decide ((a0.size : Int) > 16)))
theorem span_Name.mono_l : ∀ k, (∀ y0 y1, LeO (span_Name.j0 k y0 y1) (span_Name.j0 (k + 1) y0 y1)) ∧ (∀ y0 y1 y2, LeO (span_Name.l0 k y0 y1 y2) (span_Name.l0 (k + 1) y0 y1 y2))
  | 0 => ⟨fun _ _ r h => by simp [span_Name.j0] at h, fun _ _ _ r h => by simp [span_Name.l0] at h⟩
  | k + 1 => by
    obtain ⟨ih0, ih1⟩ := span_Name.mono_l k
    refine ⟨?_, ?_⟩
    · intro y0 y1
      unfold span_Name.j0
      repeat' first
      | (with_reducible exact ih0 _ _)
      | (with_reducible exact ih1 _ _ _)
      | (with_reducible exact LeO.refl _)
      | (with_reducible exact LeO.none _)
      | (with_reducible refine LeO.ite ?_ ?_)
      | (with_reducible refine LeO.bind ?_ (fun _ => ?_))
      | exact ih0 _ _
      | exact ih1 _ _ _
      | exact LeO.none _
      | refine LeO.ite ?_ ?_
      | refine LeO.bind ?_ (fun _ => ?_)
    · intro y0 y1 y2
      unfold span_Name.l0
      repeat' first
      | (with_reducible exact ih0 _ _)
      | (with_reducible exact ih1 _ _ _)
      | (with_reducible exact LeO.refl _)
      | (with_reducible exact LeO.none _)
      | (with_reducible refine LeO.ite ?_ ?_)
      | (with_reducible refine LeO.bind ?_ (fun _ => ?_))
      | exact ih0 _ _
      | exact ih1 _ _ _
      | exact LeO.none _
      | refine LeO.ite ?_ ?_
      | refine LeO.bind ?_ (fun _ => ?_)
theorem span_Name.mono : ∀ a0 k, LeO (span_Name.f k a0) (span_Name.f (k + 1) a0) := by
  intro a0 k
  obtain ⟨ih0, ih1⟩ := span_Name.mono_l k
  unfold span_Name.f
  repeat' first
      | (with_reducible exact ih0 _ _)
      | (with_reducible exact ih1 _ _ _)
      | (with_reducible exact LeO.refl _)
      | (with_reducible exact LeO.none _)
      | (with_reducible refine LeO.ite ?_ ?_)
      | (with_reducible refine LeO.bind ?_ (fun _ => ?_))
      | exact ih0 _ _
      | exact ih1 _ _ _
      | exact LeO.none _
      | refine LeO.ite ?_ ?_
      | refine LeO.bind ?_ (fun _ => ?_)
set_option maxHeartbeats 8000000 in
set_option maxRecDepth 100000 in
theorem span_Name.calls (k : Nat) (a0 : ByteArray) (r : Bool) (w : World) (h : span_Name.f k a0 = some r) :
    Calls Try.prog 96 #[.string a0] w fun e w' => e = .returned (.bool r) ∧ Drawn0 w w' := by
  have H : (if (a0.size : Int) < 1 then (span_Name.j0 k a0 true) else (span_Name.j0 k a0 (decide ((a0.size : Int) > 16)))) = some r := h
  clear h
  have HC2 := Aside0.mk H
  clear H
  go_enter Try.func96, Try.ntmps96
  go_upto_region 1 with (fail)
  go_cut [11] (fun v11 wc => ∃ (kq : Nat) (x11_1 : Bool), v11 = .bool x11_1 ∧ Aside0 (span_Name.j0 kq a0 x11_1 = some r) ∧ Aside0 (kq ≤ k) ∧ Drawn0 w wc)
  case first =>
    have H := HC2.out
    clear HC2
    by_cases c3 : (a0.size : Int) < 1
    · rw [if_pos c3] at H
      have c3b0 : decide ((a0.size : Int) < 1) = true := decide_eq_true c3
      have c3b1 : decide (a0.size < 1) = true := decide_eq_true (by omega)
      clear c3
      (first | rw [c3b0] | (simp only [i64_w, i32_w]; rw [c3b0]) | skip)
      have H' := Aside0.mk H
      clear H
      go_wp2
      go_meet
      case rel => exact ⟨_, (true), (by first | rfl | (simp; done) | (simp [*]; done)), H', ⟨by first | omega | exact Nat.le_refl _⟩, by repeat (first | exact Drawn0.refl _ | apply Drawn0.step)⟩
    · rw [if_neg c3] at H
      have c3b0 : decide ((a0.size : Int) < 1) = false := decide_eq_false c3
      have c3b1 : decide (a0.size < 1) = false := decide_eq_false (by omega)
      clear c3
      (first | rw [c3b0] | (simp only [i64_w, i32_w]; rw [c3b0]) | skip)
      have H' := Aside0.mk H
      clear H
      go_wp2
      go_meet
      case rel => exact ⟨_, (decide ((a0.size : Int) > 16)), (by first | rfl | (simp; done) | (simp [*]; done)), H', ⟨by first | omega | exact Nat.le_refl _⟩, by repeat (first | exact Drawn0.refl _ | apply Drawn0.step)⟩
  case rest =>
    clear HC2
    (try clear p2); (try clear c3); (try clear c3b0); (try clear c3b1)
    obtain ⟨kq, x11_1, rfl, HA, HJ1, ⟨mc1, rfl⟩⟩ := hcut
    cases kq with
    | zero => exact absurd HA.out (by simp [span_Name.j0])
    | succ kj1 =>
      have H := HA.out
      clear HA
      simp only [span_Name.j0] at H
      by_cases c4 : x11_1 = true
      · subst c4
        have H1 : (some false) = some r := by rw [if_pos rfl] at H; exact H
        clear H
        have H := H1
        clear H1
        obtain rfl := Option.some.inj H
        go_wp2
        go_ret
        exact ⟨by first | rfl | (simp; done) | (simp [*]; done), by repeat (first | exact Drawn0.refl _ | apply Drawn0.step)⟩
      · replace c4 := Bool.eq_false_iff.mpr c4
        subst c4
        have H1 : (span_Name.l0 kj1 a0 (a0.size : Int) 0) = some r := by rw [if_neg (show ¬ (false = true) by decide)] at H; exact H
        clear H
        have H := H1
        clear H1
        have H' := Aside0.mk H
        clear H
        go_wp2
        go_loopg [14] kj1 (fun kq v14 w' => ∃ (x14_2 : Int), v14 = .int .i64 x14_2 ∧ Aside0 (span_Name.l0 kq a0 (a0.size : Int) x14_2 = some r) ∧ Aside0 (kq ≤ kj1) ∧ Drawn0 w w')
        case atStart => exact ⟨(0), (by first | rfl | (simp; done) | (simp [*]; done)), H', ⟨Nat.le_refl _⟩, by repeat (first | exact Drawn0.refl _ | apply Drawn0.step)⟩
        case round =>
          clear H'
          (try clear c1); (try clear p2); (try clear c3); (try clear c3b0); (try clear c3b1); (try clear c4); (try clear p2)
          obtain ⟨x14_2, rfl, HA, HK2, ⟨m2, rfl⟩⟩ := hrel
          cases gk with
          | zero => exact absurd HA.out (by simp [span_Name.l0])
          | succ k2 =>
            have H := HA.out
            clear HA
            simp only [span_Name.l0] at H
            by_cases c5 : x14_2 < (a0.size : Int)
            · rw [if_pos c5] at H
              have c5b0 : decide (x14_2 < (a0.size : Int)) = true := decide_eq_true c5
              clear c5
              by_cases c6 : 0 ≤ x14_2
              · rw [if_pos c6] at H
                have c6b0 : decide (0 ≤ x14_2) = true := decide_eq_true c6
                clear c6
                by_cases c7 : x14_2 < (a0.size : Int)
                · rw [if_pos c7] at H
                  have c7b0 : decide (x14_2 < (a0.size : Int)) = true := decide_eq_true c7
                  clear c7
                  replace H := Option.bind_eq_some_iff.mp H
                  obtain ⟨t101, A90, H⟩ := H
                  replace H : (if t101 = true then (span_Name.l0 k2 a0 (a0.size : Int) (wrap64 (x14_2 + 1))) else (some false)) = some r := H
                  have A9 := Aside0.mk A90
                  clear A90
                  by_cases c10 : t101 = true
                  · subst c10
                    have H1 : (span_Name.l0 k2 a0 (a0.size : Int) (wrap64 (x14_2 + 1))) = some r := by rw [if_pos rfl] at H; exact H
                    clear H
                    have H := H1
                    clear H1
                    have H' := Aside0.mk H
                    clear H
                    have p8 : 0 ≤ (x14_2 : Int) := of_decide_eq_true (by first | (with_reducible assumption) | assumption)
                    have q8 : x14_2 < (a0.size : Int) := of_decide_eq_true (by first | (with_reducible assumption) | assumption)
                    have hx8 := bt_at a0 x14_2
                    replace p8 := eq_true p8
                    replace q8 := eq_true q8
                    go_wp2_with (first | ((with_reducible refine gate_callee (f := 143) rfl ?_); refine goesL_ (some 20) rfl rfl Try.func143 (by kernel_rfl) rfl #[.int .u8 (bt a0 x14_2)] rfl (by (try simp only [List.map_toArray, List.map_cons, List.map_nil]); first | done | rfl | (simp only [List.length_drop, List.length_take]; rfl)) ?_; (with_reducible refine (span_letter.calls (bt a0 x14_2) true _ A9.out).mono ?_); rintro e w' ⟨rfl, ⟨nd, rfl⟩⟩; refine ⟨_, rfl, ?_⟩))
                    go_roundg k2
                    case measure => have := HJ1.out; have := HK2.out; omega
                    case rel => exact ⟨(wrap64 (x14_2 + 1)), (by first | rfl | (simp; done) | (simp [*]; done)), H', ⟨by have := HJ1.out; have := HK2.out; omega⟩, by repeat (first | exact Drawn0.refl _ | apply Drawn0.step)⟩
                  · replace c10 := Bool.eq_false_iff.mpr c10
                    subst c10
                    have H1 : (some false) = some r := by rw [if_neg (show ¬ (false = true) by decide)] at H; exact H
                    clear H
                    have H := H1
                    clear H1
                    obtain rfl := Option.some.inj H
                    have p8 : 0 ≤ (x14_2 : Int) := of_decide_eq_true (by first | (with_reducible assumption) | assumption)
                    have q8 : x14_2 < (a0.size : Int) := of_decide_eq_true (by first | (with_reducible assumption) | assumption)
                    have hx8 := bt_at a0 x14_2
                    replace p8 := eq_true p8
                    replace q8 := eq_true q8
                    go_wp2_with (first | ((with_reducible refine gate_callee (f := 143) rfl ?_); refine goesL_ (some 20) rfl rfl Try.func143 (by kernel_rfl) rfl #[.int .u8 (bt a0 x14_2)] rfl (by (try simp only [List.map_toArray, List.map_cons, List.map_nil]); first | done | rfl | (simp only [List.length_drop, List.length_take]; rfl)) ?_; (with_reducible refine (span_letter.calls (bt a0 x14_2) false _ A9.out).mono ?_); rintro e w' ⟨rfl, ⟨nd, rfl⟩⟩; refine ⟨_, rfl, ?_⟩))
                    go_ret
                    exact ⟨by first | rfl | (simp; done) | (simp [*]; done), by repeat (first | exact Drawn0.refl _ | apply Drawn0.step)⟩
                · rw [if_neg c7] at H
                  exact absurd H (by simp)
              · rw [if_neg c6] at H
                exact absurd H (by simp)
            · rw [if_neg c5] at H
              have c5b0 : decide (x14_2 < (a0.size : Int)) = false := decide_eq_false c5
              clear c5
              obtain rfl := Option.some.inj H
              go_wp2
              go_ret
              exact ⟨by first | rfl | (simp; done) | (simp [*]; done), by repeat (first | exact Drawn0.refl _ | apply Drawn0.step)⟩

/-! ### span_May: function 43 -/
mutual
def span_May.j0 : Nat → Bool → Int → Int → Int → Int → ByteArray → ByteArray → Int → Int → Option (Bool)
  | 0, _, _, _, _, _, _, _, _, _ => none
  | k + 1, x3, x103000, x103001, x103002, x103003, x103004, x103005, x103006, x103007 => if x3 = true then (some false) else (if x103006 < 0 then (span_May.j1 k (decide (x103006 < 0)) x103000 x103001 x103002 x103003 x103004 x103005 x103006 x103007) else (if x103006 ≥ 1125899906842624 then (span_May.j1 k (decide (x103006 ≥ 1125899906842624)) x103000 x103001 x103002 x103003 x103004 x103005 x103006 x103007) else (if x103007 < 0 then (span_May.j1 k (decide (x103007 < 0)) x103000 x103001 x103002 x103003 x103004 x103005 x103006 x103007) else (span_May.j1 k (decide (x103007 > 1125899906842624)) x103000 x103001 x103002 x103003 x103004 x103005 x103006 x103007))))
def span_May.j1 : Nat → Bool → Int → Int → Int → Int → ByteArray → ByteArray → Int → Int → Option (Bool)
  | 0, _, _, _, _, _, _, _, _, _ => none
  | k + 1, x18, x103000, x103001, x103002, x103003, x103004, x103005, x103006, x103007 => if x18 = true then (some false) else ((span_Name.f k x103004).bind fun t103 => (if t103 = true then ((span_Name.f k x103005).bind fun t104 => (some t104)) else (some false)))
end
def span_May.f (k : Nat) (a0_0 : Int) (a0_1 : Int) (a0_2 : Int) (a0_3 : Int) (a0_4 : ByteArray) (a0_5 : ByteArray) (a0_6 : Int) (a0_7 : Int) : Option (Bool) := if a0_0 = 0 then (span_May.j0 k (a0_0 == 0) a0_0 a0_1 a0_2 a0_3 a0_4 a0_5 a0_6 a0_7) else (if a0_1 = 0 then (span_May.j0 k (a0_1 == 0) a0_0 a0_1 a0_2 a0_3 a0_4 a0_5 a0_6 a0_7) else (if a0_2 = a0_1 then (span_May.j0 k (a0_2 == a0_1) a0_0 a0_1 a0_2 a0_3 a0_4 a0_5 a0_6 a0_7) else (span_May.j0 k (decide (a0_3 > 2)) a0_0 a0_1 a0_2 a0_3 a0_4 a0_5 a0_6 a0_7)))
theorem span_May.mono_l : ∀ k, (∀ y0 y1 y2 y3 y4 y5 y6 y7 y8, LeO (span_May.j0 k y0 y1 y2 y3 y4 y5 y6 y7 y8) (span_May.j0 (k + 1) y0 y1 y2 y3 y4 y5 y6 y7 y8)) ∧ (∀ y0 y1 y2 y3 y4 y5 y6 y7 y8, LeO (span_May.j1 k y0 y1 y2 y3 y4 y5 y6 y7 y8) (span_May.j1 (k + 1) y0 y1 y2 y3 y4 y5 y6 y7 y8))
  | 0 => ⟨fun _ _ _ _ _ _ _ _ _ r h => by simp [span_May.j0] at h, fun _ _ _ _ _ _ _ _ _ r h => by simp [span_May.j1] at h⟩
  | k + 1 => by
    obtain ⟨ih0, ih1⟩ := span_May.mono_l k
    refine ⟨?_, ?_⟩
    · intro y0 y1 y2 y3 y4 y5 y6 y7 y8
      unfold span_May.j0
      repeat' first
      | (with_reducible exact ih0 _ _ _ _ _ _ _ _ _)
      | (with_reducible exact ih1 _ _ _ _ _ _ _ _ _)
      | (with_reducible exact span_Name.mono _ _)
      | (with_reducible exact LeO.refl _)
      | (with_reducible exact LeO.none _)
      | (with_reducible refine LeO.ite ?_ ?_)
      | (with_reducible refine LeO.bind ?_ (fun _ => ?_))
      | exact ih0 _ _ _ _ _ _ _ _ _
      | exact ih1 _ _ _ _ _ _ _ _ _
      | exact span_Name.mono _ _
      | exact LeO.none _
      | refine LeO.ite ?_ ?_
      | refine LeO.bind ?_ (fun _ => ?_)
    · intro y0 y1 y2 y3 y4 y5 y6 y7 y8
      unfold span_May.j1
      repeat' first
      | (with_reducible exact ih0 _ _ _ _ _ _ _ _ _)
      | (with_reducible exact ih1 _ _ _ _ _ _ _ _ _)
      | (with_reducible exact span_Name.mono _ _)
      | (with_reducible exact LeO.refl _)
      | (with_reducible exact LeO.none _)
      | (with_reducible refine LeO.ite ?_ ?_)
      | (with_reducible refine LeO.bind ?_ (fun _ => ?_))
      | exact ih0 _ _ _ _ _ _ _ _ _
      | exact ih1 _ _ _ _ _ _ _ _ _
      | exact span_Name.mono _ _
      | exact LeO.none _
      | refine LeO.ite ?_ ?_
      | refine LeO.bind ?_ (fun _ => ?_)
theorem span_May.mono : ∀ a0 a1 a2 a3 a4 a5 a6 a7 k, LeO (span_May.f k a0 a1 a2 a3 a4 a5 a6 a7) (span_May.f (k + 1) a0 a1 a2 a3 a4 a5 a6 a7) := by
  intro a0 a1 a2 a3 a4 a5 a6 a7 k
  obtain ⟨ih0, ih1⟩ := span_May.mono_l k
  unfold span_May.f
  repeat' first
      | (with_reducible exact ih0 _ _ _ _ _ _ _ _ _)
      | (with_reducible exact ih1 _ _ _ _ _ _ _ _ _)
      | (with_reducible exact span_Name.mono _ _)
      | (with_reducible exact LeO.refl _)
      | (with_reducible exact LeO.none _)
      | (with_reducible refine LeO.ite ?_ ?_)
      | (with_reducible refine LeO.bind ?_ (fun _ => ?_))
      | exact ih0 _ _ _ _ _ _ _ _ _
      | exact ih1 _ _ _ _ _ _ _ _ _
      | exact span_Name.mono _ _
      | exact LeO.none _
      | refine LeO.ite ?_ ?_
      | refine LeO.bind ?_ (fun _ => ?_)
set_option maxHeartbeats 8000000 in
set_option maxRecDepth 100000 in
theorem span_May.calls (k : Nat) (a0_0 : Int) (a0_1 : Int) (a0_2 : Int) (a0_3 : Int) (a0_4 : ByteArray) (a0_5 : ByteArray) (a0_6 : Int) (a0_7 : Int) (r : Bool) (w : World) (h : span_May.f k a0_0 a0_1 a0_2 a0_3 a0_4 a0_5 a0_6 a0_7 = some r) :
    Calls Try.prog 43 #[.agg #[.int .u64 a0_0, .int .u64 a0_1, .int .u64 a0_2, .int .u8 a0_3, .string a0_4, .string a0_5, .int .i64 a0_6, .int .i64 a0_7]] w fun e w' => e = .returned (.bool r) ∧ Below w.heap.size w w' := by
  have hu37 := Try.underlying37
  have HB := Aside0.mk (Below.refl w.heap.size w)
  have H : (if a0_0 = 0 then (span_May.j0 k (a0_0 == 0) a0_0 a0_1 a0_2 a0_3 a0_4 a0_5 a0_6 a0_7) else (if a0_1 = 0 then (span_May.j0 k (a0_1 == 0) a0_0 a0_1 a0_2 a0_3 a0_4 a0_5 a0_6 a0_7) else (if a0_2 = a0_1 then (span_May.j0 k (a0_2 == a0_1) a0_0 a0_1 a0_2 a0_3 a0_4 a0_5 a0_6 a0_7) else (span_May.j0 k (decide (a0_3 > 2)) a0_0 a0_1 a0_2 a0_3 a0_4 a0_5 a0_6 a0_7)))) = some r := h
  clear h
  have HC2 := Aside0.mk H
  clear H
  go_enter Try.func43, Try.ntmps43
  go_upto_if 3 with (first | ((with_reducible refine gate_dst (N := 1) rfl ?_); refine box_event ?hg (N := 1) ?hd (cs := #[.int .u64 a0_0, .int .u64 a0_1, .int .u64 a0_2, .int .u8 a0_3, .string a0_4, .string a0_5, .int .i64 a0_6, .int .i64 a0_7]) (t := 37) ?hr ?_; (case hd => rfl); (case hg => rfl); (case hr => first | (go_simp; done) | (go_simp; rfl)); intro gb102 hg w3 hbox hb; have n0_ := Aside0.mk (below_step (by repeat (first | (with_reducible first | exact HB.out | apply below_alloc | apply pw_below_drewN | apply below_drew1) | exact HB.out)) hb); have n1_ := Aside0.mk (hbox); have n2_ := Aside0.mk ((by rw [hg]; exact (below_size (by repeat (first | (with_reducible first | exact HB.out | apply below_alloc | apply pw_below_drewN | apply below_drew1) | exact HB.out))) : w.heap.size ≤ gb102)); have n3_ := Aside0.mk ((by rw [hg]; exact (below_size (by repeat (first | (with_reducible first | exact HB.out | apply below_alloc | apply pw_below_drewN | apply below_drew1) | exact HB.out))) : w.heap.size ≤ gb102)); clear HB; have HB := n0_; have BK102 := n1_; have GW102 := n2_; have GE102 := n3_; clear n0_ n1_ n2_ n3_; clear hb hbox hg; have hcz4_0 : w3.cell? ⟨gb102, 0, none⟩ = some (.int .u64 a0_0) := (blk_cell BK102.out 0).trans rfl; have hcz4_1 : w3.cell? ⟨gb102, 1, none⟩ = some (.int .u64 a0_1) := (blk_cell BK102.out 1).trans rfl; have hcz4_2 : w3.cell? ⟨gb102, 2, none⟩ = some (.int .u64 a0_2) := (blk_cell BK102.out 2).trans rfl; have hcz4_3 : w3.cell? ⟨gb102, 3, none⟩ = some (.int .u8 a0_3) := (blk_cell BK102.out 3).trans rfl; have hcz4_4 : w3.cell? ⟨gb102, 4, none⟩ = some (.string a0_4) := (blk_cell BK102.out 4).trans rfl; have hcz4_5 : w3.cell? ⟨gb102, 5, none⟩ = some (.string a0_5) := (blk_cell BK102.out 5).trans rfl; have hcz4_6 : w3.cell? ⟨gb102, 6, none⟩ = some (.int .i64 a0_6) := (blk_cell BK102.out 6).trans rfl; have hcz4_7 : w3.cell? ⟨gb102, 7, none⟩ = some (.int .i64 a0_7) := (blk_cell BK102.out 7).trans rfl; have hfz4_0 := blk_frozen BK102.out 0; have hfz4_1 := blk_frozen BK102.out 1; have hfz4_2 := blk_frozen BK102.out 2; have hfz4_3 := blk_frozen BK102.out 3; have hfz4_4 := blk_frozen BK102.out 4; have hfz4_5 := blk_frozen BK102.out 5; have hfz4_6 := blk_frozen BK102.out 6; have hfz4_7 := blk_frozen BK102.out 7))
  (try simp only [Act.put, List.setIfInBounds_toArray, List.set_cons_zero, List.set_cons_succ])
  go_cut [3] (fun v3 wc => ∃ (kq : Nat) (x3_1 : Bool), v3 = .bool x3_1 ∧ Aside0 (span_May.j0 kq x3_1 a0_0 a0_1 a0_2 a0_3 a0_4 a0_5 a0_6 a0_7 = some r) ∧ Aside0 (kq ≤ k) ∧ Aside0 (wc.heap[gb102]? = some (.cells #[.int .u64 a0_0, .int .u64 a0_1, .int .u64 a0_2, .int .u8 a0_3, .string a0_4, .string a0_5, .int .i64 a0_6, .int .i64 a0_7] 37 (0, 0))) ∧ Aside0 (Below w.heap.size w wc))
  case first =>
    have H := HC2.out
    clear HC2
    by_cases c5 : a0_0 = 0
    · rw [if_pos c5] at H
      have c5b0 : (a0_0 == 0) = true := beq_iff_eq.mpr c5
      have c5b1 : (a0_0 != 0) = false := bne_eq_false_iff_eq.mpr c5
      clear c5
      (first | rw [c5b0] | (simp only [i64_w, i32_w]; rw [c5b0]) | skip)
      have H' := Aside0.mk H
      clear H
      go_wp2
      go_meet
      case rel => exact ⟨_, ((a0_0 == 0)), (by first | rfl | (simp; done) | (simp [*]; done)), H', ⟨by first | omega | exact Nat.le_refl _⟩, ⟨by (with_reducible repeat (first | refine blk_drewN ?_ _ | refine blk_drew ?_ | refine blk_alloc ?_ _)); exact BK102.out⟩, ⟨by repeat (first | (with_reducible first | exact HB.out | apply below_alloc | apply pw_below_drewN | apply below_drew1 | refine below_set ?_ GE102.out) | exact HB.out)⟩⟩
    · rw [if_neg c5] at H
      have c5b0 : (a0_0 == 0) = false := beq_eq_false_iff_ne.mpr c5
      have c5b1 : (a0_0 != 0) = true := bne_iff_ne.mpr c5
      (first | rw [c5b0] | (simp only [i64_w, i32_w]; rw [c5b0]) | skip)
      by_cases c6 : a0_1 = 0
      · rw [if_pos c6] at H
        have c6b0 : (a0_1 == 0) = true := beq_iff_eq.mpr c6
        have c6b1 : (a0_1 != 0) = false := bne_eq_false_iff_eq.mpr c6
        clear c6
        have H' := Aside0.mk H
        clear H
        have hcz7_0 : w3.cell? ⟨gb102, 0, none⟩ = some (.int .u64 a0_0) := (blk_cell BK102.out 0).trans rfl
        have hcz7_1 : w3.cell? ⟨gb102, 1, none⟩ = some (.int .u64 a0_1) := (blk_cell BK102.out 1).trans rfl
        have hcz7_2 : w3.cell? ⟨gb102, 2, none⟩ = some (.int .u64 a0_2) := (blk_cell BK102.out 2).trans rfl
        have hcz7_3 : w3.cell? ⟨gb102, 3, none⟩ = some (.int .u8 a0_3) := (blk_cell BK102.out 3).trans rfl
        have hcz7_4 : w3.cell? ⟨gb102, 4, none⟩ = some (.string a0_4) := (blk_cell BK102.out 4).trans rfl
        have hcz7_5 : w3.cell? ⟨gb102, 5, none⟩ = some (.string a0_5) := (blk_cell BK102.out 5).trans rfl
        have hcz7_6 : w3.cell? ⟨gb102, 6, none⟩ = some (.int .i64 a0_6) := (blk_cell BK102.out 6).trans rfl
        have hcz7_7 : w3.cell? ⟨gb102, 7, none⟩ = some (.int .i64 a0_7) := (blk_cell BK102.out 7).trans rfl
        have hfz7_0 := blk_frozen BK102.out 0
        have hfz7_1 := blk_frozen BK102.out 1
        have hfz7_2 := blk_frozen BK102.out 2
        have hfz7_3 := blk_frozen BK102.out 3
        have hfz7_4 := blk_frozen BK102.out 4
        have hfz7_5 := blk_frozen BK102.out 5
        have hfz7_6 := blk_frozen BK102.out 6
        have hfz7_7 := blk_frozen BK102.out 7
        go_wp2
        go_meet
        case rel => exact ⟨_, ((a0_1 == 0)), (by first | rfl | (simp; done) | (simp [*]; done)), H', ⟨by first | omega | exact Nat.le_refl _⟩, ⟨by (with_reducible repeat (first | refine blk_drewN ?_ _ | refine blk_drew ?_ | refine blk_alloc ?_ _)); exact BK102.out⟩, ⟨by repeat (first | (with_reducible first | exact HB.out | apply below_alloc | apply pw_below_drewN | apply below_drew1 | refine below_set ?_ GE102.out) | exact HB.out)⟩⟩
      · rw [if_neg c6] at H
        have c6b0 : (a0_1 == 0) = false := beq_eq_false_iff_ne.mpr c6
        have c6b1 : (a0_1 != 0) = true := bne_iff_ne.mpr c6
        by_cases c8 : a0_2 = a0_1
        · rw [if_pos c8] at H
          have c8b0 : (a0_2 == a0_1) = true := beq_iff_eq.mpr c8
          have c8b1 : (a0_2 != a0_1) = false := bne_eq_false_iff_eq.mpr c8
          clear c8
          have H' := Aside0.mk H
          clear H
          have hcz9_0 : w3.cell? ⟨gb102, 0, none⟩ = some (.int .u64 a0_0) := (blk_cell BK102.out 0).trans rfl
          have hcz9_1 : w3.cell? ⟨gb102, 1, none⟩ = some (.int .u64 a0_1) := (blk_cell BK102.out 1).trans rfl
          have hcz9_2 : w3.cell? ⟨gb102, 2, none⟩ = some (.int .u64 a0_2) := (blk_cell BK102.out 2).trans rfl
          have hcz9_3 : w3.cell? ⟨gb102, 3, none⟩ = some (.int .u8 a0_3) := (blk_cell BK102.out 3).trans rfl
          have hcz9_4 : w3.cell? ⟨gb102, 4, none⟩ = some (.string a0_4) := (blk_cell BK102.out 4).trans rfl
          have hcz9_5 : w3.cell? ⟨gb102, 5, none⟩ = some (.string a0_5) := (blk_cell BK102.out 5).trans rfl
          have hcz9_6 : w3.cell? ⟨gb102, 6, none⟩ = some (.int .i64 a0_6) := (blk_cell BK102.out 6).trans rfl
          have hcz9_7 : w3.cell? ⟨gb102, 7, none⟩ = some (.int .i64 a0_7) := (blk_cell BK102.out 7).trans rfl
          have hfz9_0 := blk_frozen BK102.out 0
          have hfz9_1 := blk_frozen BK102.out 1
          have hfz9_2 := blk_frozen BK102.out 2
          have hfz9_3 := blk_frozen BK102.out 3
          have hfz9_4 := blk_frozen BK102.out 4
          have hfz9_5 := blk_frozen BK102.out 5
          have hfz9_6 := blk_frozen BK102.out 6
          have hfz9_7 := blk_frozen BK102.out 7
          go_wp2
          go_meet
          case rel => exact ⟨_, ((a0_2 == a0_1)), (by first | rfl | (simp; done) | (simp [*]; done)), H', ⟨by first | omega | exact Nat.le_refl _⟩, ⟨by (with_reducible repeat (first | refine blk_drewN ?_ _ | refine blk_drew ?_ | refine blk_alloc ?_ _)); exact BK102.out⟩, ⟨by repeat (first | (with_reducible first | exact HB.out | apply below_alloc | apply pw_below_drewN | apply below_drew1 | refine below_set ?_ GE102.out) | exact HB.out)⟩⟩
        · rw [if_neg c8] at H
          have c8b0 : (a0_2 == a0_1) = false := beq_eq_false_iff_ne.mpr c8
          have c8b1 : (a0_2 != a0_1) = true := bne_iff_ne.mpr c8
          have H' := Aside0.mk H
          clear H
          have hcz10_0 : w3.cell? ⟨gb102, 0, none⟩ = some (.int .u64 a0_0) := (blk_cell BK102.out 0).trans rfl
          have hcz10_1 : w3.cell? ⟨gb102, 1, none⟩ = some (.int .u64 a0_1) := (blk_cell BK102.out 1).trans rfl
          have hcz10_2 : w3.cell? ⟨gb102, 2, none⟩ = some (.int .u64 a0_2) := (blk_cell BK102.out 2).trans rfl
          have hcz10_3 : w3.cell? ⟨gb102, 3, none⟩ = some (.int .u8 a0_3) := (blk_cell BK102.out 3).trans rfl
          have hcz10_4 : w3.cell? ⟨gb102, 4, none⟩ = some (.string a0_4) := (blk_cell BK102.out 4).trans rfl
          have hcz10_5 : w3.cell? ⟨gb102, 5, none⟩ = some (.string a0_5) := (blk_cell BK102.out 5).trans rfl
          have hcz10_6 : w3.cell? ⟨gb102, 6, none⟩ = some (.int .i64 a0_6) := (blk_cell BK102.out 6).trans rfl
          have hcz10_7 : w3.cell? ⟨gb102, 7, none⟩ = some (.int .i64 a0_7) := (blk_cell BK102.out 7).trans rfl
          have hfz10_0 := blk_frozen BK102.out 0
          have hfz10_1 := blk_frozen BK102.out 1
          have hfz10_2 := blk_frozen BK102.out 2
          have hfz10_3 := blk_frozen BK102.out 3
          have hfz10_4 := blk_frozen BK102.out 4
          have hfz10_5 := blk_frozen BK102.out 5
          have hfz10_6 := blk_frozen BK102.out 6
          have hfz10_7 := blk_frozen BK102.out 7
          go_wp2
          go_meet
          case rel => exact ⟨_, (decide (a0_3 > 2)), (by first | rfl | (simp; done) | (simp [*]; done)), H', ⟨by first | omega | exact Nat.le_refl _⟩, ⟨by (with_reducible repeat (first | refine blk_drewN ?_ _ | refine blk_drew ?_ | refine blk_alloc ?_ _)); exact BK102.out⟩, ⟨by repeat (first | (with_reducible first | exact HB.out | apply below_alloc | apply pw_below_drewN | apply below_drew1 | refine below_set ?_ GE102.out) | exact HB.out)⟩⟩
  case rest =>
    clear HC2
    (try clear p2); (try clear c4); (try clear c5); (try clear c5b0); (try clear c5b1); (try clear c6); (try clear c6b0); (try clear c6b1); (try clear c8); (try clear c8b0); (try clear c8b1); (try clear hcz10_0); (try clear hcz10_1); (try clear hcz10_2); (try clear hcz10_3); (try clear hcz10_4); (try clear hcz10_5); (try clear hcz10_6); (try clear hcz10_7); (try clear hcz4_0); (try clear hcz4_1); (try clear hcz4_2); (try clear hcz4_3); (try clear hcz4_4); (try clear hcz4_5); (try clear hcz4_6); (try clear hcz4_7); (try clear hcz7_0); (try clear hcz7_1); (try clear hcz7_2); (try clear hcz7_3); (try clear hcz7_4); (try clear hcz7_5); (try clear hcz7_6); (try clear hcz7_7); (try clear hcz9_0); (try clear hcz9_1); (try clear hcz9_2); (try clear hcz9_3); (try clear hcz9_4); (try clear hcz9_5); (try clear hcz9_6); (try clear hcz9_7); (try clear hfz10_0); (try clear hfz10_1); (try clear hfz10_2); (try clear hfz10_3); (try clear hfz10_4); (try clear hfz10_5); (try clear hfz10_6); (try clear hfz10_7); (try clear hfz4_0); (try clear hfz4_1); (try clear hfz4_2); (try clear hfz4_3); (try clear hfz4_4); (try clear hfz4_5); (try clear hfz4_6); (try clear hfz4_7); (try clear hfz7_0); (try clear hfz7_1); (try clear hfz7_2); (try clear hfz7_3); (try clear hfz7_4); (try clear hfz7_5); (try clear hfz7_6); (try clear hfz7_7); (try clear hfz9_0); (try clear hfz9_1); (try clear hfz9_2); (try clear hfz9_3); (try clear hfz9_4); (try clear hfz9_5); (try clear hfz9_6); (try clear hfz9_7)
    obtain ⟨kq, x3_1, rfl, HA, HJ1, BK102, HB⟩ := hcut
    cases kq with
    | zero => exact absurd HA.out (by simp [span_May.j0])
    | succ kj1 =>
      have H := HA.out
      clear HA
      simp only [span_May.j0] at H
      by_cases c11 : x3_1 = true
      · subst c11
        have H1 : (some false) = some r := by rw [if_pos rfl] at H; exact H
        clear H
        have H := H1
        clear H1
        obtain rfl := Option.some.inj H
        go_wp2
        go_ret
        exact ⟨by first | rfl | (simp [errW_none, errW_some] <;> rfl) | (simp [*, errW_none, errW_some] <;> rfl), by repeat (first | (with_reducible first | exact HB.out | apply below_alloc | apply pw_below_drewN | apply below_drew1 | refine below_set ?_ GE102.out) | exact HB.out)⟩
      · replace c11 := Bool.eq_false_iff.mpr c11
        subst c11
        have H1 : (if a0_6 < 0 then (span_May.j1 kj1 (decide (a0_6 < 0)) a0_0 a0_1 a0_2 a0_3 a0_4 a0_5 a0_6 a0_7) else (if a0_6 ≥ 1125899906842624 then (span_May.j1 kj1 (decide (a0_6 ≥ 1125899906842624)) a0_0 a0_1 a0_2 a0_3 a0_4 a0_5 a0_6 a0_7) else (if a0_7 < 0 then (span_May.j1 kj1 (decide (a0_7 < 0)) a0_0 a0_1 a0_2 a0_3 a0_4 a0_5 a0_6 a0_7) else (span_May.j1 kj1 (decide (a0_7 > 1125899906842624)) a0_0 a0_1 a0_2 a0_3 a0_4 a0_5 a0_6 a0_7)))) = some r := by rw [if_neg (show ¬ (false = true) by decide)] at H; exact H
        clear H
        have H := H1
        clear H1
        have HC12 := Aside0.mk H
        clear H
        have hcz13_0 : wc.cell? ⟨gb102, 0, none⟩ = some (.int .u64 a0_0) := (blk_cell BK102.out 0).trans rfl
        have hcz13_1 : wc.cell? ⟨gb102, 1, none⟩ = some (.int .u64 a0_1) := (blk_cell BK102.out 1).trans rfl
        have hcz13_2 : wc.cell? ⟨gb102, 2, none⟩ = some (.int .u64 a0_2) := (blk_cell BK102.out 2).trans rfl
        have hcz13_3 : wc.cell? ⟨gb102, 3, none⟩ = some (.int .u8 a0_3) := (blk_cell BK102.out 3).trans rfl
        have hcz13_4 : wc.cell? ⟨gb102, 4, none⟩ = some (.string a0_4) := (blk_cell BK102.out 4).trans rfl
        have hcz13_5 : wc.cell? ⟨gb102, 5, none⟩ = some (.string a0_5) := (blk_cell BK102.out 5).trans rfl
        have hcz13_6 : wc.cell? ⟨gb102, 6, none⟩ = some (.int .i64 a0_6) := (blk_cell BK102.out 6).trans rfl
        have hcz13_7 : wc.cell? ⟨gb102, 7, none⟩ = some (.int .i64 a0_7) := (blk_cell BK102.out 7).trans rfl
        have hfz13_0 := blk_frozen BK102.out 0
        have hfz13_1 := blk_frozen BK102.out 1
        have hfz13_2 := blk_frozen BK102.out 2
        have hfz13_3 := blk_frozen BK102.out 3
        have hfz13_4 := blk_frozen BK102.out 4
        have hfz13_5 := blk_frozen BK102.out 5
        have hfz13_6 := blk_frozen BK102.out 6
        have hfz13_7 := blk_frozen BK102.out 7
        go_upto_if 18 with (fail)
        go_cut [18] (fun v18 wc => ∃ (kq : Nat) (x18_11 : Bool), v18 = .bool x18_11 ∧ Aside0 (span_May.j1 kq x18_11 a0_0 a0_1 a0_2 a0_3 a0_4 a0_5 a0_6 a0_7 = some r) ∧ Aside0 (kq ≤ kj1) ∧ Aside0 (wc.heap[gb102]? = some (.cells #[.int .u64 a0_0, .int .u64 a0_1, .int .u64 a0_2, .int .u8 a0_3, .string a0_4, .string a0_5, .int .i64 a0_6, .int .i64 a0_7] 37 (0, 0))) ∧ Aside0 (Below w.heap.size w wc))
        case first =>
          have H := HC12.out
          clear HC12
          by_cases c14 : a0_6 < 0
          · rw [if_pos c14] at H
            have c14b0 : decide (a0_6 < 0) = true := decide_eq_true c14
            clear c14
            (first | rw [c14b0] | (simp only [i64_w, i32_w]; rw [c14b0]) | skip)
            have H' := Aside0.mk H
            clear H
            go_wp2
            go_meet
            case rel => exact ⟨_, (decide (a0_6 < 0)), (by first | rfl | (simp; done) | (simp [*]; done)), H', ⟨by have := HJ1.out; first | omega | exact Nat.le_refl _⟩, ⟨by (with_reducible repeat (first | refine blk_drewN ?_ _ | refine blk_drew ?_ | refine blk_alloc ?_ _)); exact BK102.out⟩, ⟨by repeat (first | (with_reducible first | exact HB.out | apply below_alloc | apply pw_below_drewN | apply below_drew1 | refine below_set ?_ GE102.out) | exact HB.out)⟩⟩
          · rw [if_neg c14] at H
            have c14b0 : decide (a0_6 < 0) = false := decide_eq_false c14
            clear c14
            (first | rw [c14b0] | (simp only [i64_w, i32_w]; rw [c14b0]) | skip)
            by_cases c15 : a0_6 ≥ 1125899906842624
            · rw [if_pos c15] at H
              have c15b0 : decide (1125899906842624 ≤ a0_6) = true := decide_eq_true c15
              clear c15
              have H' := Aside0.mk H
              clear H
              have hcz16_0 : wc.cell? ⟨gb102, 0, none⟩ = some (.int .u64 a0_0) := (blk_cell BK102.out 0).trans rfl
              have hcz16_1 : wc.cell? ⟨gb102, 1, none⟩ = some (.int .u64 a0_1) := (blk_cell BK102.out 1).trans rfl
              have hcz16_2 : wc.cell? ⟨gb102, 2, none⟩ = some (.int .u64 a0_2) := (blk_cell BK102.out 2).trans rfl
              have hcz16_3 : wc.cell? ⟨gb102, 3, none⟩ = some (.int .u8 a0_3) := (blk_cell BK102.out 3).trans rfl
              have hcz16_4 : wc.cell? ⟨gb102, 4, none⟩ = some (.string a0_4) := (blk_cell BK102.out 4).trans rfl
              have hcz16_5 : wc.cell? ⟨gb102, 5, none⟩ = some (.string a0_5) := (blk_cell BK102.out 5).trans rfl
              have hcz16_6 : wc.cell? ⟨gb102, 6, none⟩ = some (.int .i64 a0_6) := (blk_cell BK102.out 6).trans rfl
              have hcz16_7 : wc.cell? ⟨gb102, 7, none⟩ = some (.int .i64 a0_7) := (blk_cell BK102.out 7).trans rfl
              have hfz16_0 := blk_frozen BK102.out 0
              have hfz16_1 := blk_frozen BK102.out 1
              have hfz16_2 := blk_frozen BK102.out 2
              have hfz16_3 := blk_frozen BK102.out 3
              have hfz16_4 := blk_frozen BK102.out 4
              have hfz16_5 := blk_frozen BK102.out 5
              have hfz16_6 := blk_frozen BK102.out 6
              have hfz16_7 := blk_frozen BK102.out 7
              go_wp2
              go_meet
              case rel => exact ⟨_, (decide (a0_6 ≥ 1125899906842624)), (by first | rfl | (simp; done) | (simp [*]; done)), H', ⟨by have := HJ1.out; first | omega | exact Nat.le_refl _⟩, ⟨by (with_reducible repeat (first | refine blk_drewN ?_ _ | refine blk_drew ?_ | refine blk_alloc ?_ _)); exact BK102.out⟩, ⟨by repeat (first | (with_reducible first | exact HB.out | apply below_alloc | apply pw_below_drewN | apply below_drew1 | refine below_set ?_ GE102.out) | exact HB.out)⟩⟩
            · rw [if_neg c15] at H
              have c15b0 : decide (1125899906842624 ≤ a0_6) = false := decide_eq_false c15
              clear c15
              by_cases c17 : a0_7 < 0
              · rw [if_pos c17] at H
                have c17b0 : decide (a0_7 < 0) = true := decide_eq_true c17
                clear c17
                have H' := Aside0.mk H
                clear H
                have hcz18_0 : wc.cell? ⟨gb102, 0, none⟩ = some (.int .u64 a0_0) := (blk_cell BK102.out 0).trans rfl
                have hcz18_1 : wc.cell? ⟨gb102, 1, none⟩ = some (.int .u64 a0_1) := (blk_cell BK102.out 1).trans rfl
                have hcz18_2 : wc.cell? ⟨gb102, 2, none⟩ = some (.int .u64 a0_2) := (blk_cell BK102.out 2).trans rfl
                have hcz18_3 : wc.cell? ⟨gb102, 3, none⟩ = some (.int .u8 a0_3) := (blk_cell BK102.out 3).trans rfl
                have hcz18_4 : wc.cell? ⟨gb102, 4, none⟩ = some (.string a0_4) := (blk_cell BK102.out 4).trans rfl
                have hcz18_5 : wc.cell? ⟨gb102, 5, none⟩ = some (.string a0_5) := (blk_cell BK102.out 5).trans rfl
                have hcz18_6 : wc.cell? ⟨gb102, 6, none⟩ = some (.int .i64 a0_6) := (blk_cell BK102.out 6).trans rfl
                have hcz18_7 : wc.cell? ⟨gb102, 7, none⟩ = some (.int .i64 a0_7) := (blk_cell BK102.out 7).trans rfl
                have hfz18_0 := blk_frozen BK102.out 0
                have hfz18_1 := blk_frozen BK102.out 1
                have hfz18_2 := blk_frozen BK102.out 2
                have hfz18_3 := blk_frozen BK102.out 3
                have hfz18_4 := blk_frozen BK102.out 4
                have hfz18_5 := blk_frozen BK102.out 5
                have hfz18_6 := blk_frozen BK102.out 6
                have hfz18_7 := blk_frozen BK102.out 7
                go_wp2
                go_meet
                case rel => exact ⟨_, (decide (a0_7 < 0)), (by first | rfl | (simp; done) | (simp [*]; done)), H', ⟨by have := HJ1.out; first | omega | exact Nat.le_refl _⟩, ⟨by (with_reducible repeat (first | refine blk_drewN ?_ _ | refine blk_drew ?_ | refine blk_alloc ?_ _)); exact BK102.out⟩, ⟨by repeat (first | (with_reducible first | exact HB.out | apply below_alloc | apply pw_below_drewN | apply below_drew1 | refine below_set ?_ GE102.out) | exact HB.out)⟩⟩
              · rw [if_neg c17] at H
                have c17b0 : decide (a0_7 < 0) = false := decide_eq_false c17
                clear c17
                have H' := Aside0.mk H
                clear H
                have hcz19_0 : wc.cell? ⟨gb102, 0, none⟩ = some (.int .u64 a0_0) := (blk_cell BK102.out 0).trans rfl
                have hcz19_1 : wc.cell? ⟨gb102, 1, none⟩ = some (.int .u64 a0_1) := (blk_cell BK102.out 1).trans rfl
                have hcz19_2 : wc.cell? ⟨gb102, 2, none⟩ = some (.int .u64 a0_2) := (blk_cell BK102.out 2).trans rfl
                have hcz19_3 : wc.cell? ⟨gb102, 3, none⟩ = some (.int .u8 a0_3) := (blk_cell BK102.out 3).trans rfl
                have hcz19_4 : wc.cell? ⟨gb102, 4, none⟩ = some (.string a0_4) := (blk_cell BK102.out 4).trans rfl
                have hcz19_5 : wc.cell? ⟨gb102, 5, none⟩ = some (.string a0_5) := (blk_cell BK102.out 5).trans rfl
                have hcz19_6 : wc.cell? ⟨gb102, 6, none⟩ = some (.int .i64 a0_6) := (blk_cell BK102.out 6).trans rfl
                have hcz19_7 : wc.cell? ⟨gb102, 7, none⟩ = some (.int .i64 a0_7) := (blk_cell BK102.out 7).trans rfl
                have hfz19_0 := blk_frozen BK102.out 0
                have hfz19_1 := blk_frozen BK102.out 1
                have hfz19_2 := blk_frozen BK102.out 2
                have hfz19_3 := blk_frozen BK102.out 3
                have hfz19_4 := blk_frozen BK102.out 4
                have hfz19_5 := blk_frozen BK102.out 5
                have hfz19_6 := blk_frozen BK102.out 6
                have hfz19_7 := blk_frozen BK102.out 7
                go_wp2
                go_meet
                case rel => exact ⟨_, (decide (a0_7 > 1125899906842624)), (by first | rfl | (simp; done) | (simp [*]; done)), H', ⟨by have := HJ1.out; first | omega | exact Nat.le_refl _⟩, ⟨by (with_reducible repeat (first | refine blk_drewN ?_ _ | refine blk_drew ?_ | refine blk_alloc ?_ _)); exact BK102.out⟩, ⟨by repeat (first | (with_reducible first | exact HB.out | apply below_alloc | apply pw_below_drewN | apply below_drew1 | refine below_set ?_ GE102.out) | exact HB.out)⟩⟩
        case rest =>
          clear HC12
          (try clear c1); (try clear p2); (try clear c4); (try clear c5); (try clear c5b0); (try clear c5b1); (try clear c6); (try clear c6b0); (try clear c6b1); (try clear c8); (try clear c8b0); (try clear c8b1); (try clear c11); (try clear c14); (try clear c14b0); (try clear c15); (try clear c15b0); (try clear c17); (try clear c17b0); (try clear hcz10_0); (try clear hcz10_1); (try clear hcz10_2); (try clear hcz10_3); (try clear hcz10_4); (try clear hcz10_5); (try clear hcz10_6); (try clear hcz10_7); (try clear hcz13_0); (try clear hcz13_1); (try clear hcz13_2); (try clear hcz13_3); (try clear hcz13_4); (try clear hcz13_5); (try clear hcz13_6); (try clear hcz13_7); (try clear hcz16_0); (try clear hcz16_1); (try clear hcz16_2); (try clear hcz16_3); (try clear hcz16_4); (try clear hcz16_5); (try clear hcz16_6); (try clear hcz16_7); (try clear hcz18_0); (try clear hcz18_1); (try clear hcz18_2); (try clear hcz18_3); (try clear hcz18_4); (try clear hcz18_5); (try clear hcz18_6); (try clear hcz18_7); (try clear hcz19_0); (try clear hcz19_1); (try clear hcz19_2); (try clear hcz19_3); (try clear hcz19_4); (try clear hcz19_5); (try clear hcz19_6); (try clear hcz19_7); (try clear hcz4_0); (try clear hcz4_1); (try clear hcz4_2); (try clear hcz4_3); (try clear hcz4_4); (try clear hcz4_5); (try clear hcz4_6); (try clear hcz4_7); (try clear hcz7_0); (try clear hcz7_1); (try clear hcz7_2); (try clear hcz7_3); (try clear hcz7_4); (try clear hcz7_5); (try clear hcz7_6); (try clear hcz7_7); (try clear hcz9_0); (try clear hcz9_1); (try clear hcz9_2); (try clear hcz9_3); (try clear hcz9_4); (try clear hcz9_5); (try clear hcz9_6); (try clear hcz9_7); (try clear hfz10_0); (try clear hfz10_1); (try clear hfz10_2); (try clear hfz10_3); (try clear hfz10_4); (try clear hfz10_5); (try clear hfz10_6); (try clear hfz10_7); (try clear hfz13_0); (try clear hfz13_1); (try clear hfz13_2); (try clear hfz13_3); (try clear hfz13_4); (try clear hfz13_5); (try clear hfz13_6); (try clear hfz13_7); (try clear hfz16_0); (try clear hfz16_1); (try clear hfz16_2); (try clear hfz16_3); (try clear hfz16_4); (try clear hfz16_5); (try clear hfz16_6); (try clear hfz16_7); (try clear hfz18_0); (try clear hfz18_1); (try clear hfz18_2); (try clear hfz18_3); (try clear hfz18_4); (try clear hfz18_5); (try clear hfz18_6); (try clear hfz18_7); (try clear hfz19_0); (try clear hfz19_1); (try clear hfz19_2); (try clear hfz19_3); (try clear hfz19_4); (try clear hfz19_5); (try clear hfz19_6); (try clear hfz19_7); (try clear hfz4_0); (try clear hfz4_1); (try clear hfz4_2); (try clear hfz4_3); (try clear hfz4_4); (try clear hfz4_5); (try clear hfz4_6); (try clear hfz4_7); (try clear hfz7_0); (try clear hfz7_1); (try clear hfz7_2); (try clear hfz7_3); (try clear hfz7_4); (try clear hfz7_5); (try clear hfz7_6); (try clear hfz7_7); (try clear hfz9_0); (try clear hfz9_1); (try clear hfz9_2); (try clear hfz9_3); (try clear hfz9_4); (try clear hfz9_5); (try clear hfz9_6); (try clear hfz9_7); (try clear p2)
          obtain ⟨kq, x18_11, rfl, HA, HJ11, BK102, HB⟩ := hcut
          cases kq with
          | zero => exact absurd HA.out (by simp [span_May.j1])
          | succ kj11 =>
            have H := HA.out
            clear HA
            simp only [span_May.j1] at H
            by_cases c20 : x18_11 = true
            · subst c20
              have H1 : (some false) = some r := by rw [if_pos rfl] at H; exact H
              clear H
              have H := H1
              clear H1
              obtain rfl := Option.some.inj H
              go_wp2
              go_ret
              exact ⟨by first | rfl | (simp [errW_none, errW_some] <;> rfl) | (simp [*, errW_none, errW_some] <;> rfl), by repeat (first | (with_reducible first | exact HB.out | apply below_alloc | apply pw_below_drewN | apply below_drew1 | refine below_set ?_ GE102.out) | exact HB.out)⟩
            · replace c20 := Bool.eq_false_iff.mpr c20
              subst c20
              have H1 : ((span_Name.f kj11 a0_4).bind fun t103 => (if t103 = true then ((span_Name.f kj11 a0_5).bind fun t104 => (some t104)) else (some false))) = some r := by rw [if_neg (show ¬ (false = true) by decide)] at H; exact H
              clear H
              have H := H1
              clear H1
              replace H := Option.bind_eq_some_iff.mp H
              obtain ⟨t103, A210, H⟩ := H
              replace H : (if t103 = true then ((span_Name.f kj11 a0_5).bind fun t104 => (some t104)) else (some false)) = some r := H
              have A21 := Aside0.mk A210
              clear A210
              by_cases c22 : t103 = true
              · subst c22
                have H1 : ((span_Name.f kj11 a0_5).bind fun t104 => (some t104)) = some r := by rw [if_pos rfl] at H; exact H
                clear H
                have H := H1
                clear H1
                replace H := Option.bind_eq_some_iff.mp H
                obtain ⟨t104, A230, H⟩ := H
                replace H : (some t104) = some r := H
                have A23 := Aside0.mk A230
                clear A230
                obtain rfl := Option.some.inj H
                have hcz24_0 : wc.cell? ⟨gb102, 0, none⟩ = some (.int .u64 a0_0) := (blk_cell BK102.out 0).trans rfl
                have hcz24_1 : wc.cell? ⟨gb102, 1, none⟩ = some (.int .u64 a0_1) := (blk_cell BK102.out 1).trans rfl
                have hcz24_2 : wc.cell? ⟨gb102, 2, none⟩ = some (.int .u64 a0_2) := (blk_cell BK102.out 2).trans rfl
                have hcz24_3 : wc.cell? ⟨gb102, 3, none⟩ = some (.int .u8 a0_3) := (blk_cell BK102.out 3).trans rfl
                have hcz24_4 : wc.cell? ⟨gb102, 4, none⟩ = some (.string a0_4) := (blk_cell BK102.out 4).trans rfl
                have hcz24_5 : wc.cell? ⟨gb102, 5, none⟩ = some (.string a0_5) := (blk_cell BK102.out 5).trans rfl
                have hcz24_6 : wc.cell? ⟨gb102, 6, none⟩ = some (.int .i64 a0_6) := (blk_cell BK102.out 6).trans rfl
                have hcz24_7 : wc.cell? ⟨gb102, 7, none⟩ = some (.int .i64 a0_7) := (blk_cell BK102.out 7).trans rfl
                have hfz24_0 := blk_frozen BK102.out 0
                have hfz24_1 := blk_frozen BK102.out 1
                have hfz24_2 := blk_frozen BK102.out 2
                have hfz24_3 := blk_frozen BK102.out 3
                have hfz24_4 := blk_frozen BK102.out 4
                have hfz24_5 := blk_frozen BK102.out 5
                have hfz24_6 := blk_frozen BK102.out 6
                have hfz24_7 := blk_frozen BK102.out 7
                go_wp2_with (first | ((with_reducible refine gate_callee (f := 96) rfl ?_); refine goesL_ (some 33) rfl rfl Try.func96 (by kernel_rfl) rfl #[.string a0_4] rfl (by (try simp only [List.map_toArray, List.map_cons, List.map_nil]); first | done | rfl | (simp only [List.length_drop, List.length_take]; rfl)) ?_; (with_reducible refine (span_Name.calls kj11 a0_4 true _ A21.out).mono ?_); rintro e w' ⟨rfl, ⟨nd, rfl⟩⟩; refine ⟨_, rfl, ?_⟩) | (go_at_call 96; (with_reducible refine (span_Name.calls kj11 a0_5 t104 _ A23.out).mono ?_); rintro e w' ⟨rfl, ⟨nd, rfl⟩⟩))
                go_ret
                exact ⟨by first | rfl | (simp [errW_none, errW_some] <;> rfl) | (simp [*, errW_none, errW_some] <;> rfl), by repeat (first | (with_reducible first | exact HB.out | apply below_alloc | apply pw_below_drewN | apply below_drew1 | refine below_set ?_ GE102.out) | exact HB.out)⟩
              · replace c22 := Bool.eq_false_iff.mpr c22
                subst c22
                have H1 : (some false) = some r := by rw [if_neg (show ¬ (false = true) by decide)] at H; exact H
                clear H
                have H := H1
                clear H1
                obtain rfl := Option.some.inj H
                have hcz25_0 : wc.cell? ⟨gb102, 0, none⟩ = some (.int .u64 a0_0) := (blk_cell BK102.out 0).trans rfl
                have hcz25_1 : wc.cell? ⟨gb102, 1, none⟩ = some (.int .u64 a0_1) := (blk_cell BK102.out 1).trans rfl
                have hcz25_2 : wc.cell? ⟨gb102, 2, none⟩ = some (.int .u64 a0_2) := (blk_cell BK102.out 2).trans rfl
                have hcz25_3 : wc.cell? ⟨gb102, 3, none⟩ = some (.int .u8 a0_3) := (blk_cell BK102.out 3).trans rfl
                have hcz25_4 : wc.cell? ⟨gb102, 4, none⟩ = some (.string a0_4) := (blk_cell BK102.out 4).trans rfl
                have hcz25_5 : wc.cell? ⟨gb102, 5, none⟩ = some (.string a0_5) := (blk_cell BK102.out 5).trans rfl
                have hcz25_6 : wc.cell? ⟨gb102, 6, none⟩ = some (.int .i64 a0_6) := (blk_cell BK102.out 6).trans rfl
                have hcz25_7 : wc.cell? ⟨gb102, 7, none⟩ = some (.int .i64 a0_7) := (blk_cell BK102.out 7).trans rfl
                have hfz25_0 := blk_frozen BK102.out 0
                have hfz25_1 := blk_frozen BK102.out 1
                have hfz25_2 := blk_frozen BK102.out 2
                have hfz25_3 := blk_frozen BK102.out 3
                have hfz25_4 := blk_frozen BK102.out 4
                have hfz25_5 := blk_frozen BK102.out 5
                have hfz25_6 := blk_frozen BK102.out 6
                have hfz25_7 := blk_frozen BK102.out 7
                go_wp2_with (first | ((with_reducible refine gate_callee (f := 96) rfl ?_); refine goesL_ (some 33) rfl rfl Try.func96 (by kernel_rfl) rfl #[.string a0_4] rfl (by (try simp only [List.map_toArray, List.map_cons, List.map_nil]); first | done | rfl | (simp only [List.length_drop, List.length_take]; rfl)) ?_; (with_reducible refine (span_Name.calls kj11 a0_4 false _ A21.out).mono ?_); rintro e w' ⟨rfl, ⟨nd, rfl⟩⟩; refine ⟨_, rfl, ?_⟩))
                go_ret
                exact ⟨by first | rfl | (simp [errW_none, errW_some] <;> rfl) | (simp [*, errW_none, errW_some] <;> rfl), by repeat (first | (with_reducible first | exact HB.out | apply below_alloc | apply pw_below_drewN | apply below_drew1 | refine below_set ?_ GE102.out) | exact HB.out)⟩

end Go.Proofs.Ytmfdhcgdibefiaa.Q

-- Written by wip/tools/gp.py, a program of this session round the kit's printer. Lean checks it.
namespace Go.Proofs.Ytmfdhcgdibefiaa.Q
open Go.RowKit Go.Proofs.YtmfdhcgdibefiaaW.PrintWords Go.Proofs.YtmfdhcgdibefiaaW.PrintLast Go.Proofs.YtmfdhcgdibefiaaW.PrintMore
attribute [local go_sem] max2_int min2_int max_two min_two max_three min_three max_four min_four   -- for this text's walks alone
set_option linter.unusedVariables false
set_option linter.unusedSimpArgs false
end Go.Proofs.Ytmfdhcgdibefiaa.Q

-- Written by wip/tools/gp.py, a program of this session round the kit's printer. Lean checks it.
namespace Go.Proofs.Ytmfdhcgdibefiaa.Q
open Go.RowKit Go.Proofs.YtmfdhcgdibefiaaW.PrintWords Go.Proofs.YtmfdhcgdibefiaaW.PrintLast Go.Proofs.YtmfdhcgdibefiaaW.PrintMore
attribute [local go_sem] max2_int min2_int max_two min_two max_three min_three max_four min_four   -- for this text's walks alone
set_option linter.unusedVariables false
set_option linter.unusedSimpArgs false
end Go.Proofs.Ytmfdhcgdibefiaa.Q

/- What layer 1 comes to, as plain Lean: names, which spans may be. -/
namespace Go.Proofs.Ytmfdhcgdibefiaa.L
open Go.RowKit Go.Proofs.Ytmfdhcgdibefiaa.Q Go.Proofs.YtmfdhcgdibefiaaW.PrintWords Go.Proofs.YtmfdhcgdibefiaaW.PrintLast Go.Proofs.YtmfdhcgdibefiaaW.PrintMore Go.Proofs.YtmfdhcgdibefiaaW.Lib
set_option linter.unusedVariables false

def letterB (c : Int) : Bool := (decide (97 ≤ c) && decide (c ≤ 122)) || (decide (48 ≤ c) && decide (c ≤ 57)) || decide (c = 45) || decide (c = 46) || decide (c = 95)
theorem letter_f (c : Int) : span_letter.f c = some (letterB c) := by
  unfold span_letter.f letterB
  repeat' split
  all_goals (rw [Option.some.injEq, Bool.eq_iff_iff]; simp; omega)
def nameB (s : ByteArray) : Bool := decide (1 ≤ s.size) && decide (s.size ≤ 16) && (bytesOf s).all letterB

theorem name_l0 (s : ByteArray) (hs : s.size ≤ 140737488351232) : ∀ (d i : Nat), s.size - i = d → i ≤ s.size → Ev (fun k => span_Name.l0 k s (s.size : Int) (i : Int)) (((bytesOf s).drop i).all letterB)
  | 0, i, hd, hi => by
    refine Ev.step (f := fun _ => some true) (fun k => ?_) (Ev.cast (Ev.now true) ?_)
    · simp only [span_Name.l0]; rw [if_neg (by omega)]
    · rw [List.drop_of_length_le (by rw [bytesOf_size]; omega)]; rfl
  | d + 1, i, hd, hi => by
    have ih := name_l0 s hs d (i + 1) (by omega) (by omega)
    rw [bytesOf_drop s i (by omega), List.all_cons]
    refine Ev.step (f := fun k => if letterB (bt s i) = true then span_Name.l0 k s (s.size : Int) ((i + 1 : Nat) : Int) else some false) (fun k => ?_) ?_
    · simp only [span_Name.l0]
      rw [if_pos (by omega), if_pos (by omega), if_pos (by omega), letter_f]
      simp only [Option.bind_some]
      rw [wrap_id (by omega) (by omega)]; rfl
    · refine Ev.ite (fun h => ?_) (fun h => ?_)
      · rw [h, Bool.true_and]; exact ih
      · rw [Bool.not_eq_true] at h; rw [h, Bool.false_and]; exact Ev.now _

theorem name_ev (s : ByteArray) (hs : s.size ≤ 140737488351232) : Ev (fun k => span_Name.f k s) (nameB s) := by
  unfold span_Name.f nameB
  refine Ev.ite (fun h => ?_) (fun h => ?_)
  · refine Ev.step (f := fun _ => some false) (fun k => by simp [span_Name.j0]) (Ev.cast (Ev.now _) ?_)
    rw [decide_eq_false (by omega : ¬ 1 ≤ s.size)]; rfl
  · refine Ev.step (f := fun k => if decide ((s.size : Int) > 16) = true then some false else span_Name.l0 k s (s.size : Int) 0) (fun k => by simp only [span_Name.j0]) ?_
    refine Ev.ite (fun h2 => ?_) (fun h2 => ?_)
    · have h3 := of_decide_eq_true h2
      refine Ev.cast (Ev.now _) ?_
      rw [decide_eq_false (by omega : ¬ s.size ≤ 16)]; simp
    · have h3 : ¬ ((s.size : Int) > 16) := fun h4 => h2 (decide_eq_true h4)
      have := name_l0 s hs s.size 0 (by omega) (by omega)
      rw [decide_eq_true (by omega : 1 ≤ s.size), decide_eq_true (by omega : s.size ≤ 16)]
      simpa using this

end Go.Proofs.Ytmfdhcgdibefiaa.L
namespace Go.Proofs.Ytmfdhcgdibefiaa.L
open Go.RowKit Go.Proofs.Ytmfdhcgdibefiaa.Q Go.Proofs.YtmfdhcgdibefiaaW.PrintWords Go.Proofs.YtmfdhcgdibefiaaW.PrintLast Go.Proofs.YtmfdhcgdibefiaaW.PrintMore Go.Proofs.YtmfdhcgdibefiaaW.Lib
set_option linter.unusedVariables false

def mayB (t i p k : Int) (h n : ByteArray) (s d : Int) : Bool :=
  !(decide (t = 0) || decide (i = 0) || decide (p = i) || decide (k > 2)) && (!(decide (s < 0) || decide (s ≥ 1125899906842624) || decide (d < 0) || decide (d > 1125899906842624)) && (nameB h && nameB n))

theorem may_j1 (b : Bool) (t i p k : Int) (h n : ByteArray) (s d : Int) (hh : h.size ≤ 140737488351232) (hn : n.size ≤ 140737488351232) :
    Ev (fun m => span_May.j1 m b t i p k h n s d) (!b && (nameB h && nameB n)) := by
  refine Ev.step (f := fun m => if b = true then some false else (span_Name.f m h).bind fun x => if x = true then (span_Name.f m n).bind fun y => some y else some false) (fun m => by simp only [span_May.j1]) ?_
  refine Ev.ite (fun e => ?_) (fun e => ?_)
  · exact Ev.cast (Ev.now _) (by rw [e]; rfl)
  · refine Ev.bind (name_ev h hh) (Ev.ite (fun e1 => ?_) (fun e1 => ?_))
    · refine Ev.cast (Ev.bind (name_ev n hn) (Ev.now _)) ?_
      rw [Bool.not_eq_true] at e; rw [e, e1]; rfl
    · exact Ev.cast (Ev.now _) (by rw [Bool.not_eq_true] at e1; rw [e1]; simp)

theorem may_j0 (b : Bool) (t i p k : Int) (h n : ByteArray) (s d : Int) (hh : h.size ≤ 140737488351232) (hn : n.size ≤ 140737488351232) :
    Ev (fun m => span_May.j0 m b t i p k h n s d) (!b && (!(decide (s < 0) || decide (s ≥ 1125899906842624) || decide (d < 0) || decide (d > 1125899906842624)) && (nameB h && nameB n))) := by
  refine Ev.step (f := fun m => if b = true then some false else if s < 0 then span_May.j1 m (decide (s < 0)) t i p k h n s d else if s ≥ 1125899906842624 then span_May.j1 m (decide (s ≥ 1125899906842624)) t i p k h n s d else if d < 0 then span_May.j1 m (decide (d < 0)) t i p k h n s d else span_May.j1 m (decide (d > 1125899906842624)) t i p k h n s d) (fun m => by simp only [span_May.j0]) ?_
  refine Ev.ite (fun e => Ev.cast (Ev.now _) (by rw [e]; rfl)) (fun e => ?_)
  rw [Bool.not_eq_true] at e
  rw [e]
  refine Ev.ite (fun e1 => Ev.cast (may_j1 _ t i p k h n s d hh hn) (by simp [e1])) (fun e1 => ?_)
  refine Ev.ite (fun e2 => Ev.cast (may_j1 _ t i p k h n s d hh hn) (by simp [e2])) (fun e2 => ?_)
  refine Ev.ite (fun e3 => Ev.cast (may_j1 _ t i p k h n s d hh hn) (by simp [e3])) (fun e3 => ?_)
  exact Ev.cast (may_j1 _ t i p k h n s d hh hn) (by simp [e1, e2, e3])

theorem may_ev (t i p k : Int) (h n : ByteArray) (s d : Int) (hh : h.size ≤ 140737488351232) (hn : n.size ≤ 140737488351232) :
    Ev (fun m => span_May.f m t i p k h n s d) (mayB t i p k h n s d) := by
  unfold span_May.f mayB
  refine Ev.ite (fun e1 => Ev.cast (may_j0 _ t i p k h n s d hh hn) (by simp [e1])) (fun e1 => ?_)
  refine Ev.ite (fun e2 => Ev.cast (may_j0 _ t i p k h n s d hh hn) (by simp [e2])) (fun e2 => ?_)
  refine Ev.ite (fun e3 => Ev.cast (may_j0 _ t i p k h n s d hh hn) (by simp [e3])) (fun e3 => ?_)
  exact Ev.cast (may_j0 _ t i p k h n s d hh hn) (by simp [e1, e2, e3])

end Go.Proofs.Ytmfdhcgdibefiaa.L

/- What a span that is read has. -/
namespace Go.Proofs.Ytmfdhcgdibefiaa.L
open Go.RowKit Go.Proofs.Ytmfdhcgdibefiaa.Q Go.Proofs.YtmfdhcgdibefiaaW.PrintWords
set_option linter.unusedVariables false

/-- What a span that is read has. -/
def fitS (x : S37) : Prop := (Lit.int .u64 x.f1).wf = true ∧ x.f4.size ≤ 140737488351232 ∧ x.f5.size ≤ 140737488351232
instance : DecidablePred fitS := fun x => by unfold fitS; infer_instance
end Go.Proofs.Ytmfdhcgdibefiaa.L

/- Which spans may be, as one function of a span; the document's too. -/
namespace Go.Proofs.Ytmfdhcgdibefiaa.L
open Go.RowKit Go.Proofs.Ytmfdhcgdibefiaa.Q Go.Proofs.YtmfdhcgdibefiaaW.PrintWords Go.Proofs.YtmfdhcgdibefiaaW.PrintLast Go.Proofs.YtmfdhcgdibefiaaW.PrintMore Go.Proofs.YtmfdhcgdibefiaaW.Lib
set_option linter.unusedVariables false
def mayS (s : S37) : Bool := mayB s.f0 s.f1 s.f2 s.f3 s.f4 s.f5 s.f6 s.f7
def fitR (x : S37) : Prop := fitS x ∧ 0 ≤ x.f3
instance : DecidablePred fitR := fun x => by unfold fitR; infer_instance
end Go.Proofs.Ytmfdhcgdibefiaa.L

-- Written by wip/tools/gp.py, a program of this session round the kit's printer. Lean checks it.
namespace Go.Proofs.Ytmfdhcgdibefiaa.A
open Go.RowKit Go.Proofs.Ytmfdhcgdibefiaa.Q Go.Proofs.YtmfdhcgdibefiaaW.PrintWords Go.Proofs.YtmfdhcgdibefiaaW.PrintLast Go.Proofs.YtmfdhcgdibefiaaW.PrintMore
attribute [local go_sem] max2_int min2_int max_two min_two max_three min_three max_four min_four   -- for this text's walks alone
set_option linter.unusedVariables false
set_option linter.unusedSimpArgs false

/-! ### slices_Max_int64_int64: function 105 -/
mutual
def slices_Max_int64_int64.j0 : Nat → List Int → Option (Int)
  | 0, _ => none
  | k + 1, x0 => if 0 < (x0.length : Int) then (slices_Max_int64_int64.l0 k x0 (rd x0 0) 1) else (none)
def slices_Max_int64_int64.l0 : Nat → List Int → Int → Int → Option (Int)
  | 0, _, _, _ => none
  | k + 1, x0, x3, x4 => if x4 < (x0.length : Int) then (if 0 ≤ x4 then (slices_Max_int64_int64.l0 k x0 (mx x3 (rd x0 x4)) (wrap64 (x4 + 1))) else (none)) else (some x3)
end
def slices_Max_int64_int64.f (k : Nat) (l0 : List Int) : Option (Int) := if (l0.length : Int) < 1 then (if 0 = 0 then (none) else (slices_Max_int64_int64.j0 k l0)) else (slices_Max_int64_int64.j0 k l0)
theorem slices_Max_int64_int64.mono_l : ∀ k, (∀ y0, LeO (slices_Max_int64_int64.j0 k y0) (slices_Max_int64_int64.j0 (k + 1) y0)) ∧ (∀ y0 y1 y2, LeO (slices_Max_int64_int64.l0 k y0 y1 y2) (slices_Max_int64_int64.l0 (k + 1) y0 y1 y2))
  | 0 => ⟨fun _ r h => by simp [slices_Max_int64_int64.j0] at h, fun _ _ _ r h => by simp [slices_Max_int64_int64.l0] at h⟩
  | k + 1 => by
    obtain ⟨ih0, ih1⟩ := slices_Max_int64_int64.mono_l k
    refine ⟨?_, ?_⟩
    · intro y0
      unfold slices_Max_int64_int64.j0
      repeat' first
      | (with_reducible exact ih0 _)
      | (with_reducible exact ih1 _ _ _)
      | (with_reducible exact LeO.refl _)
      | (with_reducible exact LeO.none _)
      | (with_reducible refine LeO.ite ?_ ?_)
      | (with_reducible refine LeO.bind ?_ (fun _ => ?_))
      | exact ih0 _
      | exact ih1 _ _ _
      | exact LeO.none _
      | refine LeO.ite ?_ ?_
      | refine LeO.bind ?_ (fun _ => ?_)
    · intro y0 y1 y2
      unfold slices_Max_int64_int64.l0
      repeat' first
      | (with_reducible exact ih0 _)
      | (with_reducible exact ih1 _ _ _)
      | (with_reducible exact LeO.refl _)
      | (with_reducible exact LeO.none _)
      | (with_reducible refine LeO.ite ?_ ?_)
      | (with_reducible refine LeO.bind ?_ (fun _ => ?_))
      | exact ih0 _
      | exact ih1 _ _ _
      | exact LeO.none _
      | refine LeO.ite ?_ ?_
      | refine LeO.bind ?_ (fun _ => ?_)
theorem slices_Max_int64_int64.mono : ∀ a0 k, LeO (slices_Max_int64_int64.f k a0) (slices_Max_int64_int64.f (k + 1) a0) := by
  intro a0 k
  obtain ⟨ih0, ih1⟩ := slices_Max_int64_int64.mono_l k
  unfold slices_Max_int64_int64.f
  repeat' first
      | (with_reducible exact ih0 _)
      | (with_reducible exact ih1 _ _ _)
      | (with_reducible exact LeO.refl _)
      | (with_reducible exact LeO.none _)
      | (with_reducible refine LeO.ite ?_ ?_)
      | (with_reducible refine LeO.bind ?_ (fun _ => ?_))
      | exact ih0 _
      | exact ih1 _ _ _
      | exact LeO.none _
      | refine LeO.ite ?_ ?_
      | refine LeO.bind ?_ (fun _ => ?_)
set_option maxHeartbeats 8000000 in
set_option maxRecDepth 100000 in
theorem slices_Max_int64_int64.calls (k : Nat) (A0 : Option Addr) (c0 : Nat) (l0 : List Int) (r : Int) (w : World) (hr0 : Kd.C (Kd.int .i64) w A0 l0.length l0) (hc0 : l0.length ≤ c0) (h : slices_Max_int64_int64.f k l0 = some r) :
    Calls Try.prog 105 #[.slice A0 l0.length c0] w fun e w' => e = .returned (.int .i64 r) ∧ Below w.heap.size w w' := by
  have HR0 := Aside0.mk hr0
  have HC0 := Aside0.mk hc0
  clear hr0 hc0
  have HB := Aside0.mk (Below.refl w.heap.size w)
  have H : (if (l0.length : Int) < 1 then (if 0 = 0 then (none) else (slices_Max_int64_int64.j0 k l0)) else (slices_Max_int64_int64.j0 k l0)) = some r := h
  clear h
  have HC2 := Aside0.mk H
  clear H
  go_enter Try.func105, Try.ntmps105
  go_upto_if 7 with (fail)
  go_cut [] (fun wc => ∃ (kq : Nat), Aside0 (slices_Max_int64_int64.j0 kq l0 = some r) ∧ Aside0 (kq ≤ k) ∧ Aside0 (Below w.heap.size w wc))
  case first =>
    have H := HC2.out
    clear HC2
    by_cases c3 : (l0.length : Int) < 1
    · rw [if_pos c3] at H
      have c3b0 : decide ((l0.length : Int) < 1) = true := decide_eq_true c3
      have c3b1 : decide (l0.length < 1) = true := decide_eq_true (by omega)
      clear c3
      (first | rw [c3b0] | (simp only [i64_w, i32_w]; rw [c3b0]) | skip)
      exact absurd H (by simp)
    · rw [if_neg c3] at H
      have c3b0 : decide ((l0.length : Int) < 1) = false := decide_eq_false c3
      have c3b1 : decide (l0.length < 1) = false := decide_eq_false (by omega)
      clear c3
      (first | rw [c3b0] | (simp only [i64_w, i32_w]; rw [c3b0]) | skip)
      have H' := Aside0.mk H
      clear H
      go_wp2
      go_meet
      case rel => exact ⟨_, H', ⟨by first | omega | exact Nat.le_refl _⟩, ⟨by repeat (first | (with_reducible first | exact HB.out | apply below_alloc | apply pw_below_drewN | apply below_drew1) | exact HB.out)⟩⟩
  case rest =>
    clear HC2
    (try clear c1); (try clear p2); (try clear c3); (try clear c3b0); (try clear c3b1); (try clear c4); (try clear c4b0); (try clear c4b1)
    obtain ⟨kq, HA, HJ1, HB⟩ := hcut
    cases kq with
    | zero => exact absurd HA.out (by simp [slices_Max_int64_int64.j0])
    | succ kj1 =>
      have H := HA.out
      clear HA
      simp only [slices_Max_int64_int64.j0] at H
      by_cases c5 : 0 < (l0.length : Int)
      · rw [if_pos c5] at H
        have c5b0 : decide (0 < (l0.length : Int)) = true := decide_eq_true c5
        have c5b1 : decide (0 < l0.length) = true := decide_eq_true (by omega)
        clear c5
        have H' := Aside0.mk H
        clear H
        have p102 : 0 ≤ (0 : Int) := (by omega)
        have q102 : 0 < (l0.length : Int) := of_decide_eq_true (by first | (with_reducible assumption) | assumption)
        obtain ⟨ad102, e102, hx102_0⟩ := Kd.at_int HR0.out 0 p102 q102
        cases e102
        have qi102 : (0 < l0.length) = True := eq_true (by omega)
        (try rw [show ((0 : Int)).toNat = 0 from rfl] at hx102_0)
        (try rw [Addr.add_zero'] at hx102_0)
        replace hx102_0 := (HB.out.cell (World.block_lt_of_cell? w _ hx102_0)).trans hx102_0
        replace p102 := eq_true p102
        replace q102 := eq_true q102
        go_wp2
        go_loopg [3, 4] kj1 (fun kq v3 v4 w' => ∃ (x3_2 : Int) (x4_2 : Int), v3 = .int .i64 x3_2 ∧ v4 = .int .i64 x4_2 ∧ Aside0 (slices_Max_int64_int64.l0 kq l0 x3_2 x4_2 = some r) ∧ Aside0 (kq ≤ kj1) ∧ Aside0 (Below w.heap.size w w'))
        case atStart => exact ⟨(rd l0 0), (1), (by first | rfl | (simp; done) | (simp [*]; done)), (by first | rfl | (simp; done) | (simp [*]; done)), H', ⟨Nat.le_refl _⟩, ⟨by repeat (first | (with_reducible first | exact HB.out | apply below_alloc | apply pw_below_drewN | apply below_drew1) | exact HB.out)⟩⟩
        case round =>
          clear H'
          (try clear c1); (try clear p1); (try clear q1); (try clear hx1); (try clear qi1); (try clear p2); (try clear c3); (try clear c3b0); (try clear c3b1); (try clear c4); (try clear c4b0); (try clear c4b1); (try clear c5); (try clear c5b0); (try clear c5b1); (try clear hx102_0); (try clear p102); (try clear p2); (try clear q102)
          obtain ⟨x3_2, x4_2, rfl, rfl, HA, HK2, HB⟩ := hrel
          cases gk with
          | zero => exact absurd HA.out (by simp [slices_Max_int64_int64.l0])
          | succ k2 =>
            have H := HA.out
            clear HA
            simp only [slices_Max_int64_int64.l0] at H
            by_cases c6 : x4_2 < (l0.length : Int)
            · rw [if_pos c6] at H
              have c6b0 : decide (x4_2 < (l0.length : Int)) = true := decide_eq_true c6
              clear c6
              by_cases c7 : 0 ≤ x4_2
              · rw [if_pos c7] at H
                have c7b0 : decide (0 ≤ x4_2) = true := decide_eq_true c7
                clear c7
                obtain ⟨ji8, hji8⟩ : ∃ j_ : Int, (mx x3_2 (rd l0 x4_2)) = j_ := ⟨_, rfl⟩
                replace H : (slices_Max_int64_int64.l0 k2 l0 ji8 (wrap64 (x4_2 + 1))) = some r := by first | (rw [hji8] at H; exact H) | (simp only [hji8] at H ⊢; exact H)
                have hji8_ : (if x3_2 < (rd l0 x4_2) then (rd l0 x4_2) else x3_2) = ji8 := hji8
                have H' := Aside0.mk H
                clear H
                have p103 : 0 ≤ (x4_2 : Int) := of_decide_eq_true (by first | (with_reducible assumption) | assumption)
                have q103 : x4_2 < (l0.length : Int) := of_decide_eq_true (by first | (with_reducible assumption) | assumption)
                obtain ⟨ad103, e103, hx103_0⟩ := Kd.at_int HR0.out x4_2 p103 q103
                obtain rfl : ad102 = ad103 := (by injection e103)
                replace hx103_0 := (HB.out.cell (World.block_lt_of_cell? w _ hx103_0)).trans hx103_0
                replace p103 := eq_true p103
                replace q103 := eq_true q103
                go_wp2
                go_roundg k2
                case measure => have := HJ1.out; have := HK2.out; omega
                case rel => exact ⟨(ji8), (wrap64 (x4_2 + 1)), (by first | rfl | (simp; done) | (simp only [← hji8] <;> (first | rfl | simp)) | (simp [*]; done)), (by first | rfl | (simp; done) | (simp [*]; done)), H', ⟨by have := HJ1.out; have := HK2.out; omega⟩, ⟨by repeat (first | (with_reducible first | exact HB.out | apply below_alloc | apply pw_below_drewN | apply below_drew1) | exact HB.out)⟩⟩
              · rw [if_neg c7] at H
                exact absurd H (by simp)
            · rw [if_neg c6] at H
              have c6b0 : decide (x4_2 < (l0.length : Int)) = false := decide_eq_false c6
              clear c6
              obtain rfl := Option.some.inj H
              go_wp2
              go_ret
              exact ⟨by first | rfl | (simp [errW_none, errW_some] <;> rfl) | (simp [*, errW_none, errW_some] <;> rfl), by repeat (first | (with_reducible first | exact HB.out | apply below_alloc | apply pw_below_drewN | apply below_drew1) | exact HB.out)⟩
      · rw [if_neg c5] at H
        exact absurd H (by simp)

/-! ### slices_Min_int64_int64: function 106 -/
mutual
def slices_Min_int64_int64.j0 : Nat → List Int → Option (Int)
  | 0, _ => none
  | k + 1, x0 => if 0 < (x0.length : Int) then (slices_Min_int64_int64.l0 k x0 (rd x0 0) 1) else (none)
def slices_Min_int64_int64.l0 : Nat → List Int → Int → Int → Option (Int)
  | 0, _, _, _ => none
  | k + 1, x0, x3, x4 => if x4 < (x0.length : Int) then (if 0 ≤ x4 then (slices_Min_int64_int64.l0 k x0 (mn x3 (rd x0 x4)) (wrap64 (x4 + 1))) else (none)) else (some x3)
end
def slices_Min_int64_int64.f (k : Nat) (l0 : List Int) : Option (Int) := if (l0.length : Int) < 1 then (if 0 = 0 then (none) else (slices_Min_int64_int64.j0 k l0)) else (slices_Min_int64_int64.j0 k l0)
theorem slices_Min_int64_int64.mono_l : ∀ k, (∀ y0, LeO (slices_Min_int64_int64.j0 k y0) (slices_Min_int64_int64.j0 (k + 1) y0)) ∧ (∀ y0 y1 y2, LeO (slices_Min_int64_int64.l0 k y0 y1 y2) (slices_Min_int64_int64.l0 (k + 1) y0 y1 y2))
  | 0 => ⟨fun _ r h => by simp [slices_Min_int64_int64.j0] at h, fun _ _ _ r h => by simp [slices_Min_int64_int64.l0] at h⟩
  | k + 1 => by
    obtain ⟨ih0, ih1⟩ := slices_Min_int64_int64.mono_l k
    refine ⟨?_, ?_⟩
    · intro y0
      unfold slices_Min_int64_int64.j0
      repeat' first
      | (with_reducible exact ih0 _)
      | (with_reducible exact ih1 _ _ _)
      | (with_reducible exact LeO.refl _)
      | (with_reducible exact LeO.none _)
      | (with_reducible refine LeO.ite ?_ ?_)
      | (with_reducible refine LeO.bind ?_ (fun _ => ?_))
      | exact ih0 _
      | exact ih1 _ _ _
      | exact LeO.none _
      | refine LeO.ite ?_ ?_
      | refine LeO.bind ?_ (fun _ => ?_)
    · intro y0 y1 y2
      unfold slices_Min_int64_int64.l0
      repeat' first
      | (with_reducible exact ih0 _)
      | (with_reducible exact ih1 _ _ _)
      | (with_reducible exact LeO.refl _)
      | (with_reducible exact LeO.none _)
      | (with_reducible refine LeO.ite ?_ ?_)
      | (with_reducible refine LeO.bind ?_ (fun _ => ?_))
      | exact ih0 _
      | exact ih1 _ _ _
      | exact LeO.none _
      | refine LeO.ite ?_ ?_
      | refine LeO.bind ?_ (fun _ => ?_)
theorem slices_Min_int64_int64.mono : ∀ a0 k, LeO (slices_Min_int64_int64.f k a0) (slices_Min_int64_int64.f (k + 1) a0) := by
  intro a0 k
  obtain ⟨ih0, ih1⟩ := slices_Min_int64_int64.mono_l k
  unfold slices_Min_int64_int64.f
  repeat' first
      | (with_reducible exact ih0 _)
      | (with_reducible exact ih1 _ _ _)
      | (with_reducible exact LeO.refl _)
      | (with_reducible exact LeO.none _)
      | (with_reducible refine LeO.ite ?_ ?_)
      | (with_reducible refine LeO.bind ?_ (fun _ => ?_))
      | exact ih0 _
      | exact ih1 _ _ _
      | exact LeO.none _
      | refine LeO.ite ?_ ?_
      | refine LeO.bind ?_ (fun _ => ?_)
set_option maxHeartbeats 8000000 in
set_option maxRecDepth 100000 in
theorem slices_Min_int64_int64.calls (k : Nat) (A0 : Option Addr) (c0 : Nat) (l0 : List Int) (r : Int) (w : World) (hr0 : Kd.C (Kd.int .i64) w A0 l0.length l0) (hc0 : l0.length ≤ c0) (h : slices_Min_int64_int64.f k l0 = some r) :
    Calls Try.prog 106 #[.slice A0 l0.length c0] w fun e w' => e = .returned (.int .i64 r) ∧ Below w.heap.size w w' := by
  have HR0 := Aside0.mk hr0
  have HC0 := Aside0.mk hc0
  clear hr0 hc0
  have HB := Aside0.mk (Below.refl w.heap.size w)
  have H : (if (l0.length : Int) < 1 then (if 0 = 0 then (none) else (slices_Min_int64_int64.j0 k l0)) else (slices_Min_int64_int64.j0 k l0)) = some r := h
  clear h
  have HC2 := Aside0.mk H
  clear H
  go_enter Try.func106, Try.ntmps106
  go_upto_if 7 with (fail)
  go_cut [] (fun wc => ∃ (kq : Nat), Aside0 (slices_Min_int64_int64.j0 kq l0 = some r) ∧ Aside0 (kq ≤ k) ∧ Aside0 (Below w.heap.size w wc))
  case first =>
    have H := HC2.out
    clear HC2
    by_cases c3 : (l0.length : Int) < 1
    · rw [if_pos c3] at H
      have c3b0 : decide ((l0.length : Int) < 1) = true := decide_eq_true c3
      have c3b1 : decide (l0.length < 1) = true := decide_eq_true (by omega)
      clear c3
      (first | rw [c3b0] | (simp only [i64_w, i32_w]; rw [c3b0]) | skip)
      exact absurd H (by simp)
    · rw [if_neg c3] at H
      have c3b0 : decide ((l0.length : Int) < 1) = false := decide_eq_false c3
      have c3b1 : decide (l0.length < 1) = false := decide_eq_false (by omega)
      clear c3
      (first | rw [c3b0] | (simp only [i64_w, i32_w]; rw [c3b0]) | skip)
      have H' := Aside0.mk H
      clear H
      go_wp2
      go_meet
      case rel => exact ⟨_, H', ⟨by first | omega | exact Nat.le_refl _⟩, ⟨by repeat (first | (with_reducible first | exact HB.out | apply below_alloc | apply pw_below_drewN | apply below_drew1) | exact HB.out)⟩⟩
  case rest =>
    clear HC2
    (try clear c1); (try clear p2); (try clear c3); (try clear c3b0); (try clear c3b1); (try clear c4); (try clear c4b0); (try clear c4b1)
    obtain ⟨kq, HA, HJ1, HB⟩ := hcut
    cases kq with
    | zero => exact absurd HA.out (by simp [slices_Min_int64_int64.j0])
    | succ kj1 =>
      have H := HA.out
      clear HA
      simp only [slices_Min_int64_int64.j0] at H
      by_cases c5 : 0 < (l0.length : Int)
      · rw [if_pos c5] at H
        have c5b0 : decide (0 < (l0.length : Int)) = true := decide_eq_true c5
        have c5b1 : decide (0 < l0.length) = true := decide_eq_true (by omega)
        clear c5
        have H' := Aside0.mk H
        clear H
        have p104 : 0 ≤ (0 : Int) := (by omega)
        have q104 : 0 < (l0.length : Int) := of_decide_eq_true (by first | (with_reducible assumption) | assumption)
        obtain ⟨ad104, e104, hx104_0⟩ := Kd.at_int HR0.out 0 p104 q104
        cases e104
        have qi104 : (0 < l0.length) = True := eq_true (by omega)
        (try rw [show ((0 : Int)).toNat = 0 from rfl] at hx104_0)
        (try rw [Addr.add_zero'] at hx104_0)
        replace hx104_0 := (HB.out.cell (World.block_lt_of_cell? w _ hx104_0)).trans hx104_0
        replace p104 := eq_true p104
        replace q104 := eq_true q104
        go_wp2
        go_loopg [3, 4] kj1 (fun kq v3 v4 w' => ∃ (x3_2 : Int) (x4_2 : Int), v3 = .int .i64 x3_2 ∧ v4 = .int .i64 x4_2 ∧ Aside0 (slices_Min_int64_int64.l0 kq l0 x3_2 x4_2 = some r) ∧ Aside0 (kq ≤ kj1) ∧ Aside0 (Below w.heap.size w w'))
        case atStart => exact ⟨(rd l0 0), (1), (by first | rfl | (simp; done) | (simp [*]; done)), (by first | rfl | (simp; done) | (simp [*]; done)), H', ⟨Nat.le_refl _⟩, ⟨by repeat (first | (with_reducible first | exact HB.out | apply below_alloc | apply pw_below_drewN | apply below_drew1) | exact HB.out)⟩⟩
        case round =>
          clear H'
          (try clear c1); (try clear p1); (try clear q1); (try clear hx1); (try clear qi1); (try clear p2); (try clear c3); (try clear c3b0); (try clear c3b1); (try clear c4); (try clear c4b0); (try clear c4b1); (try clear c5); (try clear c5b0); (try clear c5b1); (try clear hx104_0); (try clear p104); (try clear p2); (try clear q104)
          obtain ⟨x3_2, x4_2, rfl, rfl, HA, HK2, HB⟩ := hrel
          cases gk with
          | zero => exact absurd HA.out (by simp [slices_Min_int64_int64.l0])
          | succ k2 =>
            have H := HA.out
            clear HA
            simp only [slices_Min_int64_int64.l0] at H
            by_cases c6 : x4_2 < (l0.length : Int)
            · rw [if_pos c6] at H
              have c6b0 : decide (x4_2 < (l0.length : Int)) = true := decide_eq_true c6
              clear c6
              by_cases c7 : 0 ≤ x4_2
              · rw [if_pos c7] at H
                have c7b0 : decide (0 ≤ x4_2) = true := decide_eq_true c7
                clear c7
                obtain ⟨ji8, hji8⟩ : ∃ j_ : Int, (mn x3_2 (rd l0 x4_2)) = j_ := ⟨_, rfl⟩
                replace H : (slices_Min_int64_int64.l0 k2 l0 ji8 (wrap64 (x4_2 + 1))) = some r := by first | (rw [hji8] at H; exact H) | (simp only [hji8] at H ⊢; exact H)
                have hji8_ : (if (rd l0 x4_2) < x3_2 then (rd l0 x4_2) else x3_2) = ji8 := hji8
                have H' := Aside0.mk H
                clear H
                have p105 : 0 ≤ (x4_2 : Int) := of_decide_eq_true (by first | (with_reducible assumption) | assumption)
                have q105 : x4_2 < (l0.length : Int) := of_decide_eq_true (by first | (with_reducible assumption) | assumption)
                obtain ⟨ad105, e105, hx105_0⟩ := Kd.at_int HR0.out x4_2 p105 q105
                obtain rfl : ad104 = ad105 := (by injection e105)
                replace hx105_0 := (HB.out.cell (World.block_lt_of_cell? w _ hx105_0)).trans hx105_0
                replace p105 := eq_true p105
                replace q105 := eq_true q105
                go_wp2
                go_roundg k2
                case measure => have := HJ1.out; have := HK2.out; omega
                case rel => exact ⟨(ji8), (wrap64 (x4_2 + 1)), (by first | rfl | (simp; done) | (simp only [← hji8] <;> (first | rfl | simp)) | (simp [*]; done)), (by first | rfl | (simp; done) | (simp [*]; done)), H', ⟨by have := HJ1.out; have := HK2.out; omega⟩, ⟨by repeat (first | (with_reducible first | exact HB.out | apply below_alloc | apply pw_below_drewN | apply below_drew1) | exact HB.out)⟩⟩
              · rw [if_neg c7] at H
                exact absurd H (by simp)
            · rw [if_neg c6] at H
              have c6b0 : decide (x4_2 < (l0.length : Int)) = false := decide_eq_false c6
              clear c6
              obtain rfl := Option.some.inj H
              go_wp2
              go_ret
              exact ⟨by first | rfl | (simp [errW_none, errW_some] <;> rfl) | (simp [*, errW_none, errW_some] <;> rfl), by repeat (first | (with_reducible first | exact HB.out | apply below_alloc | apply pw_below_drewN | apply below_drew1) | exact HB.out)⟩
      · rw [if_neg c5] at H
        exact absurd H (by simp)

/-! ### chart_sheet: function 53 -/
def chart_sheet.f (a0 : Int) : Option (Bool) := if a0 ≥ 1 then (some (decide (a0 ≤ 200))) else (some false)
set_option maxHeartbeats 8000000 in
set_option maxRecDepth 100000 in
theorem chart_sheet.calls (a0 : Int) (r : Bool) (w : World) (h : chart_sheet.f a0 = some r) :
    Calls Try.prog 53 #[.int .i64 a0] w fun e w' => e = .returned (.bool r) ∧ Drawn0 w w' := by
  have H : (if a0 ≥ 1 then (some (decide (a0 ≤ 200))) else (some false)) = some r := h
  clear h
  by_cases c2 : a0 ≥ 1
  · rw [if_pos c2] at H
    have c2b0 : decide (1 ≤ a0) = true := decide_eq_true c2
    clear c2
    obtain rfl := Option.some.inj H
    go_enter Try.func53, Try.ntmps53
    go_wp2
    go_ret
    exact ⟨by first | rfl | (simp; done) | (simp [*]; done), by repeat (first | exact Drawn0.refl _ | apply Drawn0.step)⟩
  · rw [if_neg c2] at H
    have c2b0 : decide (1 ≤ a0) = false := decide_eq_false c2
    clear c2
    obtain rfl := Option.some.inj H
    go_enter Try.func53, Try.ntmps53
    go_wp2
    go_ret
    exact ⟨by first | rfl | (simp; done) | (simp [*]; done), by repeat (first | exact Drawn0.refl _ | apply Drawn0.step)⟩

end Go.Proofs.Ytmfdhcgdibefiaa.A

/- chart.check's closure: whether a span may not be. -/
namespace Go.Proofs.Ytmfdhcgdibefiaa.L
open Go.RowKit Go.Proofs.Ytmfdhcgdibefiaa.Q Go.Proofs.YtmfdhcgdibefiaaW.PrintWords Go.Proofs.YtmfdhcgdibefiaaW.PrintLast Go.Proofs.YtmfdhcgdibefiaaW.PrintMore Go.Proofs.YtmfdhcgdibefiaaW.MapB Go.Proofs.YtmfdhcgdibefiaaW.Lib
set_option linter.unusedVariables false
set_option linter.unusedSimpArgs false
theorem chkspan_calls (s : S37) (h : fitS s) (w : World) : Calls Try.prog 43 #[.agg #[.int .u64 s.f0, .int .u64 s.f1, .int .u64 s.f2, .int .u8 s.f3, .string s.f4, .string s.f5, .int .i64 s.f6, .int .i64 s.f7]] w fun e w' => e = .returned (.bool (mayS s)) ∧ Below w.heap.size w w' := by
  obtain ⟨k, hk⟩ := Ev.rounds (may_ev s.f0 s.f1 s.f2 s.f3 s.f4 s.f5 s.f6 s.f7 h.2.1 h.2.2)
  exact span_May.calls k _ _ _ _ _ _ _ _ _ w hk
set_option maxRecDepth 100000 in
theorem chkmay_calls (s : S37) (h : fitS s) (w : World) : Calls Try.prog 104 #[.agg #[.int .u64 s.f0, .int .u64 s.f1, .int .u64 s.f2, .int .u8 s.f3, .string s.f4, .string s.f5, .int .i64 s.f6, .int .i64 s.f7]] w fun e w' => e = .returned (.bool (!mayS s)) ∧ Below w.heap.size w w' := by
  have HB := Aside0.mk (Below.refl w.heap.size w)
  have QM := Aside0.mk (chkspan_calls s h)
  clear h
  go_enter Try.func104, Try.ntmps104
  go_wp2_with (go_at_call 43; refine (QM.out _).mono ?_; rintro e w1 ⟨rfl, hb⟩; have HB1 := Aside0.mk (below_step (below_alloc HB.out _) hb); clear hb)
  go_ret
  exact ⟨rfl, HB1.out⟩
set_option maxHeartbeats 4000000 in
set_option maxRecDepth 100000 in
theorem chk_index  (es : List S37) (hn : es.length ≤ 1000000000) (A0 : Option Addr) (c0 : Nat) (w : World) (hr0 : Kd.C k37 w A0 es.length es)
    (QL0 : ∀ e ∈ es, ∀ W, Below w.heap.size w W → Calls Try.prog 104 #[.agg #[.int .u64 e.f0, .int .u64 e.f1, .int .u64 e.f2, .int .u8 e.f3, .string e.f4, .string e.f5, .int .i64 e.f6, .int .i64 e.f7]] W fun r w' => r = .returned (.bool ((fun s => !mayS s) e)) ∧ Below W.heap.size W w') :
    Calls Try.prog 95 #[.slice A0 es.length c0, .func (.func 104) #[] #[]] w fun r w' => ∃ i : Int, r = .returned (.int .i64 i) ∧ decide (0 ≤ i) = es.any (fun s => !mayS s) ∧ Below w.heap.size w w' := by
  have HB0 := Aside0.mk (Below.refl w.heap.size w)
  have HR0 := Aside0.mk hr0
  have HN := Aside0.mk hn
  have QL := Aside0.mk QL0
  clear hr0 hn QL0
  generalize hpp : (fun s => !mayS s) = pp at *
  clear hpp
  go_enter Try.func95, Try.ntmps95
  go_wp2_with fail
  go_loopg [8] es.length (fun kq v8 w' => ∃ x8 : Int, v8 = .int .i64 x8 ∧ Aside0 (0 ≤ x8 ∧ x8 + kq = es.length) ∧ Aside0 (∀ e ∈ es.take x8.toNat, pp e = false) ∧ Aside0 (Below w.heap.size w w'))
  case atStart => exact ⟨0, rfl, ⟨by omega, by omega⟩, ⟨by simp⟩, HB0⟩
  case round =>
    obtain ⟨x8, rfl, HK, HA, HB⟩ := hrel
    by_cases c1 : x8 < (es.length : Int)
    · have c1b := decide_eq_true c1
      have p1 : 0 ≤ x8 := HK.out.1
      obtain ⟨ad, e1, hx0, hx1, hx2, hx3, hx4, hx5, hx6, hx7⟩ := at_T37 HR0.out x8 p1 c1
      cases e1
      replace hx0 := (HB.out.cell (World.block_lt_of_cell? w _ hx0)).trans hx0
      replace hx1 := (HB.out.cell (World.block_lt_of_cell? w _ hx1)).trans hx1
      replace hx2 := (HB.out.cell (World.block_lt_of_cell? w _ hx2)).trans hx2
      replace hx3 := (HB.out.cell (World.block_lt_of_cell? w _ hx3)).trans hx3
      replace hx4 := (HB.out.cell (World.block_lt_of_cell? w _ hx4)).trans hx4
      replace hx5 := (HB.out.cell (World.block_lt_of_cell? w _ hx5)).trans hx5
      replace hx6 := (HB.out.cell (World.block_lt_of_cell? w _ hx6)).trans hx6
      replace hx7 := (HB.out.cell (World.block_lt_of_cell? w _ hx7)).trans hx7
      have hit : x8.toNat < es.length := by omega
      have hev : rd_T37 es x8 = es[x8.toNat] := by simp [rd_T37, List.getD, hit]
      have hem : rd_T37 es x8 ∈ es := by rw [hev]; exact List.getElem_mem _
      have HE := Aside0.mk (show es.take (x8 + 1).toNat = es.take x8.toNat ++ [rd_T37 es x8] from by
        rw [show (x8 + 1).toNat = x8.toNat + 1 by omega, List.take_succ_eq_append_getElem hit, hev])
      have QE := Aside0.mk (QL.out _ hem wr HB.out)
      have HM := Aside0.mk hem
      have P1 := Aside0.mk p1
      have Q1 := Aside0.mk c1
      have W1 := Aside0.mk (show wrap64 (x8 + 1) = x8 + 1 from by unfold wrap64; have := HN.out; have := P1.out; have := Q1.out; omega)
      clear hev hem hit
      generalize rd_T37 es x8 = e at *
      replace p1 := eq_true p1
      replace c1 := eq_true c1
      obtain ⟨k1, rfl⟩ : ∃ k1, gk = k1 + 1 := ⟨gk - 1, by have := HK.out; have := Q1.out; omega⟩
      cases hq : pp e with
      | false =>
        rw [hq] at QE
        have HQ := Aside0.mk hq
        clear hq
        go_wp2_with (go_at_call 104; refine QE.out.mono ?_; rintro r w1 ⟨rfl, hb⟩; have HB1 := Aside0.mk (below_step HB.out hb); clear hb)
        go_roundg k1
        case measure => omega
        case rel => exact ⟨x8 + 1, by rw [W1.out], ⟨by have := P1.out; omega, by have := HK.out; omega⟩, ⟨by
          rw [HE.out]
          intro y hy
          rcases List.mem_append.1 hy with h | h
          · exact HA.out y h
          · rw [List.mem_singleton.1 h]; exact HQ.out⟩, HB1⟩
      | true =>
        rw [hq] at QE
        have HQ := Aside0.mk hq
        clear hq
        go_wp2_with (go_at_call 104; refine QE.out.mono ?_; rintro r w1 ⟨rfl, hb⟩; have HB1 := Aside0.mk (below_step HB.out hb); clear hb)
        go_ret
        refine ⟨x8, rfl, ?_, HB1.out⟩
        rw [decide_eq_true P1.out]
        exact (List.any_eq_true.2 ⟨e, HM.out, HQ.out⟩).symm
    · have c1b := decide_eq_false c1
      have hx : x8.toNat = es.length := by have := HK.out; omega
      have ha := HA.out
      rw [hx, List.take_length] at ha
      have HAll := Aside0.mk ha
      clear ha hx c1
      go_wp2_with fail
      go_ret
      refine ⟨-1, rfl, ?_, HB.out⟩
      exact (List.any_eq_false.2 (fun e he => by rw [HAll.out e he]; simp)).symm
set_option maxHeartbeats 2000000 in
set_option maxRecDepth 100000 in
theorem chk_contains  (es : List S37) (hn : es.length ≤ 1000000000) (A0 : Option Addr) (c0 : Nat) (w : World) (hr0 : Kd.C k37 w A0 es.length es)
    (QL0 : ∀ e ∈ es, ∀ W, Below w.heap.size w W → Calls Try.prog 104 #[.agg #[.int .u64 e.f0, .int .u64 e.f1, .int .u64 e.f2, .int .u8 e.f3, .string e.f4, .string e.f5, .int .i64 e.f6, .int .i64 e.f7]] W fun r w' => r = .returned (.bool ((fun s => !mayS s) e)) ∧ Below W.heap.size W w') :
    Calls Try.prog 41 #[.slice A0 es.length c0, .func (.func 104) #[] #[]] w fun r w' => r = .returned (.bool (es.any (fun s => !mayS s))) ∧ Below w.heap.size w w' := by
  have HB0 := Aside0.mk (Below.refl w.heap.size w)
  have QI := Aside0.mk (chk_index  es hn A0 c0 w hr0 QL0)
  clear hn hr0 QL0
  go_enter Try.func41, Try.ntmps41
  go_wp2_with (go_at_call 95; refine QI.out.mono ?_; rintro r w1 ⟨i, rfl, hd, hb⟩; have HD := Aside0.mk hd; have HB2 := Aside0.mk hb; clear hb hd)
  go_ret
  refine ⟨?_, HB2.out⟩
  rw [← HD.out]
  rfl
end Go.Proofs.Ytmfdhcgdibefiaa.L

-- Written by wip/tools/gp.py, a program of this session round the kit's printer. Lean checks it.
namespace Go.Proofs.Ytmfdhcgdibefiaa.B
open Go.RowKit Go.Proofs.Ytmfdhcgdibefiaa.Q Go.Proofs.Ytmfdhcgdibefiaa.A Go.Proofs.YtmfdhcgdibefiaaW.PrintWords Go.Proofs.YtmfdhcgdibefiaaW.PrintLast Go.Proofs.YtmfdhcgdibefiaaW.PrintMore
attribute [local go_sem] max2_int min2_int max_two min_two max_three min_three max_four min_four   -- for this text's walks alone
set_option linter.unusedVariables false
set_option linter.unusedSimpArgs false
end Go.Proofs.Ytmfdhcgdibefiaa.B

-- Written by wip/tools/gp.py, a program of this session round the kit's printer. Lean checks it.
namespace Go.Proofs.Ytmfdhcgdibefiaa.B
open Go.RowKit Go.Proofs.Ytmfdhcgdibefiaa.Q Go.Proofs.Ytmfdhcgdibefiaa.A Go.Proofs.YtmfdhcgdibefiaaW.PrintWords Go.Proofs.YtmfdhcgdibefiaaW.PrintLast Go.Proofs.YtmfdhcgdibefiaaW.PrintMore
attribute [local go_sem] max2_int min2_int max_two min_two max_three min_three max_four min_four   -- for this text's walks alone
set_option linter.unusedVariables false
set_option linter.unusedSimpArgs false

/-! ### chart_check_1: function 104 (given) -/
def chart_check_1.f (l0 : List S37) : Option Bool := if l0.length ≤ 1000000000 ∧ (∀ s ∈ l0, L.fitS s) then some (l0.any (fun s => !L.mayS s)) else none
theorem chart_check_1.calls (A0 : Option Addr) (c0 : Nat) (l0 : List (S37)) (r : Bool) (w : World) (hr0 : Kd.C k37 w A0 l0.length l0) (hc0 : l0.length ≤ c0) (h : chart_check_1.f l0 = some r) :
    Calls Try.prog 41 #[.slice A0 l0.length c0, .func (.func 104) #[] #[]] w fun e w' => e = .returned (.bool r) ∧ Below w.heap.size w w' := by
  unfold chart_check_1.f at h
  split at h
  · rename_i hl
    obtain rfl := Option.some.inj h
    exact L.chk_contains l0 hl.1 A0 c0 w hr0 (fun e he W hb => L.chkmay_calls e (hl.2 e he) W)
  · cases h

-- NOT PRINTED: function 95 (api_Span_95)

-- NOT PRINTED: function 41 (api_Span_41)

/-! ### chart_check: function 54 -/
def chart_check.j0 : Nat → Bool → Int → List (S37) → List Int → List ByteArray → List Int → List (S126) → Option (Int)
  | 0, _, _, _, _, _, _, _ => none
  | k + 1, x18, x102000, x102001, x102002, x102003, x102004, x102005 => if x18 = true then (some 3) else (if (x102001.length : Int) > 1048576 then (some 4) else ((slices_Max_int64_int64.f k x102002).bind fun t103 => (if t103 > 1152921504606846976 then (some 4) else ((slices_Min_int64_int64.f k x102002).bind fun t104 => (if t104 < (-1152921504606846976) then (some 4) else (some 0))))))
def chart_check.f (k : Nat) (a0_0 : Int) (l0_1 : List (S37)) (l0_2 : List Int) (l0_3 : List ByteArray) (l0_4 : List Int) (l0_5 : List (S126)) : Option (Int) := if (l0_1.length : Int) = 0 then (some 5) else (if (l0_2.length : Int) = (l0_1.length : Int) then ((chart_check_1.f l0_1).bind fun t102 => (chart_check.j0 k t102 a0_0 l0_1 l0_2 l0_3 l0_4 l0_5)) else (chart_check.j0 k true a0_0 l0_1 l0_2 l0_3 l0_4 l0_5))
theorem chart_check.mono_l : ∀ k, (∀ y0 y1 y2 y3 y4 y5 y6, LeO (chart_check.j0 k y0 y1 y2 y3 y4 y5 y6) (chart_check.j0 (k + 1) y0 y1 y2 y3 y4 y5 y6))
  | 0 => fun _ _ _ _ _ _ _ r h => by simp [chart_check.j0] at h
  | k + 1 => by
    have ih0 := chart_check.mono_l k
    · intro y0 y1 y2 y3 y4 y5 y6
      unfold chart_check.j0
      repeat' first
      | (with_reducible exact ih0 _ _ _ _ _ _ _)
      | (with_reducible exact slices_Max_int64_int64.mono _ _)
      | (with_reducible exact slices_Min_int64_int64.mono _ _)
      | (with_reducible exact LeO.refl _)
      | (with_reducible exact LeO.none _)
      | (with_reducible refine LeO.ite ?_ ?_)
      | (with_reducible refine LeO.bind ?_ (fun _ => ?_))
      | exact ih0 _ _ _ _ _ _ _
      | exact slices_Max_int64_int64.mono _ _
      | exact slices_Min_int64_int64.mono _ _
      | exact LeO.none _
      | refine LeO.ite ?_ ?_
      | refine LeO.bind ?_ (fun _ => ?_)
theorem chart_check.mono : ∀ a0 a1 a2 a3 a4 a5 k, LeO (chart_check.f k a0 a1 a2 a3 a4 a5) (chart_check.f (k + 1) a0 a1 a2 a3 a4 a5) := by
  intro a0 a1 a2 a3 a4 a5 k
  have ih0 := chart_check.mono_l k
  unfold chart_check.f
  repeat' first
      | (with_reducible exact ih0 _ _ _ _ _ _ _)
      | (with_reducible exact slices_Max_int64_int64.mono _ _)
      | (with_reducible exact slices_Min_int64_int64.mono _ _)
      | (with_reducible exact LeO.refl _)
      | (with_reducible exact LeO.none _)
      | (with_reducible refine LeO.ite ?_ ?_)
      | (with_reducible refine LeO.bind ?_ (fun _ => ?_))
      | exact ih0 _ _ _ _ _ _ _
      | exact slices_Max_int64_int64.mono _ _
      | exact slices_Min_int64_int64.mono _ _
      | exact LeO.none _
      | refine LeO.ite ?_ ?_
      | refine LeO.bind ?_ (fun _ => ?_)
set_option maxHeartbeats 8000000 in
set_option maxRecDepth 100000 in
theorem chart_check.calls (k : Nat) (a0_0 : Int) (A0_1 : Option Addr) (c0_1 : Nat) (l0_1 : List (S37)) (A0_2 : Option Addr) (c0_2 : Nat) (l0_2 : List Int) (A0_3 : Option Addr) (c0_3 : Nat) (l0_3 : List ByteArray) (A0_4 : Option Addr) (c0_4 : Nat) (l0_4 : List Int) (A0_5 : Option Addr) (c0_5 : Nat) (l0_5 : List (S126)) (r : Int) (w : World) (hr0_1 : Kd.C k37 w A0_1 l0_1.length l0_1) (hc0_1 : l0_1.length ≤ c0_1) (hr0_2 : Kd.C (Kd.int .i64) w A0_2 l0_2.length l0_2) (hc0_2 : l0_2.length ≤ c0_2) (hr0_3 : Kd.C Kd.string w A0_3 l0_3.length l0_3) (hc0_3 : l0_3.length ≤ c0_3) (hr0_4 : Kd.C (Kd.int .i64) w A0_4 l0_4.length l0_4) (hc0_4 : l0_4.length ≤ c0_4) (hr0_5 : Kd.C k126 w A0_5 l0_5.length l0_5) (hc0_5 : l0_5.length ≤ c0_5) (h : chart_check.f k a0_0 l0_1 l0_2 l0_3 l0_4 l0_5 = some r) :
    Calls Try.prog 54 #[.agg #[.int .i64 a0_0, .slice A0_1 l0_1.length c0_1, .slice A0_2 l0_2.length c0_2, .slice A0_3 l0_3.length c0_3, .slice A0_4 l0_4.length c0_4, .slice A0_5 l0_5.length c0_5]] w fun e w' => e = .returned (.int .i64 r) ∧ Below w.heap.size w w' := by
  have hu48 := Try.underlying48
  have HR0_1 := Aside0.mk hr0_1
  have HC0_1 := Aside0.mk hc0_1
  clear hr0_1 hc0_1
  have HR0_2 := Aside0.mk hr0_2
  have HC0_2 := Aside0.mk hc0_2
  clear hr0_2 hc0_2
  have HR0_3 := Aside0.mk hr0_3
  have HC0_3 := Aside0.mk hc0_3
  clear hr0_3 hc0_3
  have HR0_4 := Aside0.mk hr0_4
  have HC0_4 := Aside0.mk hc0_4
  clear hr0_4 hc0_4
  have HR0_5 := Aside0.mk hr0_5
  have HC0_5 := Aside0.mk hc0_5
  clear hr0_5 hc0_5
  have HB := Aside0.mk (Below.refl w.heap.size w)
  have H : (if (l0_1.length : Int) = 0 then (some 5) else (if (l0_2.length : Int) = (l0_1.length : Int) then ((chart_check_1.f l0_1).bind fun t102 => (chart_check.j0 k t102 a0_0 l0_1 l0_2 l0_3 l0_4 l0_5)) else (chart_check.j0 k true a0_0 l0_1 l0_2 l0_3 l0_4 l0_5))) = some r := h
  clear h
  by_cases c2 : (l0_1.length : Int) = 0
  · rw [if_pos c2] at H
    have c2b0 : ((l0_1.length : Int) == 0) = true := beq_iff_eq.mpr c2
    have c2b1 : ((l0_1.length : Int) != 0) = false := bne_eq_false_iff_eq.mpr c2
    clear c2
    obtain rfl := Option.some.inj H
    go_enter Try.func54, Try.ntmps54
    go_wp2_with (first | ((with_reducible refine gate_dst (N := 1) rfl ?_); refine box_event ?hg (N := 1) ?hd (cs := #[.int .i64 a0_0, .slice A0_1 l0_1.length c0_1, .slice A0_2 l0_2.length c0_2, .slice A0_3 l0_3.length c0_3, .slice A0_4 l0_4.length c0_4, .slice A0_5 l0_5.length c0_5]) (t := 48) ?hr ?_; (case hd => rfl); (case hg => rfl); (case hr => first | (go_simp; done) | (go_simp; rfl)); intro gb101 hg w3 hbox hb; have n0_ := Aside0.mk (below_step (by repeat (first | (with_reducible first | exact HB.out | apply below_alloc | apply pw_below_drewN | apply below_drew1) | exact HB.out)) hb); have n1_ := Aside0.mk (hbox); have n2_ := Aside0.mk ((by rw [hg]; exact (below_size (by repeat (first | (with_reducible first | exact HB.out | apply below_alloc | apply pw_below_drewN | apply below_drew1) | exact HB.out))) : w.heap.size ≤ gb101)); have n3_ := Aside0.mk ((by rw [hg]; exact (below_size (by repeat (first | (with_reducible first | exact HB.out | apply below_alloc | apply pw_below_drewN | apply below_drew1) | exact HB.out))) : w.heap.size ≤ gb101)); clear HB; have HB := n0_; have BK101 := n1_; have GW101 := n2_; have GE101 := n3_; clear n0_ n1_ n2_ n3_; clear hb hbox hg; have hcz4_0 : w3.cell? ⟨gb101, 0, none⟩ = some (.int .i64 a0_0) := (blk_cell BK101.out 0).trans rfl; have hcz4_1 : w3.cell? ⟨gb101, 1, none⟩ = some (.slice A0_1 l0_1.length c0_1) := (blk_cell BK101.out 1).trans rfl; have hcz4_2 : w3.cell? ⟨gb101, 2, none⟩ = some (.slice A0_2 l0_2.length c0_2) := (blk_cell BK101.out 2).trans rfl; have hcz4_3 : w3.cell? ⟨gb101, 3, none⟩ = some (.slice A0_3 l0_3.length c0_3) := (blk_cell BK101.out 3).trans rfl; have hcz4_4 : w3.cell? ⟨gb101, 4, none⟩ = some (.slice A0_4 l0_4.length c0_4) := (blk_cell BK101.out 4).trans rfl; have hcz4_5 : w3.cell? ⟨gb101, 5, none⟩ = some (.slice A0_5 l0_5.length c0_5) := (blk_cell BK101.out 5).trans rfl; have hfz4_0 := blk_frozen BK101.out 0; have hfz4_1 := blk_frozen BK101.out 1; have hfz4_2 := blk_frozen BK101.out 2; have hfz4_3 := blk_frozen BK101.out 3; have hfz4_4 := blk_frozen BK101.out 4; have hfz4_5 := blk_frozen BK101.out 5))
    go_ret
    exact ⟨by first | rfl | (simp [errW_none, errW_some] <;> rfl) | (simp [*, errW_none, errW_some] <;> rfl), by repeat (first | (with_reducible first | exact HB.out | apply below_alloc | apply pw_below_drewN | apply below_drew1 | refine below_set ?_ GE101.out) | exact HB.out)⟩
  · rw [if_neg c2] at H
    have c2b0 : ((l0_1.length : Int) == 0) = false := beq_eq_false_iff_ne.mpr c2
    have c2b1 : ((l0_1.length : Int) != 0) = true := bne_iff_ne.mpr c2
    have c2b2 : ¬ (l0_1 = []) := fun h_ => c2 (by rw [h_]; rfl)
    have HC5 := Aside0.mk H
    clear H
    go_enter Try.func54, Try.ntmps54
    go_upto_region 3 with (first | ((with_reducible refine gate_dst (N := 1) rfl ?_); refine box_event ?hg (N := 1) ?hd (cs := #[.int .i64 a0_0, .slice A0_1 l0_1.length c0_1, .slice A0_2 l0_2.length c0_2, .slice A0_3 l0_3.length c0_3, .slice A0_4 l0_4.length c0_4, .slice A0_5 l0_5.length c0_5]) (t := 48) ?hr ?_; (case hd => rfl); (case hg => rfl); (case hr => first | (go_simp; done) | (go_simp; rfl)); intro gb101 hg w6 hbox hb; have n0_ := Aside0.mk (below_step (by repeat (first | (with_reducible first | exact HB.out | apply below_alloc | apply pw_below_drewN | apply below_drew1) | exact HB.out)) hb); have n1_ := Aside0.mk (hbox); have n2_ := Aside0.mk ((by rw [hg]; exact (below_size (by repeat (first | (with_reducible first | exact HB.out | apply below_alloc | apply pw_below_drewN | apply below_drew1) | exact HB.out))) : w.heap.size ≤ gb101)); have n3_ := Aside0.mk ((by rw [hg]; exact (below_size (by repeat (first | (with_reducible first | exact HB.out | apply below_alloc | apply pw_below_drewN | apply below_drew1) | exact HB.out))) : w.heap.size ≤ gb101)); clear HB; have HB := n0_; have BK101 := n1_; have GW101 := n2_; have GE101 := n3_; clear n0_ n1_ n2_ n3_; clear hb hbox hg; have hcz7_0 : w6.cell? ⟨gb101, 0, none⟩ = some (.int .i64 a0_0) := (blk_cell BK101.out 0).trans rfl; have hcz7_1 : w6.cell? ⟨gb101, 1, none⟩ = some (.slice A0_1 l0_1.length c0_1) := (blk_cell BK101.out 1).trans rfl; have hcz7_2 : w6.cell? ⟨gb101, 2, none⟩ = some (.slice A0_2 l0_2.length c0_2) := (blk_cell BK101.out 2).trans rfl; have hcz7_3 : w6.cell? ⟨gb101, 3, none⟩ = some (.slice A0_3 l0_3.length c0_3) := (blk_cell BK101.out 3).trans rfl; have hcz7_4 : w6.cell? ⟨gb101, 4, none⟩ = some (.slice A0_4 l0_4.length c0_4) := (blk_cell BK101.out 4).trans rfl; have hcz7_5 : w6.cell? ⟨gb101, 5, none⟩ = some (.slice A0_5 l0_5.length c0_5) := (blk_cell BK101.out 5).trans rfl; have hfz7_0 := blk_frozen BK101.out 0; have hfz7_1 := blk_frozen BK101.out 1; have hfz7_2 := blk_frozen BK101.out 2; have hfz7_3 := blk_frozen BK101.out 3; have hfz7_4 := blk_frozen BK101.out 4; have hfz7_5 := blk_frozen BK101.out 5))
    (try simp only [Act.put, List.setIfInBounds_toArray, List.set_cons_zero, List.set_cons_succ])
    go_cut [18] (fun v18 wc => ∃ (kq : Nat) (x18_4 : Bool), v18 = .bool x18_4 ∧ Aside0 (chart_check.j0 kq x18_4 a0_0 l0_1 l0_2 l0_3 l0_4 l0_5 = some r) ∧ Aside0 (kq ≤ k) ∧ Aside0 (wc.heap[gb101]? = some (.cells #[.int .i64 a0_0, (.slice A0_1 l0_1.length c0_1), (.slice A0_2 l0_2.length c0_2), (.slice A0_3 l0_3.length c0_3), (.slice A0_4 l0_4.length c0_4), (.slice A0_5 l0_5.length c0_5)] 48 (0, 0))) ∧ Aside0 (Below w.heap.size w wc))
    case first =>
      have H := HC5.out
      clear HC5
      by_cases c8 : (l0_2.length : Int) = (l0_1.length : Int)
      · rw [if_pos c8] at H
        have c8b0 : ((l0_2.length : Int) == (l0_1.length : Int)) = true := beq_iff_eq.mpr c8
        have c8b1 : ((l0_2.length : Int) != (l0_1.length : Int)) = false := bne_eq_false_iff_eq.mpr c8
        have c8b2 : (l0_2.length == l0_1.length) = true := by first | simpa using c8 | (simp at c8 ⊢; omega)
        clear c8
        (first | rw [c8b0] | (simp only [i64_w, i32_w]; rw [c8b0]) | skip)
        replace H := Option.bind_eq_some_iff.mp H
        obtain ⟨t102, A90, H⟩ := H
        replace H : (chart_check.j0 k t102 a0_0 l0_1 l0_2 l0_3 l0_4 l0_5) = some r := H
        have A9 := Aside0.mk A90
        clear A90
        have H' := Aside0.mk H
        clear H
        have hcz10_0 : w6.cell? ⟨gb101, 0, none⟩ = some (.int .i64 a0_0) := (blk_cell BK101.out 0).trans rfl
        have hcz10_1 : w6.cell? ⟨gb101, 1, none⟩ = some (.slice A0_1 l0_1.length c0_1) := (blk_cell BK101.out 1).trans rfl
        have hcz10_2 : w6.cell? ⟨gb101, 2, none⟩ = some (.slice A0_2 l0_2.length c0_2) := (blk_cell BK101.out 2).trans rfl
        have hcz10_3 : w6.cell? ⟨gb101, 3, none⟩ = some (.slice A0_3 l0_3.length c0_3) := (blk_cell BK101.out 3).trans rfl
        have hcz10_4 : w6.cell? ⟨gb101, 4, none⟩ = some (.slice A0_4 l0_4.length c0_4) := (blk_cell BK101.out 4).trans rfl
        have hcz10_5 : w6.cell? ⟨gb101, 5, none⟩ = some (.slice A0_5 l0_5.length c0_5) := (blk_cell BK101.out 5).trans rfl
        have hfz10_0 := blk_frozen BK101.out 0
        have hfz10_1 := blk_frozen BK101.out 1
        have hfz10_2 := blk_frozen BK101.out 2
        have hfz10_3 := blk_frozen BK101.out 3
        have hfz10_4 := blk_frozen BK101.out 4
        have hfz10_5 := blk_frozen BK101.out 5
        go_wp2_with (first | (go_at_call 41; (with_reducible refine (chart_check_1.calls _ _ l0_1 t102 _ ?side1 ?side2 A9.out).mono ?_); (case side1 => repeat (first | exact (Kd.C_below HR0_1.out HB.out) | (with_reducible refine Kd.C_alloc ?_ _) | (with_reducible refine Kd.C_drewN ?_ _) | (with_reducible refine Kd.C_drew ?_))); (case side2 => exact HC0_1.out); rintro e w11 ⟨rfl, hb⟩; have n0_ := Aside0.mk (blk_below (g := gb101) (o := .cells #[.int .i64 a0_0, .slice A0_1 l0_1.length c0_1, .slice A0_2 l0_2.length c0_2, .slice A0_3 l0_3.length c0_3, .slice A0_4 l0_4.length c0_4, .slice A0_5 l0_5.length c0_5] 48 (0, 0)) (by (with_reducible repeat (first | refine blk_drewN ?_ _ | refine blk_drew ?_ | refine blk_alloc ?_ _)); exact BK101.out) hb); have n1_ := Aside0.mk (below_step (by repeat (first | (with_reducible first | exact HB.out | apply below_alloc | apply pw_below_drewN | apply below_drew1 | refine below_set ?_ GE101.out) | exact HB.out)) hb); clear BK101; clear HB; have BK101 := n0_; have HB := n1_; clear n0_ n1_; (try clear hb); (try clear hb2); (try clear hk); (try clear hi)))
        go_meet
        case rel => exact ⟨_, (t102), (by first | rfl | (simp; done) | (simp [*]; done)), H', ⟨by first | omega | exact Nat.le_refl _⟩, ⟨by (with_reducible repeat (first | refine blk_drewN ?_ _ | refine blk_drew ?_ | refine blk_alloc ?_ _)); exact BK101.out⟩, ⟨by repeat (first | (with_reducible first | exact HB.out | apply below_alloc | apply pw_below_drewN | apply below_drew1 | refine below_set ?_ GE101.out) | exact HB.out)⟩⟩
      · rw [if_neg c8] at H
        have c8b0 : ((l0_2.length : Int) == (l0_1.length : Int)) = false := beq_eq_false_iff_ne.mpr c8
        have c8b1 : ((l0_2.length : Int) != (l0_1.length : Int)) = true := bne_iff_ne.mpr c8
        have c8b2 : (l0_2.length == l0_1.length) = false := by first | simpa using c8 | (simp at c8 ⊢; omega)
        (first | rw [c8b0] | (simp only [i64_w, i32_w]; rw [c8b0]) | skip)
        have H' := Aside0.mk H
        clear H
        have hcz12_0 : w6.cell? ⟨gb101, 0, none⟩ = some (.int .i64 a0_0) := (blk_cell BK101.out 0).trans rfl
        have hcz12_1 : w6.cell? ⟨gb101, 1, none⟩ = some (.slice A0_1 l0_1.length c0_1) := (blk_cell BK101.out 1).trans rfl
        have hcz12_2 : w6.cell? ⟨gb101, 2, none⟩ = some (.slice A0_2 l0_2.length c0_2) := (blk_cell BK101.out 2).trans rfl
        have hcz12_3 : w6.cell? ⟨gb101, 3, none⟩ = some (.slice A0_3 l0_3.length c0_3) := (blk_cell BK101.out 3).trans rfl
        have hcz12_4 : w6.cell? ⟨gb101, 4, none⟩ = some (.slice A0_4 l0_4.length c0_4) := (blk_cell BK101.out 4).trans rfl
        have hcz12_5 : w6.cell? ⟨gb101, 5, none⟩ = some (.slice A0_5 l0_5.length c0_5) := (blk_cell BK101.out 5).trans rfl
        have hfz12_0 := blk_frozen BK101.out 0
        have hfz12_1 := blk_frozen BK101.out 1
        have hfz12_2 := blk_frozen BK101.out 2
        have hfz12_3 := blk_frozen BK101.out 3
        have hfz12_4 := blk_frozen BK101.out 4
        have hfz12_5 := blk_frozen BK101.out 5
        go_wp2
        go_meet
        case rel => exact ⟨_, (true), (by first | rfl | (simp; done) | (simp [*]; done)), H', ⟨by first | omega | exact Nat.le_refl _⟩, ⟨by (with_reducible repeat (first | refine blk_drewN ?_ _ | refine blk_drew ?_ | refine blk_alloc ?_ _)); exact BK101.out⟩, ⟨by repeat (first | (with_reducible first | exact HB.out | apply below_alloc | apply pw_below_drewN | apply below_drew1 | refine below_set ?_ GE101.out) | exact HB.out)⟩⟩
    case rest =>
      clear HC5
      (try clear c2); (try clear c2b0); (try clear c2b1); (try clear c2b2); (try clear p2); (try clear c5); (try clear c8); (try clear c8b0); (try clear c8b1); (try clear c8b2); (try clear hcz10_0); (try clear hcz10_1); (try clear hcz10_2); (try clear hcz10_3); (try clear hcz10_4); (try clear hcz10_5); (try clear hcz12_0); (try clear hcz12_1); (try clear hcz12_2); (try clear hcz12_3); (try clear hcz12_4); (try clear hcz12_5); (try clear hcz4_0); (try clear hcz4_1); (try clear hcz4_2); (try clear hcz4_3); (try clear hcz4_4); (try clear hcz4_5); (try clear hcz7_0); (try clear hcz7_1); (try clear hcz7_2); (try clear hcz7_3); (try clear hcz7_4); (try clear hcz7_5); (try clear hfz10_0); (try clear hfz10_1); (try clear hfz10_2); (try clear hfz10_3); (try clear hfz10_4); (try clear hfz10_5); (try clear hfz12_0); (try clear hfz12_1); (try clear hfz12_2); (try clear hfz12_3); (try clear hfz12_4); (try clear hfz12_5); (try clear hfz4_0); (try clear hfz4_1); (try clear hfz4_2); (try clear hfz4_3); (try clear hfz4_4); (try clear hfz4_5); (try clear hfz7_0); (try clear hfz7_1); (try clear hfz7_2); (try clear hfz7_3); (try clear hfz7_4); (try clear hfz7_5)
      obtain ⟨kq, x18_4, rfl, HA, HJ4, BK101, HB⟩ := hcut
      cases kq with
      | zero => exact absurd HA.out (by simp [chart_check.j0])
      | succ kj4 =>
        have H := HA.out
        clear HA
        simp only [chart_check.j0] at H
        by_cases c13 : x18_4 = true
        · subst c13
          have H1 : (some 3) = some r := by rw [if_pos rfl] at H; exact H
          clear H
          have H := H1
          clear H1
          obtain rfl := Option.some.inj H
          go_wp2
          go_ret
          exact ⟨by first | rfl | (simp [errW_none, errW_some] <;> rfl) | (simp [*, errW_none, errW_some] <;> rfl), by repeat (first | (with_reducible first | exact HB.out | apply below_alloc | apply pw_below_drewN | apply below_drew1 | refine below_set ?_ GE101.out) | exact HB.out)⟩
        · replace c13 := Bool.eq_false_iff.mpr c13
          subst c13
          have H1 : (if (l0_1.length : Int) > 1048576 then (some 4) else ((slices_Max_int64_int64.f kj4 l0_2).bind fun t103 => (if t103 > 1152921504606846976 then (some 4) else ((slices_Min_int64_int64.f kj4 l0_2).bind fun t104 => (if t104 < (-1152921504606846976) then (some 4) else (some 0)))))) = some r := by rw [if_neg (show ¬ (false = true) by decide)] at H; exact H
          clear H
          have H := H1
          clear H1
          by_cases c14 : (l0_1.length : Int) > 1048576
          · rw [if_pos c14] at H
            have c14b0 : decide (1048576 < (l0_1.length : Int)) = true := decide_eq_true c14
            have c14b1 : decide (1048576 < l0_1.length) = true := decide_eq_true (by omega)
            clear c14
            obtain rfl := Option.some.inj H
            have hcz15_0 : wc.cell? ⟨gb101, 0, none⟩ = some (.int .i64 a0_0) := (blk_cell BK101.out 0).trans rfl
            have hcz15_1 : wc.cell? ⟨gb101, 1, none⟩ = some (.slice A0_1 l0_1.length c0_1) := (blk_cell BK101.out 1).trans rfl
            have hcz15_2 : wc.cell? ⟨gb101, 2, none⟩ = some (.slice A0_2 l0_2.length c0_2) := (blk_cell BK101.out 2).trans rfl
            have hcz15_3 : wc.cell? ⟨gb101, 3, none⟩ = some (.slice A0_3 l0_3.length c0_3) := (blk_cell BK101.out 3).trans rfl
            have hcz15_4 : wc.cell? ⟨gb101, 4, none⟩ = some (.slice A0_4 l0_4.length c0_4) := (blk_cell BK101.out 4).trans rfl
            have hcz15_5 : wc.cell? ⟨gb101, 5, none⟩ = some (.slice A0_5 l0_5.length c0_5) := (blk_cell BK101.out 5).trans rfl
            have hfz15_0 := blk_frozen BK101.out 0
            have hfz15_1 := blk_frozen BK101.out 1
            have hfz15_2 := blk_frozen BK101.out 2
            have hfz15_3 := blk_frozen BK101.out 3
            have hfz15_4 := blk_frozen BK101.out 4
            have hfz15_5 := blk_frozen BK101.out 5
            go_wp2
            go_ret
            exact ⟨by first | rfl | (simp [errW_none, errW_some] <;> rfl) | (simp [*, errW_none, errW_some] <;> rfl), by repeat (first | (with_reducible first | exact HB.out | apply below_alloc | apply pw_below_drewN | apply below_drew1 | refine below_set ?_ GE101.out) | exact HB.out)⟩
          · rw [if_neg c14] at H
            have c14b0 : decide (1048576 < (l0_1.length : Int)) = false := decide_eq_false c14
            have c14b1 : decide (1048576 < l0_1.length) = false := decide_eq_false (by omega)
            clear c14
            replace H := Option.bind_eq_some_iff.mp H
            obtain ⟨t103, A160, H⟩ := H
            replace H : (if t103 > 1152921504606846976 then (some 4) else ((slices_Min_int64_int64.f kj4 l0_2).bind fun t104 => (if t104 < (-1152921504606846976) then (some 4) else (some 0)))) = some r := H
            have A16 := Aside0.mk A160
            clear A160
            by_cases c17 : t103 > 1152921504606846976
            · rw [if_pos c17] at H
              have c17b0 : decide (1152921504606846976 < t103) = true := decide_eq_true c17
              clear c17
              obtain rfl := Option.some.inj H
              have hcz18_0 : wc.cell? ⟨gb101, 0, none⟩ = some (.int .i64 a0_0) := (blk_cell BK101.out 0).trans rfl
              have hcz18_1 : wc.cell? ⟨gb101, 1, none⟩ = some (.slice A0_1 l0_1.length c0_1) := (blk_cell BK101.out 1).trans rfl
              have hcz18_2 : wc.cell? ⟨gb101, 2, none⟩ = some (.slice A0_2 l0_2.length c0_2) := (blk_cell BK101.out 2).trans rfl
              have hcz18_3 : wc.cell? ⟨gb101, 3, none⟩ = some (.slice A0_3 l0_3.length c0_3) := (blk_cell BK101.out 3).trans rfl
              have hcz18_4 : wc.cell? ⟨gb101, 4, none⟩ = some (.slice A0_4 l0_4.length c0_4) := (blk_cell BK101.out 4).trans rfl
              have hcz18_5 : wc.cell? ⟨gb101, 5, none⟩ = some (.slice A0_5 l0_5.length c0_5) := (blk_cell BK101.out 5).trans rfl
              have hfz18_0 := blk_frozen BK101.out 0
              have hfz18_1 := blk_frozen BK101.out 1
              have hfz18_2 := blk_frozen BK101.out 2
              have hfz18_3 := blk_frozen BK101.out 3
              have hfz18_4 := blk_frozen BK101.out 4
              have hfz18_5 := blk_frozen BK101.out 5
              go_wp2_with (first | (go_at_call 105; (with_reducible refine (slices_Max_int64_int64.calls kj4 _ _ l0_2 t103 _ ?side1 ?side2 A16.out).mono ?_); (case side1 => repeat (first | exact (Kd.C_below HR0_2.out HB.out) | (with_reducible refine Kd.C_alloc ?_ _) | (with_reducible refine Kd.C_drewN ?_ _) | (with_reducible refine Kd.C_drew ?_))); (case side2 => exact HC0_2.out); rintro e w19 ⟨rfl, hb⟩; have n0_ := Aside0.mk (blk_below (g := gb101) (o := .cells #[.int .i64 a0_0, .slice A0_1 l0_1.length c0_1, .slice A0_2 l0_2.length c0_2, .slice A0_3 l0_3.length c0_3, .slice A0_4 l0_4.length c0_4, .slice A0_5 l0_5.length c0_5] 48 (0, 0)) (by (with_reducible repeat (first | refine blk_drewN ?_ _ | refine blk_drew ?_ | refine blk_alloc ?_ _)); exact BK101.out) hb); have n1_ := Aside0.mk (below_step (by repeat (first | (with_reducible first | exact HB.out | apply below_alloc | apply pw_below_drewN | apply below_drew1 | refine below_set ?_ GE101.out) | exact HB.out)) hb); clear BK101; clear HB; have BK101 := n0_; have HB := n1_; clear n0_ n1_; (try clear hb); (try clear hb2); (try clear hk); (try clear hi)))
              go_ret
              exact ⟨by first | rfl | (simp [errW_none, errW_some] <;> rfl) | (simp [*, errW_none, errW_some] <;> rfl), by repeat (first | (with_reducible first | exact HB.out | apply below_alloc | apply pw_below_drewN | apply below_drew1 | refine below_set ?_ GE101.out) | exact HB.out)⟩
            · rw [if_neg c17] at H
              have c17b0 : decide (1152921504606846976 < t103) = false := decide_eq_false c17
              clear c17
              replace H := Option.bind_eq_some_iff.mp H
              obtain ⟨t104, A200, H⟩ := H
              replace H : (if t104 < (-1152921504606846976) then (some 4) else (some 0)) = some r := H
              have A20 := Aside0.mk A200
              clear A200
              by_cases c21 : t104 < (-1152921504606846976)
              · rw [if_pos c21] at H
                have c21b0 : decide (t104 < (-1152921504606846976)) = true := decide_eq_true c21
                clear c21
                obtain rfl := Option.some.inj H
                have hcz22_0 : wc.cell? ⟨gb101, 0, none⟩ = some (.int .i64 a0_0) := (blk_cell BK101.out 0).trans rfl
                have hcz22_1 : wc.cell? ⟨gb101, 1, none⟩ = some (.slice A0_1 l0_1.length c0_1) := (blk_cell BK101.out 1).trans rfl
                have hcz22_2 : wc.cell? ⟨gb101, 2, none⟩ = some (.slice A0_2 l0_2.length c0_2) := (blk_cell BK101.out 2).trans rfl
                have hcz22_3 : wc.cell? ⟨gb101, 3, none⟩ = some (.slice A0_3 l0_3.length c0_3) := (blk_cell BK101.out 3).trans rfl
                have hcz22_4 : wc.cell? ⟨gb101, 4, none⟩ = some (.slice A0_4 l0_4.length c0_4) := (blk_cell BK101.out 4).trans rfl
                have hcz22_5 : wc.cell? ⟨gb101, 5, none⟩ = some (.slice A0_5 l0_5.length c0_5) := (blk_cell BK101.out 5).trans rfl
                have hfz22_0 := blk_frozen BK101.out 0
                have hfz22_1 := blk_frozen BK101.out 1
                have hfz22_2 := blk_frozen BK101.out 2
                have hfz22_3 := blk_frozen BK101.out 3
                have hfz22_4 := blk_frozen BK101.out 4
                have hfz22_5 := blk_frozen BK101.out 5
                go_wp2_with (first | (go_at_call 105; (with_reducible refine (slices_Max_int64_int64.calls kj4 _ _ l0_2 t103 _ ?side1 ?side2 A16.out).mono ?_); (case side1 => repeat (first | exact (Kd.C_below HR0_2.out HB.out) | (with_reducible refine Kd.C_alloc ?_ _) | (with_reducible refine Kd.C_drewN ?_ _) | (with_reducible refine Kd.C_drew ?_))); (case side2 => exact HC0_2.out); rintro e w23 ⟨rfl, hb⟩; have n0_ := Aside0.mk (blk_below (g := gb101) (o := .cells #[.int .i64 a0_0, .slice A0_1 l0_1.length c0_1, .slice A0_2 l0_2.length c0_2, .slice A0_3 l0_3.length c0_3, .slice A0_4 l0_4.length c0_4, .slice A0_5 l0_5.length c0_5] 48 (0, 0)) (by (with_reducible repeat (first | refine blk_drewN ?_ _ | refine blk_drew ?_ | refine blk_alloc ?_ _)); exact BK101.out) hb); have n1_ := Aside0.mk (below_step (by repeat (first | (with_reducible first | exact HB.out | apply below_alloc | apply pw_below_drewN | apply below_drew1 | refine below_set ?_ GE101.out) | exact HB.out)) hb); clear BK101; clear HB; have BK101 := n0_; have HB := n1_; clear n0_ n1_; (try clear hb); (try clear hb2); (try clear hk); (try clear hi); have hcz24_0 : w23.cell? ⟨gb101, 0, none⟩ = some (.int .i64 a0_0) := (blk_cell BK101.out 0).trans rfl; have hcz24_1 : w23.cell? ⟨gb101, 1, none⟩ = some (.slice A0_1 l0_1.length c0_1) := (blk_cell BK101.out 1).trans rfl; have hcz24_2 : w23.cell? ⟨gb101, 2, none⟩ = some (.slice A0_2 l0_2.length c0_2) := (blk_cell BK101.out 2).trans rfl; have hcz24_3 : w23.cell? ⟨gb101, 3, none⟩ = some (.slice A0_3 l0_3.length c0_3) := (blk_cell BK101.out 3).trans rfl; have hcz24_4 : w23.cell? ⟨gb101, 4, none⟩ = some (.slice A0_4 l0_4.length c0_4) := (blk_cell BK101.out 4).trans rfl; have hcz24_5 : w23.cell? ⟨gb101, 5, none⟩ = some (.slice A0_5 l0_5.length c0_5) := (blk_cell BK101.out 5).trans rfl; have hfz24_0 := blk_frozen BK101.out 0; have hfz24_1 := blk_frozen BK101.out 1; have hfz24_2 := blk_frozen BK101.out 2; have hfz24_3 := blk_frozen BK101.out 3; have hfz24_4 := blk_frozen BK101.out 4; have hfz24_5 := blk_frozen BK101.out 5) | (go_at_call 106; (with_reducible refine (slices_Min_int64_int64.calls kj4 _ _ l0_2 t104 _ ?side1 ?side2 A20.out).mono ?_); (case side1 => repeat (first | exact (Kd.C_below HR0_2.out HB.out) | (with_reducible refine Kd.C_alloc ?_ _) | (with_reducible refine Kd.C_drewN ?_ _) | (with_reducible refine Kd.C_drew ?_))); (case side2 => exact HC0_2.out); rintro e w25 ⟨rfl, hb⟩; have n0_ := Aside0.mk (blk_below (g := gb101) (o := .cells #[.int .i64 a0_0, .slice A0_1 l0_1.length c0_1, .slice A0_2 l0_2.length c0_2, .slice A0_3 l0_3.length c0_3, .slice A0_4 l0_4.length c0_4, .slice A0_5 l0_5.length c0_5] 48 (0, 0)) (by (with_reducible repeat (first | refine blk_drewN ?_ _ | refine blk_drew ?_ | refine blk_alloc ?_ _)); exact BK101.out) hb); have n1_ := Aside0.mk (below_step (by repeat (first | (with_reducible first | exact HB.out | apply below_alloc | apply pw_below_drewN | apply below_drew1 | refine below_set ?_ GE101.out) | exact HB.out)) hb); clear BK101; clear HB; have BK101 := n0_; have HB := n1_; clear n0_ n1_; (try clear hb); (try clear hb2); (try clear hk); (try clear hi)))
                go_ret
                exact ⟨by first | rfl | (simp [errW_none, errW_some] <;> rfl) | (simp [*, errW_none, errW_some] <;> rfl), by repeat (first | (with_reducible first | exact HB.out | apply below_alloc | apply pw_below_drewN | apply below_drew1 | refine below_set ?_ GE101.out) | exact HB.out)⟩
              · rw [if_neg c21] at H
                have c21b0 : decide (t104 < (-1152921504606846976)) = false := decide_eq_false c21
                clear c21
                obtain rfl := Option.some.inj H
                have hcz26_0 : wc.cell? ⟨gb101, 0, none⟩ = some (.int .i64 a0_0) := (blk_cell BK101.out 0).trans rfl
                have hcz26_1 : wc.cell? ⟨gb101, 1, none⟩ = some (.slice A0_1 l0_1.length c0_1) := (blk_cell BK101.out 1).trans rfl
                have hcz26_2 : wc.cell? ⟨gb101, 2, none⟩ = some (.slice A0_2 l0_2.length c0_2) := (blk_cell BK101.out 2).trans rfl
                have hcz26_3 : wc.cell? ⟨gb101, 3, none⟩ = some (.slice A0_3 l0_3.length c0_3) := (blk_cell BK101.out 3).trans rfl
                have hcz26_4 : wc.cell? ⟨gb101, 4, none⟩ = some (.slice A0_4 l0_4.length c0_4) := (blk_cell BK101.out 4).trans rfl
                have hcz26_5 : wc.cell? ⟨gb101, 5, none⟩ = some (.slice A0_5 l0_5.length c0_5) := (blk_cell BK101.out 5).trans rfl
                have hfz26_0 := blk_frozen BK101.out 0
                have hfz26_1 := blk_frozen BK101.out 1
                have hfz26_2 := blk_frozen BK101.out 2
                have hfz26_3 := blk_frozen BK101.out 3
                have hfz26_4 := blk_frozen BK101.out 4
                have hfz26_5 := blk_frozen BK101.out 5
                go_wp2_with (first | (go_at_call 105; (with_reducible refine (slices_Max_int64_int64.calls kj4 _ _ l0_2 t103 _ ?side1 ?side2 A16.out).mono ?_); (case side1 => repeat (first | exact (Kd.C_below HR0_2.out HB.out) | (with_reducible refine Kd.C_alloc ?_ _) | (with_reducible refine Kd.C_drewN ?_ _) | (with_reducible refine Kd.C_drew ?_))); (case side2 => exact HC0_2.out); rintro e w27 ⟨rfl, hb⟩; have n0_ := Aside0.mk (blk_below (g := gb101) (o := .cells #[.int .i64 a0_0, .slice A0_1 l0_1.length c0_1, .slice A0_2 l0_2.length c0_2, .slice A0_3 l0_3.length c0_3, .slice A0_4 l0_4.length c0_4, .slice A0_5 l0_5.length c0_5] 48 (0, 0)) (by (with_reducible repeat (first | refine blk_drewN ?_ _ | refine blk_drew ?_ | refine blk_alloc ?_ _)); exact BK101.out) hb); have n1_ := Aside0.mk (below_step (by repeat (first | (with_reducible first | exact HB.out | apply below_alloc | apply pw_below_drewN | apply below_drew1 | refine below_set ?_ GE101.out) | exact HB.out)) hb); clear BK101; clear HB; have BK101 := n0_; have HB := n1_; clear n0_ n1_; (try clear hb); (try clear hb2); (try clear hk); (try clear hi); have hcz28_0 : w27.cell? ⟨gb101, 0, none⟩ = some (.int .i64 a0_0) := (blk_cell BK101.out 0).trans rfl; have hcz28_1 : w27.cell? ⟨gb101, 1, none⟩ = some (.slice A0_1 l0_1.length c0_1) := (blk_cell BK101.out 1).trans rfl; have hcz28_2 : w27.cell? ⟨gb101, 2, none⟩ = some (.slice A0_2 l0_2.length c0_2) := (blk_cell BK101.out 2).trans rfl; have hcz28_3 : w27.cell? ⟨gb101, 3, none⟩ = some (.slice A0_3 l0_3.length c0_3) := (blk_cell BK101.out 3).trans rfl; have hcz28_4 : w27.cell? ⟨gb101, 4, none⟩ = some (.slice A0_4 l0_4.length c0_4) := (blk_cell BK101.out 4).trans rfl; have hcz28_5 : w27.cell? ⟨gb101, 5, none⟩ = some (.slice A0_5 l0_5.length c0_5) := (blk_cell BK101.out 5).trans rfl; have hfz28_0 := blk_frozen BK101.out 0; have hfz28_1 := blk_frozen BK101.out 1; have hfz28_2 := blk_frozen BK101.out 2; have hfz28_3 := blk_frozen BK101.out 3; have hfz28_4 := blk_frozen BK101.out 4; have hfz28_5 := blk_frozen BK101.out 5) | (go_at_call 106; (with_reducible refine (slices_Min_int64_int64.calls kj4 _ _ l0_2 t104 _ ?side1 ?side2 A20.out).mono ?_); (case side1 => repeat (first | exact (Kd.C_below HR0_2.out HB.out) | (with_reducible refine Kd.C_alloc ?_ _) | (with_reducible refine Kd.C_drewN ?_ _) | (with_reducible refine Kd.C_drew ?_))); (case side2 => exact HC0_2.out); rintro e w29 ⟨rfl, hb⟩; have n0_ := Aside0.mk (blk_below (g := gb101) (o := .cells #[.int .i64 a0_0, .slice A0_1 l0_1.length c0_1, .slice A0_2 l0_2.length c0_2, .slice A0_3 l0_3.length c0_3, .slice A0_4 l0_4.length c0_4, .slice A0_5 l0_5.length c0_5] 48 (0, 0)) (by (with_reducible repeat (first | refine blk_drewN ?_ _ | refine blk_drew ?_ | refine blk_alloc ?_ _)); exact BK101.out) hb); have n1_ := Aside0.mk (below_step (by repeat (first | (with_reducible first | exact HB.out | apply below_alloc | apply pw_below_drewN | apply below_drew1 | refine below_set ?_ GE101.out) | exact HB.out)) hb); clear BK101; clear HB; have BK101 := n0_; have HB := n1_; clear n0_ n1_; (try clear hb); (try clear hb2); (try clear hk); (try clear hi)))
                go_ret
                exact ⟨by first | rfl | (simp [errW_none, errW_some] <;> rfl) | (simp [*, errW_none, errW_some] <;> rfl), by repeat (first | (with_reducible first | exact HB.out | apply below_alloc | apply pw_below_drewN | apply below_drew1 | refine below_set ?_ GE101.out) | exact HB.out)⟩

end Go.Proofs.Ytmfdhcgdibefiaa.B

/- chart.scale: the closure that tells columns. -/
namespace Go.Proofs.Ytmfdhcgdibefiaa.L
open Go.RowKit Go.Proofs.Ytmfdhcgdibefiaa.Q Go.Proofs.Ytmfdhcgdibefiaa.A Go.Proofs.YtmfdhcgdibefiaaW.PrintWords Go.Proofs.YtmfdhcgdibefiaaW.PrintLast Go.Proofs.YtmfdhcgdibefiaaW.PrintMore Go.Proofs.YtmfdhcgdibefiaaW.MapB Go.Proofs.YtmfdhcgdibefiaaW.Lib
set_option linter.unusedVariables false
set_option linter.unusedSimpArgs false
theorem boxed_below {W W' : World} {B : Nat} {t : TypeId} {v : Value} (h : Boxed W B t v) (hb : Below W.heap.size W W') : Boxed W' B t v := (hb.block B h.lt).trans h
/-- A number's column on a sheet, from lo to hi. -/
def colC (lo hi wide t : Int) : Int := (t - lo) * wide / (hi - lo + 1)
set_option maxHeartbeats 4000000 in
set_option maxRecDepth 1000000 in
theorem col_calls (lo hi wide t : Int) (h0 : -1152921504606846976 ≤ lo) (h1 : lo ≤ t) (h2 : t ≤ hi) (h3 : hi ≤ 1154047404513689600) (w0 : 0 ≤ wide) (w1 : wide ≤ 200) (w : World) (B1 B2 B3 : Nat) (b1 : Boxed w B1 2 (.int .i64 lo)) (b2 : Boxed w B2 3 (.int .i64 wide)) (b3 : Boxed w B3 2 (.int .i64 hi)) :
    Calls Try.prog 107 #[.int .i64 t, .pointer (some ⟨B1, 0, none⟩), .pointer (some ⟨B2, 0, none⟩), .pointer (some ⟨B3, 0, none⟩)] w fun e w' => e = .returned (.int .i64 (colC lo hi wide t)) ∧ ∃ n, w' = w.drewN n := by
  have hp0 : 0 ≤ (t - lo) * wide := Int.mul_nonneg (by omega) w0
  have hp1 : (t - lo) * wide ≤ (t - lo) * 200 := Int.mul_le_mul_of_nonneg_left w1 (by omega)
  have hp2 : (t - lo) * wide ≤ (hi - lo) * 200 := Int.le_trans hp1 (by omega)
  have QM := Aside0.mk (fun W => bits_Mul64.calls (t - lo) wide _ _ W (mul64_is (t - lo) wide (by omega) (by omega) w0 (by omega)))
  have hdiv : (t - lo) * wide / 18446744073709551616 * 18446744073709551616 + (t - lo) * wide % 18446744073709551616 = (t - lo) * wide := by omega
  obtain ⟨z, hz⟩ := div64_ev ((t - lo) * wide / 18446744073709551616) ((t - lo) * wide % 18446744073709551616) (hi - lo + 1) (by omega) (by omega) (by omega) (by omega) (by omega)
  rw [hdiv] at hz
  obtain ⟨k, hk⟩ := Ev.rounds hz
  have QD := Aside0.mk (fun W => bits_Div64.calls k _ _ _ _ _ W hk)
  have hc0 : 0 ≤ colC lo hi wide t := Int.ediv_nonneg hp0 (by omega)
  have hc1 : colC lo hi wide t < 9223372036854775808 := Int.lt_of_lt_of_le (show (t - lo) * wide / (hi - lo + 1) < 201 from Int.ediv_lt_of_lt_mul (by omega) (by omega)) (by omega)
  have e1 : IntKind.u64.wrap (wrap64 (t - lo)) = t - lo := by rw [wrap_id (by omega) (by omega), wrapU_id (by omega) (by omega)]
  have e2 : IntKind.u64.wrap wide = wide := wrapU_id w0 (by omega)
  have e3 : IntKind.u64.wrap (IntKind.u64.wrap (wrap64 (hi - lo)) + 1) = hi - lo + 1 := by rw [wrap_id (by omega) (by omega), wrapU_id (x := hi - lo) (by omega) (by omega), wrapU_id (by omega) (by omega)]
  have e4 : wrap64 (colC lo hi wide t) = colC lo hi wide t := wrap_id (by omega) (by omega)
  have E1 := Aside0.mk e1
  have E2 := Aside0.mk e2
  have E3 := Aside0.mk e3
  have E4 := Aside0.mk e4
  change Aside0 (∀ W, Calls _ _ _ W fun e w' => e = .returned (.tuple #[.int .u64 (colC lo hi wide t), .int .u64 z]) ∧ Drawn0 W w') at QD
  have hx1 := b1.cell
  have hx2 := b2.cell
  have hx3 := b3.cell
  clear hk hz hc0 hc1 e1 e2 e3 e4 hp0 hp1 hp2 h0 h1 h2 h3 w0 w1 hdiv
  generalize colC lo hi wide t = c at *
  go_enter Try.func107, Try.ntmps107
  go_wp2_with (first
    | (go_at_call 108; go_loud (rw [E1.out, E2.out]; refine (QM.out _).mono ?_; rintro e w1 ⟨rfl, hd⟩; have HD := Aside0.mk hd; obtain ⟨⟨n1, rfl⟩⟩ := hd))
    | (go_at_call 109; go_loud (rw [E3.out]; refine (QD.out _).mono ?_; rintro e w2 ⟨rfl, hd⟩; obtain ⟨⟨n2, rfl⟩⟩ := hd)))
  go_ret
  exact ⟨by rw [E4.out]; rfl, _, rfl⟩
/-- The greatest end of the first spans, or what was there. -/
def hiL (S : List Int) (l : List S37) (m : Int) : Nat → Int
  | 0 => m
  | k + 1 => max (hiL S l m k) (rd S k + (rd_T37 l k).f7)
abbrev ansV (v : Int) (A1 A2 A3 A4 A5 : Option Addr) (n1 n2 n3 n4 n5 c1 c2 c3 c4 c5 : Nat) : Array Value := #[.int .i64 v, .slice A1 n1 c1, .slice A2 n2 c2, .slice A3 n3 c3, .slice A4 n4 c4, .slice A5 n5 c5]
/-- The least of some numbers. -/
def minN (l : List Int) : Nat → Int
  | 0 => rd l 0
  | k + 1 => min (minN l k) (rd l k)
def minZ (l : List Int) : Int := minN l l.length
theorem minN_one (l : List Int) : minN l 1 = rd l 0 := Int.min_eq_left (Int.le_refl _)
theorem mn_min (a b : Int) : mn a b = min a b := by unfold mn; omega
set_option maxHeartbeats 2000000 in
set_option maxRecDepth 100000 in
theorem minZ_calls (l : List Int) (hl : 0 < l.length) (hb : l.length ≤ 1000000) (A : Option Addr) (c : Nat) (w : World) (hr : Kd.C (Kd.int .i64) w A l.length l) :
    Calls Try.prog 106 #[.slice A l.length c] w fun e w' => e = .returned (.int .i64 (minZ l)) ∧ w' = w := by
  obtain ⟨ad, e0, h0⟩ := Kd.at_int hr 0 (by omega) (by omega)
  subst e0
  rw [show ad.add (Int.toNat 0) = ad from Addr.add_zero' _] at h0
  have HR := Aside0.mk hr
  have HBD := Aside0.mk hb
  have HP := Aside0.mk hl
  have hlt : decide ((l.length : Int) < 1) = false := decide_eq_false (by omega)
  obtain ⟨r, hre⟩ : ∃ r, minZ l = r := ⟨_, rfl⟩
  rw [hre]
  have HE := Aside0.mk hre
  have M1 := Aside0.mk (minN_one l)
  have hz0 : decide ((0 : Int) < (l.length : Int)) = true := decide_eq_true (by omega)
  replace hl : (0 < l.length) = True := eq_true hl
  clear hr hb hre
  go_enter Try.func106, Try.ntmps106
  go_wp2_with fail
  go_loopg [3, 4] l.length (fun kq v3 v4 w' => ∃ x4 : Int, v4 = .int .i64 x4 ∧ v3 = .int .i64 (minN l x4.toNat) ∧ Aside0 (1 ≤ x4 ∧ x4 ≤ l.length ∧ x4 + kq = l.length + 1) ∧ w' = w)
  case atStart => exact ⟨1, rfl, by rw [show Int.toNat 1 = 1 from rfl, M1.out], ⟨by omega, by have := HP.out; omega, by omega⟩, rfl⟩
  case round =>
    obtain ⟨x4, rfl, rfl, HK, rfl⟩ := hrel
    clear h0
    by_cases c1 : x4 < (l.length : Int)
    · obtain ⟨ad', e1, hx⟩ := Kd.at_int HR.out x4 (by have := HK.out; omega) c1
      cases e1
      have c1b := decide_eq_true c1
      have p1 : (0 ≤ x4) = True := eq_true (by have := HK.out; omega)
      have hw1 : wrap64 (x4 + 1) = x4 + 1 := wrap_id (by have := HK.out; omega) (by have := HBD.out; omega)
      have HW := Aside0.mk hw1
      have HN := Aside0.mk (show minN l (x4 + 1).toNat = min (minN l x4.toNat) (rd l x4) from by
        rw [show (x4 + 1).toNat = x4.toNat + 1 by have := HK.out; omega]
        show min (minN l x4.toNat) (rd l (x4.toNat : Int)) = _
        rw [show ((x4.toNat : Nat) : Int) = x4 by have := HK.out; omega])
      have HC1 := Aside0.mk c1
      obtain ⟨k1, rfl⟩ : ∃ k1, gk = k1 + 1 := ⟨gk - 1, by have := HK.out; have := HC1.out; omega⟩
      clear hw1
      generalize minN l x4.toNat = m at *
      generalize rd l x4 = y at *
      replace c1 := eq_true c1
      by_cases hmy : m ≤ y
      all_goals
        go_wp2_with fail
        go_roundg k1
        case measure => omega
        case rel => exact ⟨x4 + 1, by rw [HW.out], by rw [HN.out]; try (congr 1; first | omega | (simp only [mn_min]; omega)), ⟨by have := HK.out; omega, by have := HK.out; have := HC1.out; omega, by have := HK.out; omega⟩, rfl⟩
    · have c1b := decide_eq_false c1
      have HKo := HK.out
      have e4 : x4.toNat = l.length := by omega
      clear HKo
      have hfin : minN l x4.toNat = r := by rw [e4]; exact HE.out
      rw [hfin]
      clear e4 hfin
      go_wp2_with fail
      go_ret
      exact ⟨rfl, rfl⟩
/-- What the closure's maker holds on to. -/
def Sc1 (w : World) (cs : Array Value) (wide : Int) (W : World) : Prop := Below w.heap.size w W ∧ W.heap[w.heap.size]? = some (.cells cs 48 (0, 0)) ∧ Boxed W (w.heap.size + 1) 3 (.int .i64 wide)
theorem Sc1.below {w : World} {cs : Array Value} {wide : Int} {W W' : World} (h : Sc1 w cs wide W) (hb : Below W.heap.size W W') : Sc1 w cs wide W' :=
  ⟨below_step h.1 hb, (hb.block _ (Array.getElem?_eq_some_iff.1 h.2.1).1).trans h.2.1, boxed_below h.2.2 hb⟩
theorem Sc1.size {w : World} {cs : Array Value} {wide : Int} {W : World} (h : Sc1 w cs wide W) : w.heap.size + 2 ≤ W.heap.size := h.2.2.lt
theorem Sc1.alloc {w : World} {cs : Array Value} {wide : Int} {W : World} (h : Sc1 w cs wide W) (o : Obj) : Sc1 w cs wide (W.alloc o) := h.below (below_alloc (Below.refl _ _) o)
theorem Sc1.set {w : World} {cs : Array Value} {wide : Int} {W : World} (h : Sc1 w cs wide W) (k : Nat) (hk : w.heap.size + 2 ≤ k) (i : Nat) (u : Value) : Sc1 w cs wide (W.setCell ⟨k, i, none⟩ u) :=
  ⟨h.1.setCell (by show w.heap.size ≤ k; omega) u, (Below.heap_setCell W ⟨k, i, none⟩ u _ (by show w.heap.size ≠ k; omega)).trans h.2.1, (Below.heap_setCell W ⟨k, i, none⟩ u _ (by show w.heap.size + 1 ≠ k; omega)).trans h.2.2⟩
def Sc2 (w : World) (cs : Array Value) (wide : Int) (u : Value) (W : World) : Prop := Sc1 w cs wide W ∧ W.cell? ⟨w.heap.size, 2, none⟩ = some u
theorem Sc2.of {w : World} {cs : Array Value} {wide : Int} {u : Value} {W' : World} (hc : cs[2]? = some u) (h' : Sc1 w cs wide W') : Sc1 w cs wide W' ∧ W'.cell? ⟨w.heap.size, 2, none⟩ = some u := ⟨h', (blk_cell h'.2.1 2).trans hc⟩
theorem new2_box (w : World) (t u : TypeId) (v x : Value) : Boxed ((w.alloc (.cells #[v] t)).alloc (.cells #[x] u)) (w.heap.size + 1) u x := by
  have h := Boxed.new (w.alloc (.cells #[v] t)) u x
  rw [show (w.alloc (Obj.cells #[v] t)).heap.size = w.heap.size + 1 by simp] at h
  exact h
theorem Sc1.start (w : World) (cs : Array Value) (wide : Int) : Sc1 w cs wide ((w.alloc (Obj.cells cs 48)).alloc (Obj.cells #[.int .i64 wide] 3)) := by
  refine ⟨below_alloc (below_alloc (Below.refl _ _) _) _, ?_, ?_⟩
  · exact (Below.block (below_alloc (Below.refl _ _) _) _ (by simp)).trans (World.alloc_heap_new w _)
  · have h := Boxed.new (w.alloc (Obj.cells cs 48)) 3 (.int .i64 wide)
    rw [show (w.alloc (Obj.cells cs 48)).heap.size = w.heap.size + 1 by simp] at h
    exact h
set_option maxHeartbeats 8000000 in
set_option maxRecDepth 1000000 in
theorem scale_calls (v wide lo : Int) (l : List S37) (S : List Int) (A1 A2 A3 A4 A5 : Option Addr) (n3 n4 n5 d1 d2 c3 c4 c5 : Nat) (w : World) (hl : l.length ≤ 1000000) (hS : S.length = l.length)
    (hr1 : Kd.C k37 w A1 l.length l) (hc1 : l.length ≤ d1) (hr2 : Kd.C (Kd.int .i64) w A2 S.length S) (hc2 : S.length ≤ d2)
    (hin : ∀ k : Nat, k < l.length → -1152921504606846976 ≤ rd S k ∧ rd S k + (rd_T37 l k).f7 ≤ 1154047404513689600 ∧ 0 ≤ (rd_T37 l k).f7)
    (hmin : minZ S = lo) (hS0 : 0 < S.length) :
    Calls Try.prog 55 #[.agg (ansV v A1 A2 A3 A4 A5 l.length S.length n3 n4 n5 d1 d2 c3 c4 c5), .int .i64 wide] w fun e w' => ∃ B1 B2 B3, e = .returned (.func (.func 107) #[] #[.pointer (some ⟨B1, 0, none⟩), .pointer (some ⟨B2, 0, none⟩), .pointer (some ⟨B3, 0, none⟩)]) ∧ Boxed w' B1 2 (.int .i64 lo) ∧ Boxed w' B2 3 (.int .i64 wide) ∧ Boxed w' B3 2 (.int .i64 (hiL S l lo l.length)) ∧ Below w.heap.size w w' := by
  have hmf : ∀ (fn : Fn) (first cap : Array Value) (w : World), (Instr.makeFunc fn first cap).run Try.prog w = .ok (.func fn first cap) w := fun _ _ _ _ => rfl
  have QM : Aside0 (∀ W, Below w.heap.size w W → Calls Try.prog 106 #[.slice A2 S.length d2] W fun e w' => e = .returned (.int .i64 lo) ∧ w' = W) := ⟨fun W hW => by
    have h := minZ_calls S hS0 (by omega) A2 d2 W (Kd.C_below hr2 hW)
    rw [hmin] at h
    exact h⟩
  have HR1 := Aside0.mk hr1
  have HR2 := Aside0.mk hr2
  have HI := Aside0.mk hin
  have HL := Aside0.mk hl
  have HS := Aside0.mk hS
  have HB := Aside0.mk (Below.refl w.heap.size w)
  clear hr1 hr2 hc1 hc2 hin hl hS hmin hS0
  go_enter Try.func55, Try.ntmps55
  go_upto_region 1 with fail
  have hs0 := Sc1.start w (ansV v A1 A2 A3 A4 A5 l.length S.length n3 n4 n5 d1 d2 c3 c4 c5) wide
  generalize (w.alloc (Obj.cells (ansV v A1 A2 A3 A4 A5 l.length S.length n3 n4 n5 d1 d2 c3 c4 c5) 48)).alloc (Obj.cells #[.int .i64 wide] 3) = w2 at *
  go_cut [5, 6] (fun s5 s6 wx => ∃ B5 B6 : Nat, s5 = .pointer (some ⟨B5, 0, none⟩) ∧ s6 = .pointer (some ⟨B6, 0, none⟩) ∧ Aside0 (B5 ≠ B6 ∧ w.heap.size + 2 ≤ B5 ∧ w.heap.size + 2 ≤ B6) ∧ Aside0 (Boxed wx B5 2 (.int .i64 lo)) ∧ Aside0 (Boxed wx B6 2 (.int .i64 lo)) ∧ Aside0 (Sc1 w (ansV v A1 A2 A3 A4 A5 l.length S.length n3 n4 n5 d1 d2 c3 c4 c5) wide wx))
  case first =>
    have HS0 := Aside0.mk hs0
    have hz := hs0.size
    have HZ := Aside0.mk hz
    have k2 : w2.cell? ⟨w.heap.size, 2, none⟩ = some (.slice A2 S.length d2) := (blk_cell hs0.2.1 2).trans rfl
    have k2d : w2.drew.cell? ⟨w.heap.size, 2, none⟩ = some (.slice A2 S.length d2) := k2
    clear hs0 hz
    have HS1 := Aside0.mk (HS0.out.below (below_drew (Below.refl _ _)))
    go_region_held3 (fun W' => Sc1 w (ansV v A1 A2 A3 A4 A5 l.length S.length n3 n4 n5 d1 d2 c3 c4 c5) wide W' ∧ W'.cell? ⟨w.heap.size, 2, none⟩ = some (.slice A2 S.length d2))
      (first
        | exact ⟨HS1.out, k2d⟩
        | exact Sc2.of rfl (HS1.out.alloc _)
        | exact Sc2.of rfl ((HS1.out.alloc _).alloc _)
        | assumption)
      (first
        | (go_at_call 106; refine (QM.out _ (And.left (And.left (by assumption)))).mono ?_; rintro r w2 ⟨rfl, rfl⟩))
    all_goals
      go_wp2_with fail
      go_meet
      first
        | exact ⟨_, _, rfl, rfl, ⟨by omega, HZ.out, by have := HZ.out; omega⟩, ⟨(Boxed.new w2 _ _).alloc _⟩, ⟨new2_box w2 _ _ _ _⟩, ⟨Sc1.below ((HS0.out.alloc _).alloc _) (below_drew (Below.refl _ _))⟩⟩
        | exact ⟨_, _, rfl, rfl, ⟨by omega, by have := HZ.out; omega, HZ.out⟩, ⟨new2_box w2 _ _ _ _⟩, ⟨(Boxed.new w2 _ _).alloc _⟩, ⟨Sc1.below ((HS0.out.alloc _).alloc _) (below_drew (Below.refl _ _))⟩⟩
  case rest =>
    clear hs0
    obtain ⟨B5, B6, rfl, rfl, HN, HB5, HB6, HS2⟩ := hcut
    have hc := HS2.out
    have k1 : wc.cell? ⟨w.heap.size, 1, none⟩ = some (.slice A1 l.length d1) := (blk_cell hc.2.1 1).trans rfl
    clear hc
    go_wp2_with fail
    clear k1
    go_loopg [18] l.length (fun kq v18 w' => ∃ x : Int, v18 = .int .i64 x ∧ Aside0 (0 ≤ x ∧ x + kq = l.length) ∧ Aside0 (Boxed w' B5 2 (.int .i64 lo)) ∧ Aside0 (Boxed w' B6 2 (.int .i64 (hiL S l lo x.toNat))) ∧ Aside0 (Sc1 w (ansV v A1 A2 A3 A4 A5 l.length S.length n3 n4 n5 d1 d2 c3 c4 c5) wide w'))
    case atStart => exact ⟨0, rfl, ⟨by omega, by omega⟩, HB5, HB6, HS2⟩
    case round =>
      clear HB5 HB6 HS2
      obtain ⟨x, rfl, HK, HB5, HB6, HS2⟩ := hrel
      by_cases c1 : x < (l.length : Int)
      · have c1b := decide_eq_true c1
        have p1 : 0 ≤ x := HK.out.1
        obtain ⟨ad, e1, hx0, hx1, hx2, hx3, hx4, hx5, hx6, hx7⟩ := at_T37 HR1.out x p1 c1
        obtain ⟨ae, e2, hy⟩ := Kd.at_int HR2.out x p1 (by have := HS.out; omega)
        cases e1
        cases e2
        have hb := HS2.out.1
        replace hx0 := (hb.cell (World.block_lt_of_cell? w _ hx0)).trans hx0
        replace hx1 := (hb.cell (World.block_lt_of_cell? w _ hx1)).trans hx1
        replace hx2 := (hb.cell (World.block_lt_of_cell? w _ hx2)).trans hx2
        replace hx3 := (hb.cell (World.block_lt_of_cell? w _ hx3)).trans hx3
        replace hx4 := (hb.cell (World.block_lt_of_cell? w _ hx4)).trans hx4
        replace hx5 := (hb.cell (World.block_lt_of_cell? w _ hx5)).trans hx5
        replace hx6 := (hb.cell (World.block_lt_of_cell? w _ hx6)).trans hx6
        replace hx7 := (hb.cell (World.block_lt_of_cell? w _ hx7)).trans hx7
        have HY := Aside0.mk ((hb.cell (World.block_lt_of_cell? w _ hy)).trans hy)
        clear hy hb
        have hin := HI.out x.toNat (by omega)
        rw [show ((x.toNat : Nat) : Int) = x by omega] at hin
        have hsum : wrap64 (rd S x + (rd_T37 l x).f7) = rd S x + (rd_T37 l x).f7 := wrap_id (by omega) (by omega)
        have HW := Aside0.mk hsum
        have HW1 := Aside0.mk (show wrap64 (x + 1) = x + 1 from wrap_id (by omega) (by have := HL.out; omega))
        have HN1 := Aside0.mk (show hiL S l lo (x + 1).toNat = max (hiL S l lo x.toNat) (rd S x + (rd_T37 l x).f7) from by
          rw [show (x + 1).toNat = x.toNat + 1 by omega]
          show max _ (rd S (x.toNat : Int) + (rd_T37 l (x.toNat : Int)).f7) = _
          rw [show ((x.toNat : Nat) : Int) = x by omega])
        have HC1 := Aside0.mk c1
        have HLS := Aside0.mk (show x < (S.length : Int) by have := HS.out; omega)
        have HP := Aside0.mk p1
        clear hin hsum
        replace p1 := eq_true p1
        replace c1 := eq_true c1
        obtain ⟨k1, rfl⟩ : ∃ k1, gk = k1 + 1 := ⟨gk - 1, by have := HK.out; have := HC1.out; omega⟩
        generalize rd_T37 l x = sp at *
        go_wp2_with fail
        obtain ⟨gn, hgn⟩ : ∃ gn, gn = wr.heap.size := ⟨_, rfl⟩
        obtain ⟨W2, hW2⟩ : ∃ W2, W2 = wr.alloc (Obj.cells #[.int .u64 sp.f0, .int .u64 sp.f1, .int .u64 sp.f2, .int .u8 sp.f3, .string sp.f4, .string sp.f5, .int .i64 sp.f6, .int .i64 sp.f7] 37) := ⟨_, rfl⟩
        rw [← hW2, ← hgn]
        have g0 : W2.drew.cell? ⟨B6, 0, none⟩ = some (.int .i64 (hiL S l lo x.toNat)) := by rw [hW2]; exact (HB6.out.alloc _).cell
        have gf : W2.drew.frozen? ⟨B6, 0, none⟩ = false := by rw [hW2]; exact (HB6.out.alloc _).frozen
        have g1 : W2.drew.cell? ⟨w.heap.size, 2, none⟩ = some (.slice (some ae) S.length d2) := by rw [hW2]; exact (blk_cell (HS2.out.alloc _).2.1 2).trans rfl
        have g2 : W2.drew.cell? (ae.add x.toNat) = some (.int .i64 (rd S x)) := by rw [hW2]; exact (World.cell?_alloc_lt _ _ _ (World.block_lt_of_cell? _ _ HY.out)).trans HY.out
        have g3 : W2.drew.cell? ⟨gn, 7, none⟩ = some (.int .i64 sp.f7) := by rw [hW2, hgn]; exact (blk_cell (World.alloc_heap_new wr _) 7).trans rfl
        have HB5' : Aside0 (Boxed W2.drew B5 2 (.int .i64 lo)) := ⟨by rw [hW2]; exact HB5.out.alloc _⟩
        have HB6' : Aside0 (Boxed W2.drew B6 2 (.int .i64 (hiL S l lo x.toNat))) := ⟨by rw [hW2]; exact HB6.out.alloc _⟩
        have HS2' : Aside0 (Sc1 w (ansV v (some ad) (some ae) A3 A4 A5 l.length S.length n3 n4 n5 d1 d2 c3 c4 c5) wide W2.drew) := ⟨by rw [hW2]; exact (HS2.out.alloc _).below (below_drew (Below.refl _ _))⟩
        have q1 : (x < (S.length : Int)) = True := eq_true HLS.out
        clear hW2 hgn hx0 hx1 hx2 hx3 hx4 hx5 hx6 hx7
        generalize hiL S l lo x.toNat = m at *
        generalize rd S x = y at *
        go_still_tail 10, (by kernel_rfl)
        change wpList _ _ _ _ _ W2.drew
        generalize hmm : max m (IntKind.i64.wrap (y + sp.f7)) = mm at *
        have HM := Aside0.mk (show hiL S l lo (x + 1).toNat = mm from by rw [HN1.out, ← hmm, i64_w, HW.out])
        have HB6n := Aside0.mk (HB6'.out.set (.int .i64 mm))
        have HB5n := Aside0.mk (HB5'.out.kept (grownBy_setCell' W2.drew B6 (.int .i64 mm)) (by have := HN.out.1; simp; exact this))
        have HS2n := Aside0.mk (HS2'.out.set B6 HN.out.2.2 0 (.int .i64 mm))
        clear hmm
        go_wp2_with fail
        go_roundg k1
        case measure => omega
        case rel => exact ⟨x + 1, by rw [HW1.out], ⟨by have := HP.out; omega, by have := HK.out; omega⟩, HB5n, by rw [HM.out]; exact HB6n, HS2n⟩
      · have c1b := decide_eq_false c1
        have HE := Aside0.mk (show x.toNat = l.length by have := HK.out; omega)
        go_wp2_with fail
        go_ret
        exact ⟨_, _, _, rfl, HB5.out, HS2.out.2.2, HE.out ▸ HB6.out, HS2.out.1⟩
end Go.Proofs.Ytmfdhcgdibefiaa.L

/- Whole numbers as floats: what reading, writing and reckoning come to where all values are small whole numbers. -/
namespace Go.Proofs.YtmfdhcgdibefiaaW.Flt
open Ieee
set_option linter.unusedVariables false

/-- A datum that stands for the whole number a. -/
def Val (d : Datum) (a : Int) : Prop := ∃ s m p, d = .number s m p ∧ p ≤ 0 ∧ m = a.natAbs * 2 ^ (-p).toNat ∧ (a ≠ 0 → s = decide (a < 0))

theorem shl_one (n : Nat) : 1 <<< n = 2 ^ n := by rw [Nat.shiftLeft_eq, Nat.one_mul]
theorem cut_exact (way : Toward) (neg : Bool) (n k : Nat) (hn : 0 < n) : way.cut neg (n * 2 ^ k) k = n := by
  unfold Toward.cut
  have hl : k ≤ (n * 2 ^ k).log2 + 2 := by
    have := (Nat.le_log2 (n := n * 2 ^ k) (k := k) (by have := Nat.two_pow_pos k; have := Nat.mul_pos hn this; omega)).2 (Nat.le_mul_of_pos_left _ hn)
    omega
  rw [Nat.min_eq_left hl, shl_one]
  have h1 : n * 2 ^ k / 2 ^ k = n := Nat.mul_div_cancel _ (Nat.two_pow_pos k)
  have h2 : n * 2 ^ k % 2 ^ k = 0 := Nat.mul_mod_left _ _
  simp only [h1, h2]
  have h3 := Nat.two_pow_pos k
  cases way <;> simp
theorem cut_zero (way : Toward) (neg : Bool) (k : Nat) : way.cut neg 0 k = 0 := by
  unfold Toward.cut
  cases way <;> simp
theorem log2_mul (n k : Nat) (hn : 0 < n) : (n * 2 ^ k).log2 = n.log2 + k := by
  have h := Nat.two_pow_pos k
  have hp : n * 2 ^ k ≠ 0 := by have := Nat.mul_pos hn h; omega
  apply Nat.le_antisymm
  · have h1 : n * 2 ^ k < 2 ^ (n.log2 + 1 + k) := by
      rw [Nat.pow_add]; exact Nat.mul_lt_mul_of_pos_right Nat.lt_log2_self h
    have := (Nat.log2_lt hp).2 h1
    omega
  · apply (Nat.le_log2 hp).2
    rw [Nat.pow_add]
    exact Nat.mul_le_mul_right _ (Nat.log2_self_le (by omega))

/-- The rung of a whole number. -/
def rung (m : Nat) : Nat := (m.log2 + 1022) * 2 ^ 52 + m * 2 ^ (52 - m.log2)
theorem nearest_val (neg : Bool) (m : Nat) (p : Int) (hp : p ≤ 0) (hm : 0 < m) (hb : m < 2 ^ 52) : double.nearest neg (m * 2 ^ (-p).toNat) p = double.word neg (rung m) := by
  have hlog : m.log2 < 52 := (Nat.log2_lt (by omega)).2 hb
  have h2 := Nat.two_pow_pos (-p).toNat
  have hne : m * 2 ^ (-p).toNat ≠ 0 := by have := Nat.mul_pos hm h2; omega
  unfold Format.nearest
  rw [if_neg hne, log2_mul _ _ hm]
  have hfb : ((double.fractionBits : Nat) : Int) = 52 := rfl
  have hlp : double.leastPlace = -1074 := by decide
  have hlast : max (p + ((m.log2 + (-p).toNat : Nat) : Int) - 52) (-1074) = (m.log2 : Int) - 52 := by omega
  simp only [hfb, hlp, hlast]
  have hkept : Toward.even.cut neg ((m * 2 ^ (-p).toNat) <<< (p - ((m.log2 : Int) - 52)).toNat) ((m.log2 : Int) - 52 - p).toNat = m * 2 ^ (52 - m.log2) := by
    rw [Nat.shiftLeft_eq, Nat.mul_assoc, ← Nat.pow_add]
    by_cases hc : (-p).toNat ≤ 52 - m.log2
    · rw [show ((m.log2 : Int) - 52 - p).toNat = 0 by omega, show (-p).toNat + (p - ((m.log2 : Int) - 52)).toNat = 52 - m.log2 by omega]
      have := cut_exact .even neg (m * 2 ^ (52 - m.log2)) 0 (Nat.mul_pos hm (Nat.two_pow_pos _))
      simpa using this
    · rw [show (-p).toNat + (p - ((m.log2 : Int) - 52)).toNat = (52 - m.log2) + ((m.log2 : Int) - 52 - p).toNat by omega, Nat.pow_add, ← Nat.mul_assoc]
      exact cut_exact .even neg _ _ (Nat.mul_pos hm (Nat.two_pow_pos _))
  rw [hkept]
  have hbin : double.binade = 2 ^ 52 := rfl
  have hinf : double.infRung = 2047 * 2 ^ 52 := by decide
  rw [hbin, hinf, show ((m.log2 : Int) - 52 - -1074).toNat = m.log2 + 1022 by omega]
  have hlt : m * 2 ^ (52 - m.log2) < 2 ^ 53 := by
    have h3 : m < 2 ^ (m.log2 + 1) := Nat.lt_log2_self
    calc m * 2 ^ (52 - m.log2) < 2 ^ (m.log2 + 1) * 2 ^ (52 - m.log2) := Nat.mul_lt_mul_of_pos_right h3 (Nat.two_pow_pos _)
      _ = 2 ^ 53 := by rw [← Nat.pow_add]; congr 1; omega
  rw [Nat.min_eq_left (by show (m.log2 + 1022) * 2 ^ 52 + m * 2 ^ (52 - m.log2) ≤ 2047 * 2 ^ 52; omega)]
  rfl
theorem nearest_zero (neg : Bool) (p : Int) : double.nearest neg 0 p = double.word neg 0 := by unfold Format.nearest; rw [if_pos rfl]

theorem rung_bounds (m : Nat) (hm : 0 < m) (hb : m < 2 ^ 52) : 2 ^ 52 ≤ m * 2 ^ (52 - m.log2) ∧ m * 2 ^ (52 - m.log2) < 2 ^ 53 := by
  have hlog : m.log2 < 52 := (Nat.log2_lt (by omega)).2 hb
  constructor
  · have h3 : 2 ^ m.log2 ≤ m := Nat.log2_self_le (by omega)
    calc 2 ^ 52 = 2 ^ m.log2 * 2 ^ (52 - m.log2) := by rw [← Nat.pow_add]; congr 1; omega
      _ ≤ _ := Nat.mul_le_mul_right _ h3
  · have h3 : m < 2 ^ (m.log2 + 1) := Nat.lt_log2_self
    calc m * 2 ^ (52 - m.log2) < 2 ^ (m.log2 + 1) * 2 ^ (52 - m.log2) := Nat.mul_lt_mul_of_pos_right h3 (Nat.two_pow_pos _)
      _ = 2 ^ 53 := by rw [← Nat.pow_add]; congr 1; omega
theorem read_eq {w : Nat} {neg : Bool} {r : Nat} (h1 : (w / 2 ^ 63 % 2 == 1) = neg) (h2 : w % 2 ^ 63 = r) :
    double.read w = if r < 2 ^ 52 then .number neg r (-1074) else if r < 2047 * 2 ^ 52 then .number neg (2 ^ 52 + r % 2 ^ 52) (-1074 + (r / 2 ^ 52 - 1 : Nat)) else if r = 2047 * 2 ^ 52 then .infinity neg else .nan neg (r - 2047 * 2 ^ 52) := by
  have hsw : double.signWeight = 2 ^ 63 := rfl
  have hbin : double.binade = 2 ^ 52 := rfl
  have hinf : double.infRung = 2047 * 2 ^ 52 := by decide
  have hlp : double.leastPlace = -1074 := by decide
  subst h1 h2
  have key : ∀ (a b c d : Nat) (e : Int), double.signWeight = a → double.binade = b → double.infRung = c → double.leastPlace = e → double.read w = if w % a < b then .number (w / a % 2 == 1) (w % a) e else if w % a < c then .number (w / a % 2 == 1) (b + w % a % b) (e + (w % a / b - 1 : Nat)) else if w % a = c then .infinity (w / a % 2 == 1) else .nan (w / a % 2 == 1) (w % a - c) := by
    rintro a b c _ e rfl rfl rfl rfl; rfl
  exact key _ _ _ 0 _ hsw hbin hinf hlp
theorem read_rung (neg : Bool) (m : Nat) (hm : 0 < m) (hb : m < 2 ^ 52) : double.read (double.word neg (rung m)) = .number neg (m * 2 ^ (52 - m.log2)) ((m.log2 : Int) - 52) := by
  have hlog : m.log2 < 52 := (Nat.log2_lt (by omega)).2 hb
  obtain ⟨h1, h2⟩ := rung_bounds m hm hb
  have hr : rung m = (m.log2 + 1022) * 2 ^ 52 + m * 2 ^ (52 - m.log2) := rfl
  have hsw : double.signWeight = 2 ^ 63 := rfl
  generalize m * 2 ^ (52 - m.log2) = q at *
  generalize m.log2 = k at *
  generalize rung m = r at *
  have hlt : r < 2 ^ 63 := by omega
  have hneg : (double.word neg r / 2 ^ 63 % 2 == 1) = neg := by
    unfold Format.word; rw [hsw]
    cases neg
    · have : r / 2 ^ 63 = 0 := by omega
      simp only [Bool.false_eq_true, if_false, this]; rfl
    · have : (2 ^ 63 + r) / 2 ^ 63 = 1 := by omega
      simp only [if_true, this]; rfl
  have hrem : double.word neg r % 2 ^ 63 = r := by
    unfold Format.word; rw [hsw]
    cases neg
    · simp only [Bool.false_eq_true, if_false]; omega
    · simp only [if_true]; omega
  rw [read_eq hneg hrem, if_neg (by omega), if_pos (by omega)]
  have e1 : r % 2 ^ 52 = q - 2 ^ 52 := by omega
  have e2 : r / 2 ^ 52 = k + 1023 := by omega
  have e3 : 2 ^ 52 + (q - 2 ^ 52) = q := by omega
  have e4 : (-1074 : Int) + ((k + 1023 - 1 : Nat) : Int) = (k : Int) - 52 := by omega
  rw [e1, e2, e3, e4]
theorem read_zero (neg : Bool) : double.read (double.word neg 0) = .number neg 0 (-1074) := by cases neg <;> decide

/-- The word of a whole number. -/
def enc (a : Int) : Nat := if a = 0 then 0 else double.word (decide (a < 0)) (rung a.natAbs)
/-- .. or the other zero. -/
def V (w : Nat) (a : Int) : Prop := w = enc a ∨ a = 0 ∧ w = double.word true 0
theorem enc_zero : enc 0 = 0 := rfl
theorem nearest_enc (a : Int) (hb : a.natAbs < 2 ^ 52) : FloatKind.f64.nearest a = enc a := by
  unfold FloatKind.nearest FloatKind.encode FloatKind.format Format.write enc
  by_cases h : a = 0
  · subst h; decide
  · rw [if_neg h]
    have := nearest_val (decide (a < 0)) a.natAbs 0 (Int.le_refl _) (by omega) hb
    simpa using this
theorem val_read {w : Nat} {a : Int} (h : V w a) (hb : a.natAbs < 2 ^ 52) : Val (double.read w) a := by
  rcases h with rfl | ⟨rfl, rfl⟩
  · unfold enc
    by_cases h : a = 0
    · subst h
      rw [if_pos rfl]
      exact ⟨false, 0, -1074, read_zero false, by omega, by rw [Int.natAbs_zero, Nat.zero_mul], fun h => absurd rfl h⟩
    · rw [if_neg h]
      have hlog : a.natAbs.log2 < 52 := (Nat.log2_lt (by omega)).2 hb
      exact ⟨_, _, _, read_rung _ _ (by omega) hb, by omega, by congr 2; omega, fun _ => rfl⟩
  · exact ⟨true, 0, -1074, read_zero true, by omega, by rw [Int.natAbs_zero, Nat.zero_mul], fun h => absurd rfl h⟩
theorem val_write {d : Datum} {a : Int} (h : Val d a) (hb : a.natAbs < 2 ^ 52) : V (double.write d) a := by
  obtain ⟨s, m, p, rfl, hp, rfl, hs⟩ := h
  show V (double.nearest s (a.natAbs * 2 ^ (-p).toNat) p) a
  by_cases h : a = 0
  · subst h
    simp only [Int.natAbs_zero, Nat.zero_mul, nearest_zero]
    cases s
    · exact .inl rfl
    · exact .inr ⟨rfl, rfl⟩
  · rw [nearest_val s a.natAbs p hp (by omega) hb, hs h]
    exact .inl (by unfold enc; rw [if_neg h])
theorem signed_val {s : Bool} {a : Int} {q up : Nat} (hs : a ≠ 0 → s = decide (a < 0)) : signed s (a.natAbs * q) up = a * (q * 2 ^ up : Nat) := by
  unfold signed
  rw [Nat.shiftLeft_eq, Nat.mul_assoc]
  generalize q * 2 ^ up = z
  by_cases h : a = 0
  · subst h; cases s <;> simp
  · rw [hs h]
    by_cases h1 : a < 0
    · rw [decide_eq_true h1, if_pos rfl, Int.natCast_mul, ← Int.neg_mul, show -(a.natAbs : Int) = a by omega]
    · rw [decide_eq_false h1, if_neg (by simp), Int.natCast_mul, show (a.natAbs : Int) = a by omega]
theorem two_up {p b : Int} (hp : p ≤ 0) (hb : b ≤ p) : 2 ^ (-p).toNat * 2 ^ (p - b).toNat = 2 ^ (-b).toNat := by
  rw [← Nat.pow_add]; congr 1; omega
theorem val_sum {d e : Datum} {a b : Int} (hd : Val d a) (he : Val e b) : ∃ f, d.sum e = some f ∧ Val f (a + b) := by
  obtain ⟨s, m, p, rfl, hp, rfl, hs⟩ := hd
  obtain ⟨t, n, q, rfl, hq, rfl, ht⟩ := he
  refine ⟨_, rfl, ?_⟩
  rw [signed_val hs, signed_val ht, two_up hp (Int.min_le_left p q), two_up hq (Int.min_le_right p q), ← Int.add_mul]
  have hpos : 0 < 2 ^ (-(min p q)).toNat := Nat.two_pow_pos _
  generalize hz : 2 ^ (-(min p q)).toNat = z at *
  have hzp : (0 : Int) < (z : Int) := by omega
  refine ⟨_, _, _, rfl, by omega, by rw [hz, Int.natAbs_mul, Int.natAbs_natCast], fun h => ?_⟩
  have h0 : ¬ (a + b) * (z : Int) = 0 := fun h' => by
    rcases Int.mul_eq_zero.1 h' with h' | h' <;> omega
  rw [if_neg h0]
  by_cases h1 : a + b < 0
  · rw [decide_eq_true h1]; exact decide_eq_true (Int.mul_neg_of_neg_of_pos h1 hzp)
  · rw [decide_eq_false h1]; exact decide_eq_false (Int.not_lt.2 (Int.mul_nonneg (Int.not_lt.1 h1) (Int.le_of_lt hzp)))
theorem val_opp {d : Datum} {a : Int} (hd : Val d a) : Val d.opposite (-a) := by
  obtain ⟨s, m, p, rfl, hp, rfl, hs⟩ := hd
  refine ⟨!s, _, p, rfl, hp, by rw [Int.natAbs_neg], fun h => ?_⟩
  rw [hs (by omega)]
  by_cases h1 : a < 0
  · rw [decide_eq_true h1, decide_eq_false (by omega)]; rfl
  · rw [decide_eq_false h1, decide_eq_true (by omega)]; rfl
theorem val_prod {d e : Datum} {a b : Int} (hd : Val d a) (he : Val e b) : ∃ f, d.product e = some f ∧ Val f (a * b) := by
  obtain ⟨s, m, p, rfl, hp, rfl, hs⟩ := hd
  obtain ⟨t, n, q, rfl, hq, rfl, ht⟩ := he
  refine ⟨_, rfl, _, _, _, rfl, by omega, ?_, fun h => ?_⟩
  · rw [Int.natAbs_mul, show (-(p + q)).toNat = (-p).toNat + (-q).toNat by omega, Nat.pow_add]
    simp only [Nat.mul_assoc, Nat.mul_left_comm]
  · have ha : a ≠ 0 := fun h' => h (by rw [h', Int.zero_mul])
    have hb : b ≠ 0 := fun h' => h (by rw [h', Int.mul_zero])
    rw [hs ha, ht hb]
    by_cases h1 : a < 0 <;> by_cases h2 : b < 0
    · rw [decide_eq_true h1, decide_eq_true h2, decide_eq_false (Int.not_lt.2 (Int.mul_nonneg_of_nonpos_of_nonpos (by omega) (by omega)))]; rfl
    · rw [decide_eq_true h1, decide_eq_false h2, decide_eq_true (Int.mul_neg_of_neg_of_pos h1 (by omega))]; rfl
    · rw [decide_eq_false h1, decide_eq_true h2, decide_eq_true (Int.mul_neg_of_pos_of_neg (by omega) h2)]; rfl
    · rw [decide_eq_false h1, decide_eq_false h2, decide_eq_false (Int.not_lt.2 (Int.mul_nonneg (by omega) (by omega)))]; rfl
theorem val_order {d e : Datum} {a b : Int} (hd : Val d a) (he : Val e b) : d.order e = some (compare a b) := by
  obtain ⟨s, m, p, rfl, hp, rfl, hs⟩ := hd
  obtain ⟨t, n, q, rfl, hq, rfl, ht⟩ := he
  show some (compare _ _) = _
  rw [signed_val hs, signed_val ht, two_up hp (Int.min_le_left p q), two_up hq (Int.min_le_right p q)]
  have hpos : 0 < 2 ^ (-(min p q)).toNat := Nat.two_pow_pos _
  generalize 2 ^ (-(min p q)).toNat = z at *
  have hzp : (0 : Int) < (z : Int) := by omega
  congr 1
  simp only [compare, compareOfLessAndEq]
  by_cases h1 : a < b
  · rw [if_pos h1, if_pos (Int.mul_lt_mul_of_pos_right h1 hzp)]
  · rw [if_neg h1, if_neg (fun h => h1 (Int.lt_of_mul_lt_mul_right h (Int.le_of_lt hzp)))]
    by_cases h2 : a = b
    · rw [if_pos h2, if_pos (by rw [h2])]
    · rw [if_neg h2, if_neg (fun h => h2 (Int.eq_of_mul_eq_mul_right (by omega) h))]
theorem val_integral {d : Datum} {a : Int} (hd : Val d a) (way : Toward) : Val (d.integral way) a := by
  obtain ⟨s, m, p, rfl, hp, rfl, hs⟩ := hd
  refine ⟨s, _, 0, rfl, Int.le_refl _, ?_, hs⟩
  rw [show p.toNat = 0 by omega, Nat.shiftLeft_zero, show (-0 : Int).toNat = 0 by rfl, Nat.pow_zero, Nat.mul_one]
  rcases Nat.eq_zero_or_pos a.natAbs with h | h
  · rw [h, Nat.zero_mul]; exact cut_zero _ _ _
  · exact cut_exact _ _ _ _ h
theorem val_toInt {d : Datum} {a : Int} (hd : Val d a) : d.toInt .zero = some a := by
  obtain ⟨s, m, p, h, hp, hm, hs⟩ := val_integral hd .zero
  unfold Datum.toInt
  have h0 : p = 0 := by
    obtain ⟨s', m', p', rfl, _⟩ := hd
    simp only [Datum.integral] at h
    injection h with _ _ h3
    exact h3.symm
  rw [h]
  simp only
  subst h0 hm
  rw [signed_val hs]
  simp
end Go.Proofs.YtmfdhcgdibefiaaW.Flt

/- Which words are those of whole numbers from -2^20 to 2^20. -/
namespace Go.Proofs.YtmfdhcgdibefiaaW.Flt
open Ieee
set_option linter.unusedVariables false

/-- What is read of any word. -/
theorem read_cases (w : Nat) (hw : w < 2 ^ 64) : ∃ s r, w = double.word s r ∧ r < 2 ^ 63 ∧
    ((r < 2 ^ 52 ∧ double.read w = .number s r (-1074)) ∨ (∃ e f : Nat, 1 ≤ e ∧ e < 2047 ∧ f < 2 ^ 52 ∧ r = e * 2 ^ 52 + f ∧ double.read w = .number s (2 ^ 52 + f) ((e : Int) - 1075)) ∨
      double.read w = .infinity s ∨ ∃ q, double.read w = .nan s q) := by
  have hsw : double.signWeight = 2 ^ 63 := rfl
  obtain ⟨s, hs⟩ : ∃ s, (w / 2 ^ 63 % 2 == 1) = s := ⟨_, rfl⟩
  obtain ⟨r, hr⟩ : ∃ r, w % 2 ^ 63 = r := ⟨_, rfl⟩
  have h := read_eq hs hr
  have hw' : w = double.word s r := by
    unfold Format.word; rw [hsw]
    cases s
    · have h1 : ¬ (w / 2 ^ 63 % 2 = 1) := by simpa using hs
      simp only [Bool.false_eq_true, if_false]; omega
    · have h1 : w / 2 ^ 63 % 2 = 1 := by simpa using hs
      simp only [if_true]; omega
  refine ⟨s, r, hw', by omega, ?_⟩
  by_cases h1 : r < 2 ^ 52
  · rw [if_pos h1] at h; exact .inl ⟨h1, h⟩
  · rw [if_neg h1] at h
    by_cases h2 : r < 2047 * 2 ^ 52
    · rw [if_pos h2] at h
      have e1 : (-1074 : Int) + ((r / 2 ^ 52 - 1 : Nat) : Int) = ((r / 2 ^ 52 : Nat) : Int) - 1075 := by omega
      rw [e1] at h
      exact .inr (.inl ⟨r / 2 ^ 52, r % 2 ^ 52, by omega, by omega, by omega, by omega, h⟩)
    · rw [if_neg h2] at h
      by_cases h3 : r = 2047 * 2 ^ 52
      · rw [if_pos h3] at h; exact .inr (.inr (.inl h))
      · rw [if_neg h3] at h; exact .inr (.inr (.inr ⟨_, h⟩))

def isGe (o : Option Ordering) : Bool := o == some .gt || o == some .eq
def isLe (o : Option Ordering) : Bool := o == some .lt || o == some .eq
/-- Is the word's number from -2^20 to 2^20? -/
def inR (w : Nat) : Bool := isGe (double.order w (enc (-1048576))) && isLe (double.order w (enc 1048576))
def truncI (w : Nat) : Int := ((double.read w).toInt .zero).getD 0
def ptB (w : Nat) : Bool := inR w && decide (enc (truncI w) = w)

theorem cut_div (neg : Bool) (n k : Nat) : Toward.zero.cut neg n k = n / 2 ^ k := by
  unfold Toward.cut
  simp only [shl_one, Bool.toNat_false, Nat.add_zero]
  by_cases h : k ≤ n.log2 + 2
  · rw [Nat.min_eq_left h]
  · rw [Nat.min_eq_right (by omega)]
    have h1 : n < 2 ^ (n.log2 + 1) := Nat.lt_log2_self
    have h2 : 2 ^ (n.log2 + 1) ≤ 2 ^ (n.log2 + 2) := Nat.pow_le_pow_right (by decide) (by omega)
    have h3 : 2 ^ (n.log2 + 1) ≤ 2 ^ k := Nat.pow_le_pow_right (by decide) (by omega)
    rw [Nat.div_eq_of_lt (by omega), Nat.div_eq_of_lt (by omega)]

theorem natAbs_signed (s : Bool) (m up : Nat) : (signed s m up).natAbs = m * 2 ^ up := by
  unfold signed; rw [Nat.shiftLeft_eq]
  cases s
  · exact Int.natAbs_natCast _
  · show (-((m * 2 ^ up : Nat) : Int)).natAbs = _
    rw [Int.natAbs_neg]; exact Int.natAbs_natCast _
theorem order_number (s t : Bool) (m n : Nat) (p q : Int) : (Datum.number s m p).order (.number t n q) = some (compare (signed s m (p - min p q).toNat) (signed t n (q - min p q).toNat)) := rfl
theorem isGe_compare (a b : Int) : isGe (some (compare a b)) = decide (b ≤ a) := by
  simp only [isGe, compare, compareOfLessAndEq]
  by_cases h1 : a < b
  · rw [if_pos h1, decide_eq_false (by omega)]; rfl
  · rw [if_neg h1]
    by_cases h2 : a = b
    · rw [if_pos h2, decide_eq_true (by omega)]; rfl
    · rw [if_neg h2, decide_eq_true (by omega)]; rfl
theorem isLe_compare (a b : Int) : isLe (some (compare a b)) = decide (a ≤ b) := by
  simp only [isLe, compare, compareOfLessAndEq]
  by_cases h1 : a < b
  · rw [if_pos h1, decide_eq_true (by omega)]; rfl
  · rw [if_neg h1]
    by_cases h2 : a = b
    · rw [if_pos h2, decide_eq_true (by omega)]; rfl
    · rw [if_neg h2, decide_eq_false (by omega)]; rfl
theorem read_lo : double.read (enc (-1048576)) = .number true (1048576 * 2 ^ 32) (-32) := by decide
theorem read_hi : double.read (enc 1048576) = .number false (1048576 * 2 ^ 32) (-32) := by decide

/-- What stands behind the range test: a number, below 2^-32 in its last place, and no more than 2^20. -/
theorem inR_number {w : Nat} (hw : w < 2 ^ 64) (h : inR w = true) : ∃ s m p, double.read w = .number s m p ∧ p ≤ -32 ∧ m ≤ 2 ^ 20 * 2 ^ (-p).toNat ∧
    ((m < 2 ^ 52 ∧ p = -1074 ∧ w = double.word s m) ∨ ∃ e f : Nat, 1 ≤ e ∧ f < 2 ^ 52 ∧ m = 2 ^ 52 + f ∧ p = (e : Int) - 1075 ∧ w = double.word s (e * 2 ^ 52 + f)) := by
  obtain ⟨s, r, hwd, hr, hc⟩ := read_cases w hw
  unfold inR at h
  rw [Bool.and_eq_true] at h
  obtain ⟨h1, h2⟩ := h
  unfold Format.order at h1 h2
  rw [read_lo] at h1
  rw [read_hi] at h2
  have key : ∀ m p, double.read w = .number s m p → m * 2 ^ (p - min p (-32)).toNat ≤ (1048576 * 2 ^ 32) * 2 ^ (-32 - min p (-32)).toNat := by
    intro m p hm
    rw [hm, order_number, isGe_compare] at h1
    rw [hm, order_number, isLe_compare] at h2
    have h3 := of_decide_eq_true h1
    have h4 := of_decide_eq_true h2
    have a1 := natAbs_signed s m (p - min p (-32)).toNat
    have a2 : signed true (1048576 * 2 ^ 32) (-32 - min p (-32)).toNat = -(((1048576 * 2 ^ 32) * 2 ^ (-32 - min p (-32)).toNat : Nat) : Int) := by unfold signed; rw [Nat.shiftLeft_eq]; rfl
    have a3 : signed false (1048576 * 2 ^ 32) (-32 - min p (-32)).toNat = (((1048576 * 2 ^ 32) * 2 ^ (-32 - min p (-32)).toNat : Nat) : Int) := by unfold signed; rw [Nat.shiftLeft_eq]; rfl
    rw [a2] at h3
    rw [a3] at h4
    generalize (1048576 * 2 ^ 32) * 2 ^ (-32 - min p (-32)).toNat = z at *
    omega
  have low : ∀ m p, double.read w = .number s m p → p ≤ -32 → m ≤ 2 ^ 20 * 2 ^ (-p).toNat := by
    intro m p hm hp
    have := key m p hm
    rw [Int.min_eq_left hp, show (p - p).toNat = 0 by omega, Nat.pow_zero, Nat.mul_one, Nat.mul_assoc, ← Nat.pow_add, show 32 + (-32 - p).toNat = (-p).toNat by omega] at this
    exact this
  rcases hc with ⟨hlt, hrd⟩ | ⟨e, f, he, he2, hf, hre, hrd⟩ | hrd | ⟨q, hrd⟩
  · exact ⟨s, r, -1074, hrd, by omega, low _ _ hrd (by omega), .inl ⟨hlt, rfl, hwd⟩⟩
  · have hp : (e : Int) - 1075 ≤ -32 := by
      by_cases hp : (e : Int) - 1075 ≤ -32
      · exact hp
      · exfalso
        have := key _ _ hrd
        rw [Int.min_eq_right (by omega), show (-32 - -32 : Int).toNat = 0 by decide, Nat.pow_zero, Nat.mul_one] at this
        have h5 : 2 ^ 1 ≤ 2 ^ ((e : Int) - 1075 - -32).toNat := Nat.pow_le_pow_right (by decide) (by omega)
        have h6 : (2 ^ 52 + f) * 2 ^ 1 ≤ (2 ^ 52 + f) * 2 ^ ((e : Int) - 1075 - -32).toNat := Nat.mul_le_mul_left _ h5
        omega
    exact ⟨s, _, _, hrd, hp, low _ _ hrd hp, .inr ⟨e, f, he, hf, rfl, rfl, by rw [hwd, hre]⟩⟩
  · exfalso
    rw [hrd] at h1 h2
    cases s
    · exact absurd h2 (by decide)
    · exact absurd h1 (by decide)
  · exfalso; rw [hrd] at h1; simp [Datum.order, isGe] at h1

theorem toInt_number (s : Bool) (m : Nat) (p : Int) (hp : p ≤ 0) : (Datum.number s m p).toInt .zero = some (signed s (m / 2 ^ (-p).toNat) 0) := by
  unfold Datum.toInt Datum.integral
  simp only [show p.toNat = 0 by omega, Nat.shiftLeft_zero, cut_div]
theorem trunc_number {w : Nat} {s : Bool} {m : Nat} {p : Int} (h : double.read w = .number s m p) (hp : p ≤ 0) : truncI w = signed s (m / 2 ^ (-p).toNat) 0 := by
  unfold truncI; rw [h, toInt_number s m p hp]; rfl
theorem trunc_le {w : Nat} (hw : w < 2 ^ 64) (h : inR w = true) : (truncI w).natAbs ≤ 2 ^ 20 ∧ (double.read w).toInt .zero = some (truncI w) := by
  obtain ⟨s, m, p, hr, hp, hm, _⟩ := inR_number hw h
  have := trunc_number hr (by omega)
  refine ⟨?_, by rw [hr, toInt_number s m p (by omega), this]⟩
  rw [this, natAbs_signed, Nat.pow_zero, Nat.mul_one]
  exact Nat.div_le_of_le_mul (by rw [Nat.mul_comm]; exact hm)

theorem val_trunc (s : Bool) (N : Nat) : Val (.number s N 0) (signed s N 0) := by
  refine ⟨s, N, 0, rfl, Int.le_refl _, by rw [natAbs_signed]; simp, fun h => ?_⟩
  unfold signed at *
  rw [Nat.shiftLeft_zero] at *
  cases s
  · simp at h ⊢
  · simp at h ⊢; omega

/-- The program's test: what is cut off is nothing, and it is not the other zero. -/
theorem whole_iff {w : Nat} (hw : w < 2 ^ 64) (h : inR w = true) :
    (double.order w (double.write ((double.read w).integral .zero)) == some .eq && (!(double.order w 0 == some .eq) || decide (w < 2 ^ 63))) = decide (enc (truncI w) = w) := by
  obtain ⟨s, m, p, hr, hp, hm, hc⟩ := inR_number hw h
  obtain ⟨hle, _⟩ := trunc_le hw h
  have ht := trunc_number hr (by omega)
  generalize hN : m / 2 ^ (-p).toNat = N at *
  generalize hZ : 2 ^ (-p).toNat = Z at *
  have hZp : 0 < Z := by rw [← hZ]; exact Nat.two_pow_pos _
  have hdiv : N * Z ≤ m := by rw [← hN]; exact Nat.div_mul_le_self _ _
  have hint : (double.read w).integral .zero = .number s N 0 := by
    rw [hr]; unfold Datum.integral
    simp only [show p.toNat = 0 by omega, Nat.shiftLeft_zero, cut_div, hZ, hN]
  have hv := val_trunc s N
  rw [← ht] at hv
  have hV := val_write hv (by omega)
  have hV2 := val_read hV (by omega)
  obtain ⟨t, n, q, hrd, hq, hn, hts⟩ := hV2
  have hNa : (truncI w).natAbs = N := by rw [ht, natAbs_signed]; simp
  have ho : (double.order w (double.write ((double.read w).integral .zero)) == some .eq) = decide (m = N * Z) := by
    rw [hint]
    unfold Format.order
    rw [hrd, hr, order_number, hn, signed_val hts]
    have b1 : signed s m (p - min p q).toNat = (if s then -1 else 1) * ((m * 2 ^ (p - min p q).toNat : Nat) : Int) := by
      unfold signed; rw [Nat.shiftLeft_eq]; cases s <;> simp
    have b2 : truncI w * ((2 ^ (-q).toNat * 2 ^ (q - min p q).toNat : Nat) : Int) = (if s then -1 else 1) * ((N * Z * 2 ^ (p - min p q).toNat : Nat) : Int) := by
      rw [two_up hq (Int.min_le_right p q), ht, Nat.mul_assoc, ← hZ, two_up (by omega) (Int.min_le_left p q)]
      unfold signed; rw [Nat.shiftLeft_zero]
      cases s <;> simp [Int.natCast_mul, Int.neg_mul]
    rw [b1, b2]
    have hpos : 0 < 2 ^ (p - min p q).toNat := Nat.two_pow_pos _
    generalize 2 ^ (p - min p q).toNat = y at *
    by_cases hmn : m = N * Z
    · rw [decide_eq_true hmn, ← hmn]; simp [compare, compareOfLessAndEq]
    · rw [decide_eq_false hmn]
      have hlt : N * Z * y < m * y := Nat.mul_lt_mul_of_pos_right (by omega) hpos
      simp only [compare, compareOfLessAndEq]
      cases s
      · simp only [Bool.false_eq_true, if_false, Int.one_mul]
        rw [if_neg (by omega), if_neg (by omega)]; rfl
      · simp only [if_true]
        rw [if_pos (by omega)]; rfl
  have hz : (double.order w 0 == some .eq) = decide (m = 0) := by
    unfold Format.order
    have r0 : double.read 0 = .number false 0 (-1074) := read_zero false
    rw [r0, hr, order_number]
    have b1 : signed s m (p - min p (-1074)).toNat = (if s then -1 else 1) * ((m * 2 ^ (p - min p (-1074)).toNat : Nat) : Int) := by
      unfold signed; rw [Nat.shiftLeft_eq]; cases s <;> simp
    have b2 : signed false 0 (-1074 - min p (-1074)).toNat = 0 := by unfold signed; rw [Nat.shiftLeft_eq, Nat.zero_mul]; rfl
    rw [b1, b2]
    have hpos : 0 < 2 ^ (p - min p (-1074)).toNat := Nat.two_pow_pos _
    generalize 2 ^ (p - min p (-1074)).toNat = y at *
    by_cases h0 : m = 0
    · subst h0; simp [compare, compareOfLessAndEq]
    · rw [decide_eq_false h0]
      have := Nat.mul_pos (Nat.pos_of_ne_zero h0) hpos
      simp only [compare, compareOfLessAndEq]
      cases s
      · simp only [Bool.false_eq_true, if_false, Int.one_mul]
        rw [if_neg (by omega), if_neg (by omega)]; rfl
      · simp only [if_true]
        rw [if_pos (by omega)]; rfl
  rw [ho, hz]
  by_cases hmn : m = N * Z
  · rw [decide_eq_true hmn, Bool.true_and]
    by_cases h0 : m = 0
    · -- a zero
      have hN0 : N = 0 := by
        rcases Nat.eq_zero_or_pos N with h' | h'
        · exact h'
        · have := Nat.mul_pos h' hZp; omega
      have hA : truncI w = 0 := by omega
      rw [decide_eq_true h0, hA, enc_zero]
      simp only [Bool.not_true, Bool.false_or]
      have hw0 : w = double.word s 0 := by
        rcases hc with ⟨_, _, hwd⟩ | ⟨e, f, _, _, hmf, _⟩
        · rw [hwd, h0]
        · omega
      cases s
      · have : w = 0 := hw0
        subst this; rfl
      · have : w = 2 ^ 63 := hw0
        subst this; decide
    · rw [decide_eq_false h0]
      simp only [Bool.not_false, Bool.true_or]
      have hNpos : 0 < N := by
        rcases Nat.eq_zero_or_pos N with h' | h'
        · rw [h', Nat.zero_mul] at hmn; omega
        · exact h'
      have hA : truncI w ≠ 0 := by omega
      symm
      apply decide_eq_true
      have hsA : s = decide (truncI w < 0) := by
        rw [ht]; unfold signed; rw [Nat.shiftLeft_zero]
        cases s <;> simp <;> omega
      unfold enc
      rw [if_neg hA, ← hsA, hNa]
      rcases hc with ⟨hlt, hp1, hwd⟩ | ⟨e, f, he, hf, hmf, hpe, hwd⟩
      · exfalso
        have h7 : 2 ^ 52 ≤ Z := by rw [← hZ]; exact Nat.pow_le_pow_right (by decide) (by omega)
        have h8 : Z ≤ N * Z := Nat.le_mul_of_pos_left _ hNpos
        omega
      · -- the rung
        have hk : N.log2 = 52 - (-p).toNat ∧ (-p).toNat ≤ 52 := by
          have l1 := log2_mul N (-p).toNat hNpos
          rw [hZ, ← hmn, hmf] at l1
          have l2 : (2 ^ 52 + f).log2 = 52 := by
            apply Nat.le_antisymm
            · have := (Nat.log2_lt (n := 2 ^ 52 + f) (k := 53) (by omega)).2 (by omega); omega
            · exact (Nat.le_log2 (by omega)).2 (by omega)
          omega
        have hrung : rung N = e * 2 ^ 52 + f := by
          unfold rung
          rw [hk.1, show 52 - (52 - (-p).toNat) = (-p).toNat by omega, hZ, ← hmn, hmf]
          omega
        rw [hwd, hrung]
  · rw [decide_eq_false hmn, Bool.false_and]
    symm
    apply decide_eq_false
    intro he
    apply hmn
    have h9 := val_read (w := w) (a := truncI w) (.inl he.symm) (by omega)
    obtain ⟨s', m', p', hr', hp', hm', _⟩ := h9
    rw [hr] at hr'
    injection hr' with e1 e2 e3
    subst e1 e2 e3
    rw [hm', hNa, hZ]
end Go.Proofs.YtmfdhcgdibefiaaW.Flt

/- plane: what the small functions hand back: whole, point, Coords, Point. -/
namespace Go.Proofs.Ytmfdhcgdibefiaa.Pl
open Go.RowKit Go.Proofs.YtmfdhcgdibefiaaW.PrintWords Go.Proofs.YtmfdhcgdibefiaaW.Lib Go.Proofs.YtmfdhcgdibefiaaW.Flt
set_option linter.unusedVariables false

theorem run_bits (b : Nat) (w : World) : (callFunc 110 #[.float .f64 b]).run Try.prog w = .ok (.value (.int .u64 b)) w := by
  rw [run_callFunc_extern Try.func110 (by kernel_rfl) (by kernel_rfl) (by kernel_rfl) (e := Extern.MathFloatBits.float64bits) (by kernel_rfl)]
  rfl
theorem run_frombits (n : Int) (w : World) : (callFunc 155 #[.int .u64 n]).run Try.prog w = .ok (.value (.float .f64 n.toNat)) w := by
  rw [run_callFunc_extern Try.func155 (by kernel_rfl) (by kernel_rfl) (by kernel_rfl) (e := Extern.MathFloatBits.float64frombits) (by kernel_rfl)]
  rfl
theorem ti (n : String) (b : Nat) (s : Bool) (m : Nat) (p : Int) (h : Ieee.double.read b = .number s m p) :
    Extern.MathFloor.toIntegral n .zero #[.float .f64 b] = pure (.float .f64 (FloatKind.f64.encode ((FloatKind.f64.decode b).integral .zero))) := by
  have h' : FloatKind.f64.decode b = .number s m p := h
  delta Extern.MathFloor.toIntegral Extern.MathFloor.toIntegral.match_2
  revert h'
  clear h
  generalize FloatKind.decode = D
  generalize FloatKind.encode = E
  intro h'
  show (Extern.MathFloor.toIntegral.match_1 (motive := fun _ => Sem Value) (D .f64 b) _ _) = _
  rw [h']
theorem run_archTrunc (b : Nat) (s : Bool) (m : Nat) (p : Int) (h : Ieee.double.read b = .number s m p) (w : World) :
    (callFunc 183 #[.float .f64 b]).run Try.prog w = .ok (.value (.float .f64 (Ieee.double.write ((Ieee.double.read b).integral .zero)))) w := by
  rw [run_callFunc_extern Try.func183 (by kernel_rfl) (by kernel_rfl) (by kernel_rfl) (e := Extern.MathFloor.toIntegral "math.archTrunc" .zero) (by kernel_rfl), ti _ b s m p h]
  rfl

theorem trunc_calls (b : Nat) (s : Bool) (m : Nat) (p : Int) (h : Ieee.double.read b = .number s m p) (w : World) :
    Calls Try.prog 176 #[.float .f64 b] w fun e w' => e = .returned (.float .f64 (Ieee.double.write ((Ieee.double.read b).integral .zero))) ∧ w' = w := by
  have q := run_archTrunc b s m p h
  generalize Ieee.double.write ((Ieee.double.read b).integral .zero) = t at *
  clear h
  go_enter Try.func176, Try.ntmps176
  go_wp2
  go_ret
  exact ⟨rfl, rfl⟩
theorem signbit_calls (b : Nat) (hb : b < 2 ^ 64) (w : World) : Calls Try.prog 177 #[.float .f64 b] w fun e w' => e = .returned (.bool (!decide (b < 2 ^ 63))) ∧ w' = w := by
  have q := run_bits
  go_enter Try.func177, Try.ntmps177
  go_wp2
  go_ret
  refine ⟨?_, rfl⟩
  show Ending.returned (.bool (decide (wrap64 (b : Int) < 0))) = _
  have : decide (wrap64 (b : Int) < 0) = !decide (b < 2 ^ 63) := by
    unfold wrap64
    by_cases h : b < 2 ^ 63
    · rw [decide_eq_true h]; exact decide_eq_false (by omega)
    · rw [decide_eq_false h]; exact decide_eq_true (by omega)
  rw [this]

theorem enc_lo : enc (-1048576) = 13920626448202203136 := by decide
theorem enc_hi : enc 1048576 = 4697254411347427328 := by decide
theorem whole_calls (b : Nat) (hb : b < 2 ^ 64) (w : World) : Calls Try.prog 154 #[.float .f64 b] w fun e w' => e = .returned (.bool (ptB b)) ∧ w' = w := by
  obtain ⟨o1, h1⟩ : ∃ o, FloatKind.f64.format.order b 13920626448202203136 = o := ⟨_, rfl⟩
  obtain ⟨o2, h2⟩ : ∃ o, FloatKind.f64.format.order b 4697254411347427328 = o := ⟨_, rfl⟩
  have hI : inR b = (isGe o1 && isLe o2) := by unfold inR; rw [enc_lo, enc_hi, ← h1, ← h2]; rfl
  by_cases hR : inR b = true
  · obtain ⟨s, m, p, hr, _⟩ := inR_number hb hR
    have qt := trunc_calls b s m p hr
    have qs := signbit_calls b hb
    have hw := whole_iff hb hR
    obtain ⟨o3, h3⟩ : ∃ o, FloatKind.f64.format.order b (Ieee.double.write ((Ieee.double.read b).integral .zero)) = o := ⟨_, rfl⟩
    obtain ⟨o4, h4⟩ : ∃ o, FloatKind.f64.format.order b 0 = o := ⟨_, rfl⟩
    have hP : ptB b = (o3 == some .eq && (!(o4 == some .eq) || decide (b < 2 ^ 63))) := by
      unfold ptB; rw [hR, Bool.true_and, ← hw, ← h3, ← h4]; rfl
    generalize Ieee.double.write ((Ieee.double.read b).integral .zero) = t at *
    generalize ptB b = P at *
    rw [hR] at hI
    obtain ⟨g1, g2⟩ : (o1 == some .gt || o1 == some .eq) = true ∧ (o2 == some .lt || o2 == some .eq) = true := (Bool.and_eq_true _ _ ▸ hI.symm : isGe o1 = true ∧ isLe o2 = true)
    generalize decide (b < 2 ^ 63) = sb at *
    clear hw hr hI hR
    subst hP
    clear hb
    go_enter Try.func154, Try.ntmps154
    go_wp2_with (first
      | (go_at_call 176; refine (qt _).mono ?_; rintro e w' ⟨rfl, rfl⟩)
      | (go_at_call 177; refine (qs _).mono ?_; rintro e w' ⟨rfl, rfl⟩))
    all_goals clear qt qs h1 h2 h3 h4
    all_goals (go_ret; refine ⟨congrArg (fun x => Ending.returned (.bool x)) ?_, rfl⟩)
    all_goals (first | simp_all; done | trace_state)
  · have hP : ptB b = false := by unfold ptB; rw [Bool.eq_false_iff.2 hR]; rfl
    have hg : ¬ ((o1 = some .gt ∨ o1 = some .eq) ∧ (o2 = some .lt ∨ o2 = some .eq)) := by
      rintro ⟨a1, a2⟩
      apply hR
      rw [hI]
      rcases a1 with rfl | rfl <;> rcases a2 with rfl | rfl <;> rfl
    have hv : (isGe o1 && isLe o2) = false := by rw [← hI]; exact Bool.eq_false_iff.2 hR
    generalize ptB b = P at *
    subst hP
    clear hI hR hb
    go_enter Try.func154, Try.ntmps154
    go_wp2_with (go_at_call 176; exact absurd ⟨by assumption, by assumption⟩ hg)
    all_goals (go_ret; refine ⟨congrArg (fun x => Ending.returned (.bool x)) ?_, rfl⟩)
    all_goals (first | rfl | exact hv | trace_state)
end Go.Proofs.Ytmfdhcgdibefiaa.Pl

/- Sums, differences, products of words that stand for whole numbers; and the walk's laws for complex values. -/
namespace Go.Proofs.YtmfdhcgdibefiaaW.Flt
open Ieee Go.RowKit
set_option linter.unusedVariables false

theorem v_add {x y : Nat} {a b : Int} (hx : V x a) (hy : V y b) (ha : a.natAbs < 2 ^ 52) (hb : b.natAbs < 2 ^ 52) (hs : (a + b).natAbs < 2 ^ 52) : ∃ r, double.add x y = some r ∧ V r (a + b) := by
  obtain ⟨f, h1, h2⟩ := val_sum (val_read hx ha) (val_read hy hb)
  exact ⟨_, by unfold Format.add; rw [h1]; rfl, val_write h2 hs⟩
theorem v_sub {x y : Nat} {a b : Int} (hx : V x a) (hy : V y b) (ha : a.natAbs < 2 ^ 52) (hb : b.natAbs < 2 ^ 52) (hs : (a - b).natAbs < 2 ^ 52) : ∃ r, double.sub x y = some r ∧ V r (a - b) := by
  obtain ⟨f, h1, h2⟩ := val_sum (val_read hx ha) (val_opp (val_read hy hb))
  exact ⟨_, by unfold Format.sub; rw [h1]; rfl, val_write h2 hs⟩
theorem v_mul {x y : Nat} {a b : Int} (hx : V x a) (hy : V y b) (ha : a.natAbs < 2 ^ 52) (hb : b.natAbs < 2 ^ 52) (hs : (a * b).natAbs < 2 ^ 52) : ∃ r, double.mul x y = some r ∧ V r (a * b) := by
  obtain ⟨f, h1, h2⟩ := val_prod (val_read hx ha) (val_read hy hb)
  exact ⟨_, by unfold Format.mul; rw [h1]; rfl, val_write h2 hs⟩
theorem clean0 : double.add 0 0 = some 0 := by decide
theorem clean1 : double.add (double.word true 0) 0 = some 0 := by decide
theorem v_clean {x : Nat} {a : Int} (hx : V x a) (ha : a.natAbs < 2 ^ 52) : double.add x 0 = some (enc a) := by
  by_cases h : a = 0
  · subst h
    rcases hx with rfl | ⟨_, rfl⟩
    · exact clean0
    · exact clean1
  · obtain ⟨r, h1, h2⟩ := v_add hx (.inl rfl : V 0 0) ha (by decide) (by rw [Int.add_zero]; exact ha)
    rw [Int.add_zero] at h2
    rcases h2 with rfl | ⟨h3, _⟩
    · exact h1
    · exact absurd h3 h
theorem enc_one : enc 1 = 4607182418800017408 := by decide
theorem enc_lt (a : Int) (ha : a.natAbs < 2 ^ 52) : enc a < 2 ^ 64 := by
  rw [← nearest_enc a ha]
  exact double.write_lt (.number (decide (a < 0)) a.natAbs 0)
theorem truncI_V {x : Nat} {a : Int} (hx : V x a) (ha : a.natAbs < 2 ^ 52) : truncI x = a := by
  unfold truncI; rw [val_toInt (val_read hx ha)]; rfl
/-- From -2^20 to 2^20. -/
def okI (x : Int) : Bool := decide (-1048576 ≤ x) && decide (x ≤ 1048576)
theorem inR_V {x : Nat} {a : Int} (hx : V x a) (ha : a.natAbs < 2 ^ 52) : inR x = okI a := by
  have h := val_read hx ha
  have l : Val (double.read (enc (-1048576))) (-1048576) := val_read (.inl rfl) (by decide)
  have g : Val (double.read (enc 1048576)) 1048576 := val_read (.inl rfl) (by decide)
  unfold inR okI Format.order
  rw [val_order h l, val_order h g, isGe_compare, isLe_compare]
theorem ptB_enc (a : Int) (ha : a.natAbs < 2 ^ 52) : ptB (enc a) = okI a := by
  unfold ptB
  rw [inR_V (.inl rfl) ha, truncI_V (.inl rfl) ha]
  simp
theorem okI_abs {a : Int} (h : okI a = true) : a.natAbs ≤ 1048576 := by
  unfold okI at h; rw [Bool.and_eq_true] at h
  have h1 := of_decide_eq_true h.1
  have h2 := of_decide_eq_true h.2
  omega
/-- What a point's part is. -/
theorem ptB_out {x : Nat} (hx : x < 2 ^ 64) (h : ptB x = true) : x = enc (truncI x) ∧ (truncI x).natAbs ≤ 1048576 ∧ okI (truncI x) = true := by
  unfold ptB at h; rw [Bool.and_eq_true] at h
  have h1 := (trunc_le hx h.1).1
  refine ⟨(of_decide_eq_true h.2).symm, h1, ?_⟩
  unfold okI
  rw [decide_eq_true (by omega), decide_eq_true (by omega)]; rfl

/-! What arithmetic gives, and the world behind it. -/
def ar (op : BinOp) (x y : Nat) (w : World) : Nat := match floatBits op .f64 x y with | some r => r | none => (Question.nanBits .f64 x y).cut (w.tape w.drawn (.nanBits .f64 x y))
def aw (op : BinOp) (x y : Nat) (w : World) : World := if (floatBits op .f64 x y).isSome then w else w.drew
theorem ar_some {op : BinOp} {x y r : Nat} {w : World} (h : floatBits op .f64 x y = some r) : ar op x y w = r := by unfold ar; rw [h]
theorem aw_some {op : BinOp} {x y r : Nat} {w : World} (h : floatBits op .f64 x y = some r) : aw op x y w = w := by unfold aw; rw [h]; rfl
theorem aw_below {B : Nat} {a w : World} {op : BinOp} {x y : Nat} (h : Below B a w) : Below B a (aw op x y w) := by
  unfold aw; split
  · exact h
  · exact h.drew
theorem run_fadd (P : Program) (x y : Nat) (w : World) : (Op.floatArith .add .f64 x y).run P w = .ok (.float .f64 (ar .add x y w)) (aw .add x y w) := by
  unfold Op.floatArith ar aw floatBits
  cases h : FloatKind.f64.format.add x y <;> simp [Question.forced]
theorem run_fsub (P : Program) (x y : Nat) (w : World) : (Op.floatArith .sub .f64 x y).run P w = .ok (.float .f64 (ar .sub x y w)) (aw .sub x y w) := by
  unfold Op.floatArith ar aw floatBits
  cases h : FloatKind.f64.format.sub x y <;> simp [Question.forced]
theorem run_fmul (P : Program) (x y : Nat) (w : World) : (Op.floatArith .mul .f64 x y).run P w = .ok (.float .f64 (ar .mul x y w)) (aw .mul x y w) := by
  unfold Op.floatArith ar aw floatBits
  cases h : FloatKind.f64.format.mul x y <;> simp [Question.forced]
@[simp high, go_sem high] theorem run_add (P : Program) (t : TypeId) (x y : Nat) (w : World) : (binOp .add t (.float .f64 x) (.float .f64 y)).run P w = .ok (.float .f64 (ar .add x y w)) (aw .add x y w) := by
  unfold binOp
  simp [run_fadd]
theorem run_arith (P : Program) (op : BinOp) (x y : Nat) (w : World) (h : (Op.floatArith op .f64 x y).run P w = .ok (.float .f64 (ar op x y w)) (aw op x y w)) : (Op.Complex.arith op .f64 x y).run P w = .ok (ar op x y w) (aw op x y w) := by
  unfold Op.Complex.arith
  simp [h]
theorem run_cadd (P : Program) (t : TypeId) (a b c d : Nat) (w : World) : (binOp .add t (.complex .f64 a b) (.complex .f64 c d)).run P w =
    .ok (.complex .f64 (ar .add a c w) (ar .add b d (aw .add a c w))) (aw .add b d (aw .add a c w)) := by
  unfold binOp
  simp [Op.complexOp, run_arith P .add _ _ _ (run_fadd P _ _ _)]
theorem run_cmul (P : Program) (t : TypeId) (a b c d p q r s e f : Nat) (w : World) (h1 : floatBits .mul .f64 a c = some p) (h2 : floatBits .mul .f64 b d = some q) (h3 : floatBits .mul .f64 a d = some r) (h4 : floatBits .mul .f64 b c = some s)
    (h5 : floatBits .sub .f64 p q = some e) (h6 : floatBits .add .f64 r s = some f) : (binOp .mul t (.complex .f64 a b) (.complex .f64 c d)).run P w = .ok (.complex .f64 e f) w := by
  unfold binOp
  simp [Op.complexOp, Op.Complex.conv, Op.Complex.product, Op.Complex.mul, Op.Complex.sub, Op.Complex.add, run_arith P .add _ _ _ (run_fadd P _ _ _), run_arith P .sub _ _ _ (run_fsub P _ _ _), run_arith P .mul _ _ _ (run_fmul P _ _ _),
    ar_some h1, aw_some h1, ar_some h2, aw_some h2, ar_some h3, aw_some h3, ar_some h4, aw_some h4, ar_some h5, aw_some h5, ar_some h6, aw_some h6]
/-- Of points: the turn. -/
theorem run_turn (P : Program) (t : TypeId) (x y : Int) (hx : x.natAbs ≤ 1048576) (hy : y.natAbs ≤ 1048576) : ∃ e f, V e (-y) ∧ V f x ∧ ∀ w, (binOp .mul t (.complex .f64 (enc x) (enc y)) (.complex .f64 0 4607182418800017408)).run P w = .ok (.complex .f64 e f) w := by
  have i1 : V 4607182418800017408 1 := .inl enc_one.symm
  have i0 : V 0 0 := .inl rfl
  have ex : V (enc x) x := .inl rfl
  have ey : V (enc y) y := .inl rfl
  obtain ⟨p, h1, v1⟩ := v_mul ex i0 (by omega) (by decide) (by rw [Int.mul_zero]; decide)
  obtain ⟨q, h2, v2⟩ := v_mul ey i1 (by omega) (by decide) (by rw [Int.mul_one]; omega)
  obtain ⟨r, h3, v3⟩ := v_mul ex i1 (by omega) (by decide) (by rw [Int.mul_one]; omega)
  obtain ⟨s, h4, v4⟩ := v_mul ey i0 (by omega) (by decide) (by rw [Int.mul_zero]; decide)
  rw [Int.mul_zero] at v1 v4
  rw [Int.mul_one] at v2 v3
  obtain ⟨e, h5, v5⟩ := v_sub v1 v2 (by decide) (by omega) (by omega)
  obtain ⟨f, h6, v6⟩ := v_add v3 v4 (by omega) (by decide) (by omega)
  rw [Int.zero_sub] at v5
  rw [Int.add_zero] at v6
  exact ⟨e, f, v5, v6, fun w => run_cmul P t _ _ _ _ p q r s e f w h1 h2 h3 h4 h5 h6⟩
end Go.Proofs.YtmfdhcgdibefiaaW.Flt

/- plane: what the small functions hand back: point, clean, Coords, Point. -/
namespace Go.Proofs.Ytmfdhcgdibefiaa.Pl
open Go.RowKit Go.Proofs.YtmfdhcgdibefiaaW.PrintWords Go.Proofs.YtmfdhcgdibefiaaW.Lib Go.Proofs.YtmfdhcgdibefiaaW.Flt
set_option linter.unusedVariables false

@[simp, go_sem] theorem run_real (P : Program) (ts : Array TypeId) (t : TypeId) (a b : Nat) (w : World) : (Builtin.real_ ts t #[.complex .f64 a b]).run P w = .ok (.float .f64 a) w := rfl
@[simp, go_sem] theorem run_imag (P : Program) (ts : Array TypeId) (t : TypeId) (a b : Nat) (w : World) : (Builtin.imag_ ts t #[.complex .f64 a b]).run P w = .ok (.float .f64 b) w := rfl
@[simp, go_sem] theorem run_complex (P : Program) (ts : Array TypeId) (t : TypeId) (a b : Nat) (w : World) : (Builtin.complex_ ts t #[.float .f64 a, .float .f64 b]).run P w = .ok (.complex .f64 a b) w := rfl
theorem point_calls (a b : Nat) (ha : a < 2 ^ 64) (hb : b < 2 ^ 64) (w : World) : Calls Try.prog 112 #[.complex .f64 a b] w fun e w' => e = .returned (.bool (ptB a && ptB b)) ∧ w' = w := by
  obtain ⟨p, hp⟩ : ∃ p, ptB a = p := ⟨_, rfl⟩
  obtain ⟨q, hq⟩ : ∃ p, ptB b = p := ⟨_, rfl⟩
  have q1 := whole_calls a ha
  have q2 := whole_calls b hb
  rw [hp] at q1
  rw [hq] at q2
  rw [hp, hq]
  have Q1 := Aside0.mk q1
  have Q2 := Aside0.mk q2
  clear ha hb hp hq q1 q2
  go_enter Try.func112, Try.ntmps112
  cases p
  · go_wp2_with (go_at_call 154; refine (Q1.out _).mono ?_; rintro e w' ⟨rfl, rfl⟩)
    go_ret
    exact ⟨rfl, rfl⟩
  · go_wp2_with (go_at_call 154; (first | with_reducible refine (Q1.out _).mono ?_ | with_reducible refine (Q2.out _).mono ?_); rintro e w' ⟨rfl, rfl⟩)
    all_goals (go_ret; refine ⟨?_, rfl⟩)
    all_goals (first | rfl | simp_all; done | trace_state)
theorem clean_calls (a b : Nat) (w : World) : Calls Try.prog 113 #[.complex .f64 a b] w fun e w' => e = .returned (.complex .f64 (ar .add a 0 w) (ar .add b 0 (aw .add a 0 w))) ∧ w' = aw .add b 0 (aw .add a 0 w) := by
  go_enter Try.func113, Try.ntmps113
  go_wp2_with fail
  go_ret
  exact ⟨rfl, rfl⟩

def pointV (x y : Int) : Nat × Nat × Bool := if okI x && okI y then (enc x, enc y, true) else (0, 0, false)
def coordsV (a b : Nat) : Int × Int × Bool := if ptB a && ptB b then (truncI a, truncI b, true) else (0, 0, false)
theorem f2i {t : TypeId} (a : Nat) (ha : a < 2 ^ 64) (h : ptB a = true) : floatToIntVal .f64 a .i64 = some (truncI a) := by
  obtain ⟨h1, h2, _⟩ := ptB_out ha h
  unfold ptB at h; rw [Bool.and_eq_true] at h
  have := (trunc_le ha h.1).2
  unfold floatToIntVal
  rw [show FloatKind.f64.decode a = Ieee.double.read a from rfl, this]
  show (if (-(2 ^ 63) : Int) ≤ truncI a ∧ truncI a ≤ 2 ^ 63 - 1 then some (truncI a) else none) = _
  rw [if_pos (by omega)]
theorem Coords_calls (a b : Nat) (ha : a < 2 ^ 64) (hb : b < 2 ^ 64) (w : World) : Calls Try.prog 61 #[.complex .f64 a b] w fun e w' => e = .returned (.tuple #[.int .i64 (coordsV a b).1, .int .i64 (coordsV a b).2.1, .bool (coordsV a b).2.2]) ∧ w' = w := by
  have q0 := point_calls a b ha hb
  cases h : ptB a && ptB b
  · have e0 : coordsV a b = (0, 0, false) := by unfold coordsV; rw [h]; rfl
    rw [e0]
    rw [h] at q0
    clear ha hb h e0
    have Q := Aside0.mk q0
    clear q0
    go_enter Try.func61, Try.ntmps61
    go_wp2_with (go_at_call 112; refine (Q.out _).mono ?_; rintro e w' ⟨rfl, rfl⟩)
    all_goals (first | (go_ret; exact ⟨rfl, rfl⟩) | (go_ret2; exact ⟨rfl, rfl⟩) | (go_ret3; exact ⟨rfl, rfl⟩) | trace_state)
  · have e0 : coordsV a b = (truncI a, truncI b, true) := by unfold coordsV; rw [h]; rfl
    have hh := (Bool.and_eq_true _ _ ▸ h : ptB a = true ∧ ptB b = true)
    have c1 := fun w => run_convert_float_int (P := Try.prog) w 140 3 .f64 .i64 a _ (by kernel_rfl) (by kernel_rfl) (f2i (t := 3) a ha hh.1)
    have c2 := fun w => run_convert_float_int (P := Try.prog) w 140 3 .f64 .i64 b _ (by kernel_rfl) (by kernel_rfl) (f2i (t := 3) b hb hh.2)
    rw [e0]
    rw [h] at q0
    clear ha hb h e0 hh
    have Q := Aside0.mk q0
    clear q0
    go_enter Try.func61, Try.ntmps61
    go_wp2_with (go_at_call 112; refine (Q.out _).mono ?_; rintro e w' ⟨rfl, rfl⟩)
    all_goals (first | (go_ret2; exact ⟨rfl, rfl⟩) | (go_ret; exact ⟨rfl, rfl⟩) | (go_ret2; exact ⟨rfl, rfl⟩) | (go_ret3; exact ⟨rfl, rfl⟩) | trace_state)
theorem Point_calls (x y : Int) (w : World) : Calls Try.prog 56 #[.int .i64 x, .int .i64 y] w fun e w' => e = .returned (.tuple #[.complex .f64 (pointV x y).1 (pointV x y).2.1, .bool (pointV x y).2.2]) ∧ w' = w := by
  cases h : okI x && okI y
  · have e0 : pointV x y = (0, 0, false) := by unfold pointV; rw [h]; rfl
    rw [e0]
    have hn : ¬ (max x y ≤ 1048576 ∧ -1048576 ≤ min x y) := by
      intro hc
      unfold okI at h
      rw [decide_eq_true (by omega), decide_eq_true (by omega), decide_eq_true (by omega), decide_eq_true (by omega)] at h
      cases h
    clear e0 h
    go_enter Try.func56, Try.ntmps56
    go_wp2_with fail
    all_goals (first | (go_ret; exact ⟨rfl, rfl⟩) | (go_ret2; exact ⟨rfl, rfl⟩) | (go_ret3; exact ⟨rfl, rfl⟩) | trace_state)
  · have e0 : pointV x y = (enc x, enc y, true) := by unfold pointV; rw [h]; rfl
    have hh := (Bool.and_eq_true _ _ ▸ h : okI x = true ∧ okI y = true)
    have hx := okI_abs hh.1
    have hy := okI_abs hh.2
    have c1 : floatOfInt .f64 x = enc x := nearest_enc x (by omega)
    have c2 : floatOfInt .f64 y = enc y := nearest_enc y (by omega)
    have m1 : max x y ≤ 1048576 := by omega
    have m2 : -1048576 ≤ min x y := by omega
    rw [e0]
    clear h e0 hh hx hy
    go_enter Try.func56, Try.ntmps56
    go_wp2_with fail
    all_goals (first | (go_ret; exact ⟨rfl, rfl⟩) | (go_ret2; exact ⟨rfl, rfl⟩) | (go_ret3; exact ⟨rfl, rfl⟩) | trace_state)
end Go.Proofs.Ytmfdhcgdibefiaa.Pl

/- plane: Move, Turn. -/
namespace Go.Proofs.Ytmfdhcgdibefiaa.Pl
open Go.RowKit Go.Proofs.YtmfdhcgdibefiaaW.PrintWords Go.Proofs.YtmfdhcgdibefiaaW.Lib Go.Proofs.YtmfdhcgdibefiaaW.Flt
set_option linter.unusedVariables false

def moveV (a b c d : Nat) : Nat × Nat × Bool := if ptB a && ptB b && (ptB c && ptB d) then pointV (truncI a + truncI c) (truncI b + truncI d) else (0, 0, false)
theorem cleanV_calls (a b : Nat) (x y : Int) (hx : V a x) (hy : V b y) (bx : x.natAbs < 2 ^ 52) (by' : y.natAbs < 2 ^ 52) (w : World) :
    Calls Try.prog 113 #[.complex .f64 a b] w fun e w' => e = .returned (.complex .f64 (enc x) (enc y)) ∧ w' = w := by
  have h1 : floatBits .add .f64 a 0 = some (enc x) := v_clean hx bx
  have h2 : floatBits .add .f64 b 0 = some (enc y) := v_clean hy by'
  refine (clean_calls a b w).mono ?_
  rintro e w' ⟨rfl, rfl⟩
  rw [aw_some h1, aw_some h2, ar_some h1, ar_some h2]
  exact ⟨rfl, rfl⟩
theorem Move_calls (a b c d : Nat) (ha : a < 2 ^ 64) (hb : b < 2 ^ 64) (hc : c < 2 ^ 64) (hd : d < 2 ^ 64) (w : World) :
    Calls Try.prog 64 #[.complex .f64 a b, .complex .f64 c d] w fun e w' => e = .returned (.tuple #[.complex .f64 (moveV a b c d).1 (moveV a b c d).2.1, .bool (moveV a b c d).2.2]) ∧ ∀ B, Below B w w' := by
  have q1 := point_calls a b ha hb
  have q2 := point_calls c d hc hd
  cases h1 : ptB a && ptB b
  · have e0 : moveV a b c d = (0, 0, false) := by unfold moveV; rw [h1]; rfl
    rw [e0]
    rw [h1] at q1
    clear e0 q2 h1 ha hb hc hd
    have Q1 := Aside0.mk q1
    clear q1
    obtain ⟨W, hW⟩ : ∃ W, w = W := ⟨_, rfl⟩
    have HB : Aside0 (∀ B, Below B W w) := ⟨fun B => hW ▸ Below.refl B w⟩
    have e1 : ∀ e w', (e = Ending.returned (.tuple #[.complex .f64 0 0, .bool false]) ∧ ∀ B, Below B W w') → (e = Ending.returned (.tuple #[.complex .f64 0 0, .bool false]) ∧ ∀ B, Below B w w') := by subst hW; exact fun _ _ h => h
    refine Calls.mono ?_ e1
    clear e1 hW
    have ca := run_cadd Try.prog
    go_enter Try.func64, Try.ntmps64
    go_wp2_with (first
      | (go_at_call 113; refine (clean_calls _ _ _).mono ?_; rintro e w' ⟨rfl, rfl⟩)
      | (go_at_call 112; refine (Q1.out _).mono ?_; rintro e w' ⟨rfl, rfl⟩))
    all_goals (first | (go_ret2; refine ⟨rfl, fun B => ?_⟩; (repeat (refine aw_below ?_)); exact HB.out B) | trace_state)
  · cases h2 : ptB c && ptB d
    · have e0 : moveV a b c d = (0, 0, false) := by unfold moveV; rw [h1, h2]; rfl
      rw [e0]
      rw [h1] at q1
      rw [h2] at q2
      clear e0 h1 h2 ha hb hc hd
      have Q1 := Aside0.mk q1
      have Q2 := Aside0.mk q2
      clear q1 q2
      obtain ⟨W, hW⟩ : ∃ W, w = W := ⟨_, rfl⟩
      have HB : Aside0 (∀ B, Below B W w) := ⟨fun B => hW ▸ Below.refl B w⟩
      have e1 : ∀ e w', (e = Ending.returned (.tuple #[.complex .f64 0 0, .bool false]) ∧ ∀ B, Below B W w') → (e = Ending.returned (.tuple #[.complex .f64 0 0, .bool false]) ∧ ∀ B, Below B w w') := by subst hW; exact fun _ _ h => h
      refine Calls.mono ?_ e1
      clear e1 hW
      have ca := run_cadd Try.prog
      go_enter Try.func64, Try.ntmps64
      go_wp2_with (first
        | (go_at_call 113; refine (clean_calls _ _ _).mono ?_; rintro e w' ⟨rfl, rfl⟩)
        | (go_at_call 112; (first | with_reducible refine (Q1.out _).mono ?_ | with_reducible refine (Q2.out _).mono ?_); rintro e w' ⟨rfl, rfl⟩))
      all_goals (first | (go_ret2; refine ⟨rfl, fun B => ?_⟩; (repeat (refine aw_below ?_)); exact HB.out B) | trace_state)
    · have g1 := (Bool.and_eq_true _ _ ▸ h1 : ptB a = true ∧ ptB b = true)
      have g2 := (Bool.and_eq_true _ _ ▸ h2 : ptB c = true ∧ ptB d = true)
      obtain ⟨va, ba, _⟩ := ptB_out ha g1.1
      obtain ⟨vb, bb, _⟩ := ptB_out hb g1.2
      obtain ⟨vc, bc, _⟩ := ptB_out hc g2.1
      obtain ⟨vd, bd, _⟩ := ptB_out hd g2.2
      obtain ⟨s, hs, hs2⟩ := v_add (.inl va) (.inl vc) (by omega) (by omega) (by omega : (truncI a + truncI c).natAbs < 2 ^ 52)
      obtain ⟨t, ht, ht2⟩ := v_add (.inl vb) (.inl vd) (by omega) (by omega) (by omega : (truncI b + truncI d).natAbs < 2 ^ 52)
      have r1 : ∀ w, (binOp .add 66 (.complex .f64 a b) (.complex .f64 c d)).run Try.prog w = .ok (.complex .f64 s t) w := by
        intro w
        have hs' : floatBits .add .f64 a c = some s := hs
        have ht' : floatBits .add .f64 b d = some t := ht
        rw [run_cadd, aw_some hs', aw_some ht', ar_some hs', ar_some ht']
      have q4 := cleanV_calls s t _ _ hs2 ht2 (by omega) (by omega)
      have q3 := point_calls (enc (truncI a + truncI c)) (enc (truncI b + truncI d)) (enc_lt _ (by omega)) (enc_lt _ (by omega))
      rw [ptB_enc _ (by omega), ptB_enc _ (by omega)] at q3
      have e0 : moveV a b c d = pointV (truncI a + truncI c) (truncI b + truncI d) := by unfold moveV; rw [h1, h2]; rfl
      rw [e0]
      rw [h1] at q1
      rw [h2] at q2
      have Q1 := Aside0.mk q1
      have Q2 := Aside0.mk q2
      have Q3 := Aside0.mk q3
      have Q4 := Aside0.mk q4
      generalize truncI a + truncI c = x at *
      generalize truncI b + truncI d = y at *
      clear e0 h1 h2 ha hb hc hd q1 q2 q3 q4 g1 g2 va ba vb bb vc bc vd bd hs hs2 ht ht2
      cases h3 : okI x && okI y
      · have e3 : pointV x y = (0, 0, false) := by unfold pointV; rw [h3]; rfl
        have H3 := Aside0.mk h3
        rw [e3]
        clear e3 h3
        go_enter Try.func64, Try.ntmps64
        go_wp2_with (first
          | (go_at_call 113; refine (Q4.out _).mono ?_; rintro e w' ⟨rfl, rfl⟩)
          | (go_at_call 112; (first | with_reducible refine (Q1.out _).mono ?_ | with_reducible refine (Q2.out _).mono ?_ | (with_reducible refine (Q3.out _).mono ?_; rw [H3.out])); rintro e w' ⟨rfl, rfl⟩))
        all_goals (first | (go_ret2; exact ⟨rfl, fun B => Below.refl B _⟩) | trace_state)
      · have e3 : pointV x y = (enc x, enc y, true) := by unfold pointV; rw [h3]; rfl
        have H3 := Aside0.mk h3
        rw [e3]
        clear e3 h3
        go_enter Try.func64, Try.ntmps64
        go_wp2_with (first
          | (go_at_call 113; refine (Q4.out _).mono ?_; rintro e w' ⟨rfl, rfl⟩)
          | (go_at_call 112; (first | with_reducible refine (Q1.out _).mono ?_ | with_reducible refine (Q2.out _).mono ?_ | (with_reducible refine (Q3.out _).mono ?_; rw [H3.out])); rintro e w' ⟨rfl, rfl⟩))
        all_goals (first | (go_ret2; exact ⟨rfl, fun B => Below.refl B _⟩) | trace_state)

def rot : Nat → Int × Int → Int × Int
  | 0, p => p
  | n + 1, p => (-(rot n p).2, (rot n p).1)
theorem rot_abs (M : Nat) (n : Nat) (p : Int × Int) (h1 : p.1.natAbs ≤ M) (h2 : p.2.natAbs ≤ M) : (rot n p).1.natAbs ≤ M ∧ (rot n p).2.natAbs ≤ M := by
  induction n with
  | zero => exact ⟨h1, h2⟩
  | succ n ih => exact ⟨by show (-(rot n p).2).natAbs ≤ M; omega, ih.1⟩
def quarters (q : Int) : Int := (wrap64 (q.tmod 4 + 4)).tmod 4
theorem quarters_bounds (q : Int) : 0 ≤ quarters q ∧ quarters q ≤ 3 := by
  unfold quarters wrap64
  have h1 := Int.tmod_lt_of_pos q (show (0 : Int) < 4 by decide)
  have h2 : -4 < q.tmod 4 := by
    have := Int.lt_tmod_of_pos q (show (0 : Int) < 4 by decide)
    omega
  generalize q.tmod 4 = r at *
  rw [Int.tmod_eq_emod_of_nonneg (by omega)]
  omega
def turnV (a b : Nat) (q : Int) : Nat × Nat := if ptB a && ptB b then (enc (rot (quarters q).toNat (truncI a, truncI b)).1, enc (rot (quarters q).toNat (truncI a, truncI b)).2) else (0, 0)
theorem Turn_calls (a b : Nat) (q : Int) (ha : a < 2 ^ 64) (hb : b < 2 ^ 64) (w : World) : Calls Try.prog 62 #[.complex .f64 a b, .int .i64 q] w fun e w' =>
    e = .returned (.complex .f64 (turnV a b q).1 (turnV a b q).2) ∧ w' = w := by
  have q1 := point_calls a b ha hb
  cases h : ptB a && ptB b
  · have e0 : turnV a b q = (0, 0) := by unfold turnV; rw [h]; rfl
    rw [e0]
    rw [h] at q1
    clear ha hb h e0
    have Q1 := Aside0.mk q1
    clear q1
    go_enter Try.func62, Try.ntmps62
    go_wp2_with (go_at_call 112; refine (Q1.out _).mono ?_; rintro e w' ⟨rfl, rfl⟩)
    all_goals (first | (go_ret; exact ⟨rfl, rfl⟩) | trace_state)
  · have e0 : turnV a b q = (enc (rot (quarters q).toNat (truncI a, truncI b)).1, enc (rot (quarters q).toNat (truncI a, truncI b)).2) := by unfold turnV; rw [h]; rfl
    rw [e0]
    have g1 := (Bool.and_eq_true _ _ ▸ h : ptB a = true ∧ ptB b = true)
    obtain ⟨va, ba, _⟩ := ptB_out ha g1.1
    obtain ⟨vb, bb, _⟩ := ptB_out hb g1.2
    rw [h] at q1
    have QB := Aside0.mk (quarters_bounds q)
    generalize hn : (quarters q).toNat = n at *
    generalize truncI a = x at *
    generalize truncI b = y at *
    have RA := Aside0.mk (fun k => rot_abs 1048576 k (x, y) ba bb)
    clear ha hb h e0 g1
    subst va
    subst vb
    have Q1 := Aside0.mk q1
    clear q1 ba bb
    go_enter Try.func62, Try.ntmps62
    go_wp2_with (go_at_call 112; refine (Q1.out _).mono ?_; rintro e w' ⟨rfl, rfl⟩)
    have h5 : quarters q = (n : Int) := by have := QB.out; omega
    have h6 : (wrap64 (q.tmod 4 + 4)).tmod 4 = (n : Int) := h5
    rw [h6]
    have hn3 : n ≤ 3 := by have := QB.out; omega
    clear hn h5 h6 QB
    go_loop [0, 12] (fun c i => ∃ k : Nat, k ≤ n ∧ i = .int .i64 k ∧ c = .complex .f64 (enc (rot k (x, y)).1) (enc (rot k (x, y)).2)) (fun _ i => n - (intOf i).toNat)
    case atStart => exact ⟨0, by omega, rfl, rfl⟩
    case round =>
      obtain ⟨k, hk, rfl, rfl⟩ := hrel
      obtain ⟨r1, r2⟩ := RA.out k
      obtain ⟨e, f, ve, vf, hm⟩ := run_turn Try.prog 66 _ _ r1 r2
      have Q4 := Aside0.mk (cleanV_calls e f _ _ ve vf (by omega) (by omega))
      clear ve vf r1 r2
      go_wp2_with (go_at_call 113; refine (Q4.out _).mono ?_; rintro e w' ⟨rfl, rfl⟩)
      · exact ⟨⟨k + 1, by omega, rfl, rfl⟩, by simp only [intOf]; omega⟩
      · obtain rfl : k = n := by omega
        go_ret
        exact ⟨rfl, rfl⟩
end Go.Proofs.Ytmfdhcgdibefiaa.Pl

/- plane: the document's functions: Of, Told, part, Coords, Point, Turn, Move. -/
namespace Go.Proofs.Ytmfdhcgdibefiaa.Pl
open Go.RowKit Go.Proofs.YtmfdhcgdibefiaaW.PrintWords Go.Proofs.YtmfdhcgdibefiaaW.Lib Go.Proofs.YtmfdhcgdibefiaaW.Flt
set_option linter.unusedVariables false

theorem results_cell1 {fn : Func} {a : Tmp} {t : TypeId} (h : fn.results = #[.cell a t]) (tmps : Array Value) (P : Program) (w : World) (ad : Addr) (v : Value) (ha : tmps.getD a undef = .pointer (some ad)) (hl : (loadVar t ad).run P w = .ok v w) :
    (results fn tmps).run P w = .ok v w := by
  have ha' : tmps[a]?.getD undef = .pointer (some ad) := by rw [← ha]; simp
  have e : ∀ ad w, (asAddr (.pointer (some ad))).run P w = .ok ad w := fun _ _ => rfl
  simp [results, h, ha', hl, e]
theorem results_cell2 {fn : Func} {a b : Tmp} {t : TypeId} (h : fn.results = #[.cell a t, .tmp b]) (tmps : Array Value) (P : Program) (w : World) (ad : Addr) (v : Value) (ha : tmps.getD a undef = .pointer (some ad)) (hl : (loadVar t ad).run P w = .ok v w) :
    (results fn tmps).run P w = .ok (.tuple #[v, tmps.getD b undef]) w := by
  have ha' : tmps[a]?.getD undef = .pointer (some ad) := by rw [← ha]; simp
  have e : ∀ ad w, (asAddr (.pointer (some ad))).run P w = .ok ad w := fun _ _ => rfl
  simp [results, h, ha', hl, e]
set_option maxRecDepth 100000 in
set_option maxHeartbeats 4000000 in
theorem Of_calls (a b : Nat) (w : World) : Calls Try.prog 114 #[.agg #[.int .u64 a, .int .u64 b]] w fun e w' => e = .returned (.complex .f64 a b) ∧ ∀ B, B ≤ w.heap.size → Below B w w' := by
  have q := run_frombits
  go_enter Try.func114, Try.ntmps114
  go_wp2_with fail
  generalize hW2 : w.alloc (.cells #[.int .u64 a, .int .u64 b] 97) = W2
  have hb : ∀ B, B ≤ w.heap.size → Below B w W2 := fun B h => hW2 ▸ (Below.refl B w).alloc h _
  have ca0 : W2.drew.cell? ⟨w.heap.size, 0, none⟩ = some (.int .u64 a) := by rw [← hW2]; simp
  have ca1 : W2.drew.cell? ⟨w.heap.size, 1, none⟩ = some (.int .u64 b) := by rw [← hW2]; simp
  have HB := Aside0.mk hb
  clear hW2 hb
  refine wp_region_still_tail 7 (by kernel_rfl) (by kernel_rfl) ?_
  simp only [List.take_succ_cons, List.take_zero, List.drop_succ_cons, List.drop_zero]
  change wpStill _ _ W2.drew _ _ _
  iterate 7 still_step
  refine wpStill_nil ?_
  change wpList _ _ _ _ _ W2.drew
  go_wp2_with fail
  go_ret
  exact ⟨rfl, fun B h => (HB.out B h).drew⟩
set_option maxRecDepth 100000 in
theorem Told_calls (a b : Nat) (w : World) : Calls Try.prog 111 #[.complex .f64 a b] w fun e w' => e = .returned (.agg #[.int .u64 a, .int .u64 b]) ∧ ∀ B, B ≤ w.heap.size → Below B w w' := by
  have q := run_bits
  go_enter Try.func111, Try.ntmps111
  go_wp2_with fail
  refine bodyPost_ret (results_cell1 rfl _ _ _ _ _ rfl ?_) rfl ⟨rfl, fun B h => (Below.refl B w).alloc h _⟩
  go_simp
def partV (a : Nat) : Int × Bool := if inR a then (truncI a, decide (enc (truncI a) = a)) else (0, false)
set_option maxRecDepth 100000 in
theorem part_calls (a : Nat) (ha : a < 2 ^ 64) (w : World) : Calls Try.prog 115 #[.int .u64 a] w fun e w' => e = .returned (.tuple #[.int .i64 (partV a).1, .bool (partV a).2]) ∧ w' = w := by
  have q1 := run_bits
  have q2 := run_frombits
  obtain ⟨o1, h1⟩ : ∃ o, FloatKind.f64.format.order a 13920626448202203136 = o := ⟨_, rfl⟩
  obtain ⟨o2, h2⟩ : ∃ o, FloatKind.f64.format.order a 4697254411347427328 = o := ⟨_, rfl⟩
  have hI : inR a = (isGe o1 && isLe o2) := by unfold inR; rw [enc_lo, enc_hi, ← h1, ← h2]; rfl
  cases hR : inR a
  · have e0 : partV a = (0, false) := by unfold partV; rw [hR]; rfl
    have hg : ¬ ((o1 = some .gt ∨ o1 = some .eq) ∧ (o2 = some .lt ∨ o2 = some .eq)) := by
      rintro ⟨a1, a2⟩
      rw [hR] at hI
      rcases a1 with rfl | rfl <;> rcases a2 with rfl | rfl <;> cases hI
    rw [e0]
    clear hI hR ha e0
    go_enter Try.func115, Try.ntmps115
    go_wp2_with fail
    all_goals (first | (go_ret2; exact ⟨rfl, rfl⟩) | (exfalso; apply hg; rcases o1 with _ | _ | _ | _ <;> rcases o2 with _ | _ | _ | _ <;> simp_all; done) | trace_state)
  · have e0 : partV a = (truncI a, decide (enc (truncI a) = a)) := by unfold partV; rw [hR]; rfl
    obtain ⟨hl, ht⟩ := trunc_le ha hR
    have c1 : ∀ w, (convert 140 3 (.float .f64 a)).run Try.prog w = .ok (.int .i64 (truncI a)) w := fun w => run_convert_float_int (P := Try.prog) w 140 3 .f64 .i64 a _ (by kernel_rfl) (by kernel_rfl) (by
      unfold floatToIntVal
      rw [show FloatKind.f64.decode a = Ieee.double.read a from rfl, ht]
      show (if (-(2 ^ 63) : Int) ≤ truncI a ∧ truncI a ≤ 2 ^ 63 - 1 then some (truncI a) else none) = _
      rw [if_pos (by omega)])
    have c2 : floatOfInt .f64 (truncI a) = enc (truncI a) := nearest_enc _ (by omega)
    have g1 : (o1 = some .gt ∨ o1 = some .eq) := by
      rw [hR] at hI
      have := (Bool.and_eq_true _ _ ▸ hI.symm : isGe o1 = true ∧ isLe o2 = true).1
      unfold isGe at this; simpa using this
    have g2 : (o2 = some .lt ∨ o2 = some .eq) := by
      rw [hR] at hI
      have := (Bool.and_eq_true _ _ ▸ hI.symm : isGe o1 = true ∧ isLe o2 = true).2
      unfold isLe at this; simpa using this
    rw [e0]
    clear hI hR ha e0 hl ht
    generalize truncI a = x at *
    generalize hy : enc x = y at *
    go_enter Try.func115, Try.ntmps115
    go_wp2_with fail
    · exfalso
      rcases g1 with rfl | rfl <;> rcases g2 with rfl | rfl <;> simp_all
    · go_ret2
      refine ⟨?_, rfl⟩
      have : ((y : Int) == (a : Int)) = decide (y = a) := by
        by_cases e : y = a
        · subst e; simp
        · rw [decide_eq_false e]; simp; omega
      rw [← this]; rfl

def rcoordsV (a b : Nat) : Int × Int × Bool := if (partV a).2 && (partV b).2 then ((partV a).1, (partV b).1, true) else (0, 0, false)
set_option maxRecDepth 100000 in
theorem rCoords_calls (a b : Nat) (ha : a < 2 ^ 64) (hb : b < 2 ^ 64) (w : World) : Calls Try.prog 66 #[.agg #[.int .u64 a, .int .u64 b]] w fun e w' => e = .returned (.tuple #[.int .i64 (rcoordsV a b).1, .int .i64 (rcoordsV a b).2.1, .bool (rcoordsV a b).2.2]) ∧ ∀ B, B ≤ w.heap.size → Below B w w' := by
  have Q1 := Aside0.mk (part_calls a ha)
  have Q2 := Aside0.mk (part_calls b hb)
  go_enter Try.func66, Try.ntmps66
  go_wp2_with (go_at_call 115; (first | with_reducible refine (Q1.out _).mono ?_ | with_reducible refine (Q2.out _).mono ?_); rintro e w' ⟨rfl, rfl⟩)
  all_goals (go_ret3; refine ⟨?_, fun B h => (Below.refl B w).alloc h _⟩)
  all_goals (simp_all [rcoordsV]; try done)
theorem rcoords_eq (a b : Nat) : rcoordsV a b = coordsV a b := by
  have h : ∀ a, (partV a).2 = ptB a ∧ (ptB a = true → (partV a).1 = truncI a) := by
    intro a
    unfold partV ptB
    cases inR a <;> simp
  unfold rcoordsV coordsV
  rw [(h a).1, (h b).1]
  cases h1 : ptB a
  · rfl
  · cases h2 : ptB b
    · rfl
    · rw [(h a).2 h1, (h b).2 h2]
set_option maxRecDepth 100000 in
theorem rPoint_calls (x y : Int) (w : World) : Calls Try.prog 59 #[.int .i64 x, .int .i64 y] w fun e w' => e = .returned (.tuple #[.agg #[.int .u64 (pointV x y).1, .int .u64 (pointV x y).2.1], .bool (pointV x y).2.2]) ∧ ∀ B, B ≤ w.heap.size → Below B w w' := by
  have q := run_bits
  cases h : okI x && okI y
  · have e0 : pointV x y = (0, 0, false) := by unfold pointV; rw [h]; rfl
    rw [e0]
    have hn : ¬ (x ≤ 1048576 ∧ -1048576 ≤ x ∧ y ≤ 1048576 ∧ -1048576 ≤ y) := by
      intro hc
      unfold okI at h
      rw [decide_eq_true (by omega), decide_eq_true (by omega), decide_eq_true (by omega), decide_eq_true (by omega)] at h
      cases h
    clear e0 h
    go_enter Try.func59, Try.ntmps59
    go_wp2_with fail
    all_goals first
      | (exfalso; omega)
      | (refine bodyPost_ret (results_cell2 rfl _ _ _ _ _ rfl ?h) rfl ⟨rfl, fun B h => (Below.refl B w).alloc h _⟩
         case h => go_simp)
      | trace_state
  · have e0 : pointV x y = (enc x, enc y, true) := by unfold pointV; rw [h]; rfl
    have hh := (Bool.and_eq_true _ _ ▸ h : okI x = true ∧ okI y = true)
    have hx := okI_abs hh.1
    have hy := okI_abs hh.2
    have c1 : floatOfInt .f64 x = enc x := nearest_enc x (by omega)
    have c2 : floatOfInt .f64 y = enc y := nearest_enc y (by omega)
    rw [e0]
    generalize enc x = ex at *
    generalize enc y = ey at *
    clear h e0 hh
    go_enter Try.func59, Try.ntmps59
    go_wp2_with fail
    all_goals first
      | (exfalso; omega)
      | (refine bodyPost_ret (results_cell2 rfl _ _ _ _ _ rfl ?h) rfl ⟨rfl, fun B h => (Below.refl B w).alloc h _⟩
         case h => go_simp)
      | trace_state
end Go.Proofs.Ytmfdhcgdibefiaa.Pl

/- plane: the document's Turn and Move. -/
namespace Go.Proofs.Ytmfdhcgdibefiaa.Pl
open Go.RowKit Go.Proofs.YtmfdhcgdibefiaaW.PrintWords Go.Proofs.YtmfdhcgdibefiaaW.Lib Go.Proofs.YtmfdhcgdibefiaaW.Flt
set_option linter.unusedVariables false

/-- Whatever lay there lies there. -/
abbrev Own (w W : World) : Prop := ∀ B, B ≤ w.heap.size → Below B w W
theorem Own.refl (w : World) : Own w w := fun B _ => Below.refl B w
theorem Own.trans {a b c : World} (h : Own a b) (k : Own b c) : Own a c := fun B hB => (h B hB).trans (k B (Nat.le_trans hB (h B hB).size))
theorem Own.alloc {a b : World} (h : Own a b) (o : Obj) : Own a (b.alloc o) := fun B hB => (h B hB).alloc (Nat.le_trans hB (h B hB).size) o
theorem Own.drew {a b : World} (h : Own a b) : Own a b.drew := fun B hB => (h B hB).drew
theorem Own.setCell {a b : World} (h : Own a b) {p : Addr} (hp : a.heap.size ≤ p.block) (u : Value) : Own a (b.setCell p u) := fun B hB => (h B hB).setCell (Nat.le_trans hB hp) u
theorem Own.size {a b : World} (h : Own a b) : a.heap.size ≤ b.heap.size := (h 0 (Nat.zero_le _)).size
theorem Own.cell {W w1 : World} (hb : Own W w1) {p : Addr} {v : Value} (h : W.cell? p = some v) : w1.cell? p = some v := by
  have hp : p.block < W.heap.size := by
    unfold World.cell? at h
    cases h1 : W.heap[p.block]? with
    | none => rw [h1] at h; simp at h
    | some o => exact (Array.getElem?_eq_some_iff.1 h1).1
  unfold World.cell? at h ⊢
  rw [(hb _ (Nat.le_refl _)).block _ hp]
  exact h

theorem move_coords (a b c d : Nat) : moveV a b c d = if (coordsV a b).2.2 && (coordsV c d).2.2 then pointV ((coordsV a b).1 + (coordsV c d).1) ((coordsV a b).2.1 + (coordsV c d).2.1) else (0, 0, false) := by
  unfold moveV coordsV
  cases ptB a && ptB b
  · simp only [Bool.false_and, Bool.false_eq_true, if_false]
  · cases ptB c && ptB d
    · simp only [Bool.and_false, Bool.false_eq_true, if_false]
    · simp only [Bool.and_true, if_true]
theorem coords_abs (a b : Nat) (ha : a < 2 ^ 64) (hb : b < 2 ^ 64) : (coordsV a b).1.natAbs ≤ 1048576 ∧ (coordsV a b).2.1.natAbs ≤ 1048576 := by
  unfold coordsV
  cases h1 : ptB a && ptB b
  · simp only [Bool.false_eq_true, if_false]; decide
  · have g := (Bool.and_eq_true _ _ ▸ h1 : ptB a = true ∧ ptB b = true)
    simp only [if_true]
    exact ⟨(ptB_out ha g.1).2.1, (ptB_out hb g.2).2.1⟩

theorem turn_coords (a b : Nat) (q : Int) : turnV a b q = if (coordsV a b).2.2 then (enc (rot (quarters q).toNat ((coordsV a b).1, (coordsV a b).2.1)).1, enc (rot (quarters q).toNat ((coordsV a b).1, (coordsV a b).2.1)).2) else (0, 0) := by
  unfold turnV coordsV
  cases ptB a && ptB b
  · simp only [Bool.false_eq_true, if_false]
  · simp only [if_true]
theorem Own.frozen {W w1 : World} (hb : Own W w1) {p : Addr} {b : Bool} {v : Value} (hc : W.cell? p = some v) (h : W.frozen? p = b) : w1.frozen? p = b := by
  have hp : p.block < W.heap.size := by
    unfold World.cell? at hc
    cases h1 : W.heap[p.block]? with
    | none => rw [h1] at hc; simp at hc
    | some o => exact (Array.getElem?_eq_some_iff.1 h1).1
  unfold World.frozen? at h ⊢
  rw [(hb _ (Nat.le_refl _)).block _ hp]
  exact h
theorem pointV_ok {x y : Int} (hx : x.natAbs ≤ 1048576) (hy : y.natAbs ≤ 1048576) : pointV x y = (enc x, enc y, true) := by
  unfold pointV okI
  rw [decide_eq_true (by omega), decide_eq_true (by omega), decide_eq_true (by omega), decide_eq_true (by omega)]; rfl
theorem quarters_neg (q : Int) (h : q.tmod 4 < 0) : wrap64 (q.tmod 4 + 4) = quarters q := by
  have h2 : -4 < q.tmod 4 := by
    have := Int.lt_tmod_of_pos q (show (0 : Int) < 4 by decide)
    omega
  unfold quarters wrap64
  generalize q.tmod 4 = r at *
  rw [Int.tmod_eq_emod_of_nonneg (by omega)]
  omega
theorem quarters_pos (q : Int) (h : 0 ≤ q.tmod 4) : q.tmod 4 = quarters q := by
  have h1 := Int.tmod_lt_of_pos q (show (0 : Int) < 4 by decide)
  unfold quarters wrap64
  generalize q.tmod 4 = r at *
  rw [Int.tmod_eq_emod_of_nonneg (by omega)]
  omega
set_option maxRecDepth 100000 in
theorem rTurn_calls (a b : Nat) (q : Int) (ha : a < 2 ^ 64) (hb : b < 2 ^ 64) (w : World) : Calls Try.prog 67 #[.agg #[.int .u64 a, .int .u64 b], .int .i64 q] w fun e w' =>
    e = .returned (.agg #[.int .u64 (turnV a b q).1, .int .u64 (turnV a b q).2]) ∧ Own w w' := by
  have Q1 := Aside0.mk (rCoords_calls a b ha hb)
  rw [rcoords_eq] at Q1
  obtain ⟨r, hr⟩ : ∃ r, turnV a b q = r := ⟨_, rfl⟩
  obtain ⟨s, hs⟩ : ∃ r, coordsV a b = r := ⟨_, rfl⟩
  have hv : r = if s.2.2 then (enc (rot (quarters q).toNat (s.1, s.2.1)).1, enc (rot (quarters q).toNat (s.1, s.2.1)).2) else (0, 0) := by
    rw [← hr, ← hs]
    exact turn_coords a b q
  have b1 := coords_abs a b ha hb
  rw [hs] at b1
  rw [hr]
  rw [hs] at Q1
  obtain ⟨x, y, o1⟩ := s
  obtain ⟨rx, ry⟩ := r
  clear hr hs ha hb
  obtain ⟨b3, b4⟩ := b1
  obtain ⟨n, hn⟩ : ∃ n, (quarters q).toNat = n := ⟨_, rfl⟩
  have hq1 := Aside0.mk (quarters_neg q)
  have hq2 := Aside0.mk (quarters_pos q)
  have hq3 := (quarters_bounds q).2
  have hq4 := (quarters_bounds q).1
  have h5 : quarters q = (n : Int) := by omega
  rw [hn] at hv
  rw [h5] at hq1 hq2
  have hn3 : n ≤ 3 := by omega
  clear hq3 hq4 h5 hn
  have HV := Aside0.mk hv
  clear hv
  have RA := Aside0.mk (fun k => rot_abs 1048576 k (x, y) b3 b4)
  go_enter Try.func67, Try.ntmps67
  go_wp2_with fail
  generalize hW : (w.alloc (.cells #[.int .u64 a, .int .u64 b] 97)).alloc (.cells #[.int .u64 0, .int .u64 0] 97) = W
  have ho : Own w W := hW ▸ ((Own.refl w).alloc _ |>.alloc _)
  have c0 : W.cell? ⟨w.heap.size, 0, none⟩ = some (.int .u64 a) := by rw [← hW]; clear hW; go_simp
  have c1 : W.cell? ⟨w.heap.size, 1, none⟩ = some (.int .u64 b) := by rw [← hW]; clear hW; go_simp
  have c4 : W.cell? ⟨w.heap.size + 1, 0, none⟩ = some (.int .u64 0) := by rw [← hW]; clear hW; go_simp
  have c5 : W.cell? ⟨w.heap.size + 1, 1, none⟩ = some (.int .u64 0) := by rw [← hW]; clear hW; go_simp
  have f4 : W.frozen? ⟨w.heap.size + 1, 0, none⟩ = false := by rw [← hW]; clear hW; go_simp
  have f5 : W.frozen? ⟨w.heap.size + 1, 1, none⟩ = false := by rw [← hW]; clear hW; go_simp
  have HB := Aside0.mk ho
  obtain ⟨g, hg⟩ : ∃ g, w.heap.size = g := ⟨_, rfl⟩
  have HG := Aside0.mk hg
  rw [hg] at c0 c1 c4 c5 f4 f5 ⊢
  clear hW ho hg
  go_wp2_with (first
    | (go_at_call 66; refine (Q1.out _).mono ?_; rintro e w1 ⟨rfl, hb⟩
       replace f4 := Own.frozen hb c4 f4; replace f5 := Own.frozen hb c5 f5; replace c0 := Own.cell hb c0; replace c1 := Own.cell hb c1; replace c4 := Own.cell hb c4; replace c5 := Own.cell hb c5; replace HB := Aside0.mk (HB.out.trans hb); clear hb)
    | (go_at_call 59; refine (rPoint_calls _ _ _).mono ?_; rintro e w1 ⟨rfl, hb⟩
       replace f4 := Own.frozen hb c4 f4; replace f5 := Own.frozen hb c5 f5; replace c0 := Own.cell hb c0; replace c1 := Own.cell hb c1; replace c4 := Own.cell hb c4; replace c5 := Own.cell hb c5; replace HB := Aside0.mk (HB.out.trans hb); clear hb))
  · have hv := HV.out
    obtain rfl : o1 = false := by cases o1 <;> simp_all
    rw [if_neg (by simp)] at hv
    obtain ⟨rfl, rfl⟩ := Prod.mk.inj hv
    refine bodyPost_ret (results_cell1 rfl _ _ _ _ (.agg #[.int .u64 0, .int .u64 0]) rfl ?_) rfl ⟨rfl, (HB.out.setCell (by rw [HG.out]; show g ≤ g + 1; omega) _).setCell (by rw [HG.out]; show g ≤ g + 1; omega) _⟩
    clear HV hv
    go_simp
  all_goals
    have hv := HV.out
    obtain rfl : o1 = true := by cases o1 <;> simp_all
    rw [if_pos rfl] at hv
    obtain ⟨rfl, rfl⟩ := Prod.mk.inj hv
    clear hv HV
    first
      | rw [hq1.out (by assumption)]
      | rw [hq2.out (by assumption)]
    go_loop [5, 6, 9] (fun vx vy i => ∃ k : Nat, k ≤ n ∧ i = .int .i64 k ∧ vx = .int .i64 (rot k (x, y)).1 ∧ vy = .int .i64 (rot k (x, y)).2) (fun _ _ i => n - (intOf i).toNat)
    case atStart => exact ⟨0, by omega, rfl, rfl, rfl⟩
    case round =>
      obtain ⟨k, hk, rfl, rfl, rfl⟩ := hrel
      obtain ⟨r1, r2⟩ := RA.out k
      have hw1 : wrap64 (-(rot k (x, y)).2) = -(rot k (x, y)).2 := by unfold wrap64; omega
      have R1 := Aside0.mk r1
      have R2 := Aside0.mk r2
      clear r1 r2
      go_wp2_with (go_at_call 59; refine (rPoint_calls _ _ _).mono ?_; rintro e w2 ⟨rfl, hb⟩; rw [pointV_ok R1.out R2.out]
                   replace f4 := Own.frozen hb c4 f4; replace f5 := Own.frozen hb c5 f5; replace c0 := Own.cell hb c0; replace c1 := Own.cell hb c1; replace c4 := Own.cell hb c4; replace c5 := Own.cell hb c5; replace HB := Aside0.mk (HB.out.trans hb); clear hb
                   have z4 := fun o => Own.cell ((Own.refl w2).alloc o) c4; have z5 := fun o => Own.cell ((Own.refl w2).alloc o) c5; have y4 := fun o => Own.frozen ((Own.refl w2).alloc o) c4 f4; have y5 := fun o => Own.frozen ((Own.refl w2).alloc o) c5 f5)
      · exact ⟨⟨k + 1, by omega, rfl, by rw [hw1]; rfl, rfl⟩, by simp only [intOf]; omega⟩
      · obtain rfl : k = n := by omega
        refine bodyPost_ret (results_cell1 rfl _ _ _ _ (.agg #[.int .u64 (enc (rot k (x, y)).1), .int .u64 (enc (rot k (x, y)).2)]) rfl ?_) rfl ⟨rfl, ((HB.out.alloc _).setCell (by rw [HG.out]; show g ≤ g + 1; omega) _).setCell (by rw [HG.out]; show g ≤ g + 1; omega) _⟩
        go_simp
end Go.Proofs.Ytmfdhcgdibefiaa.Pl

