/- Texts joined by wip/tools/merge.py: Open QOpens Qx3 Qx4 Qx5 Qx6 SpanA SpanN SpanT Qx7 Qx1 Qx8 SpanB CmpG Shelf SortG KeyI HostG FitS NumP DedL NumG DedG SetS LabG BndA BndB RlxA. -/
import Derived.Test.YtgknjgionicncaaGreatJVerdictSet12
import Derived.Test.YtgknjgionicncaaGreatJVerdictSet0
import Derived.Test.YtgknjgionicncaaGreatJVerdictSet11
import Derived.Test.YtgknjgionicncaaGreatJVerdictSet23
import Derived.WalkKit
import Derived.ProofKit
import Derived.OpenShut
import Derived.Deep.Slices
import Derived.DataElems
import Derived.Test.YtgknjgionicncaaGreatJVerdictSet22
import Derived.KernelRfl
import Derived.StillTailTactics
import Derived.Sort.Grow
import Derived.Shelf.SlSortCmp.NoneTotal
import Derived.Shelf.SlicesE.Clone
import Derived.Shelf.SortM.Plain
import Derived.Shelf.SlicesG.CompactS
import Derived.Shelf.SlicesG.Turned
import Derived.Test.YtgknjgionicncaaGreatProg
import Derived.Test.YtgknjgionicncaaGreatJVerdictSet21
import Derived.Shelf.SortM.SortNone
import Derived.Lib.OwnBridge
import Derived.Sort.OwnSorted
import Derived.Maps.Views
import Derived.WalkArith
import Derived.StringKeys
import Derived.Test.YtgknjgionicncaaGreatJVerdictSet1
import Derived.Scope
import Derived.Control
import Derived.Laws.Bits64
import Derived.Laws.Externs
import Derived.Deep.RegionHeld3
namespace Go.Proofs.YtgknjgionicncaaGreatW.Open
open Go.RowKit Go.Proofs.YtgknjgionicncaaGreatW.PrintWords Go.ChangeShapes Go.WideShapes
set_option linter.unusedVariables false
structure Opens {α : Type} (P : Program) (t : TypeId) (k : Kd α) (wf : α → Prop) : Prop where
 sz : P.cellsOf t = k.sz
 K : ∀ {H : Type} {enc : TypeId × Value → H} {W : World} {base : Nat} {spare : Nat → Bool} {held : Bool} {fuel : Nat} {cs : List Value} {d : DataW H} {ps : List MemPlace},
  DataW.trod enc P W base spare held fuel t cs = some (d, ps) → (∀ n ∈ d.weights P t, n ≤ reachBytes) → ∃ x, k.K W x cs ∧ wf x
section
variable {P : Program} {t e : TypeId}
theorem Opens.int {k : IntKind} (ht : P.underlying t = some (.int k)) (hc : P.cellsOf t = 1) : Opens P t (Kd.int k) (fun x => (Lit.int k x).wf = true) := by
 refine ⟨hc, ?_⟩
 intro H enc W base spare held fuel cs d ps h _
 obtain ⟨n, rfl, _, hw⟩ := DataW.trod_int ht h
 exact ⟨n, rfl, hw⟩
theorem Opens.bool (ht : P.underlying t = some .bool) (hc : P.cellsOf t = 1) : Opens P t Kd.bool (fun _ => True) := by
 refine ⟨hc, ?_⟩
 intro H enc W base spare held fuel cs d ps h _
 obtain ⟨b, rfl, _⟩ := DataW.trod_bool ht h
 exact ⟨b, rfl, trivial⟩
theorem Opens.string (ht : P.underlying t = some .string) (hc : P.cellsOf t = 1) : Opens P t Kd.string (fun s => s.size ≤ reachBytes) := by
 refine ⟨hc, ?_⟩
 intro H enc W base spare held fuel cs d ps h hs
 obtain ⟨s, rfl, hx, _⟩ := DataW.trod_string ht h
 obtain ⟨rfl, rfl⟩ := Prod.mk.inj hx
 refine ⟨s, rfl, ?_⟩
 have := hs s.data.toList.length (by simp [DataW.weights])
 simpa using this
theorem Opens.iso {α β : Type} {k : Kd α} {wf : α → Prop} (f : β → α) (g : α → β) (hfg : ∀ x, f (g x) = x) (h : Opens P t k wf) : Opens P t (Kd.iso k f) (fun y => wf (f y)) := by
 refine ⟨h.sz, ?_⟩
 intro H enc W base spare held fuel cs d ps h1 hs
 obtain ⟨x, hK, hw⟩ := h.K h1 hs
 exact ⟨g x, by show k.K W (f (g x)) cs; rw [hfg]; exact hK, by show wf (f (g x)); rw [hfg]; exact hw⟩
theorem Opens.imp {α : Type} {k : Kd α} {wf wf' : α → Prop} (h : Opens P t k wf) (hw : ∀ x, wf x → wf' x) : Opens P t k wf' := by
 refine ⟨h.sz, ?_⟩
 intro H enc W base spare held fuel cs d ps h1 hs
 obtain ⟨x, hK, hx⟩ := h.K h1 hs
 exact ⟨x, hK, hw x hx⟩
def OpensF {α : Type} (P : Program) (fs : List Field) (o : Nat) (k : Kd α) (wf : α → Prop) : Prop :=
 ∀ {H : Type} {enc : TypeId × Value → H} {W : World} {base : Nat} {spare : Nat → Bool} {held : Bool} {n : Nat} {cs : List Value} {xs : List (DataW H × List MemPlace)},
  xs.length = fs.length → (∀ (i : Nat) (f : Field), fs[i]? = some f → DataW.trod enc P W base spare held n f.type ((cs.drop f.offset).take (P.cellsOf f.type)) = xs[i]?) → cs.length = o + k.sz →
  (∀ m ∈ DataW.weightsEach P (fs.map (·.type)) (xs.map (·.1)), m ≤ reachBytes) → ∃ x, k.K W x (cs.drop o) ∧ wf x
theorem OpensF.one {α : Type} {f : Field} {o : Nat} {k : Kd α} {wf : α → Prop} (ho : f.offset = o) (h : Opens P f.type k wf) : OpensF P [f] o k wf := by
 intro H enc W base spare held n cs xs hl hx hc hs
 match xs, hl with
 | [y], _ =>
  have h1 := hx 0 f rfl
  rw [ho, h.sz, List.take_of_length_le (by rw [List.length_drop]; omega)] at h1
  exact h.K (d := y.1) (ps := y.2) h1 (fun m hm => hs m (by simp [DataW.weightsEach, hm]))
theorem OpensF.cons {α β : Type} {f : Field} {fs : List Field} {o o' : Nat} {a : Kd α} {b : Kd β} {wa : α → Prop} {wb : β → Prop} (ho : f.offset = o) (ho' : o' = o + a.sz) (h : Opens P f.type a wa) (hr : OpensF P fs o' b wb) :
  OpensF P (f :: fs) o (Kd.pair a b) (fun x => wa x.1 ∧ wb x.2) := by
 intro H enc W base spare held n cs xs hl hx hc hs
 subst ho'
 match xs, hl with
 | y :: ys, hl =>
  have h1 := hx 0 f rfl
  rw [ho, h.sz] at h1
  obtain ⟨x, hK, hw⟩ := h.K (d := y.1) (ps := y.2) h1 (fun m hm => hs m (by simp [DataW.weightsEach, hm]))
  obtain ⟨z, hK2, hw2⟩ := hr (xs := ys) (cs := cs) (by simpa using hl) (fun i g hg => by have := hx (i + 1) g (by simpa using hg); simpa using this) (by rw [hc]; show o + (a.sz + b.sz) = _; omega) (fun m hm => hs m (by simp [DataW.weightsEach, hm]))
  refine ⟨(x, z), ⟨(cs.drop o).take a.sz, cs.drop (o + a.sz), ?_, hK, hK2⟩, hw, hw2⟩
  rw [← List.drop_drop, List.take_append_drop]
theorem Opens.struct {α : Type} {fs : Array Field} {k : Kd α} {wf : α → Prop} (ht : P.underlying t = some (.struct fs)) (hc : P.cellsOf t = k.sz) (h : OpensF P fs.toList 0 k wf) : Opens P t k wf := by
 refine ⟨hc, ?_⟩
 intro H enc W base spare held fuel cs d ps h1 hs
 obtain ⟨xs, n, _, hx, hl, hlen, hf⟩ := DataW.trod_struct ht h1
 obtain ⟨rfl, rfl⟩ := Prod.mk.inj hx
 have := h (cs := cs) (xs := xs) (by simpa using hlen) (fun i f hif => hf i f (by simpa using hif)) (by omega) (fun m hm => hs m (by simpa [DataW.weights, ht] using hm))
 simpa using this
theorem weightsAll_mem {H : Type} {e : TypeId} : ∀ {l : List (DataW H)} {d : DataW H}, d ∈ l → ∀ n ∈ d.weights P e, n ∈ DataW.weightsAll P e l
 | d0 :: l, d, h, n, hn => by
  simp only [DataW.weightsAll, List.mem_append]
  rcases List.mem_cons.1 h with rfl | h
  ·exact .inl hn
  ·exact .inr (weightsAll_mem h n hn)
theorem Opens.slice {α : Type} {k : Kd α} {wf : α → Prop} {B : Nat} (ht : P.underlying t = some (.slice e)) (hc : P.cellsOf t = 1) (hB : P.bytesOf e = B) (h : Opens P e k wf) :
  Opens P t (Kd.slice e k) (fun l => l.length ≤ maxLen ∧ l.length * B ≤ reachBytes ∧ ∀ x ∈ l, wf x) := by
 refine ⟨hc, ?_⟩
 intro H enc W base spare held fuel cs d ps h1 hs
 rcases Go.Deep.open_slice ht h1 with ⟨rfl, hx⟩ | ⟨a, len, cap, m, n, D, Pl, rfl, hb, hl, hm, hmm, hx, hel⟩
 ·refine ⟨[], ⟨none, 0, rfl, by simp, Kd.C_nil _ _⟩, by simp [maxLen], by simp, by simp⟩
 ·obtain ⟨rfl, rfl⟩ := Prod.mk.inj hx
  have hle : len ≤ m := by rw [hmm]; split <;> omega
  have hw : ∀ j, j < len → ∃ x, (∃ c, c.length = k.sz ∧ k.K W x c ∧ ∀ i u, c[i]? = some u → W.cell? (a.add (j * k.sz + i)) = some u) ∧ wf x := by
   intro j hj
   obtain ⟨cs', h2, h3⟩ := hel j (by omega)
   obtain ⟨x, hK, hx⟩ := h.K h3 (fun q hq => hs q (by
    simp only [DataW.weights, ht, List.mem_cons, List.mem_append]
    exact .inr (.inl (weightsAll_mem (List.mem_map.2 ⟨j, by simpa using hj, rfl⟩) q hq))))
   obtain ⟨_, hlen, hcell⟩ := World.cells?_some h2
   refine ⟨x, ⟨cs', by rw [hlen, h.sz], hK, fun i u hu => ?_⟩, hx⟩
   have hi : i < cs'.length := (List.getElem?_eq_some_iff.1 hu).1
   have := hcell i (by omega)
   rw [hu, h.sz] at this
   rw [← this, Addr.add_add]
  obtain ⟨X, hX⟩ : ∃ X : Fin len → α, ∀ j : Fin len, (∃ c, c.length = k.sz ∧ k.K W (X j) c ∧ ∀ i u, c[i]? = some u → W.cell? (a.add (j.1 * k.sz + i)) = some u) ∧ wf (X j) :=
   ⟨fun j => Classical.choose (hw j.1 j.2), fun j => Classical.choose_spec (hw j.1 j.2)⟩
  have hml : (9223372036854775807 : Nat) = maxLen := rfl
  refine ⟨List.ofFn X, ⟨some a, cap, by simp, by simpa using hl, ?_⟩, ?_, ?_, ?_⟩
  ·refine ⟨rfl, by rw [hml]; simpa using Nat.le_trans hl hm, fun _ => ⟨a, rfl, fun j p hp => ?_⟩⟩
   obtain ⟨hj, rfl⟩ := List.getElem?_eq_some_iff.1 hp
   have hj' : j < len := by simpa using hj
   have := (hX ⟨j, hj'⟩).1
   simpa using this
  ·simpa using Nat.le_trans hl hm
  ·have := hs ((len + (m - len)) * P.bytesOf e) (by simp [DataW.weights, ht])
   rw [hB] at this
   rw [List.length_ofFn]
   exact Nat.le_trans (Nat.mul_le_mul_right _ (by omega)) this
  ·intro x hx
   obtain ⟨j, rfl⟩ := (List.mem_ofFn).1 hx
   exact (hX j).2
theorem weights_le {H : Type} {ts : List TypeId} {ds : List (DataW H)} {j : Nat} {t : TypeId} {d : DataW H} (h : (DataW.weightsEach P ts ds).all (· ≤ reachBytes) = true) (ht : ts[j]? = some t) (hd : ds[j]? = some d) : ∀ n ∈ d.weights P t, n ≤ reachBytes := by
 intro n hn
 simpa using List.all_eq_true.1 h n (DataW.weights_mem_each ht hd n hn)
end
theorem open_row {P : Program} {t e : TypeId} {α : Type} {k : Kd α} {wf : List α → Prop} (ho : Opens P t (Kd.slice e k) wf) {H : Type} {enc : TypeId × Value → H} {W : World} {base : Nat} {spare : Nat → Bool} {held : Bool} {a : Option Addr} {n c : Nat} {d : DataW H} {ps : List MemPlace}
  (h : DataW.Trod enc P W base spare held t (.slice a n c) d ps) (hs : ∀ m ∈ d.weights P t, m ≤ reachBytes) : ∃ l, n = l.length ∧ l.length ≤ c ∧ k.C W a l.length l ∧ wf l := by
 obtain ⟨fuel, hf⟩ := h
 obtain ⟨l, ⟨A, c', he, hl, hC⟩, hw⟩ := ho.K hf hs
 simp [Value.cells] at he
 obtain ⟨rfl, rfl, rfl⟩ := he
 exact ⟨l, rfl, hl, hC, hw⟩
end Go.Proofs.YtgknjgionicncaaGreatW.Open
namespace Go.Proofs.YtgknjgionicncaaGreat.Q
open Go.RowKit Go.Proofs.YtgknjgionicncaaGreatW.PrintWords Go.Proofs.YtgknjgionicncaaGreatW.Open
set_option linter.unusedVariables false
def wf36 (x : S36) : Prop := ((Lit.int .u64 x.f0).wf = true) ∧ ((Lit.int .u64 x.f1).wf = true) ∧ ((Lit.int .u64 x.f2).wf = true) ∧ ((Lit.int .u8 x.f3).wf = true) ∧ (x.f4.size ≤ reachBytes) ∧ (x.f5.size ≤ reachBytes) ∧ ((Lit.int .i64 x.f6).wf = true) ∧ ((Lit.int .i64 x.f7).wf = true)
set_option maxRecDepth 100000 in
theorem opens36 : Opens Tryz.prog 36 k36 wf36 := by
 refine (Opens.iso _ (fun x => (⟨x.1, x.2.1, x.2.2.1, x.2.2.2.1, x.2.2.2.2.1, x.2.2.2.2.2.1, x.2.2.2.2.2.2.1, x.2.2.2.2.2.2.2⟩ : S36)) (fun _ => rfl) (Opens.struct Tryz.underlying36 (by kernel_rfl) (OpensF.cons rfl rfl (Opens.int Tryz.underlying23 (by kernel_rfl)) (OpensF.cons rfl rfl (Opens.int Tryz.underlying23 (by kernel_rfl)) (OpensF.cons rfl rfl (Opens.int Tryz.underlying23 (by kernel_rfl)) (OpensF.cons rfl rfl (Opens.int Tryz.underlying5 (by kernel_rfl)) (OpensF.cons rfl rfl (Opens.string Tryz.underlying9 (by kernel_rfl)) (OpensF.cons rfl rfl (Opens.string Tryz.underlying9 (by kernel_rfl)) (OpensF.cons rfl rfl (Opens.int Tryz.underlying2 (by kernel_rfl)) (OpensF.one rfl (Opens.int Tryz.underlying2 (by kernel_rfl)))))))))))).imp ?_
 exact fun _ h => h
end Go.Proofs.YtgknjgionicncaaGreat.Q
namespace Go.Proofs.YtgknjgionicncaaGreat.Q
open Go.RowKit Go.Proofs.YtgknjgionicncaaGreatW.PrintWords Go.Proofs.YtgknjgionicncaaGreatW.PrintLast Go.Proofs.YtgknjgionicncaaGreatW.PrintMore
attribute [local go_sem] max2_int min2_int max_two min_two max_three min_three max_four min_four
set_option linter.unusedVariables false
set_option linter.unusedSimpArgs false
def span_letter.f (a0 : Int) : Option (Bool) := if a0 ≥ 97 then (if a0 ≤ 122 then (some true) else (if a0 ≥ 48 then (if a0 ≤ 57 then (some true) else (if a0 = 45 then (some true) else (if a0 = 46 then (some true) else (some (a0 == 95))))) else (if a0 = 45 then (some true) else (if a0 = 46 then (some true) else (some (a0 == 95)))))) else (if a0 ≥ 48 then (if a0 ≤ 57 then (some true) else (if a0 = 45 then (some true) else (if a0 = 46 then (some true) else (some (a0 == 95))))) else (if a0 = 45 then (some true) else (if a0 = 46 then (some true) else (some (a0 == 95)))))
set_option maxHeartbeats 8000000 in
set_option maxRecDepth 100000 in
theorem span_letter.calls (a0 : Int) (r : Bool) (w : World) (h : span_letter.f a0 = some r) :
  Calls Tryz.prog 130 #[.int .u8 a0] w fun e w' => e = .returned (.bool r) ∧ Drawn0 w w' := by
 have H : (if a0 ≥ 97 then (if a0 ≤ 122 then (some true) else (if a0 ≥ 48 then (if a0 ≤ 57 then (some true) else (if a0 = 45 then (some true) else (if a0 = 46 then (some true) else (some (a0 == 95))))) else (if a0 = 45 then (some true) else (if a0 = 46 then (some true) else (some (a0 == 95)))))) else (if a0 ≥ 48 then (if a0 ≤ 57 then (some true) else (if a0 = 45 then (some true) else (if a0 = 46 then (some true) else (some (a0 == 95))))) else (if a0 = 45 then (some true) else (if a0 = 46 then (some true) else (some (a0 == 95)))))) = some r := h
 clear h
 by_cases c2 : a0 ≥ 97
 ·rw [if_pos c2] at H
  have c2b0 : decide (97 ≤ a0) = true := decide_eq_true c2
  clear c2
  by_cases c3 : a0 ≤ 122
  ·rw [if_pos c3] at H
   have c3b0 := decide_eq_true c3
   clear c3
   obtain rfl := Option.some.inj H
   go_enter Tryz.func130, Tryz.ntmps130
   go_wp2
   go_ret
   exact ⟨zE, by repeat (first | exact Drawn0.refl _ | apply Drawn0.step)⟩
  ·rw [if_neg c3] at H
   have c3b0 := decide_eq_false c3
   clear c3
   by_cases c4 : a0 ≥ 48
   ·rw [if_pos c4] at H
    have c4b0 : decide (48 ≤ a0) = true := decide_eq_true c4
    clear c4
    by_cases c5 : a0 ≤ 57
    ·rw [if_pos c5] at H
     have c5b0 := decide_eq_true c5
     clear c5
     obtain rfl := Option.some.inj H
     go_enter Tryz.func130, Tryz.ntmps130
     go_wp2
     go_ret
     exact ⟨zE, by repeat (first | exact Drawn0.refl _ | apply Drawn0.step)⟩
    ·rw [if_neg c5] at H
     have c5b0 := decide_eq_false c5
     clear c5
     by_cases c6 : a0 = 45
     ·rw [if_pos c6] at H
      have c6b0 : (a0 == 45) = true := beq_iff_eq.mpr c6
      have c6b1 : (a0 != 45) = false := bne_eq_false_iff_eq.mpr c6
      clear c6
      obtain rfl := Option.some.inj H
      go_enter Tryz.func130, Tryz.ntmps130
      go_wp2
      go_ret
      exact ⟨zE, by repeat (first | exact Drawn0.refl _ | apply Drawn0.step)⟩
     ·rw [if_neg c6] at H
      have c6b0 : (a0 == 45) = false := beq_eq_false_iff_ne.mpr c6
      have c6b1 : (a0 != 45) = true := bne_iff_ne.mpr c6
      by_cases c7 : a0 = 46
      ·rw [if_pos c7] at H
       have c7b0 : (a0 == 46) = true := beq_iff_eq.mpr c7
       have c7b1 : (a0 != 46) = false := bne_eq_false_iff_eq.mpr c7
       clear c7
       obtain rfl := Option.some.inj H
       go_enter Tryz.func130, Tryz.ntmps130
       go_wp2
       go_ret
       exact ⟨zE, by repeat (first | exact Drawn0.refl _ | apply Drawn0.step)⟩
      ·rw [if_neg c7] at H
       have c7b0 : (a0 == 46) = false := beq_eq_false_iff_ne.mpr c7
       have c7b1 : (a0 != 46) = true := bne_iff_ne.mpr c7
       obtain rfl := Option.some.inj H
       go_enter Tryz.func130, Tryz.ntmps130
       go_wp2
       go_ret
       exact ⟨zE, by repeat (first | exact Drawn0.refl _ | apply Drawn0.step)⟩
   ·rw [if_neg c4] at H
    have c4b0 : decide (48 ≤ a0) = false := decide_eq_false c4
    clear c4
    by_cases c8 : a0 = 45
    ·rw [if_pos c8] at H
     have c8b0 : (a0 == 45) = true := beq_iff_eq.mpr c8
     have c8b1 : (a0 != 45) = false := bne_eq_false_iff_eq.mpr c8
     clear c8
     obtain rfl := Option.some.inj H
     go_enter Tryz.func130, Tryz.ntmps130
     go_wp2
     go_ret
     exact ⟨zE, by repeat (first | exact Drawn0.refl _ | apply Drawn0.step)⟩
    ·rw [if_neg c8] at H
     have c8b0 : (a0 == 45) = false := beq_eq_false_iff_ne.mpr c8
     have c8b1 : (a0 != 45) = true := bne_iff_ne.mpr c8
     by_cases c9 : a0 = 46
     ·rw [if_pos c9] at H
      have c9b0 : (a0 == 46) = true := beq_iff_eq.mpr c9
      have c9b1 : (a0 != 46) = false := bne_eq_false_iff_eq.mpr c9
      clear c9
      obtain rfl := Option.some.inj H
      go_enter Tryz.func130, Tryz.ntmps130
      go_wp2
      go_ret
      exact ⟨zE, by repeat (first | exact Drawn0.refl _ | apply Drawn0.step)⟩
     ·rw [if_neg c9] at H
      have c9b0 : (a0 == 46) = false := beq_eq_false_iff_ne.mpr c9
      have c9b1 : (a0 != 46) = true := bne_iff_ne.mpr c9
      obtain rfl := Option.some.inj H
      go_enter Tryz.func130, Tryz.ntmps130
      go_wp2
      go_ret
      exact ⟨zE, by repeat (first | exact Drawn0.refl _ | apply Drawn0.step)⟩
 ·rw [if_neg c2] at H
  have c2b0 : decide (97 ≤ a0) = false := decide_eq_false c2
  clear c2
  by_cases c10 : a0 ≥ 48
  ·rw [if_pos c10] at H
   have c10b0 : decide (48 ≤ a0) = true := decide_eq_true c10
   clear c10
   by_cases c11 : a0 ≤ 57
   ·rw [if_pos c11] at H
    have c11b0 := decide_eq_true c11
    clear c11
    obtain rfl := Option.some.inj H
    go_enter Tryz.func130, Tryz.ntmps130
    go_wp2
    go_ret
    exact ⟨zE, by repeat (first | exact Drawn0.refl _ | apply Drawn0.step)⟩
   ·rw [if_neg c11] at H
    have c11b0 := decide_eq_false c11
    clear c11
    by_cases c12 : a0 = 45
    ·rw [if_pos c12] at H
     have c12b0 : (a0 == 45) = true := beq_iff_eq.mpr c12
     have c12b1 : (a0 != 45) = false := bne_eq_false_iff_eq.mpr c12
     clear c12
     obtain rfl := Option.some.inj H
     go_enter Tryz.func130, Tryz.ntmps130
     go_wp2
     go_ret
     exact ⟨zE, by repeat (first | exact Drawn0.refl _ | apply Drawn0.step)⟩
    ·rw [if_neg c12] at H
     have c12b0 : (a0 == 45) = false := beq_eq_false_iff_ne.mpr c12
     have c12b1 : (a0 != 45) = true := bne_iff_ne.mpr c12
     by_cases c13 : a0 = 46
     ·rw [if_pos c13] at H
      have c13b0 : (a0 == 46) = true := beq_iff_eq.mpr c13
      have c13b1 : (a0 != 46) = false := bne_eq_false_iff_eq.mpr c13
      clear c13
      obtain rfl := Option.some.inj H
      go_enter Tryz.func130, Tryz.ntmps130
      go_wp2
      go_ret
      exact ⟨zE, by repeat (first | exact Drawn0.refl _ | apply Drawn0.step)⟩
     ·rw [if_neg c13] at H
      have c13b0 : (a0 == 46) = false := beq_eq_false_iff_ne.mpr c13
      have c13b1 : (a0 != 46) = true := bne_iff_ne.mpr c13
      obtain rfl := Option.some.inj H
      go_enter Tryz.func130, Tryz.ntmps130
      go_wp2
      go_ret
      exact ⟨zE, by repeat (first | exact Drawn0.refl _ | apply Drawn0.step)⟩
  ·rw [if_neg c10] at H
   have c10b0 : decide (48 ≤ a0) = false := decide_eq_false c10
   clear c10
   by_cases c14 : a0 = 45
   ·rw [if_pos c14] at H
    have c14b0 : (a0 == 45) = true := beq_iff_eq.mpr c14
    have c14b1 : (a0 != 45) = false := bne_eq_false_iff_eq.mpr c14
    clear c14
    obtain rfl := Option.some.inj H
    go_enter Tryz.func130, Tryz.ntmps130
    go_wp2
    go_ret
    exact ⟨zE, by repeat (first | exact Drawn0.refl _ | apply Drawn0.step)⟩
   ·rw [if_neg c14] at H
    have c14b0 : (a0 == 45) = false := beq_eq_false_iff_ne.mpr c14
    have c14b1 : (a0 != 45) = true := bne_iff_ne.mpr c14
    by_cases c15 : a0 = 46
    ·rw [if_pos c15] at H
     have c15b0 : (a0 == 46) = true := beq_iff_eq.mpr c15
     have c15b1 : (a0 != 46) = false := bne_eq_false_iff_eq.mpr c15
     clear c15
     obtain rfl := Option.some.inj H
     go_enter Tryz.func130, Tryz.ntmps130
     go_wp2
     go_ret
     exact ⟨zE, by repeat (first | exact Drawn0.refl _ | apply Drawn0.step)⟩
    ·rw [if_neg c15] at H
     have c15b0 : (a0 == 46) = false := beq_eq_false_iff_ne.mpr c15
     have c15b1 : (a0 != 46) = true := bne_iff_ne.mpr c15
     obtain rfl := Option.some.inj H
     go_enter Tryz.func130, Tryz.ntmps130
     go_wp2
     go_ret
     exact ⟨zE, by repeat (first | exact Drawn0.refl _ | apply Drawn0.step)⟩
mutual
def span_Name.j0 : Nat → ByteArray → Bool → Option (Bool)
 | 0, _, _ => none
 | k + 1, x0, x11 => if x11 = true then (some false) else (span_Name.l0 k x0 (x0.size : Int) 0)
def span_Name.l0 : Nat → ByteArray → Int → Int → Option (Bool)
 | 0, _, _, _ => none
 | k + 1, x0, x13, x14 => if x14 < x13 then (if 0 ≤ x14 then (if x14 < (x0.size : Int) then ((span_letter.f (bt x0 x14)).bind fun t101 => (if t101 = true then (span_Name.l0 k x0 x13 (wrap64 (x14 + 1))) else (some false))) else (none)) else (none)) else (some true)
end
def span_Name.f (k : Nat) (a0 : ByteArray) : Option (Bool) := if (a0.size : Int) < 1 then (span_Name.j0 k a0 true) else (span_Name.j0 k a0 (decide ((a0.size : Int) > 16)))
theorem span_Name.mono_l : ∀ k, (∀ y0 y1, LeO (span_Name.j0 k y0 y1) (span_Name.j0 (k + 1) y0 y1)) ∧ (∀ y0 y1 y2, LeO (span_Name.l0 k y0 y1 y2) (span_Name.l0 (k + 1) y0 y1 y2))
 | 0 => ⟨fun _ _ r h => by simp [span_Name.j0] at h, fun _ _ _ r h => by simp [span_Name.l0] at h⟩
 | k + 1 => by
  obtain ⟨ih0, ih1⟩ := span_Name.mono_l k
  refine ⟨?_, ?_⟩
  ·intro y0 y1
   unfold span_Name.j0
   exact zM
  ·intro y0 y1 y2
   unfold span_Name.l0
   exact zM
theorem span_Name.mono : ∀ a0 k, LeO (span_Name.f k a0) (span_Name.f (k + 1) a0) := by
 intro a0 k
 obtain ⟨ih0, ih1⟩ := span_Name.mono_l k
 unfold span_Name.f
 exact zM
set_option maxHeartbeats 8000000 in
set_option maxRecDepth 100000 in
theorem span_Name.calls (k : Nat) (a0 : ByteArray) (r : Bool) (w : World) (h : span_Name.f k a0 = some r) :
  Calls Tryz.prog 96 #[.string a0] w fun e w' => e = .returned (.bool r) ∧ Drawn0 w w' := by
 have H : (if (a0.size : Int) < 1 then (span_Name.j0 k a0 true) else (span_Name.j0 k a0 (decide ((a0.size : Int) > 16)))) = some r := h
 clear h
 have HC2 := Aside0.mk H
 clear H
 go_enter Tryz.func96, Tryz.ntmps96
 go_upto_region 1 with (fail)
 go_cut [11] (fun v11 wc => ∃ (kq : Nat) (x11_1 : Bool), v11 = .bool x11_1 ∧ Aside0 (span_Name.j0 kq a0 x11_1 = some r) ∧ Aside0 (kq ≤ k) ∧ Drawn0 w wc)
 case first =>
  have H := HC2.out
  clear HC2
  by_cases c3 : (a0.size : Int) < 1
  ·rw [if_pos c3] at H
   have c3b0 := decide_eq_true c3
   have c3b1 : decide (a0.size < 1) = true := decide_eq_true (by omega)
   clear c3
   (first | rw [c3b0] | (simp only [i64_w, i32_w]; rw [c3b0]) | skip)
   have H' := Aside0.mk H
   clear H
   go_wp2
   go_meet
   case rel => exact ⟨_, (true), zE, H', ⟨by first | omega | exact Nat.le_refl _⟩, by repeat (first | exact Drawn0.refl _ | apply Drawn0.step)⟩
  ·rw [if_neg c3] at H
   have c3b0 := decide_eq_false c3
   have c3b1 : decide (a0.size < 1) = false := decide_eq_false (by omega)
   clear c3
   (first | rw [c3b0] | (simp only [i64_w, i32_w]; rw [c3b0]) | skip)
   have H' := Aside0.mk H
   clear H
   go_wp2
   go_meet
   case rel => exact ⟨_, (decide ((a0.size : Int) > 16)), zE, H', ⟨by first | omega | exact Nat.le_refl _⟩, by repeat (first | exact Drawn0.refl _ | apply Drawn0.step)⟩
 case rest =>
  clear HC2
  (try clear p2); (try clear c3); (try clear c3b0); (try clear c3b1)
  obtain ⟨kq, x11_1, rfl, HA, HJ1, ⟨mc1, rfl⟩⟩ := hcut
  cases kq with
  | zero => exact absurd HA.out (by simp [span_Name.j0])
  | succ kj1 =>
   have H := HA.out
   clear HA
   simp only [span_Name.j0] at H
   by_cases c4 : x11_1 = true
   ·subst c4
    rw [if_pos rfl] at H
    obtain rfl := Option.some.inj H
    go_wp2
    go_ret
    exact ⟨zE, by repeat (first | exact Drawn0.refl _ | apply Drawn0.step)⟩
   ·replace c4 := Bool.eq_false_iff.mpr c4
    subst c4
    rw [if_neg (show ¬ (false = true) by decide)] at H
    have H' := Aside0.mk H
    clear H
    go_wp2
    go_loopg [14] kj1 (fun kq v14 w' => ∃ (x14_2 : Int), v14 = .int .i64 x14_2 ∧ Aside0 (span_Name.l0 kq a0 (a0.size : Int) x14_2 = some r) ∧ Aside0 (kq ≤ kj1) ∧ Drawn0 w w')
    case atStart => exact ⟨(0), zE, H', ⟨Nat.le_refl _⟩, by repeat (first | exact Drawn0.refl _ | apply Drawn0.step)⟩
    case round =>
     clear H'
     (try clear c1); (try clear p2); (try clear c3); (try clear c3b0); (try clear c3b1); (try clear c4); (try clear p2)
     obtain ⟨x14_2, rfl, HA, HK2, ⟨m2, rfl⟩⟩ := hrel
     cases gk with
     | zero => exact absurd HA.out (by simp [span_Name.l0])
     | succ k2 =>
      have H := HA.out
      clear HA
      simp only [span_Name.l0] at H
      by_cases c5 : x14_2 < (a0.size : Int)
      ·rw [if_pos c5] at H
       have c5b0 := decide_eq_true c5
       clear c5
       obtain ⟨c6b0, H⟩ := zt H
       obtain ⟨c7b0, H⟩ := zt H
       replace H := Option.bind_eq_some_iff.mp H
       obtain ⟨t101, A90, H⟩ := H
       have A9 := Aside0.mk A90
       clear A90
       by_cases c10 : t101 = true
       ·subst c10
        rw [if_pos rfl] at H
        have H' := Aside0.mk H
        clear H
        have p8 : 0 ≤ (x14_2 : Int) := of_decide_eq_true zA
        have q8 : x14_2 < (a0.size : Int) := of_decide_eq_true zA
        have hx8 := bt_at a0 x14_2
        replace p8 := eq_true p8
        replace q8 := eq_true q8
        go_wp2_with (first | ((with_reducible refine gate_callee (f := 130) rfl ?_); refine goesL_ (some 20) rfl rfl Tryz.func130 (by kernel_rfl) rfl #[.int .u8 (bt a0 x14_2)] rfl zL ?_; (with_reducible refine (span_letter.calls (bt a0 x14_2) true _ A9.out).mono ?_); rintro e w' ⟨rfl, ⟨nd, rfl⟩⟩; refine ⟨_, rfl, ?_⟩))
        go_roundg k2
        case measure => have := HJ1.out; have := HK2.out; omega
        case rel => exact ⟨(wrap64 (x14_2 + 1)), zE, H', ⟨by have := HJ1.out; have := HK2.out; omega⟩, by repeat (first | exact Drawn0.refl _ | apply Drawn0.step)⟩
       ·replace c10 := Bool.eq_false_iff.mpr c10
        subst c10
        rw [if_neg (show ¬ (false = true) by decide)] at H
        obtain rfl := Option.some.inj H
        have p8 : 0 ≤ (x14_2 : Int) := of_decide_eq_true zA
        have q8 : x14_2 < (a0.size : Int) := of_decide_eq_true zA
        have hx8 := bt_at a0 x14_2
        replace p8 := eq_true p8
        replace q8 := eq_true q8
        go_wp2_with (first | ((with_reducible refine gate_callee (f := 130) rfl ?_); refine goesL_ (some 20) rfl rfl Tryz.func130 (by kernel_rfl) rfl #[.int .u8 (bt a0 x14_2)] rfl zL ?_; (with_reducible refine (span_letter.calls (bt a0 x14_2) false _ A9.out).mono ?_); rintro e w' ⟨rfl, ⟨nd, rfl⟩⟩; refine ⟨_, rfl, ?_⟩))
        go_ret
        exact ⟨zE, by repeat (first | exact Drawn0.refl _ | apply Drawn0.step)⟩
      ·rw [if_neg c5] at H
       have c5b0 := decide_eq_false c5
       clear c5
       obtain rfl := Option.some.inj H
       go_wp2
       go_ret
       exact ⟨zE, by repeat (first | exact Drawn0.refl _ | apply Drawn0.step)⟩
mutual
def span_May.j0 : Nat → Bool → Int → Int → Int → Int → ByteArray → ByteArray → Int → Int → Option (Bool)
 | 0, _, _, _, _, _, _, _, _, _ => none
 | k + 1, x3, x103000, x103001, x103002, x103003, x103004, x103005, x103006, x103007 => if x3 = true then (some false) else (if x103006 < 0 then (span_May.j1 k (decide (x103006 < 0)) x103000 x103001 x103002 x103003 x103004 x103005 x103006 x103007) else (if x103006 ≥ 1125899906842624 then (span_May.j1 k (decide (x103006 ≥ 1125899906842624)) x103000 x103001 x103002 x103003 x103004 x103005 x103006 x103007) else (if x103007 < 0 then (span_May.j1 k (decide (x103007 < 0)) x103000 x103001 x103002 x103003 x103004 x103005 x103006 x103007) else (span_May.j1 k (decide (x103007 > 1125899906842624)) x103000 x103001 x103002 x103003 x103004 x103005 x103006 x103007))))
def span_May.j1 : Nat → Bool → Int → Int → Int → Int → ByteArray → ByteArray → Int → Int → Option (Bool)
 | 0, _, _, _, _, _, _, _, _, _ => none
 | k + 1, x18, x103000, x103001, x103002, x103003, x103004, x103005, x103006, x103007 => if x18 = true then (some false) else ((span_Name.f k x103004).bind fun t103 => (if t103 = true then ((span_Name.f k x103005).bind fun t104 => (some t104)) else (some false)))
end
def span_May.f (k : Nat) (a0_0 : Int) (a0_1 : Int) (a0_2 : Int) (a0_3 : Int) (a0_4 : ByteArray) (a0_5 : ByteArray) (a0_6 : Int) (a0_7 : Int) : Option (Bool) := if a0_0 = 0 then (span_May.j0 k (a0_0 == 0) a0_0 a0_1 a0_2 a0_3 a0_4 a0_5 a0_6 a0_7) else (if a0_1 = 0 then (span_May.j0 k (a0_1 == 0) a0_0 a0_1 a0_2 a0_3 a0_4 a0_5 a0_6 a0_7) else (if a0_2 = a0_1 then (span_May.j0 k (a0_2 == a0_1) a0_0 a0_1 a0_2 a0_3 a0_4 a0_5 a0_6 a0_7) else (span_May.j0 k (decide (a0_3 > 2)) a0_0 a0_1 a0_2 a0_3 a0_4 a0_5 a0_6 a0_7)))
theorem span_May.mono_l : ∀ k, (∀ y0 y1 y2 y3 y4 y5 y6 y7 y8, LeO (span_May.j0 k y0 y1 y2 y3 y4 y5 y6 y7 y8) (span_May.j0 (k + 1) y0 y1 y2 y3 y4 y5 y6 y7 y8)) ∧ (∀ y0 y1 y2 y3 y4 y5 y6 y7 y8, LeO (span_May.j1 k y0 y1 y2 y3 y4 y5 y6 y7 y8) (span_May.j1 (k + 1) y0 y1 y2 y3 y4 y5 y6 y7 y8))
 | 0 => ⟨fun _ _ _ _ _ _ _ _ _ r h => by simp [span_May.j0] at h, fun _ _ _ _ _ _ _ _ _ r h => by simp [span_May.j1] at h⟩
 | k + 1 => by
  obtain ⟨ih0, ih1⟩ := span_May.mono_l k
  refine ⟨?_, ?_⟩
  ·intro y0 y1 y2 y3 y4 y5 y6 y7 y8
   unfold span_May.j0
   have m0 := @span_Name.mono
   exact zM
  ·intro y0 y1 y2 y3 y4 y5 y6 y7 y8
   unfold span_May.j1
   have m0 := @span_Name.mono
   exact zM
theorem span_May.mono : ∀ a0 a1 a2 a3 a4 a5 a6 a7 k, LeO (span_May.f k a0 a1 a2 a3 a4 a5 a6 a7) (span_May.f (k + 1) a0 a1 a2 a3 a4 a5 a6 a7) := by
 intro a0 a1 a2 a3 a4 a5 a6 a7 k
 obtain ⟨ih0, ih1⟩ := span_May.mono_l k
 unfold span_May.f
 have m0 := @span_Name.mono
 exact zM
set_option maxHeartbeats 8000000 in
set_option maxRecDepth 100000 in
theorem span_May.calls (k : Nat) (a0_0 : Int) (a0_1 : Int) (a0_2 : Int) (a0_3 : Int) (a0_4 : ByteArray) (a0_5 : ByteArray) (a0_6 : Int) (a0_7 : Int) (r : Bool) (w : World) (h : span_May.f k a0_0 a0_1 a0_2 a0_3 a0_4 a0_5 a0_6 a0_7 = some r) :
  Calls Tryz.prog 55 #[.agg #[.int .u64 a0_0, .int .u64 a0_1, .int .u64 a0_2, .int .u8 a0_3, .string a0_4, .string a0_5, .int .i64 a0_6, .int .i64 a0_7]] w fun e w' => e = .returned (.bool r) ∧ Below w.heap.size w w' := by
 have hu36 := Tryz.underlying36
 have HB := Aside0.mk (Below.refl w.heap.size w)
 have H : (if a0_0 = 0 then (span_May.j0 k (a0_0 == 0) a0_0 a0_1 a0_2 a0_3 a0_4 a0_5 a0_6 a0_7) else (if a0_1 = 0 then (span_May.j0 k (a0_1 == 0) a0_0 a0_1 a0_2 a0_3 a0_4 a0_5 a0_6 a0_7) else (if a0_2 = a0_1 then (span_May.j0 k (a0_2 == a0_1) a0_0 a0_1 a0_2 a0_3 a0_4 a0_5 a0_6 a0_7) else (span_May.j0 k (decide (a0_3 > 2)) a0_0 a0_1 a0_2 a0_3 a0_4 a0_5 a0_6 a0_7)))) = some r := h
 clear h
 have HC2 := Aside0.mk H
 clear H
 go_enter Tryz.func55, Tryz.ntmps55
 go_upto_if 3 with (first | ((with_reducible refine gate_dst (N := 1) rfl ?_); refine zbox (N := 1) (cs := #[.int .u64 a0_0, .int .u64 a0_1, .int .u64 a0_2, .int .u8 a0_3, .string a0_4, .string a0_5, .int .i64 a0_6, .int .i64 a0_7]) (t := 36) ?_; intro gb102 hg w3 hbox hb; have BK102 := Aside0.mk (hbox); have GW102 := Aside0.mk ((by rw [hg]; exact (below_size zB) : w.heap.size ≤ gb102)); have GE102 := Aside0.mk ((by rw [hg]; exact (below_size zB) : w.heap.size ≤ gb102)); replace HB := Aside0.mk (below_step zB hb); clear hb hbox hg; obtain ⟨hcz4_0, hcz4_1, hcz4_2, hcz4_3, hcz4_4, hcz4_5, hcz4_6, hcz4_7, hfz4_0, hfz4_1, hfz4_2, hfz4_3, hfz4_4, hfz4_5, hfz4_6, hfz4_7⟩ := zb8 BK102.out))
 (try simp only [Act.put, List.setIfInBounds_toArray, List.set_cons_zero, List.set_cons_succ])
 go_cut [3] (fun v3 wc => ∃ (kq : Nat) (x3_1 : Bool), v3 = .bool x3_1 ∧ Aside0 (span_May.j0 kq x3_1 a0_0 a0_1 a0_2 a0_3 a0_4 a0_5 a0_6 a0_7 = some r) ∧ Aside0 (kq ≤ k) ∧ Aside0 (wc.heap[gb102]? = some (.cells #[.int .u64 a0_0, .int .u64 a0_1, .int .u64 a0_2, .int .u8 a0_3, .string a0_4, .string a0_5, .int .i64 a0_6, .int .i64 a0_7] 36 (0, 0))) ∧ Aside0 (Below w.heap.size w wc))
 case first =>
  have H := HC2.out
  clear HC2
  by_cases c5 : a0_0 = 0
  ·rw [if_pos c5] at H
   have c5b0 : (a0_0 == 0) = true := beq_iff_eq.mpr c5
   have c5b1 : (a0_0 != 0) = false := bne_eq_false_iff_eq.mpr c5
   clear c5
   (first | rw [c5b0] | (simp only [i64_w, i32_w]; rw [c5b0]) | skip)
   have H' := Aside0.mk H
   clear H
   go_wp2
   go_meet
   case rel => exact ⟨_, ((a0_0 == 0)), zE, H', ⟨by first | omega | exact Nat.le_refl _⟩, ⟨zK BK102.out⟩, ⟨zG GE102.out⟩⟩
  ·rw [if_neg c5] at H
   have c5b0 : (a0_0 == 0) = false := beq_eq_false_iff_ne.mpr c5
   have c5b1 : (a0_0 != 0) = true := bne_iff_ne.mpr c5
   (first | rw [c5b0] | (simp only [i64_w, i32_w]; rw [c5b0]) | skip)
   by_cases c6 : a0_1 = 0
   ·rw [if_pos c6] at H
    have c6b0 : (a0_1 == 0) = true := beq_iff_eq.mpr c6
    have c6b1 : (a0_1 != 0) = false := bne_eq_false_iff_eq.mpr c6
    clear c6
    have H' := Aside0.mk H
    clear H
    obtain ⟨hcz7_0, hcz7_1, hcz7_2, hcz7_3, hcz7_4, hcz7_5, hcz7_6, hcz7_7, hfz7_0, hfz7_1, hfz7_2, hfz7_3, hfz7_4, hfz7_5, hfz7_6, hfz7_7⟩ := zb8 BK102.out
    go_wp2
    go_meet
    case rel => exact ⟨_, ((a0_1 == 0)), zE, H', ⟨by first | omega | exact Nat.le_refl _⟩, ⟨zK BK102.out⟩, ⟨zG GE102.out⟩⟩
   ·rw [if_neg c6] at H
    have c6b0 : (a0_1 == 0) = false := beq_eq_false_iff_ne.mpr c6
    have c6b1 : (a0_1 != 0) = true := bne_iff_ne.mpr c6
    by_cases c8 : a0_2 = a0_1
    ·rw [if_pos c8] at H
     have c8b0 : (a0_2 == a0_1) = true := beq_iff_eq.mpr c8
     have c8b1 : (a0_2 != a0_1) = false := bne_eq_false_iff_eq.mpr c8
     clear c8
     have H' := Aside0.mk H
     clear H
     obtain ⟨hcz9_0, hcz9_1, hcz9_2, hcz9_3, hcz9_4, hcz9_5, hcz9_6, hcz9_7, hfz9_0, hfz9_1, hfz9_2, hfz9_3, hfz9_4, hfz9_5, hfz9_6, hfz9_7⟩ := zb8 BK102.out
     go_wp2
     go_meet
     case rel => exact ⟨_, ((a0_2 == a0_1)), zE, H', ⟨by first | omega | exact Nat.le_refl _⟩, ⟨zK BK102.out⟩, ⟨zG GE102.out⟩⟩
    ·rw [if_neg c8] at H
     have c8b0 : (a0_2 == a0_1) = false := beq_eq_false_iff_ne.mpr c8
     have c8b1 : (a0_2 != a0_1) = true := bne_iff_ne.mpr c8
     have H' := Aside0.mk H
     clear H
     obtain ⟨hcz10_0, hcz10_1, hcz10_2, hcz10_3, hcz10_4, hcz10_5, hcz10_6, hcz10_7, hfz10_0, hfz10_1, hfz10_2, hfz10_3, hfz10_4, hfz10_5, hfz10_6, hfz10_7⟩ := zb8 BK102.out
     go_wp2
     go_meet
     case rel => exact ⟨_, (decide (a0_3 > 2)), zE, H', ⟨by first | omega | exact Nat.le_refl _⟩, ⟨zK BK102.out⟩, ⟨zG GE102.out⟩⟩
 case rest =>
  clear HC2
  (try clear p2); (try clear c5); (try clear c5b0); (try clear c5b1); (try clear c6); (try clear c6b0); (try clear c6b1); (try clear c8); (try clear c8b0); (try clear c8b1); (try clear hcz10_0); (try clear hcz10_1); (try clear hcz10_2); (try clear hcz10_3); (try clear hcz10_4); (try clear hcz10_5); (try clear hcz10_6); (try clear hcz10_7); (try clear hcz4_0); (try clear hcz4_1); (try clear hcz4_2); (try clear hcz4_3); (try clear hcz4_4); (try clear hcz4_5); (try clear hcz4_6); (try clear hcz4_7); (try clear hcz7_0); (try clear hcz7_1); (try clear hcz7_2); (try clear hcz7_3); (try clear hcz7_4); (try clear hcz7_5); (try clear hcz7_6); (try clear hcz7_7); (try clear hcz9_0); (try clear hcz9_1); (try clear hcz9_2); (try clear hcz9_3); (try clear hcz9_4); (try clear hcz9_5); (try clear hcz9_6); (try clear hcz9_7); (try clear hfz10_0); (try clear hfz10_1); (try clear hfz10_2); (try clear hfz10_3); (try clear hfz10_4); (try clear hfz10_5); (try clear hfz10_6); (try clear hfz10_7); (try clear hfz4_0); (try clear hfz4_1); (try clear hfz4_2); (try clear hfz4_3); (try clear hfz4_4); (try clear hfz4_5); (try clear hfz4_6); (try clear hfz4_7); (try clear hfz7_0); (try clear hfz7_1); (try clear hfz7_2); (try clear hfz7_3); (try clear hfz7_4); (try clear hfz7_5); (try clear hfz7_6); (try clear hfz7_7); (try clear hfz9_0); (try clear hfz9_1); (try clear hfz9_2); (try clear hfz9_3); (try clear hfz9_4); (try clear hfz9_5); (try clear hfz9_6); (try clear hfz9_7)
  obtain ⟨kq, x3_1, rfl, HA, HJ1, BK102, HB⟩ := hcut
  cases kq with
  | zero => exact absurd HA.out (by simp [span_May.j0])
  | succ kj1 =>
   have H := HA.out
   clear HA
   simp only [span_May.j0] at H
   by_cases c11 : x3_1 = true
   ·subst c11
    rw [if_pos rfl] at H
    obtain rfl := Option.some.inj H
    go_wp2
    go_ret
    exact ⟨zV, zG GE102.out⟩
   ·replace c11 := Bool.eq_false_iff.mpr c11
    subst c11
    rw [if_neg (show ¬ (false = true) by decide)] at H
    have HC12 := Aside0.mk H
    clear H
    obtain ⟨hcz13_0, hcz13_1, hcz13_2, hcz13_3, hcz13_4, hcz13_5, hcz13_6, hcz13_7, hfz13_0, hfz13_1, hfz13_2, hfz13_3, hfz13_4, hfz13_5, hfz13_6, hfz13_7⟩ := zb8 BK102.out
    go_upto_if 18 with (fail)
    go_cut [18] (fun v18 wc => ∃ (kq : Nat) (x18_11 : Bool), v18 = .bool x18_11 ∧ Aside0 (span_May.j1 kq x18_11 a0_0 a0_1 a0_2 a0_3 a0_4 a0_5 a0_6 a0_7 = some r) ∧ Aside0 (kq ≤ kj1) ∧ Aside0 (wc.heap[gb102]? = some (.cells #[.int .u64 a0_0, .int .u64 a0_1, .int .u64 a0_2, .int .u8 a0_3, .string a0_4, .string a0_5, .int .i64 a0_6, .int .i64 a0_7] 36 (0, 0))) ∧ Aside0 (Below w.heap.size w wc))
    case first =>
     have H := HC12.out
     clear HC12
     by_cases c14 : a0_6 < 0
     ·rw [if_pos c14] at H
      have c14b0 := decide_eq_true c14
      clear c14
      (first | rw [c14b0] | (simp only [i64_w, i32_w]; rw [c14b0]) | skip)
      have H' := Aside0.mk H
      clear H
      go_wp2
      go_meet
      case rel => exact ⟨_, (decide (a0_6 < 0)), zE, H', ⟨by have := HJ1.out; first | omega | exact Nat.le_refl _⟩, ⟨zK BK102.out⟩, ⟨zG GE102.out⟩⟩
     ·rw [if_neg c14] at H
      have c14b0 := decide_eq_false c14
      clear c14
      (first | rw [c14b0] | (simp only [i64_w, i32_w]; rw [c14b0]) | skip)
      by_cases c15 : a0_6 ≥ 1125899906842624
      ·rw [if_pos c15] at H
       have c15b0 : decide (1125899906842624 ≤ a0_6) = true := decide_eq_true c15
       clear c15
       have H' := Aside0.mk H
       clear H
       obtain ⟨hcz16_0, hcz16_1, hcz16_2, hcz16_3, hcz16_4, hcz16_5, hcz16_6, hcz16_7, hfz16_0, hfz16_1, hfz16_2, hfz16_3, hfz16_4, hfz16_5, hfz16_6, hfz16_7⟩ := zb8 BK102.out
       go_wp2
       go_meet
       case rel => exact ⟨_, (decide (a0_6 ≥ 1125899906842624)), zE, H', ⟨by have := HJ1.out; first | omega | exact Nat.le_refl _⟩, ⟨zK BK102.out⟩, ⟨zG GE102.out⟩⟩
      ·rw [if_neg c15] at H
       have c15b0 : decide (1125899906842624 ≤ a0_6) = false := decide_eq_false c15
       clear c15
       by_cases c17 : a0_7 < 0
       ·rw [if_pos c17] at H
        have c17b0 := decide_eq_true c17
        clear c17
        have H' := Aside0.mk H
        clear H
        obtain ⟨hcz18_0, hcz18_1, hcz18_2, hcz18_3, hcz18_4, hcz18_5, hcz18_6, hcz18_7, hfz18_0, hfz18_1, hfz18_2, hfz18_3, hfz18_4, hfz18_5, hfz18_6, hfz18_7⟩ := zb8 BK102.out
        go_wp2
        go_meet
        case rel => exact ⟨_, (decide (a0_7 < 0)), zE, H', ⟨by have := HJ1.out; first | omega | exact Nat.le_refl _⟩, ⟨zK BK102.out⟩, ⟨zG GE102.out⟩⟩
       ·rw [if_neg c17] at H
        have c17b0 := decide_eq_false c17
        clear c17
        have H' := Aside0.mk H
        clear H
        obtain ⟨hcz19_0, hcz19_1, hcz19_2, hcz19_3, hcz19_4, hcz19_5, hcz19_6, hcz19_7, hfz19_0, hfz19_1, hfz19_2, hfz19_3, hfz19_4, hfz19_5, hfz19_6, hfz19_7⟩ := zb8 BK102.out
        go_wp2
        go_meet
        case rel => exact ⟨_, (decide (a0_7 > 1125899906842624)), zE, H', ⟨by have := HJ1.out; first | omega | exact Nat.le_refl _⟩, ⟨zK BK102.out⟩, ⟨zG GE102.out⟩⟩
    case rest =>
     clear HC12
     (try clear c1); (try clear p2); (try clear c5); (try clear c5b0); (try clear c5b1); (try clear c6); (try clear c6b0); (try clear c6b1); (try clear c8); (try clear c8b0); (try clear c8b1); (try clear c11); (try clear c14); (try clear c14b0); (try clear c15); (try clear c15b0); (try clear c17); (try clear c17b0); (try clear hcz10_0); (try clear hcz10_1); (try clear hcz10_2); (try clear hcz10_3); (try clear hcz10_4); (try clear hcz10_5); (try clear hcz10_6); (try clear hcz10_7); (try clear hcz13_0); (try clear hcz13_1); (try clear hcz13_2); (try clear hcz13_3); (try clear hcz13_4); (try clear hcz13_5); (try clear hcz13_6); (try clear hcz13_7); (try clear hcz16_0); (try clear hcz16_1); (try clear hcz16_2); (try clear hcz16_3); (try clear hcz16_4); (try clear hcz16_5); (try clear hcz16_6); (try clear hcz16_7); (try clear hcz18_0); (try clear hcz18_1); (try clear hcz18_2); (try clear hcz18_3); (try clear hcz18_4); (try clear hcz18_5); (try clear hcz18_6); (try clear hcz18_7); (try clear hcz19_0); (try clear hcz19_1); (try clear hcz19_2); (try clear hcz19_3); (try clear hcz19_4); (try clear hcz19_5); (try clear hcz19_6); (try clear hcz19_7); (try clear hcz4_0); (try clear hcz4_1); (try clear hcz4_2); (try clear hcz4_3); (try clear hcz4_4); (try clear hcz4_5); (try clear hcz4_6); (try clear hcz4_7); (try clear hcz7_0); (try clear hcz7_1); (try clear hcz7_2); (try clear hcz7_3); (try clear hcz7_4); (try clear hcz7_5); (try clear hcz7_6); (try clear hcz7_7); (try clear hcz9_0); (try clear hcz9_1); (try clear hcz9_2); (try clear hcz9_3); (try clear hcz9_4); (try clear hcz9_5); (try clear hcz9_6); (try clear hcz9_7); (try clear hfz10_0); (try clear hfz10_1); (try clear hfz10_2); (try clear hfz10_3); (try clear hfz10_4); (try clear hfz10_5); (try clear hfz10_6); (try clear hfz10_7); (try clear hfz13_0); (try clear hfz13_1); (try clear hfz13_2); (try clear hfz13_3); (try clear hfz13_4); (try clear hfz13_5); (try clear hfz13_6); (try clear hfz13_7); (try clear hfz16_0); (try clear hfz16_1); (try clear hfz16_2); (try clear hfz16_3); (try clear hfz16_4); (try clear hfz16_5); (try clear hfz16_6); (try clear hfz16_7); (try clear hfz18_0); (try clear hfz18_1); (try clear hfz18_2); (try clear hfz18_3); (try clear hfz18_4); (try clear hfz18_5); (try clear hfz18_6); (try clear hfz18_7); (try clear hfz19_0); (try clear hfz19_1); (try clear hfz19_2); (try clear hfz19_3); (try clear hfz19_4); (try clear hfz19_5); (try clear hfz19_6); (try clear hfz19_7); (try clear hfz4_0); (try clear hfz4_1); (try clear hfz4_2); (try clear hfz4_3); (try clear hfz4_4); (try clear hfz4_5); (try clear hfz4_6); (try clear hfz4_7); (try clear hfz7_0); (try clear hfz7_1); (try clear hfz7_2); (try clear hfz7_3); (try clear hfz7_4); (try clear hfz7_5); (try clear hfz7_6); (try clear hfz7_7); (try clear hfz9_0); (try clear hfz9_1); (try clear hfz9_2); (try clear hfz9_3); (try clear hfz9_4); (try clear hfz9_5); (try clear hfz9_6); (try clear hfz9_7); (try clear p2)
     obtain ⟨kq, x18_11, rfl, HA, HJ11, BK102, HB⟩ := hcut
     cases kq with
     | zero => exact absurd HA.out (by simp [span_May.j1])
     | succ kj11 =>
      have H := HA.out
      clear HA
      simp only [span_May.j1] at H
      by_cases c20 : x18_11 = true
      ·subst c20
       rw [if_pos rfl] at H
       obtain rfl := Option.some.inj H
       go_wp2
       go_ret
       exact ⟨zV, zG GE102.out⟩
      ·replace c20 := Bool.eq_false_iff.mpr c20
       subst c20
       rw [if_neg (show ¬ (false = true) by decide)] at H
       replace H := Option.bind_eq_some_iff.mp H
       obtain ⟨t103, A210, H⟩ := H
       have A21 := Aside0.mk A210
       clear A210
       by_cases c22 : t103 = true
       ·subst c22
        rw [if_pos rfl] at H
        replace H := Option.bind_eq_some_iff.mp H
        obtain ⟨t104, A230, H⟩ := H
        have A23 := Aside0.mk A230
        clear A230
        obtain rfl := Option.some.inj H
        obtain ⟨hcz24_0, hcz24_1, hcz24_2, hcz24_3, hcz24_4, hcz24_5, hcz24_6, hcz24_7, hfz24_0, hfz24_1, hfz24_2, hfz24_3, hfz24_4, hfz24_5, hfz24_6, hfz24_7⟩ := zb8 BK102.out
        go_wp2_with (first | ((with_reducible refine gate_callee (f := 96) rfl ?_); refine goesL_ (some 33) rfl rfl Tryz.func96 (by kernel_rfl) rfl #[.string a0_4] rfl zL ?_; (with_reducible refine (span_Name.calls kj11 a0_4 true _ A21.out).mono ?_); rintro e w' ⟨rfl, ⟨nd, rfl⟩⟩; refine ⟨_, rfl, ?_⟩) | (go_at_call 96; (with_reducible refine (span_Name.calls kj11 a0_5 t104 _ A23.out).mono ?_); rintro e w' ⟨rfl, ⟨nd, rfl⟩⟩))
        go_ret
        exact ⟨zV, zG GE102.out⟩
       ·replace c22 := Bool.eq_false_iff.mpr c22
        subst c22
        rw [if_neg (show ¬ (false = true) by decide)] at H
        obtain rfl := Option.some.inj H
        obtain ⟨hcz25_0, hcz25_1, hcz25_2, hcz25_3, hcz25_4, hcz25_5, hcz25_6, hcz25_7, hfz25_0, hfz25_1, hfz25_2, hfz25_3, hfz25_4, hfz25_5, hfz25_6, hfz25_7⟩ := zb8 BK102.out
        go_wp2_with (first | ((with_reducible refine gate_callee (f := 96) rfl ?_); refine goesL_ (some 33) rfl rfl Tryz.func96 (by kernel_rfl) rfl #[.string a0_4] rfl zL ?_; (with_reducible refine (span_Name.calls kj11 a0_4 false _ A21.out).mono ?_); rintro e w' ⟨rfl, ⟨nd, rfl⟩⟩; refine ⟨_, rfl, ?_⟩))
        go_ret
        exact ⟨zV, zG GE102.out⟩
def span_first.l0 : Nat → List Int → Int → Int → Option (Int)
 | 0, _, _, _ => none
 | k + 1, x5, x6, x7 => if x7 < x6 then (if 0 ≤ x7 then (if x7 < (x5.length : Int) then (if (rd x5 x7) = 0 then (span_first.l0 k x5 x6 (wrap64 (x7 + 1))) else (some (rd x5 x7))) else (none)) else (none)) else (some 0)
def span_first.f (k : Nat) (l0 : List Int) : Option (Int) := span_first.l0 k l0 (l0.length : Int) 0
theorem span_first.mono_l : ∀ k, (∀ y0 y1 y2, LeO (span_first.l0 k y0 y1 y2) (span_first.l0 (k + 1) y0 y1 y2))
 | 0 => fun _ _ _ r h => by simp [span_first.l0] at h
 | k + 1 => by
  have ih0 := span_first.mono_l k
  ·intro y0 y1 y2
   unfold span_first.l0
   exact zM
theorem span_first.mono : ∀ a0 k, LeO (span_first.f k a0) (span_first.f (k + 1) a0) := by
 intro a0 k
 have ih0 := span_first.mono_l k
 unfold span_first.f
 exact zM
set_option maxHeartbeats 8000000 in
set_option maxRecDepth 100000 in
theorem span_first.calls (k : Nat) (A0 : Option Addr) (c0 : Nat) (l0 : List Int) (r : Int) (w : World) (hr0 : Kd.C (Kd.int .i64) w A0 l0.length l0) (hc0 : l0.length ≤ c0) (h : span_first.f k l0 = some r) :
  Calls Tryz.prog 97 #[.slice A0 l0.length c0] w fun e w' => e = .returned (.int .i64 r) ∧ Drawn0 w w' := by
 have HR0 := Aside0.mk hr0
 have HC0 := Aside0.mk hc0
 clear hr0 hc0
 have H : (span_first.l0 k l0 (l0.length : Int) 0) = some r := h
 clear h
 have H' := Aside0.mk H
 clear H
 go_enter Tryz.func97, Tryz.ntmps97
 go_wp2
 go_loopg [7] k (fun kq v7 w' => ∃ (x7_1 : Int), v7 = .int .i64 x7_1 ∧ Aside0 (span_first.l0 kq l0 (l0.length : Int) x7_1 = some r) ∧ Aside0 (kq ≤ k) ∧ Drawn0 w w')
 case atStart => exact ⟨(0), zE, H', ⟨Nat.le_refl _⟩, by repeat (first | exact Drawn0.refl _ | apply Drawn0.step)⟩
 case round =>
  clear H'
  obtain ⟨x7_1, rfl, HA, HK1, ⟨m1, rfl⟩⟩ := hrel
  cases gk with
  | zero => exact absurd HA.out (by simp [span_first.l0])
  | succ k1 =>
   have H := HA.out
   clear HA
   simp only [span_first.l0] at H
   by_cases c2 : x7_1 < (l0.length : Int)
   ·rw [if_pos c2] at H
    have c2b0 := decide_eq_true c2
    clear c2
    obtain ⟨c3b0, H⟩ := zt H
    obtain ⟨c4b0, H⟩ := zt H
    by_cases c5 : (rd l0 x7_1) = 0
    ·rw [if_pos c5] at H
     have c5b0 : ((rd l0 x7_1) == 0) = true := beq_iff_eq.mpr c5
     have c5b1 : ((rd l0 x7_1) != 0) = false := bne_eq_false_iff_eq.mpr c5
     clear c5
     have H' := Aside0.mk H
     clear H
     have p105 : 0 ≤ (x7_1 : Int) := of_decide_eq_true zA
     have q105 : x7_1 < (l0.length : Int) := of_decide_eq_true zA
     obtain ⟨ad105, e105, hx105_0⟩ := Kd.at_int HR0.out x7_1 p105 q105
     cases e105
     replace p105 := eq_true p105
     replace q105 := eq_true q105
     go_wp2
     go_roundg k1
     case measure => have := HK1.out; omega
     case rel => exact ⟨(wrap64 (x7_1 + 1)), zE, H', ⟨by have := HK1.out; omega⟩, by repeat (first | exact Drawn0.refl _ | apply Drawn0.step)⟩
    ·rw [if_neg c5] at H
     have c5b0 : ((rd l0 x7_1) == 0) = false := beq_eq_false_iff_ne.mpr c5
     have c5b1 : ((rd l0 x7_1) != 0) = true := bne_iff_ne.mpr c5
     obtain rfl := Option.some.inj H
     have p105 : 0 ≤ (x7_1 : Int) := of_decide_eq_true zA
     have q105 : x7_1 < (l0.length : Int) := of_decide_eq_true zA
     obtain ⟨ad105, e105, hx105_0⟩ := Kd.at_int HR0.out x7_1 p105 q105
     cases e105
     replace p105 := eq_true p105
     replace q105 := eq_true q105
     go_wp2
     go_ret
     exact ⟨zE, by repeat (first | exact Drawn0.refl _ | apply Drawn0.step)⟩
   ·rw [if_neg c2] at H
    have c2b0 := decide_eq_false c2
    clear c2
    obtain rfl := Option.some.inj H
    go_wp2
    go_ret
    exact ⟨zE, by repeat (first | exact Drawn0.refl _ | apply Drawn0.step)⟩
def cmp_isNaN_int64.f (a0 : Int) : Option (Bool) := some (a0 != a0)
set_option maxHeartbeats 8000000 in
set_option maxRecDepth 100000 in
theorem cmp_isNaN_int64.calls (a0 : Int) (r : Bool) (w : World) (h : cmp_isNaN_int64.f a0 = some r) :
  Calls Tryz.prog 131 #[.int .i64 a0] w fun e w' => e = .returned (.bool r) ∧ Drawn0 w w' := by
 have H : (some (a0 != a0)) = some r := h
 clear h
 obtain rfl := Option.some.inj H
 go_enter Tryz.func131, Tryz.ntmps131
 go_wp2
 go_ret
 exact ⟨zE, by repeat (first | exact Drawn0.refl _ | apply Drawn0.step)⟩
def cmp_Compare_int64.f (a0 : Int) (a1 : Int) : Option (Int) := (cmp_isNaN_int64.f a0).bind fun t106 => ((cmp_isNaN_int64.f a1).bind fun t107 => (if t106 = true then (if t107 = true then (some 0) else (some (-1))) else (if t107 = true then (some 1) else (if a0 < a1 then (some (-1)) else (if a0 > a1 then (some 1) else (some 0))))))
set_option maxHeartbeats 8000000 in
set_option maxRecDepth 100000 in
theorem cmp_Compare_int64.calls (a0 : Int) (a1 : Int) (r : Int) (w : World) (h : cmp_Compare_int64.f a0 a1 = some r) :
  Calls Tryz.prog 98 #[.int .i64 a0, .int .i64 a1] w fun e w' => e = .returned (.int .i64 r) ∧ Drawn0 w w' := by
 have H : ((cmp_isNaN_int64.f a0).bind fun t106 => ((cmp_isNaN_int64.f a1).bind fun t107 => (if t106 = true then (if t107 = true then (some 0) else (some (-1))) else (if t107 = true then (some 1) else (if a0 < a1 then (some (-1)) else (if a0 > a1 then (some 1) else (some 0))))))) = some r := h
 clear h
 replace H := Option.bind_eq_some_iff.mp H
 obtain ⟨t106, A30, H⟩ := H
 have A3 := Aside0.mk A30
 clear A30
 replace H := Option.bind_eq_some_iff.mp H
 obtain ⟨t107, A40, H⟩ := H
 have A4 := Aside0.mk A40
 clear A40
 by_cases c5 : t106 = true
 ·subst c5
  rw [if_pos rfl] at H
  by_cases c6 : t107 = true
  ·subst c6
   rw [if_pos rfl] at H
   obtain rfl := Option.some.inj H
   go_enter Tryz.func98, Tryz.ntmps98
   go_wp2_with (first | ((with_reducible refine gate_callee (f := 131) rfl ?_); refine goesL_ (some 8) rfl rfl Tryz.func131 (by kernel_rfl) rfl #[.int .i64 a0] rfl zL ?_; (with_reducible refine (cmp_isNaN_int64.calls a0 true _ A3.out).mono ?_); rintro e w' ⟨rfl, ⟨nd, rfl⟩⟩; refine ⟨_, rfl, ?_⟩) | ((with_reducible refine gate_callee (f := 131) rfl ?_); refine goesL_ (some 10) rfl rfl Tryz.func131 (by kernel_rfl) rfl #[.int .i64 a1] rfl zL ?_; (with_reducible refine (cmp_isNaN_int64.calls a1 true _ A4.out).mono ?_); rintro e w' ⟨rfl, ⟨nd, rfl⟩⟩; refine ⟨_, rfl, ?_⟩))
   go_ret
   exact ⟨zE, by repeat (first | exact Drawn0.refl _ | apply Drawn0.step)⟩
  ·replace c6 := Bool.eq_false_iff.mpr c6
   subst c6
   rw [if_neg (show ¬ (false = true) by decide)] at H
   obtain rfl := Option.some.inj H
   go_enter Tryz.func98, Tryz.ntmps98
   go_wp2_with (first | ((with_reducible refine gate_callee (f := 131) rfl ?_); refine goesL_ (some 8) rfl rfl Tryz.func131 (by kernel_rfl) rfl #[.int .i64 a0] rfl zL ?_; (with_reducible refine (cmp_isNaN_int64.calls a0 true _ A3.out).mono ?_); rintro e w' ⟨rfl, ⟨nd, rfl⟩⟩; refine ⟨_, rfl, ?_⟩) | ((with_reducible refine gate_callee (f := 131) rfl ?_); refine goesL_ (some 10) rfl rfl Tryz.func131 (by kernel_rfl) rfl #[.int .i64 a1] rfl zL ?_; (with_reducible refine (cmp_isNaN_int64.calls a1 false _ A4.out).mono ?_); rintro e w' ⟨rfl, ⟨nd, rfl⟩⟩; refine ⟨_, rfl, ?_⟩))
   go_ret
   exact ⟨zE, by repeat (first | exact Drawn0.refl _ | apply Drawn0.step)⟩
 ·replace c5 := Bool.eq_false_iff.mpr c5
  subst c5
  rw [if_neg (show ¬ (false = true) by decide)] at H
  by_cases c7 : t107 = true
  ·subst c7
   rw [if_pos rfl] at H
   obtain rfl := Option.some.inj H
   go_enter Tryz.func98, Tryz.ntmps98
   go_wp2_with (first | ((with_reducible refine gate_callee (f := 131) rfl ?_); refine goesL_ (some 8) rfl rfl Tryz.func131 (by kernel_rfl) rfl #[.int .i64 a0] rfl zL ?_; (with_reducible refine (cmp_isNaN_int64.calls a0 false _ A3.out).mono ?_); rintro e w' ⟨rfl, ⟨nd, rfl⟩⟩; refine ⟨_, rfl, ?_⟩) | ((with_reducible refine gate_callee (f := 131) rfl ?_); refine goesL_ (some 10) rfl rfl Tryz.func131 (by kernel_rfl) rfl #[.int .i64 a1] rfl zL ?_; (with_reducible refine (cmp_isNaN_int64.calls a1 true _ A4.out).mono ?_); rintro e w' ⟨rfl, ⟨nd, rfl⟩⟩; refine ⟨_, rfl, ?_⟩))
   go_ret
   exact ⟨zE, by repeat (first | exact Drawn0.refl _ | apply Drawn0.step)⟩
  ·replace c7 := Bool.eq_false_iff.mpr c7
   subst c7
   rw [if_neg (show ¬ (false = true) by decide)] at H
   by_cases c8 : a0 < a1
   ·rw [if_pos c8] at H
    have c8b0 := decide_eq_true c8
    clear c8
    obtain rfl := Option.some.inj H
    go_enter Tryz.func98, Tryz.ntmps98
    go_wp2_with (first | ((with_reducible refine gate_callee (f := 131) rfl ?_); refine goesL_ (some 8) rfl rfl Tryz.func131 (by kernel_rfl) rfl #[.int .i64 a0] rfl zL ?_; (with_reducible refine (cmp_isNaN_int64.calls a0 false _ A3.out).mono ?_); rintro e w' ⟨rfl, ⟨nd, rfl⟩⟩; refine ⟨_, rfl, ?_⟩) | ((with_reducible refine gate_callee (f := 131) rfl ?_); refine goesL_ (some 10) rfl rfl Tryz.func131 (by kernel_rfl) rfl #[.int .i64 a1] rfl zL ?_; (with_reducible refine (cmp_isNaN_int64.calls a1 false _ A4.out).mono ?_); rintro e w' ⟨rfl, ⟨nd, rfl⟩⟩; refine ⟨_, rfl, ?_⟩))
    go_ret
    exact ⟨zE, by repeat (first | exact Drawn0.refl _ | apply Drawn0.step)⟩
   ·rw [if_neg c8] at H
    have c8b0 := decide_eq_false c8
    clear c8
    by_cases c9 : a0 > a1
    ·rw [if_pos c9] at H
     have c9b0 : decide (a1 < a0) = true := decide_eq_true c9
     clear c9
     obtain rfl := Option.some.inj H
     go_enter Tryz.func98, Tryz.ntmps98
     go_wp2_with (first | ((with_reducible refine gate_callee (f := 131) rfl ?_); refine goesL_ (some 8) rfl rfl Tryz.func131 (by kernel_rfl) rfl #[.int .i64 a0] rfl zL ?_; (with_reducible refine (cmp_isNaN_int64.calls a0 false _ A3.out).mono ?_); rintro e w' ⟨rfl, ⟨nd, rfl⟩⟩; refine ⟨_, rfl, ?_⟩) | ((with_reducible refine gate_callee (f := 131) rfl ?_); refine goesL_ (some 10) rfl rfl Tryz.func131 (by kernel_rfl) rfl #[.int .i64 a1] rfl zL ?_; (with_reducible refine (cmp_isNaN_int64.calls a1 false _ A4.out).mono ?_); rintro e w' ⟨rfl, ⟨nd, rfl⟩⟩; refine ⟨_, rfl, ?_⟩))
     go_ret
     exact ⟨zE, by repeat (first | exact Drawn0.refl _ | apply Drawn0.step)⟩
    ·rw [if_neg c9] at H
     have c9b0 : decide (a1 < a0) = false := decide_eq_false c9
     clear c9
     obtain rfl := Option.some.inj H
     go_enter Tryz.func98, Tryz.ntmps98
     go_wp2_with (first | ((with_reducible refine gate_callee (f := 131) rfl ?_); refine goesL_ (some 8) rfl rfl Tryz.func131 (by kernel_rfl) rfl #[.int .i64 a0] rfl zL ?_; (with_reducible refine (cmp_isNaN_int64.calls a0 false _ A3.out).mono ?_); rintro e w' ⟨rfl, ⟨nd, rfl⟩⟩; refine ⟨_, rfl, ?_⟩) | ((with_reducible refine gate_callee (f := 131) rfl ?_); refine goesL_ (some 10) rfl rfl Tryz.func131 (by kernel_rfl) rfl #[.int .i64 a1] rfl zL ?_; (with_reducible refine (cmp_isNaN_int64.calls a1 false _ A4.out).mono ?_); rintro e w' ⟨rfl, ⟨nd, rfl⟩⟩; refine ⟨_, rfl, ?_⟩))
     go_ret
     exact ⟨zE, by repeat (first | exact Drawn0.refl _ | apply Drawn0.step)⟩
def cmp_isNaN_uint64.f (a0 : Int) : Option (Bool) := some (a0 != a0)
set_option maxHeartbeats 8000000 in
set_option maxRecDepth 100000 in
theorem cmp_isNaN_uint64.calls (a0 : Int) (r : Bool) (w : World) (h : cmp_isNaN_uint64.f a0 = some r) :
  Calls Tryz.prog 132 #[.int .u64 a0] w fun e w' => e = .returned (.bool r) ∧ Drawn0 w w' := by
 have H : (some (a0 != a0)) = some r := h
 clear h
 obtain rfl := Option.some.inj H
 go_enter Tryz.func132, Tryz.ntmps132
 go_wp2
 go_ret
 exact ⟨zE, by repeat (first | exact Drawn0.refl _ | apply Drawn0.step)⟩
end Go.Proofs.YtgknjgionicncaaGreat.Q
namespace Go.Proofs.YtgknjgionicncaaGreat.Q
open Go.RowKit Go.Proofs.YtgknjgionicncaaGreatW.PrintWords Go.Proofs.YtgknjgionicncaaGreatW.PrintLast Go.Proofs.YtgknjgionicncaaGreatW.PrintMore
attribute [local go_sem] max2_int min2_int max_two min_two max_three min_three max_four min_four
set_option linter.unusedVariables false
set_option linter.unusedSimpArgs false
def cmp_Compare_uint64.f (a0 : Int) (a1 : Int) : Option (Int) := (cmp_isNaN_uint64.f a0).bind fun t108 => ((cmp_isNaN_uint64.f a1).bind fun t109 => (if t108 = true then (if t109 = true then (some 0) else (some (-1))) else (if t109 = true then (some 1) else (if a0 < a1 then (some (-1)) else (if a0 > a1 then (some 1) else (some 0))))))
set_option maxHeartbeats 8000000 in
set_option maxRecDepth 100000 in
theorem cmp_Compare_uint64.calls (a0 : Int) (a1 : Int) (r : Int) (w : World) (h : cmp_Compare_uint64.f a0 a1 = some r) :
  Calls Tryz.prog 99 #[.int .u64 a0, .int .u64 a1] w fun e w' => e = .returned (.int .i64 r) ∧ Drawn0 w w' := by
 have H : ((cmp_isNaN_uint64.f a0).bind fun t108 => ((cmp_isNaN_uint64.f a1).bind fun t109 => (if t108 = true then (if t109 = true then (some 0) else (some (-1))) else (if t109 = true then (some 1) else (if a0 < a1 then (some (-1)) else (if a0 > a1 then (some 1) else (some 0))))))) = some r := h
 clear h
 replace H := Option.bind_eq_some_iff.mp H
 obtain ⟨t108, A30, H⟩ := H
 have A3 := Aside0.mk A30
 clear A30
 replace H := Option.bind_eq_some_iff.mp H
 obtain ⟨t109, A40, H⟩ := H
 have A4 := Aside0.mk A40
 clear A40
 by_cases c5 : t108 = true
 ·subst c5
  rw [if_pos rfl] at H
  by_cases c6 : t109 = true
  ·subst c6
   rw [if_pos rfl] at H
   obtain rfl := Option.some.inj H
   go_enter Tryz.func99, Tryz.ntmps99
   go_wp2_with (first | ((with_reducible refine gate_callee (f := 132) rfl ?_); refine goesL_ (some 8) rfl rfl Tryz.func132 (by kernel_rfl) rfl #[.int .u64 a0] rfl zL ?_; (with_reducible refine (cmp_isNaN_uint64.calls a0 true _ A3.out).mono ?_); rintro e w' ⟨rfl, ⟨nd, rfl⟩⟩; refine ⟨_, rfl, ?_⟩) | ((with_reducible refine gate_callee (f := 132) rfl ?_); refine goesL_ (some 10) rfl rfl Tryz.func132 (by kernel_rfl) rfl #[.int .u64 a1] rfl zL ?_; (with_reducible refine (cmp_isNaN_uint64.calls a1 true _ A4.out).mono ?_); rintro e w' ⟨rfl, ⟨nd, rfl⟩⟩; refine ⟨_, rfl, ?_⟩))
   go_ret
   exact ⟨zE, by repeat (first | exact Drawn0.refl _ | apply Drawn0.step)⟩
  ·replace c6 := Bool.eq_false_iff.mpr c6
   subst c6
   rw [if_neg (show ¬ (false = true) by decide)] at H
   obtain rfl := Option.some.inj H
   go_enter Tryz.func99, Tryz.ntmps99
   go_wp2_with (first | ((with_reducible refine gate_callee (f := 132) rfl ?_); refine goesL_ (some 8) rfl rfl Tryz.func132 (by kernel_rfl) rfl #[.int .u64 a0] rfl zL ?_; (with_reducible refine (cmp_isNaN_uint64.calls a0 true _ A3.out).mono ?_); rintro e w' ⟨rfl, ⟨nd, rfl⟩⟩; refine ⟨_, rfl, ?_⟩) | ((with_reducible refine gate_callee (f := 132) rfl ?_); refine goesL_ (some 10) rfl rfl Tryz.func132 (by kernel_rfl) rfl #[.int .u64 a1] rfl zL ?_; (with_reducible refine (cmp_isNaN_uint64.calls a1 false _ A4.out).mono ?_); rintro e w' ⟨rfl, ⟨nd, rfl⟩⟩; refine ⟨_, rfl, ?_⟩))
   go_ret
   exact ⟨zE, by repeat (first | exact Drawn0.refl _ | apply Drawn0.step)⟩
 ·replace c5 := Bool.eq_false_iff.mpr c5
  subst c5
  rw [if_neg (show ¬ (false = true) by decide)] at H
  by_cases c7 : t109 = true
  ·subst c7
   rw [if_pos rfl] at H
   obtain rfl := Option.some.inj H
   go_enter Tryz.func99, Tryz.ntmps99
   go_wp2_with (first | ((with_reducible refine gate_callee (f := 132) rfl ?_); refine goesL_ (some 8) rfl rfl Tryz.func132 (by kernel_rfl) rfl #[.int .u64 a0] rfl zL ?_; (with_reducible refine (cmp_isNaN_uint64.calls a0 false _ A3.out).mono ?_); rintro e w' ⟨rfl, ⟨nd, rfl⟩⟩; refine ⟨_, rfl, ?_⟩) | ((with_reducible refine gate_callee (f := 132) rfl ?_); refine goesL_ (some 10) rfl rfl Tryz.func132 (by kernel_rfl) rfl #[.int .u64 a1] rfl zL ?_; (with_reducible refine (cmp_isNaN_uint64.calls a1 true _ A4.out).mono ?_); rintro e w' ⟨rfl, ⟨nd, rfl⟩⟩; refine ⟨_, rfl, ?_⟩))
   go_ret
   exact ⟨zE, by repeat (first | exact Drawn0.refl _ | apply Drawn0.step)⟩
  ·replace c7 := Bool.eq_false_iff.mpr c7
   subst c7
   rw [if_neg (show ¬ (false = true) by decide)] at H
   by_cases c8 : a0 < a1
   ·rw [if_pos c8] at H
    have c8b0 := decide_eq_true c8
    clear c8
    obtain rfl := Option.some.inj H
    go_enter Tryz.func99, Tryz.ntmps99
    go_wp2_with (first | ((with_reducible refine gate_callee (f := 132) rfl ?_); refine goesL_ (some 8) rfl rfl Tryz.func132 (by kernel_rfl) rfl #[.int .u64 a0] rfl zL ?_; (with_reducible refine (cmp_isNaN_uint64.calls a0 false _ A3.out).mono ?_); rintro e w' ⟨rfl, ⟨nd, rfl⟩⟩; refine ⟨_, rfl, ?_⟩) | ((with_reducible refine gate_callee (f := 132) rfl ?_); refine goesL_ (some 10) rfl rfl Tryz.func132 (by kernel_rfl) rfl #[.int .u64 a1] rfl zL ?_; (with_reducible refine (cmp_isNaN_uint64.calls a1 false _ A4.out).mono ?_); rintro e w' ⟨rfl, ⟨nd, rfl⟩⟩; refine ⟨_, rfl, ?_⟩))
    go_ret
    exact ⟨zE, by repeat (first | exact Drawn0.refl _ | apply Drawn0.step)⟩
   ·rw [if_neg c8] at H
    have c8b0 := decide_eq_false c8
    clear c8
    by_cases c9 : a0 > a1
    ·rw [if_pos c9] at H
     have c9b0 : decide (a1 < a0) = true := decide_eq_true c9
     clear c9
     obtain rfl := Option.some.inj H
     go_enter Tryz.func99, Tryz.ntmps99
     go_wp2_with (first | ((with_reducible refine gate_callee (f := 132) rfl ?_); refine goesL_ (some 8) rfl rfl Tryz.func132 (by kernel_rfl) rfl #[.int .u64 a0] rfl zL ?_; (with_reducible refine (cmp_isNaN_uint64.calls a0 false _ A3.out).mono ?_); rintro e w' ⟨rfl, ⟨nd, rfl⟩⟩; refine ⟨_, rfl, ?_⟩) | ((with_reducible refine gate_callee (f := 132) rfl ?_); refine goesL_ (some 10) rfl rfl Tryz.func132 (by kernel_rfl) rfl #[.int .u64 a1] rfl zL ?_; (with_reducible refine (cmp_isNaN_uint64.calls a1 false _ A4.out).mono ?_); rintro e w' ⟨rfl, ⟨nd, rfl⟩⟩; refine ⟨_, rfl, ?_⟩))
     go_ret
     exact ⟨zE, by repeat (first | exact Drawn0.refl _ | apply Drawn0.step)⟩
    ·rw [if_neg c9] at H
     have c9b0 : decide (a1 < a0) = false := decide_eq_false c9
     clear c9
     obtain rfl := Option.some.inj H
     go_enter Tryz.func99, Tryz.ntmps99
     go_wp2_with (first | ((with_reducible refine gate_callee (f := 132) rfl ?_); refine goesL_ (some 8) rfl rfl Tryz.func132 (by kernel_rfl) rfl #[.int .u64 a0] rfl zL ?_; (with_reducible refine (cmp_isNaN_uint64.calls a0 false _ A3.out).mono ?_); rintro e w' ⟨rfl, ⟨nd, rfl⟩⟩; refine ⟨_, rfl, ?_⟩) | ((with_reducible refine gate_callee (f := 132) rfl ?_); refine goesL_ (some 10) rfl rfl Tryz.func132 (by kernel_rfl) rfl #[.int .u64 a1] rfl zL ?_; (with_reducible refine (cmp_isNaN_uint64.calls a1 false _ A4.out).mono ?_); rintro e w' ⟨rfl, ⟨nd, rfl⟩⟩; refine ⟨_, rfl, ?_⟩))
     go_ret
     exact ⟨zE, by repeat (first | exact Drawn0.refl _ | apply Drawn0.step)⟩
def cmp_isNaN_uint8.f (a0 : Int) : Option (Bool) := some (a0 != a0)
set_option maxHeartbeats 8000000 in
set_option maxRecDepth 100000 in
theorem cmp_isNaN_uint8.calls (a0 : Int) (r : Bool) (w : World) (h : cmp_isNaN_uint8.f a0 = some r) :
  Calls Tryz.prog 133 #[.int .u8 a0] w fun e w' => e = .returned (.bool r) ∧ Drawn0 w w' := by
 have H : (some (a0 != a0)) = some r := h
 clear h
 obtain rfl := Option.some.inj H
 go_enter Tryz.func133, Tryz.ntmps133
 go_wp2
 go_ret
 exact ⟨zE, by repeat (first | exact Drawn0.refl _ | apply Drawn0.step)⟩
def cmp_Compare_uint8.f (a0 : Int) (a1 : Int) : Option (Int) := (cmp_isNaN_uint8.f a0).bind fun t110 => ((cmp_isNaN_uint8.f a1).bind fun t111 => (if t110 = true then (if t111 = true then (some 0) else (some (-1))) else (if t111 = true then (some 1) else (if a0 < a1 then (some (-1)) else (if a0 > a1 then (some 1) else (some 0))))))
set_option maxHeartbeats 8000000 in
set_option maxRecDepth 100000 in
theorem cmp_Compare_uint8.calls (a0 : Int) (a1 : Int) (r : Int) (w : World) (h : cmp_Compare_uint8.f a0 a1 = some r) :
  Calls Tryz.prog 100 #[.int .u8 a0, .int .u8 a1] w fun e w' => e = .returned (.int .i64 r) ∧ Drawn0 w w' := by
 have H : ((cmp_isNaN_uint8.f a0).bind fun t110 => ((cmp_isNaN_uint8.f a1).bind fun t111 => (if t110 = true then (if t111 = true then (some 0) else (some (-1))) else (if t111 = true then (some 1) else (if a0 < a1 then (some (-1)) else (if a0 > a1 then (some 1) else (some 0))))))) = some r := h
 clear h
 replace H := Option.bind_eq_some_iff.mp H
 obtain ⟨t110, A30, H⟩ := H
 have A3 := Aside0.mk A30
 clear A30
 replace H := Option.bind_eq_some_iff.mp H
 obtain ⟨t111, A40, H⟩ := H
 have A4 := Aside0.mk A40
 clear A40
 by_cases c5 : t110 = true
 ·subst c5
  rw [if_pos rfl] at H
  by_cases c6 : t111 = true
  ·subst c6
   rw [if_pos rfl] at H
   obtain rfl := Option.some.inj H
   go_enter Tryz.func100, Tryz.ntmps100
   go_wp2_with (first | ((with_reducible refine gate_callee (f := 133) rfl ?_); refine goesL_ (some 8) rfl rfl Tryz.func133 (by kernel_rfl) rfl #[.int .u8 a0] rfl zL ?_; (with_reducible refine (cmp_isNaN_uint8.calls a0 true _ A3.out).mono ?_); rintro e w' ⟨rfl, ⟨nd, rfl⟩⟩; refine ⟨_, rfl, ?_⟩) | ((with_reducible refine gate_callee (f := 133) rfl ?_); refine goesL_ (some 10) rfl rfl Tryz.func133 (by kernel_rfl) rfl #[.int .u8 a1] rfl zL ?_; (with_reducible refine (cmp_isNaN_uint8.calls a1 true _ A4.out).mono ?_); rintro e w' ⟨rfl, ⟨nd, rfl⟩⟩; refine ⟨_, rfl, ?_⟩))
   go_ret
   exact ⟨zE, by repeat (first | exact Drawn0.refl _ | apply Drawn0.step)⟩
  ·replace c6 := Bool.eq_false_iff.mpr c6
   subst c6
   rw [if_neg (show ¬ (false = true) by decide)] at H
   obtain rfl := Option.some.inj H
   go_enter Tryz.func100, Tryz.ntmps100
   go_wp2_with (first | ((with_reducible refine gate_callee (f := 133) rfl ?_); refine goesL_ (some 8) rfl rfl Tryz.func133 (by kernel_rfl) rfl #[.int .u8 a0] rfl zL ?_; (with_reducible refine (cmp_isNaN_uint8.calls a0 true _ A3.out).mono ?_); rintro e w' ⟨rfl, ⟨nd, rfl⟩⟩; refine ⟨_, rfl, ?_⟩) | ((with_reducible refine gate_callee (f := 133) rfl ?_); refine goesL_ (some 10) rfl rfl Tryz.func133 (by kernel_rfl) rfl #[.int .u8 a1] rfl zL ?_; (with_reducible refine (cmp_isNaN_uint8.calls a1 false _ A4.out).mono ?_); rintro e w' ⟨rfl, ⟨nd, rfl⟩⟩; refine ⟨_, rfl, ?_⟩))
   go_ret
   exact ⟨zE, by repeat (first | exact Drawn0.refl _ | apply Drawn0.step)⟩
 ·replace c5 := Bool.eq_false_iff.mpr c5
  subst c5
  rw [if_neg (show ¬ (false = true) by decide)] at H
  by_cases c7 : t111 = true
  ·subst c7
   rw [if_pos rfl] at H
   obtain rfl := Option.some.inj H
   go_enter Tryz.func100, Tryz.ntmps100
   go_wp2_with (first | ((with_reducible refine gate_callee (f := 133) rfl ?_); refine goesL_ (some 8) rfl rfl Tryz.func133 (by kernel_rfl) rfl #[.int .u8 a0] rfl zL ?_; (with_reducible refine (cmp_isNaN_uint8.calls a0 false _ A3.out).mono ?_); rintro e w' ⟨rfl, ⟨nd, rfl⟩⟩; refine ⟨_, rfl, ?_⟩) | ((with_reducible refine gate_callee (f := 133) rfl ?_); refine goesL_ (some 10) rfl rfl Tryz.func133 (by kernel_rfl) rfl #[.int .u8 a1] rfl zL ?_; (with_reducible refine (cmp_isNaN_uint8.calls a1 true _ A4.out).mono ?_); rintro e w' ⟨rfl, ⟨nd, rfl⟩⟩; refine ⟨_, rfl, ?_⟩))
   go_ret
   exact ⟨zE, by repeat (first | exact Drawn0.refl _ | apply Drawn0.step)⟩
  ·replace c7 := Bool.eq_false_iff.mpr c7
   subst c7
   rw [if_neg (show ¬ (false = true) by decide)] at H
   by_cases c8 : a0 < a1
   ·rw [if_pos c8] at H
    have c8b0 := decide_eq_true c8
    clear c8
    obtain rfl := Option.some.inj H
    go_enter Tryz.func100, Tryz.ntmps100
    go_wp2_with (first | ((with_reducible refine gate_callee (f := 133) rfl ?_); refine goesL_ (some 8) rfl rfl Tryz.func133 (by kernel_rfl) rfl #[.int .u8 a0] rfl zL ?_; (with_reducible refine (cmp_isNaN_uint8.calls a0 false _ A3.out).mono ?_); rintro e w' ⟨rfl, ⟨nd, rfl⟩⟩; refine ⟨_, rfl, ?_⟩) | ((with_reducible refine gate_callee (f := 133) rfl ?_); refine goesL_ (some 10) rfl rfl Tryz.func133 (by kernel_rfl) rfl #[.int .u8 a1] rfl zL ?_; (with_reducible refine (cmp_isNaN_uint8.calls a1 false _ A4.out).mono ?_); rintro e w' ⟨rfl, ⟨nd, rfl⟩⟩; refine ⟨_, rfl, ?_⟩))
    go_ret
    exact ⟨zE, by repeat (first | exact Drawn0.refl _ | apply Drawn0.step)⟩
   ·rw [if_neg c8] at H
    have c8b0 := decide_eq_false c8
    clear c8
    by_cases c9 : a0 > a1
    ·rw [if_pos c9] at H
     have c9b0 : decide (a1 < a0) = true := decide_eq_true c9
     clear c9
     obtain rfl := Option.some.inj H
     go_enter Tryz.func100, Tryz.ntmps100
     go_wp2_with (first | ((with_reducible refine gate_callee (f := 133) rfl ?_); refine goesL_ (some 8) rfl rfl Tryz.func133 (by kernel_rfl) rfl #[.int .u8 a0] rfl zL ?_; (with_reducible refine (cmp_isNaN_uint8.calls a0 false _ A3.out).mono ?_); rintro e w' ⟨rfl, ⟨nd, rfl⟩⟩; refine ⟨_, rfl, ?_⟩) | ((with_reducible refine gate_callee (f := 133) rfl ?_); refine goesL_ (some 10) rfl rfl Tryz.func133 (by kernel_rfl) rfl #[.int .u8 a1] rfl zL ?_; (with_reducible refine (cmp_isNaN_uint8.calls a1 false _ A4.out).mono ?_); rintro e w' ⟨rfl, ⟨nd, rfl⟩⟩; refine ⟨_, rfl, ?_⟩))
     go_ret
     exact ⟨zE, by repeat (first | exact Drawn0.refl _ | apply Drawn0.step)⟩
    ·rw [if_neg c9] at H
     have c9b0 : decide (a1 < a0) = false := decide_eq_false c9
     clear c9
     obtain rfl := Option.some.inj H
     go_enter Tryz.func100, Tryz.ntmps100
     go_wp2_with (first | ((with_reducible refine gate_callee (f := 133) rfl ?_); refine goesL_ (some 8) rfl rfl Tryz.func133 (by kernel_rfl) rfl #[.int .u8 a0] rfl zL ?_; (with_reducible refine (cmp_isNaN_uint8.calls a0 false _ A3.out).mono ?_); rintro e w' ⟨rfl, ⟨nd, rfl⟩⟩; refine ⟨_, rfl, ?_⟩) | ((with_reducible refine gate_callee (f := 133) rfl ?_); refine goesL_ (some 10) rfl rfl Tryz.func133 (by kernel_rfl) rfl #[.int .u8 a1] rfl zL ?_; (with_reducible refine (cmp_isNaN_uint8.calls a1 false _ A4.out).mono ?_); rintro e w' ⟨rfl, ⟨nd, rfl⟩⟩; refine ⟨_, rfl, ?_⟩))
     go_ret
     exact ⟨zE, by repeat (first | exact Drawn0.refl _ | apply Drawn0.step)⟩
def bytealg_CompareString.f (a0 a1 : ByteArray) : Option Int := some (Lib.compareBytes a0.data.toList a1.data.toList)
set_option maxHeartbeats 1000000 in
set_option maxRecDepth 100000 in
theorem bytealg_CompareString.calls (a0 a1 : ByteArray) (r : Int) (w : World) (h : bytealg_CompareString.f a0 a1 = some r) :
  Calls Tryz.prog 134 #[.string a0, .string a1] w fun e w' => e = .returned (.int .i64 r) ∧ Drawn0 w w' := by
 obtain rfl := Option.some.inj h
 clear h
 go_enter Tryz.func134, Tryz.ntmps134
 go_wp2
 rw [run_callFunc_extern Tryz.func151 (by kernel_rfl) (by kernel_rfl) (by kernel_rfl) (e := Extern.BytealgCompare.compare) (by kernel_rfl), Lib.run_compareString]
 simp only [Result.andThen]
 rw [Oper.upon_value]
 go_wp2
 go_ret
 exact ⟨rfl, Drawn0.refl _⟩
def strings_Compare.f (a0 : ByteArray) (a1 : ByteArray) : Option (Int) := (bytealg_CompareString.f a0 a1).bind fun t112 => (some t112)
set_option maxHeartbeats 8000000 in
set_option maxRecDepth 100000 in
theorem strings_Compare.calls (a0 : ByteArray) (a1 : ByteArray) (r : Int) (w : World) (h : strings_Compare.f a0 a1 = some r) :
  Calls Tryz.prog 101 #[.string a0, .string a1] w fun e w' => e = .returned (.int .i64 r) ∧ Drawn0 w w' := by
 have H : ((bytealg_CompareString.f a0 a1).bind fun t112 => (some t112)) = some r := h
 clear h
 replace H := Option.bind_eq_some_iff.mp H
 obtain ⟨t112, A30, H⟩ := H
 have A3 := Aside0.mk A30
 clear A30
 obtain rfl := Option.some.inj H
 go_enter Tryz.func101, Tryz.ntmps101
 go_wp2_with (first | ((with_reducible refine gate_callee (f := 134) rfl ?_); refine goesL_ (some 7) rfl rfl Tryz.func134 (by kernel_rfl) rfl #[.string a0, .string a1] rfl zL ?_; (with_reducible refine (bytealg_CompareString.calls a0 a1 t112 _ A3.out).mono ?_); rintro e w' ⟨rfl, ⟨nd, rfl⟩⟩; refine ⟨_, rfl, ?_⟩))
 go_ret
 exact ⟨zE, by repeat (first | exact Drawn0.refl _ | apply Drawn0.step)⟩
def span_Cmp.f (k : Nat) (a0_0 : Int) (a0_1 : Int) (a0_2 : Int) (a0_3 : Int) (a0_4 : ByteArray) (a0_5 : ByteArray) (a0_6 : Int) (a0_7 : Int) (a1_0 : Int) (a1_1 : Int) (a1_2 : Int) (a1_3 : Int) (a1_4 : ByteArray) (a1_5 : ByteArray) (a1_6 : Int) (a1_7 : Int) : Option (Int) := (cmp_Compare_int64.f a0_6 a1_6).bind fun t115 => ((cmp_Compare_uint64.f a0_1 a1_1).bind fun t116 => ((cmp_Compare_uint64.f a0_2 a1_2).bind fun t117 => ((cmp_Compare_uint8.f a0_3 a1_3).bind fun t118 => ((cmp_Compare_int64.f a0_7 a1_7).bind fun t119 => ((strings_Compare.f a0_4 a1_4).bind fun t120 => ((strings_Compare.f a0_5 a1_5).bind fun t121 => ((cmp_Compare_uint64.f a0_0 a1_0).bind fun t122 => ((span_first.f k (([t115, t116, t117, t118, t119, t120, t121, t122] : List Int))).bind fun t126 => (some t126)))))))))
theorem span_Cmp.mono : ∀ a0 a1 a2 a3 a4 a5 a6 a7 a8 a9 a10 a11 a12 a13 a14 a15 k, LeO (span_Cmp.f k a0 a1 a2 a3 a4 a5 a6 a7 a8 a9 a10 a11 a12 a13 a14 a15) (span_Cmp.f (k + 1) a0 a1 a2 a3 a4 a5 a6 a7 a8 a9 a10 a11 a12 a13 a14 a15) := by
 intro a0 a1 a2 a3 a4 a5 a6 a7 a8 a9 a10 a11 a12 a13 a14 a15 k
 unfold span_Cmp.f
 have m0 := @span_first.mono
 exact zM
def span_Cmp.T1 : Bool × List (List Nat × List Nat) := (true, [([], []), ([0], [0]), ([], []), ([2], [2]), ([1, 3], [1, 3]), ([], []), ([5], [5]), ([], []), ([7], [7]), ([6, 8, 4], [6, 8]), ([], []), ([10], [10]), ([], []), ([12], [12]), ([11, 13, 9], [11, 13]), ([], []), ([15], [15]), ([], []), ([17], [17]), ([16, 18, 14], [16, 18]), ([], []), ([20], [20]), ([], []), ([22], [22]), ([21, 23, 19], [21, 23]), ([], []), ([25], [25]), ([], []), ([27], [27]), ([26, 28, 24], [26, 28]), ([], []), ([30], [30]), ([], []), ([32], [32]), ([31, 33, 29], [31, 33]), ([], []), ([35], [35]), ([], []), ([37], [37]), ([36, 38, 34], [36, 38]), ([4, 9, 14, 19, 24, 29, 34, 39], [4, 9, 14, 19, 24, 29, 34, 39]), ([40, 39], [40]), ([41, 41, 0, 1, 2, 3, 4, 5, 6, 7, 8, 9, 10, 11, 12, 13, 14, 15, 16, 17, 18, 19, 20, 21, 22, 23, 24, 25, 26, 27, 28, 29, 30, 31, 32, 33, 34, 35, 36, 37, 38, 39, 40, 41], [41])])
def span_Cmp.B1 : List Nat := [0, 1, 0, 4, 15, 0, 32, 0, 128, 511, 0, 1024, 0, 4096, 16383, 0, 32768, 0, 131072, 524287, 0, 1048576, 0, 4194304, 16777215, 0, 33554432, 0, 134217728, 536870911, 0, 1073741824, 0, 4294967296, 17179869183, 0, 34359738368, 0, 137438953472, 549755813887, 1099511627775, 2199023255551, 4398046511103]
theorem span_Cmp.tab1 : rtab .any (opsOf Tryz.f56 1) = span_Cmp.T1 := by kernel_rfl
theorem span_Cmp.bits1 : waitsOk span_Cmp.T1.2 span_Cmp.B1 = true := by kernel_rfl
set_option maxHeartbeats 8000000 in
set_option maxRecDepth 100000 in
theorem span_Cmp.calls (k : Nat) (a0_0 : Int) (a0_1 : Int) (a0_2 : Int) (a0_3 : Int) (a0_4 : ByteArray) (a0_5 : ByteArray) (a0_6 : Int) (a0_7 : Int) (a1_0 : Int) (a1_1 : Int) (a1_2 : Int) (a1_3 : Int) (a1_4 : ByteArray) (a1_5 : ByteArray) (a1_6 : Int) (a1_7 : Int) (r : Int) (w : World) (h : span_Cmp.f k a0_0 a0_1 a0_2 a0_3 a0_4 a0_5 a0_6 a0_7 a1_0 a1_1 a1_2 a1_3 a1_4 a1_5 a1_6 a1_7 = some r) :
  Calls Tryz.prog 56 #[.agg #[.int .u64 a0_0, .int .u64 a0_1, .int .u64 a0_2, .int .u8 a0_3, .string a0_4, .string a0_5, .int .i64 a0_6, .int .i64 a0_7], .agg #[.int .u64 a1_0, .int .u64 a1_1, .int .u64 a1_2, .int .u8 a1_3, .string a1_4, .string a1_5, .int .i64 a1_6, .int .i64 a1_7]] w fun e w' => e = .returned (.int .i64 r) ∧ Below w.heap.size w w' := by
 have hu36 := Tryz.underlying36
 have HB := Aside0.mk (Below.refl w.heap.size w)
 have H : ((cmp_Compare_int64.f a0_6 a1_6).bind fun t115 => ((cmp_Compare_uint64.f a0_1 a1_1).bind fun t116 => ((cmp_Compare_uint64.f a0_2 a1_2).bind fun t117 => ((cmp_Compare_uint8.f a0_3 a1_3).bind fun t118 => ((cmp_Compare_int64.f a0_7 a1_7).bind fun t119 => ((strings_Compare.f a0_4 a1_4).bind fun t120 => ((strings_Compare.f a0_5 a1_5).bind fun t121 => ((cmp_Compare_uint64.f a0_0 a1_0).bind fun t122 => ((span_first.f k (([t115, t116, t117, t118, t119, t120, t121, t122] : List Int))).bind fun t126 => (some t126)))))))))) = some r := h
 clear h
 replace H := Option.bind_eq_some_iff.mp H
 obtain ⟨t115, A30, H⟩ := H
 have A3 := Aside0.mk A30
 clear A30
 replace H := Option.bind_eq_some_iff.mp H
 obtain ⟨t116, A40, H⟩ := H
 have A4 := Aside0.mk A40
 clear A40
 replace H := Option.bind_eq_some_iff.mp H
 obtain ⟨t117, A50, H⟩ := H
 have A5 := Aside0.mk A50
 clear A50
 replace H := Option.bind_eq_some_iff.mp H
 obtain ⟨t118, A60, H⟩ := H
 have A6 := Aside0.mk A60
 clear A60
 replace H := Option.bind_eq_some_iff.mp H
 obtain ⟨t119, A70, H⟩ := H
 have A7 := Aside0.mk A70
 clear A70
 replace H := Option.bind_eq_some_iff.mp H
 obtain ⟨t120, A80, H⟩ := H
 have A8 := Aside0.mk A80
 clear A80
 replace H := Option.bind_eq_some_iff.mp H
 obtain ⟨t121, A90, H⟩ := H
 have A9 := Aside0.mk A90
 clear A90
 replace H := Option.bind_eq_some_iff.mp H
 obtain ⟨t122, A100, H⟩ := H
 have A10 := Aside0.mk A100
 clear A100
 obtain ⟨y123, hy123⟩ : ∃ y_ : List Int, y_ = (([t115, t116, t117, t118, t119, t120, t121, t122] : List Int)) := ⟨_, rfl⟩
 first | (replace H := zo H hy123) | rw [← hy123] at H
 have Ny123 := Aside0.mk hy123
 clear hy123
 replace H := Option.bind_eq_some_iff.mp H
 obtain ⟨t126, A110, H⟩ := H
 have A11 := Aside0.mk A110
 clear A110
 obtain rfl := Option.some.inj H
 go_enter Tryz.func56, Tryz.ntmps56
 try go_wp2_with (first | ((with_reducible refine gate_dst (N := 2) rfl ?_); refine zbox (N := 2) (cs := #[.int .u64 a0_0, .int .u64 a0_1, .int .u64 a0_2, .int .u8 a0_3, .string a0_4, .string a0_5, .int .i64 a0_6, .int .i64 a0_7]) (t := 36) ?_; intro gb113 hg w12 hbox hb; have BK113 := Aside0.mk (hbox); have GW113 := Aside0.mk ((by rw [hg]; exact (below_size zB) : w.heap.size ≤ gb113)); have GE113 := Aside0.mk ((by rw [hg]; exact (below_size zB) : w.heap.size ≤ gb113)); replace HB := Aside0.mk (below_step zB hb); clear hb hbox hg) | ((with_reducible refine gate_dst (N := 3) rfl ?_); refine zbox (N := 3) (cs := #[.int .u64 a1_0, .int .u64 a1_1, .int .u64 a1_2, .int .u8 a1_3, .string a1_4, .string a1_5, .int .i64 a1_6, .int .i64 a1_7]) (t := 36) ?_; intro gb114 hg w13 hbox hb; have BK114 := Aside0.mk (hbox); have GW114 := Aside0.mk ((by rw [hg]; exact (below_size (zG GE113.out)) : w.heap.size ≤ gb114)); have GE114 := Aside0.mk ((by rw [hg]; exact (below_size (zG GE113.out)) : w.heap.size ≤ gb114)); replace HB := Aside0.mk (below_step (zG GE113.out) hb); have NB113_114 := Aside0.mk ((by rw [hg]; exact Nat.ne_of_lt (blk_lt (g := gb113) (o := .cells #[.int .u64 a0_0, .int .u64 a0_1, .int .u64 a0_2, .int .u8 a0_3, .string a0_4, .string a0_5, .int .i64 a0_6, .int .i64 a0_7] 36 (0, 0)) (zK BK113.out)) : gb113 ≠ gb114)); have NB114_113 := Aside0.mk ((by rw [hg]; exact Nat.ne_of_gt (blk_lt (g := gb113) (o := .cells #[.int .u64 a0_0, .int .u64 a0_1, .int .u64 a0_2, .int .u8 a0_3, .string a0_4, .string a0_5, .int .i64 a0_6, .int .i64 a0_7] 36 (0, 0)) (zK BK113.out)) : gb114 ≠ gb113)); replace BK113 := Aside0.mk (blk_below (g := gb113) (o := .cells #[.int .u64 a0_0, .int .u64 a0_1, .int .u64 a0_2, .int .u8 a0_3, .string a0_4, .string a0_5, .int .i64 a0_6, .int .i64 a0_7] 36 (0, 0)) (zK BK113.out) hb); clear hb hbox hg))
 replace BK113 := Aside0.mk (blk_drew BK113.out)
 replace BK114 := Aside0.mk (blk_drew BK114.out)
 replace HB := Aside0.mk (below_drew1 HB.out)
 refine start_ (n := 43) (S := fun w' => w'.cell? ⟨gb113, 0, none⟩ = some (.int .u64 a0_0) ∧ w'.cell? ⟨gb113, 1, none⟩ = some (.int .u64 a0_1) ∧ w'.cell? ⟨gb113, 2, none⟩ = some (.int .u64 a0_2) ∧ w'.cell? ⟨gb113, 3, none⟩ = some (.int .u8 a0_3) ∧ w'.cell? ⟨gb113, 4, none⟩ = some (.string a0_4) ∧ w'.cell? ⟨gb113, 5, none⟩ = some (.string a0_5) ∧ w'.cell? ⟨gb113, 6, none⟩ = some (.int .i64 a0_6) ∧ w'.cell? ⟨gb113, 7, none⟩ = some (.int .i64 a0_7) ∧ w'.cell? ⟨gb114, 0, none⟩ = some (.int .u64 a1_0) ∧ w'.cell? ⟨gb114, 1, none⟩ = some (.int .u64 a1_1) ∧ w'.cell? ⟨gb114, 2, none⟩ = some (.int .u64 a1_2) ∧ w'.cell? ⟨gb114, 3, none⟩ = some (.int .u8 a1_3) ∧ w'.cell? ⟨gb114, 4, none⟩ = some (.string a1_4) ∧ w'.cell? ⟨gb114, 5, none⟩ = some (.string a1_5) ∧ w'.cell? ⟨gb114, 6, none⟩ = some (.int .i64 a1_6) ∧ w'.cell? ⟨gb114, 7, none⟩ = some (.int .i64 a1_7)) (ds := []) #[false, false, false, false, false, false, false, false, false, false, false, false, false, false, false, false, false, false, false, false, false, false, false, false, false, false, false, false, false, false, false, false, false, false, false, false, false, false, false, false, false, false, false] (by kernel_rfl) rfl rfl ⟨(blk_cell BK113.out 0).trans rfl, (blk_cell BK113.out 1).trans rfl, (blk_cell BK113.out 2).trans rfl, (blk_cell BK113.out 3).trans rfl, (blk_cell BK113.out 4).trans rfl, (blk_cell BK113.out 5).trans rfl, (blk_cell BK113.out 6).trans rfl, (blk_cell BK113.out 7).trans rfl, (blk_cell BK114.out 0).trans rfl, (blk_cell BK114.out 1).trans rfl, (blk_cell BK114.out 2).trans rfl, (blk_cell BK114.out 3).trans rfl, (blk_cell BK114.out 4).trans rfl, (blk_cell BK114.out 5).trans rfl, (blk_cell BK114.out 6).trans rfl, (blk_cell BK114.out 7).trans rfl⟩ (fun hHeld => ?_); refine with_tabW span_Cmp.tab1 span_Cmp.bits1 (fun HT_ HW_ => ?_)
 generalize w13.drew = w14 at BK113 BK114 HB hHeld ⊢
 refine zp 0 (some 5) ?_
 refine zp 2 (some 7) ?_
 refine zp 5 (some 10) ?_
 refine zp 7 (some 12) ?_
 refine zp 10 (some 15) ?_
 refine zp 12 (some 17) ?_
 refine zp 15 (some 20) ?_
 refine zp 17 (some 22) ?_
 refine zp 20 (some 25) ?_
 refine zp 22 (some 27) ?_
 refine zp 25 (some 30) ?_
 refine zp 27 (some 32) ?_
 refine zp 30 (some 35) ?_
 refine zp 32 (some 37) ?_
 refine zp 35 (some 40) ?_
 refine zp 37 (some 42) ?_
 refine zt16 1 (some 6) ?_
 refine zt16 3 (some 8) ?_
 refine zt16 6 (some 11) ?_
 refine zt16 8 (some 13) ?_
 refine zt16 11 (some 16) ?_
 refine zt16 13 (some 18) ?_
 refine zt16 16 (some 21) ?_
 refine zt16 18 (some 23) ?_
 refine zt16 21 (some 26) ?_
 refine zt16 23 (some 28) ?_
 refine zt16 26 (some 31) ?_
 refine zt16 28 (some 33) ?_
 refine zt16 31 (some 36) ?_
 refine zt16 33 (some 38) ?_
 refine zt16 36 (some 41) ?_
 refine zt16 38 (some 43) ?_
 refine z1 4 (some 9) (fun K hK => ?_)
 refine goes_ Tryz.func98 (by kernel_rfl) rfl #[.int .i64 a0_6, .int .i64 a1_6] (by rfl) rfl rfl zL ?_
 with_reducible refine (cmp_Compare_int64.calls a0_6 a1_6 t115 _ A3.out).mono ?_
 rintro e w' ⟨rfl, ⟨nd, rfl⟩⟩
 refine ⟨_, rfl, ?_⟩
 refine hK.out _ _ ⟨(blk_cell BK113.out 0).trans rfl, (blk_cell BK113.out 1).trans rfl, (blk_cell BK113.out 2).trans rfl, (blk_cell BK113.out 3).trans rfl, (blk_cell BK113.out 4).trans rfl, (blk_cell BK113.out 5).trans rfl, (blk_cell BK113.out 6).trans rfl, (blk_cell BK113.out 7).trans rfl, (blk_cell BK114.out 0).trans rfl, (blk_cell BK114.out 1).trans rfl, (blk_cell BK114.out 2).trans rfl, (blk_cell BK114.out 3).trans rfl, (blk_cell BK114.out 4).trans rfl, (blk_cell BK114.out 5).trans rfl, (blk_cell BK114.out 6).trans rfl, (blk_cell BK114.out 7).trans rfl⟩ (fun hHeld => ?_)
 clear hK K
 refine norm_ (a' := ?_) ?_ ?_
 rotate_left
 ·show Act.put _ (some 9) _ = _
  simp only [Act.put, List.setIfInBounds_toArray, List.set_cons_zero, List.set_cons_succ, i64_w, i32_w]
  rfl
 refine z1 9 (some 14) (fun K hK => ?_)
 refine goes_ Tryz.func99 (by kernel_rfl) rfl #[.int .u64 a0_1, .int .u64 a1_1] (by rfl) rfl rfl zL ?_
 with_reducible refine (cmp_Compare_uint64.calls a0_1 a1_1 t116 _ A4.out).mono ?_
 rintro e w' ⟨rfl, ⟨nd, rfl⟩⟩
 refine ⟨_, rfl, ?_⟩
 refine hK.out _ _ ⟨(blk_cell BK113.out 0).trans rfl, (blk_cell BK113.out 1).trans rfl, (blk_cell BK113.out 2).trans rfl, (blk_cell BK113.out 3).trans rfl, (blk_cell BK113.out 4).trans rfl, (blk_cell BK113.out 5).trans rfl, (blk_cell BK113.out 6).trans rfl, (blk_cell BK113.out 7).trans rfl, (blk_cell BK114.out 0).trans rfl, (blk_cell BK114.out 1).trans rfl, (blk_cell BK114.out 2).trans rfl, (blk_cell BK114.out 3).trans rfl, (blk_cell BK114.out 4).trans rfl, (blk_cell BK114.out 5).trans rfl, (blk_cell BK114.out 6).trans rfl, (blk_cell BK114.out 7).trans rfl⟩ (fun hHeld => ?_)
 clear hK K
 refine norm_ (a' := ?_) ?_ ?_
 rotate_left
 ·show Act.put _ (some 14) _ = _
  simp only [Act.put, List.setIfInBounds_toArray, List.set_cons_zero, List.set_cons_succ, i64_w, i32_w]
  rfl
 refine z1 14 (some 19) (fun K hK => ?_)
 refine goes_ Tryz.func99 (by kernel_rfl) rfl #[.int .u64 a0_2, .int .u64 a1_2] (by rfl) rfl rfl zL ?_
 with_reducible refine (cmp_Compare_uint64.calls a0_2 a1_2 t117 _ A5.out).mono ?_
 rintro e w' ⟨rfl, ⟨nd, rfl⟩⟩
 refine ⟨_, rfl, ?_⟩
 refine hK.out _ _ ⟨(blk_cell BK113.out 0).trans rfl, (blk_cell BK113.out 1).trans rfl, (blk_cell BK113.out 2).trans rfl, (blk_cell BK113.out 3).trans rfl, (blk_cell BK113.out 4).trans rfl, (blk_cell BK113.out 5).trans rfl, (blk_cell BK113.out 6).trans rfl, (blk_cell BK113.out 7).trans rfl, (blk_cell BK114.out 0).trans rfl, (blk_cell BK114.out 1).trans rfl, (blk_cell BK114.out 2).trans rfl, (blk_cell BK114.out 3).trans rfl, (blk_cell BK114.out 4).trans rfl, (blk_cell BK114.out 5).trans rfl, (blk_cell BK114.out 6).trans rfl, (blk_cell BK114.out 7).trans rfl⟩ (fun hHeld => ?_)
 clear hK K
 refine norm_ (a' := ?_) ?_ ?_
 rotate_left
 ·show Act.put _ (some 19) _ = _
  simp only [Act.put, List.setIfInBounds_toArray, List.set_cons_zero, List.set_cons_succ, i64_w, i32_w]
  rfl
 refine z1 19 (some 24) (fun K hK => ?_)
 refine goes_ Tryz.func100 (by kernel_rfl) rfl #[.int .u8 a0_3, .int .u8 a1_3] (by rfl) rfl rfl zL ?_
 with_reducible refine (cmp_Compare_uint8.calls a0_3 a1_3 t118 _ A6.out).mono ?_
 rintro e w' ⟨rfl, ⟨nd, rfl⟩⟩
 refine ⟨_, rfl, ?_⟩
 refine hK.out _ _ ⟨(blk_cell BK113.out 0).trans rfl, (blk_cell BK113.out 1).trans rfl, (blk_cell BK113.out 2).trans rfl, (blk_cell BK113.out 3).trans rfl, (blk_cell BK113.out 4).trans rfl, (blk_cell BK113.out 5).trans rfl, (blk_cell BK113.out 6).trans rfl, (blk_cell BK113.out 7).trans rfl, (blk_cell BK114.out 0).trans rfl, (blk_cell BK114.out 1).trans rfl, (blk_cell BK114.out 2).trans rfl, (blk_cell BK114.out 3).trans rfl, (blk_cell BK114.out 4).trans rfl, (blk_cell BK114.out 5).trans rfl, (blk_cell BK114.out 6).trans rfl, (blk_cell BK114.out 7).trans rfl⟩ (fun hHeld => ?_)
 clear hK K
 refine norm_ (a' := ?_) ?_ ?_
 rotate_left
 ·show Act.put _ (some 24) _ = _
  simp only [Act.put, List.setIfInBounds_toArray, List.set_cons_zero, List.set_cons_succ, i64_w, i32_w]
  rfl
 refine z1 24 (some 29) (fun K hK => ?_)
 refine goes_ Tryz.func98 (by kernel_rfl) rfl #[.int .i64 a0_7, .int .i64 a1_7] (by rfl) rfl rfl zL ?_
 with_reducible refine (cmp_Compare_int64.calls a0_7 a1_7 t119 _ A7.out).mono ?_
 rintro e w' ⟨rfl, ⟨nd, rfl⟩⟩
 refine ⟨_, rfl, ?_⟩
 refine hK.out _ _ ⟨(blk_cell BK113.out 0).trans rfl, (blk_cell BK113.out 1).trans rfl, (blk_cell BK113.out 2).trans rfl, (blk_cell BK113.out 3).trans rfl, (blk_cell BK113.out 4).trans rfl, (blk_cell BK113.out 5).trans rfl, (blk_cell BK113.out 6).trans rfl, (blk_cell BK113.out 7).trans rfl, (blk_cell BK114.out 0).trans rfl, (blk_cell BK114.out 1).trans rfl, (blk_cell BK114.out 2).trans rfl, (blk_cell BK114.out 3).trans rfl, (blk_cell BK114.out 4).trans rfl, (blk_cell BK114.out 5).trans rfl, (blk_cell BK114.out 6).trans rfl, (blk_cell BK114.out 7).trans rfl⟩ (fun hHeld => ?_)
 clear hK K
 refine norm_ (a' := ?_) ?_ ?_
 rotate_left
 ·show Act.put _ (some 29) _ = _
  simp only [Act.put, List.setIfInBounds_toArray, List.set_cons_zero, List.set_cons_succ, i64_w, i32_w]
  rfl
 refine z1 29 (some 34) (fun K hK => ?_)
 refine goes_ Tryz.func101 (by kernel_rfl) rfl #[.string a0_4, .string a1_4] (by rfl) rfl rfl zL ?_
 with_reducible refine (strings_Compare.calls a0_4 a1_4 t120 _ A8.out).mono ?_
 rintro e w' ⟨rfl, ⟨nd, rfl⟩⟩
 refine ⟨_, rfl, ?_⟩
 refine hK.out _ _ ⟨(blk_cell BK113.out 0).trans rfl, (blk_cell BK113.out 1).trans rfl, (blk_cell BK113.out 2).trans rfl, (blk_cell BK113.out 3).trans rfl, (blk_cell BK113.out 4).trans rfl, (blk_cell BK113.out 5).trans rfl, (blk_cell BK113.out 6).trans rfl, (blk_cell BK113.out 7).trans rfl, (blk_cell BK114.out 0).trans rfl, (blk_cell BK114.out 1).trans rfl, (blk_cell BK114.out 2).trans rfl, (blk_cell BK114.out 3).trans rfl, (blk_cell BK114.out 4).trans rfl, (blk_cell BK114.out 5).trans rfl, (blk_cell BK114.out 6).trans rfl, (blk_cell BK114.out 7).trans rfl⟩ (fun hHeld => ?_)
 clear hK K
 refine norm_ (a' := ?_) ?_ ?_
 rotate_left
 ·show Act.put _ (some 34) _ = _
  simp only [Act.put, List.setIfInBounds_toArray, List.set_cons_zero, List.set_cons_succ, i64_w, i32_w]
  rfl
 refine z1 34 (some 39) (fun K hK => ?_)
 refine goes_ Tryz.func101 (by kernel_rfl) rfl #[.string a0_5, .string a1_5] (by rfl) rfl rfl zL ?_
 with_reducible refine (strings_Compare.calls a0_5 a1_5 t121 _ A9.out).mono ?_
 rintro e w' ⟨rfl, ⟨nd, rfl⟩⟩
 refine ⟨_, rfl, ?_⟩
 refine hK.out _ _ ⟨(blk_cell BK113.out 0).trans rfl, (blk_cell BK113.out 1).trans rfl, (blk_cell BK113.out 2).trans rfl, (blk_cell BK113.out 3).trans rfl, (blk_cell BK113.out 4).trans rfl, (blk_cell BK113.out 5).trans rfl, (blk_cell BK113.out 6).trans rfl, (blk_cell BK113.out 7).trans rfl, (blk_cell BK114.out 0).trans rfl, (blk_cell BK114.out 1).trans rfl, (blk_cell BK114.out 2).trans rfl, (blk_cell BK114.out 3).trans rfl, (blk_cell BK114.out 4).trans rfl, (blk_cell BK114.out 5).trans rfl, (blk_cell BK114.out 6).trans rfl, (blk_cell BK114.out 7).trans rfl⟩ (fun hHeld => ?_)
 clear hK K
 refine norm_ (a' := ?_) ?_ ?_
 rotate_left
 ·show Act.put _ (some 39) _ = _
  simp only [Act.put, List.setIfInBounds_toArray, List.set_cons_zero, List.set_cons_succ, i64_w, i32_w]
  rfl
 refine z1 39 (some 44) (fun K hK => ?_)
 refine goes_ Tryz.func99 (by kernel_rfl) rfl #[.int .u64 a0_0, .int .u64 a1_0] (by rfl) rfl rfl zL ?_
 with_reducible refine (cmp_Compare_uint64.calls a0_0 a1_0 t122 _ A10.out).mono ?_
 rintro e w' ⟨rfl, ⟨nd, rfl⟩⟩
 refine ⟨_, rfl, ?_⟩
 refine hK.out _ _ ⟨(blk_cell BK113.out 0).trans rfl, (blk_cell BK113.out 1).trans rfl, (blk_cell BK113.out 2).trans rfl, (blk_cell BK113.out 3).trans rfl, (blk_cell BK113.out 4).trans rfl, (blk_cell BK113.out 5).trans rfl, (blk_cell BK113.out 6).trans rfl, (blk_cell BK113.out 7).trans rfl, (blk_cell BK114.out 0).trans rfl, (blk_cell BK114.out 1).trans rfl, (blk_cell BK114.out 2).trans rfl, (blk_cell BK114.out 3).trans rfl, (blk_cell BK114.out 4).trans rfl, (blk_cell BK114.out 5).trans rfl, (blk_cell BK114.out 6).trans rfl, (blk_cell BK114.out 7).trans rfl⟩ (fun hHeld => ?_)
 clear hK K
 refine norm_ (a' := ?_) ?_ ?_
 rotate_left
 ·show Act.put _ (some 44) _ = _
  simp only [Act.put, List.setIfInBounds_toArray, List.set_cons_zero, List.set_cons_succ, i64_w, i32_w]
  rfl
 refine z1 40 (some 45) (fun K hK => ?_)
 refine Kd.R_lit_step (Kd.int .i64) _ 3 ?hg (N := 45) ?hd (xs := ([t115, t116, t117, t118, t119, t120, t121, t122] : List Int)) (inner := [.int .i64 t115, .int .i64 t116, .int .i64 t117, .int .i64 t118, .int .i64 t119, .int .i64 t120, .int .i64 t121, .int .i64 t122]) (ok := fun _ => True) (okp := fun _ => True) ?hr ?hp (fun _ hk => hk) trivial (Below.refl _ _) (Nat.le_refl _) (by simp) ?_; (case hd => rfl); (case hg => rfl); (case hr => first | (go_simp; done) | (go_simp; rfl)); (case hp => exact (Reps.one (show Kd.M (Kd.int .i64) _ _ _ t115 [.int .i64 t115] from rfl) (Reps.one (show Kd.M (Kd.int .i64) _ _ _ t116 [.int .i64 t116] from rfl) (Reps.one (show Kd.M (Kd.int .i64) _ _ _ t117 [.int .i64 t117] from rfl) (Reps.one (show Kd.M (Kd.int .i64) _ _ _ t118 [.int .i64 t118] from rfl) (Reps.one (show Kd.M (Kd.int .i64) _ _ _ t119 [.int .i64 t119] from rfl) (Reps.one (show Kd.M (Kd.int .i64) _ _ _ t120 [.int .i64 t120] from rfl) (Reps.one (show Kd.M (Kd.int .i64) _ _ _ t121 [.int .i64 t121] from rfl) (Reps.one (show Kd.M (Kd.int .i64) _ _ _ t122 [.int .i64 t122] from rfl) (Reps.none _ _))))))))))
 intro v124 w15 ho16 hb hg_ hnew_
 clear hg_ hnew_
 (first | rw [← Ny123.out] at ho16 | (simp only [Int.reduceToNat] at ho16; rw [← Ny123.out] at ho16))
 have HO125 := Aside0.mk (Kd.R_lower ho16 (below_size (zG2 GE113.out GE114.out)))
 replace BK113 := Aside0.mk (blk_below (g := gb113) (o := .cells #[.int .u64 a0_0, .int .u64 a0_1, .int .u64 a0_2, .int .u8 a0_3, .string a0_4, .string a0_5, .int .i64 a0_6, .int .i64 a0_7] 36 (0, 0)) (zK BK113.out) hb)
 replace BK114 := Aside0.mk (blk_below (g := gb114) (o := .cells #[.int .u64 a1_0, .int .u64 a1_1, .int .u64 a1_2, .int .u8 a1_3, .string a1_4, .string a1_5, .int .i64 a1_6, .int .i64 a1_7] 36 (0, 0)) (zK BK114.out) hb)
 replace HB := Aside0.mk (below_step (zG2 GE113.out GE114.out) hb)
 clear hb ho16
 obtain ⟨Ao17, co17, eo17⟩ := Kd.R_slice HO125.out
 (first | subst eo17 | (injection eo17 with f1_ f2_ f3_; have f4_ := f1_.symm; have f5_ := f3_.symm; clear f1_ f2_ f3_; subst f4_; subst f5_))
 refine hK.out _ _ ⟨(blk_cell BK113.out 0).trans rfl, (blk_cell BK113.out 1).trans rfl, (blk_cell BK113.out 2).trans rfl, (blk_cell BK113.out 3).trans rfl, (blk_cell BK113.out 4).trans rfl, (blk_cell BK113.out 5).trans rfl, (blk_cell BK113.out 6).trans rfl, (blk_cell BK113.out 7).trans rfl, (blk_cell BK114.out 0).trans rfl, (blk_cell BK114.out 1).trans rfl, (blk_cell BK114.out 2).trans rfl, (blk_cell BK114.out 3).trans rfl, (blk_cell BK114.out 4).trans rfl, (blk_cell BK114.out 5).trans rfl, (blk_cell BK114.out 6).trans rfl, (blk_cell BK114.out 7).trans rfl⟩ (fun hHeld => ?_)
 clear hK K
 refine norm_ (a' := ?_) ?_ ?_
 rotate_left
 ·show Act.put _ (some 45) _ = _
  simp only [Act.put, List.setIfInBounds_toArray, List.set_cons_zero, List.set_cons_succ, i64_w, i32_w]
  rfl
 refine z1 41 (some 46) (fun K hK => ?_)
 refine goes_ Tryz.func97 (by kernel_rfl) rfl #[.slice Ao17 y123.length co17] (by rfl) rfl rfl zL ?_
 with_reducible refine (span_first.calls k _ _ y123 t126 _ ?side1 ?side2 A11.out).mono ?_
 (case side1 => exact zC ((Kd.R_reads' HO125.out).2.2))
 (case side2 => exact (Kd.R_reads' HO125.out).2.1)
 rintro e w' ⟨rfl, ⟨nd, rfl⟩⟩
 refine ⟨_, rfl, ?_⟩
 refine hK.out _ _ ⟨(blk_cell BK113.out 0).trans rfl, (blk_cell BK113.out 1).trans rfl, (blk_cell BK113.out 2).trans rfl, (blk_cell BK113.out 3).trans rfl, (blk_cell BK113.out 4).trans rfl, (blk_cell BK113.out 5).trans rfl, (blk_cell BK113.out 6).trans rfl, (blk_cell BK113.out 7).trans rfl, (blk_cell BK114.out 0).trans rfl, (blk_cell BK114.out 1).trans rfl, (blk_cell BK114.out 2).trans rfl, (blk_cell BK114.out 3).trans rfl, (blk_cell BK114.out 4).trans rfl, (blk_cell BK114.out 5).trans rfl, (blk_cell BK114.out 6).trans rfl, (blk_cell BK114.out 7).trans rfl⟩ (fun hHeld => ?_)
 clear hK K
 refine norm_ (a' := ?_) ?_ ?_
 rotate_left
 ·show Act.put _ (some 46) _ = _
  simp only [Act.put, List.setIfInBounds_toArray, List.set_cons_zero, List.set_cons_succ, i64_w, i32_w]
  rfl
 refine zp 42 (some 4) ?_
 refine done_ (done_of HT_.out (by kernel_rfl)) ?_
 try go_wp2
 go_ret
 exact ⟨zV, zG2 GE113.out GE114.out⟩
end Go.Proofs.YtgknjgionicncaaGreat.Q
namespace Go.Proofs.YtgknjgionicncaaGreat.L
open Go.RowKit Go.Proofs.YtgknjgionicncaaGreat.Q Go.Proofs.YtgknjgionicncaaGreatW.PrintWords Go.Proofs.YtgknjgionicncaaGreatW.PrintLast Go.Proofs.YtgknjgionicncaaGreatW.PrintMore Go.Proofs.YtgknjgionicncaaGreatW.Lib
set_option linter.unusedVariables false
def letterB (c : Int) : Bool := (decide (97 ≤ c) && decide (c ≤ 122)) || (decide (48 ≤ c) && decide (c ≤ 57)) || decide (c = 45) || decide (c = 46) || decide (c = 95)
theorem letter_f (c : Int) : span_letter.f c = some (letterB c) := by
 unfold span_letter.f letterB
 repeat' split
 all_goals (rw [Option.some.injEq, Bool.eq_iff_iff]; simp; omega)
def nameB (s : ByteArray) : Bool := decide (1 ≤ s.size) && decide (s.size ≤ 16) && (bytesOf s).all letterB
theorem name_l0 (s : ByteArray) (hs : s.size ≤ 140737488351232) : ∀ (d i : Nat), s.size - i = d → i ≤ s.size → Ev (fun k => span_Name.l0 k s (s.size : Int) (i : Int)) (((bytesOf s).drop i).all letterB)
 | 0, i, hd, hi => by
  refine Ev.step (f := fun _ => some true) (fun k => ?_) (Ev.cast (Ev.now true) ?_)
  ·simp only [span_Name.l0]; rw [if_neg (by omega)]
  ·rw [List.drop_of_length_le (by rw [bytesOf_size]; omega)]; rfl
 | d + 1, i, hd, hi => by
  have ih := name_l0 s hs d (i + 1) (by omega) (by omega)
  rw [bytesOf_drop s i (by omega), List.all_cons]
  refine Ev.step (f := fun k => if letterB (bt s i) = true then span_Name.l0 k s (s.size : Int) ((i + 1 : Nat) : Int) else some false) (fun k => ?_) ?_
  ·simp only [span_Name.l0]
   rw [if_pos (by omega), if_pos (by omega), if_pos (by omega), letter_f]
   simp only [Option.bind_some]
   rw [wrap_id (by omega) (by omega)]; rfl
  ·refine Ev.ite (fun h => ?_) (fun h => ?_)
   ·rw [h, Bool.true_and]; exact ih
   ·rw [Bool.not_eq_true] at h; rw [h, Bool.false_and]; exact Ev.now _
theorem name_ev (s : ByteArray) (hs : s.size ≤ 140737488351232) : Ev (fun k => span_Name.f k s) (nameB s) := by
 unfold span_Name.f nameB
 refine Ev.ite (fun h => ?_) (fun h => ?_)
 ·refine Ev.step (f := fun _ => some false) (fun k => by simp [span_Name.j0]) (Ev.cast (Ev.now _) ?_)
  rw [decide_eq_false (by omega : ¬ 1 ≤ s.size)]; rfl
 ·refine Ev.step (f := fun k => if decide ((s.size : Int) > 16) = true then some false else span_Name.l0 k s (s.size : Int) 0) (fun k => by simp only [span_Name.j0]) ?_
  refine Ev.ite (fun h2 => ?_) (fun h2 => ?_)
  ·have h3 := of_decide_eq_true h2
   refine Ev.cast (Ev.now _) ?_
   rw [decide_eq_false (by omega : ¬ s.size ≤ 16)]; simp
  ·have h3 : ¬ ((s.size : Int) > 16) := fun h4 => h2 (decide_eq_true h4)
   have := name_l0 s hs s.size 0 (by omega) (by omega)
   rw [decide_eq_true (by omega : 1 ≤ s.size), decide_eq_true (by omega : s.size ≤ 16)]
   simpa using this
def mayB (t i p k : Int) (h n : ByteArray) (s d : Int) : Bool :=
 !(decide (t = 0) || decide (i = 0) || decide (p = i) || decide (k > 2)) && (!(decide (s < 0) || decide (s ≥ 1125899906842624) || decide (d < 0) || decide (d > 1125899906842624)) && (nameB h && nameB n))
theorem may_j1 (b : Bool) (t i p k : Int) (h n : ByteArray) (s d : Int) (hh : h.size ≤ 140737488351232) (hn : n.size ≤ 140737488351232) :
  Ev (fun m => span_May.j1 m b t i p k h n s d) (!b && (nameB h && nameB n)) := by
 refine Ev.step (f := fun m => if b = true then some false else (span_Name.f m h).bind fun x => if x = true then (span_Name.f m n).bind fun y => some y else some false) (fun m => by simp only [span_May.j1]) ?_
 refine Ev.ite (fun e => ?_) (fun e => ?_)
 ·exact Ev.cast (Ev.now _) (by rw [e]; rfl)
 ·refine Ev.bind (name_ev h hh) (Ev.ite (fun e1 => ?_) (fun e1 => ?_))
  ·refine Ev.cast (Ev.bind (name_ev n hn) (Ev.now _)) ?_
   rw [Bool.not_eq_true] at e; rw [e, e1]; rfl
  ·exact Ev.cast (Ev.now _) (by rw [Bool.not_eq_true] at e1; rw [e1]; simp)
theorem may_j0 (b : Bool) (t i p k : Int) (h n : ByteArray) (s d : Int) (hh : h.size ≤ 140737488351232) (hn : n.size ≤ 140737488351232) :
  Ev (fun m => span_May.j0 m b t i p k h n s d) (!b && (!(decide (s < 0) || decide (s ≥ 1125899906842624) || decide (d < 0) || decide (d > 1125899906842624)) && (nameB h && nameB n))) := by
 refine Ev.step (f := fun m => if b = true then some false else if s < 0 then span_May.j1 m (decide (s < 0)) t i p k h n s d else if s ≥ 1125899906842624 then span_May.j1 m (decide (s ≥ 1125899906842624)) t i p k h n s d else if d < 0 then span_May.j1 m (decide (d < 0)) t i p k h n s d else span_May.j1 m (decide (d > 1125899906842624)) t i p k h n s d) (fun m => by simp only [span_May.j0]) ?_
 refine Ev.ite (fun e => Ev.cast (Ev.now _) (by rw [e]; rfl)) (fun e => ?_)
 rw [Bool.not_eq_true] at e
 rw [e]
 refine Ev.ite (fun e1 => Ev.cast (may_j1 _ t i p k h n s d hh hn) (by simp [e1])) (fun e1 => ?_)
 refine Ev.ite (fun e2 => Ev.cast (may_j1 _ t i p k h n s d hh hn) (by simp [e2])) (fun e2 => ?_)
 refine Ev.ite (fun e3 => Ev.cast (may_j1 _ t i p k h n s d hh hn) (by simp [e3])) (fun e3 => ?_)
 exact Ev.cast (may_j1 _ t i p k h n s d hh hn) (by simp [e1, e2, e3])
theorem may_ev (t i p k : Int) (h n : ByteArray) (s d : Int) (hh : h.size ≤ 140737488351232) (hn : n.size ≤ 140737488351232) :
  Ev (fun m => span_May.f m t i p k h n s d) (mayB t i p k h n s d) := by
 unfold span_May.f mayB
 refine Ev.ite (fun e1 => Ev.cast (may_j0 _ t i p k h n s d hh hn) (by simp [e1])) (fun e1 => ?_)
 refine Ev.ite (fun e2 => Ev.cast (may_j0 _ t i p k h n s d hh hn) (by simp [e2])) (fun e2 => ?_)
 refine Ev.ite (fun e3 => Ev.cast (may_j0 _ t i p k h n s d hh hn) (by simp [e3])) (fun e3 => ?_)
 exact Ev.cast (may_j0 _ t i p k h n s d hh hn) (by simp [e1, e2, e3])
theorem mayB_le {t i p k : Int} {h n : ByteArray} {s d : Int} (hm : mayB t i p k h n s d = true) : 0 ≤ s ∧ s < 1125899906842624 ∧ 0 ≤ d ∧ d ≤ 1125899906842624 := by
 simp [mayB] at hm; omega
end Go.Proofs.YtgknjgionicncaaGreat.L
namespace Go.Proofs.YtgknjgionicncaaGreat.L
open Go.RowKit Go.Proofs.YtgknjgionicncaaGreat.Q Go.Proofs.YtgknjgionicncaaGreatW.PrintWords
set_option linter.unusedVariables false
abbrev Span := S36
theorem rdS_nat (l : List Span) (i : Nat) (h : i < l.length) : rd_T36 l (i : Int) = l[i] := by simp [rd_T36, List.getD, h]
end Go.Proofs.YtgknjgionicncaaGreat.L
namespace Go.Proofs.YtgknjgionicncaaGreat.L
open Go.RowKit Go.Proofs.YtgknjgionicncaaGreat.Q Go.Proofs.YtgknjgionicncaaGreatW.PrintWords Go.Proofs.YtgknjgionicncaaGreatW.PrintLast Go.Proofs.YtgknjgionicncaaGreatW.PrintMore Go.Proofs.YtgknjgionicncaaGreatW.Lib
set_option linter.unusedVariables false
end Go.Proofs.YtgknjgionicncaaGreat.L
namespace Go.Proofs.YtgknjgionicncaaGreat.Q
open Go.RowKit Go.Proofs.YtgknjgionicncaaGreatW.PrintWords Go.Proofs.YtgknjgionicncaaGreatW.PrintLast Go.Proofs.YtgknjgionicncaaGreatW.PrintMore
attribute [local go_sem] max2_int min2_int max_two min_two max_three min_three max_four min_four
set_option linter.unusedVariables false
set_option linter.unusedSimpArgs false
theorem eqA36 (d : Nat) (w : World) (x0 y0 : Int) (x1 y1 : Int) (x2 y2 : Int) (x3 y3 : Int) (x4 y4 : ByteArray) (x5 y5 : ByteArray) (x6 y6 : Int) (x7 y7 : Int) :
  (Op.equalIn (d + 2) 36 (.agg #[.int .u64 x0, .int .u64 x1, .int .u64 x2, .int .u8 x3, .string x4, .string x5, .int .i64 x6, .int .i64 x7]) (.agg #[.int .u64 y0, .int .u64 y1, .int .u64 y2, .int .u8 y3, .string y4, .string y5, .int .i64 y6, .int .i64 y7])).run Tryz.prog w = .ok (x0 == y0 && (x1 == y1 && (x2 == y2 && (x3 == y3 && (x4.toList == y4.toList && (x5.toList == y5.toList && (x6 == y6 && (x7 == y7)))))))) w := by
 refine eqA_of Tryz.underlying36 (by kernel_rfl) ?_
 refine eqf_cons (by rfl) (by go_simp; rfl) (by go_simp; rfl) (by go_simp) ?_
 refine eqf_cons (by rfl) (by go_simp; rfl) (by go_simp; rfl) (by go_simp) ?_
 refine eqf_cons (by rfl) (by go_simp; rfl) (by go_simp; rfl) (by go_simp) ?_
 refine eqf_cons (by rfl) (by go_simp; rfl) (by go_simp; rfl) (by go_simp) ?_
 refine eqf_cons (by rfl) (by go_simp; rfl) (by go_simp; rfl) (by go_simp) ?_
 refine eqf_cons (by rfl) (by go_simp; rfl) (by go_simp; rfl) (by go_simp) ?_
 refine eqf_cons (by rfl) (by go_simp; rfl) (by go_simp; rfl) (by go_simp) ?_
 exact eqf_last (by rfl) (by go_simp; rfl) (by go_simp; rfl) (by go_simp)
attribute [local go_sem high] eqA36
def merkhetref01_Same.l0 : Nat → List (S36) → List (S36) → Int → Option (Bool)
 | 0, _, _, _ => none
 | k + 1, x0, x1, x5 => if x5 < (x0.length : Int) then (if 0 ≤ x5 then (if x5 < (x1.length : Int) then (if (!(((rd_T36 x0 x5).f0) == ((rd_T36 x1 x5).f0)) || (!(((rd_T36 x0 x5).f1) == ((rd_T36 x1 x5).f1)) || (!(((rd_T36 x0 x5).f2) == ((rd_T36 x1 x5).f2)) || (!(((rd_T36 x0 x5).f3) == ((rd_T36 x1 x5).f3)) || (!((((rd_T36 x0 x5).f4).toList) == (((rd_T36 x1 x5).f4).toList)) || (!((((rd_T36 x0 x5).f5).toList) == (((rd_T36 x1 x5).f5).toList)) || (!(((rd_T36 x0 x5).f6) == ((rd_T36 x1 x5).f6)) || (!(((rd_T36 x0 x5).f7) == ((rd_T36 x1 x5).f7)))))))))) = true then (some false) else (merkhetref01_Same.l0 k x0 x1 (wrap64 (x5 + 1)))) else (none)) else (none)) else (some true)
def merkhetref01_Same.f (k : Nat) (l0 : List (S36)) (l1 : List (S36)) : Option (Bool) := if (l0.length : Int) = (l1.length : Int) then (merkhetref01_Same.l0 k l0 l1 0) else (some false)
theorem merkhetref01_Same.mono_l : ∀ k, (∀ y0 y1 y2, LeO (merkhetref01_Same.l0 k y0 y1 y2) (merkhetref01_Same.l0 (k + 1) y0 y1 y2))
 | 0 => fun _ _ _ r h => by simp [merkhetref01_Same.l0] at h
 | k + 1 => by
  have ih0 := merkhetref01_Same.mono_l k
  ·intro y0 y1 y2
   unfold merkhetref01_Same.l0
   exact zM
theorem merkhetref01_Same.mono : ∀ a0 a1 k, LeO (merkhetref01_Same.f k a0 a1) (merkhetref01_Same.f (k + 1) a0 a1) := by
 intro a0 a1 k
 have ih0 := merkhetref01_Same.mono_l k
 unfold merkhetref01_Same.f
 exact zM
set_option maxHeartbeats 8000000 in
set_option maxRecDepth 100000 in
theorem merkhetref01_Same.calls (k : Nat) (A0 : Option Addr) (c0 : Nat) (l0 : List (S36)) (A1 : Option Addr) (c1 : Nat) (l1 : List (S36)) (r : Bool) (w : World) (hr0 : Kd.C k36 w A0 l0.length l0) (hc0 : l0.length ≤ c0) (hr1 : Kd.C k36 w A1 l1.length l1) (hc1 : l1.length ≤ c1) (h : merkhetref01_Same.f k l0 l1 = some true) :
  Calls Tryz.prog 15 #[.slice A0 l0.length c0, .slice A1 l1.length c1] w fun e w' => e = .returned (.bool true) ∧ Drawn0 w w' := by
 have hu36 := Tryz.underlying36
 have HR0 := Aside0.mk hr0
 have HC0 := Aside0.mk hc0
 clear hr0 hc0
 have HR1 := Aside0.mk hr1
 have HC1 := Aside0.mk hc1
 clear hr1 hc1
 have H : (if (l0.length : Int) = (l1.length : Int) then (merkhetref01_Same.l0 k l0 l1 0) else (some false)) = some true := h
 clear h
 by_cases c3 : (l0.length : Int) = (l1.length : Int)
 ·rw [if_pos c3] at H
  have c3b0 : ((l0.length : Int) == (l1.length : Int)) = true := beq_iff_eq.mpr c3
  have c3b1 : ((l0.length : Int) != (l1.length : Int)) = false := bne_eq_false_iff_eq.mpr c3
  have c3b2 : (l0.length == l1.length) = true := by first | simpa using c3 | (simp at c3 ⊢; omega)
  clear c3
  have H' := Aside0.mk H
  clear H
  go_enter Tryz.func15, Tryz.ntmps15
  go_wp2
  repeat (go_quiet (fail); try go_wp2)
  go_loopg [5] k (fun kq v5 w' => ∃ (x5_1 : Int), v5 = .int .i64 x5_1 ∧ Aside0 (merkhetref01_Same.l0 kq l0 l1 x5_1 = some true) ∧ Aside0 (kq ≤ k) ∧ Drawn0 w w')
  case atStart => exact ⟨(0), zE, H', ⟨Nat.le_refl _⟩, by repeat (first | exact Drawn0.refl _ | apply Drawn0.step)⟩
  case round =>
   clear H'
   (try clear c1); (try clear p2); (try clear c3); (try clear c3b0); (try clear c3b1); (try clear c3b2)
   obtain ⟨x5_1, rfl, HA, HK1, ⟨m1, rfl⟩⟩ := hrel
   cases gk with
   | zero => exact absurd HA.out (by simp [merkhetref01_Same.l0])
   | succ k1 =>
    have H := HA.out
    clear HA
    simp only [merkhetref01_Same.l0] at H
    by_cases c4 : x5_1 < (l0.length : Int)
    ·rw [if_pos c4] at H
     have c4b0 := decide_eq_true c4
     clear c4
     obtain ⟨c5b0, H⟩ := zt H
     obtain ⟨c6b0, H⟩ := zt H
     by_cases c7 : (!(((rd_T36 l0 x5_1).f0) == ((rd_T36 l1 x5_1).f0)) || (!(((rd_T36 l0 x5_1).f1) == ((rd_T36 l1 x5_1).f1)) || (!(((rd_T36 l0 x5_1).f2) == ((rd_T36 l1 x5_1).f2)) || (!(((rd_T36 l0 x5_1).f3) == ((rd_T36 l1 x5_1).f3)) || (!((((rd_T36 l0 x5_1).f4).toList) == (((rd_T36 l1 x5_1).f4).toList)) || (!((((rd_T36 l0 x5_1).f5).toList) == (((rd_T36 l1 x5_1).f5).toList)) || (!(((rd_T36 l0 x5_1).f6) == ((rd_T36 l1 x5_1).f6)) || (!(((rd_T36 l0 x5_1).f7) == ((rd_T36 l1 x5_1).f7)))))))))) = true
     ·rw [if_pos c7] at H
      have c7b0 : (!(((rd_T36 l0 x5_1).f0) == ((rd_T36 l1 x5_1).f0)) || (!(((rd_T36 l0 x5_1).f1) == ((rd_T36 l1 x5_1).f1)) || (!(((rd_T36 l0 x5_1).f2) == ((rd_T36 l1 x5_1).f2)) || (!(((rd_T36 l0 x5_1).f3) == ((rd_T36 l1 x5_1).f3)) || (!((((rd_T36 l0 x5_1).f4).toList) == (((rd_T36 l1 x5_1).f4).toList)) || (!((((rd_T36 l0 x5_1).f5).toList) == (((rd_T36 l1 x5_1).f5).toList)) || (!(((rd_T36 l0 x5_1).f6) == ((rd_T36 l1 x5_1).f6)) || (!(((rd_T36 l0 x5_1).f7) == ((rd_T36 l1 x5_1).f7)))))))))) = true := c7
      clear c7
      exact absurd H (by simp)
     ·rw [if_neg c7] at H
      have c7b0 : (!(((rd_T36 l0 x5_1).f0) == ((rd_T36 l1 x5_1).f0)) || (!(((rd_T36 l0 x5_1).f1) == ((rd_T36 l1 x5_1).f1)) || (!(((rd_T36 l0 x5_1).f2) == ((rd_T36 l1 x5_1).f2)) || (!(((rd_T36 l0 x5_1).f3) == ((rd_T36 l1 x5_1).f3)) || (!((((rd_T36 l0 x5_1).f4).toList) == (((rd_T36 l1 x5_1).f4).toList)) || (!((((rd_T36 l0 x5_1).f5).toList) == (((rd_T36 l1 x5_1).f5).toList)) || (!(((rd_T36 l0 x5_1).f6) == ((rd_T36 l1 x5_1).f6)) || (!(((rd_T36 l0 x5_1).f7) == ((rd_T36 l1 x5_1).f7)))))))))) = false := by simpa using c7
      clear c7
      have H' := Aside0.mk H
      clear H
      have p191 : 0 ≤ (x5_1 : Int) := of_decide_eq_true zA
      have q191 : x5_1 < (l0.length : Int) := of_decide_eq_true zA
      obtain ⟨ad191, e191, hx191_0, hx191_1, hx191_2, hx191_3, hx191_4, hx191_5, hx191_6, hx191_7⟩ := at_T36 HR0.out x5_1 p191 q191
      cases e191
      replace p191 := eq_true p191
      replace q191 := eq_true q191
      have p192 : 0 ≤ (x5_1 : Int) := of_decide_eq_true zA
      have q192 : x5_1 < (l1.length : Int) := of_decide_eq_true zA
      obtain ⟨ad192, e192, hx192_0, hx192_1, hx192_2, hx192_3, hx192_4, hx192_5, hx192_6, hx192_7⟩ := at_T36 HR1.out x5_1 p192 q192
      cases e192
      replace p192 := eq_true p192
      replace q192 := eq_true q192
      go_wp2
      repeat (go_quiet (fail); try go_wp2)
      go_roundg k1
      case measure => have := HK1.out; omega
      case rel => exact ⟨(wrap64 (x5_1 + 1)), zE, H', ⟨by have := HK1.out; omega⟩, by repeat (first | exact Drawn0.refl _ | apply Drawn0.step)⟩
    ·rw [if_neg c4] at H
     have c4b0 := decide_eq_false c4
     clear c4
     first | (obtain rfl := Option.some.inj H) | (have hr_ := Option.some.inj H; clear H)
     go_wp2
     repeat (go_quiet (fail); try go_wp2)
     go_ret
     exact ⟨zE, by repeat (first | exact Drawn0.refl _ | apply Drawn0.step)⟩
 ·rw [if_neg c3] at H
  have c3b0 : ((l0.length : Int) == (l1.length : Int)) = false := beq_eq_false_iff_ne.mpr c3
  have c3b1 : ((l0.length : Int) != (l1.length : Int)) = true := bne_iff_ne.mpr c3
  have c3b2 : (l0.length == l1.length) = false := by first | simpa using c3 | (simp at c3 ⊢; omega)
  exact absurd H (by simp)
def merkhetlaw04_Great.l0 : Nat → List (S36) → Int → Int → Option (Bool)
 | 0, _, _, _ => none
 | k + 1, x8, x9, x10 => if x10 < x9 then (if 0 ≤ x10 then (if x10 < (x8.length : Int) then (if (((rd_T36 x8 x10).f4).size : Int) > 100 then (some true) else (if (((rd_T36 x8 x10).f5).size : Int) > 100 then (some true) else (merkhetlaw04_Great.l0 k x8 x9 (wrap64 (x10 + 1))))) else (none)) else (none)) else (some false)
def merkhetlaw04_Great.f (k : Nat) (l0 : List (S36)) : Option (Bool) := if (l0.length : Int) > 60 then (some true) else (merkhetlaw04_Great.l0 k l0 (l0.length : Int) 0)
theorem merkhetlaw04_Great.mono_l : ∀ k, (∀ y0 y1 y2, LeO (merkhetlaw04_Great.l0 k y0 y1 y2) (merkhetlaw04_Great.l0 (k + 1) y0 y1 y2))
 | 0 => fun _ _ _ r h => by simp [merkhetlaw04_Great.l0] at h
 | k + 1 => by
  have ih0 := merkhetlaw04_Great.mono_l k
  ·intro y0 y1 y2
   unfold merkhetlaw04_Great.l0
   exact zM
theorem merkhetlaw04_Great.mono : ∀ a0 k, LeO (merkhetlaw04_Great.f k a0) (merkhetlaw04_Great.f (k + 1) a0) := by
 intro a0 k
 have ih0 := merkhetlaw04_Great.mono_l k
 unfold merkhetlaw04_Great.f
 exact zM
set_option maxHeartbeats 8000000 in
set_option maxRecDepth 100000 in
theorem merkhetlaw04_Great.calls (k : Nat) (A0 : Option Addr) (c0 : Nat) (l0 : List (S36)) (r : Bool) (w : World) (hr0 : Kd.C k36 w A0 l0.length l0) (hc0 : l0.length ≤ c0) (h : merkhetlaw04_Great.f k l0 = some r) :
  Calls Tryz.prog 9 #[.slice A0 l0.length c0] w fun e w' => e = .returned (.bool r) ∧ Below w.heap.size w w' := by
 have hu36 := Tryz.underlying36
 have HR0 := Aside0.mk hr0
 have HC0 := Aside0.mk hc0
 clear hr0 hc0
 have HB := Aside0.mk (Below.refl w.heap.size w)
 have H : (if (l0.length : Int) > 60 then (some true) else (merkhetlaw04_Great.l0 k l0 (l0.length : Int) 0)) = some r := h
 clear h
 by_cases c2 : (l0.length : Int) > 60
 ·rw [if_pos c2] at H
  have c2b0 : decide (60 < (l0.length : Int)) = true := decide_eq_true c2
  have c2b1 : decide (60 < l0.length) = true := decide_eq_true (by omega)
  clear c2
  obtain rfl := Option.some.inj H
  go_enter Tryz.func9, Tryz.ntmps9
  go_wp2
  go_ret
  exact ⟨zV, zB⟩
 ·rw [if_neg c2] at H
  have c2b0 : decide (60 < (l0.length : Int)) = false := decide_eq_false c2
  have c2b1 : decide (60 < l0.length) = false := decide_eq_false (by omega)
  clear c2
  have H' := Aside0.mk H
  clear H
  go_enter Tryz.func9, Tryz.ntmps9
  go_wp2
  go_loopg [10] k (fun kq v10 w' => ∃ (x10_1 : Int), v10 = .int .i64 x10_1 ∧ Aside0 (merkhetlaw04_Great.l0 kq l0 (l0.length : Int) x10_1 = some r) ∧ Aside0 (kq ≤ k) ∧ Aside0 (Below w.heap.size w w'))
  case atStart => exact ⟨(0), zE, H', ⟨Nat.le_refl _⟩, ⟨zB⟩⟩
  case round =>
   clear H'
   (try clear c2); (try clear c2b0); (try clear c2b1); (try clear p2)
   obtain ⟨x10_1, rfl, HA, HK1, HB⟩ := hrel
   cases gk with
   | zero => exact absurd HA.out (by simp [merkhetlaw04_Great.l0])
   | succ k1 =>
    have H := HA.out
    clear HA
    simp only [merkhetlaw04_Great.l0] at H
    by_cases c3 : x10_1 < (l0.length : Int)
    ·rw [if_pos c3] at H
     have c3b0 := decide_eq_true c3
     clear c3
     obtain ⟨c4b0, H⟩ := zt H
     obtain ⟨c5b0, H⟩ := zt H
     by_cases c6 : (((rd_T36 l0 x10_1).f4).size : Int) > 100
     ·rw [if_pos c6] at H
      have c6b0 : decide (100 < (((rd_T36 l0 x10_1).f4).size : Int)) = true := decide_eq_true c6
      have c6b1 : decide (100 < ((rd_T36 l0 x10_1).f4).size) = true := decide_eq_true (by omega)
      clear c6
      obtain rfl := Option.some.inj H
      have p193 : 0 ≤ (x10_1 : Int) := of_decide_eq_true zA
      have q193 : x10_1 < (l0.length : Int) := of_decide_eq_true zA
      obtain ⟨ad193, e193, hx193⟩ := at_T36 HR0.out x10_1 p193 q193
      cases e193
      obtain ⟨hx193_0, hx193_1, hx193_2, hx193_3, hx193_4, hx193_5, hx193_6, hx193_7⟩ := zc8 HB.out hx193
      replace p193 := eq_true p193
      replace q193 := eq_true q193
      go_wp2_with (first | ((with_reducible refine gate_dst (N := 4) rfl ?_); (try (refine gate_guard (by rfl) ?_; dsimp only)); refine zbox (N := 4) (cs := #[.int .u64 0, .int .u64 0, .int .u64 0, .int .u8 0, .string (⟨#[]⟩ : ByteArray), .string (⟨#[]⟩ : ByteArray), .int .i64 0, .int .i64 0]) (t := 36) ?_; intro gb194 hg w7 hbox hb; have BK194 := Aside0.mk (hbox); have GW194 := Aside0.mk ((by rw [hg]; exact (below_size zB) : w.heap.size ≤ gb194)); have GE194 := Aside0.mk ((by rw [hg]; exact (below_size zB) : w.heap.size ≤ gb194)); replace HB := Aside0.mk (below_step zB hb); clear hb hbox hg; obtain ⟨hcz8_0, hcz8_1, hcz8_2, hcz8_3, hcz8_4, hcz8_5, hcz8_6, hcz8_7, hfz8_0, hfz8_1, hfz8_2, hfz8_3, hfz8_4, hfz8_5, hfz8_6, hfz8_7⟩ := zb8 BK194.out))
      go_ret
      exact ⟨zV, zG GE194.out⟩
     ·rw [if_neg c6] at H
      have c6b0 : decide (100 < (((rd_T36 l0 x10_1).f4).size : Int)) = false := decide_eq_false c6
      have c6b1 : decide (100 < ((rd_T36 l0 x10_1).f4).size) = false := decide_eq_false (by omega)
      clear c6
      by_cases c9 : (((rd_T36 l0 x10_1).f5).size : Int) > 100
      ·rw [if_pos c9] at H
       have c9b0 : decide (100 < (((rd_T36 l0 x10_1).f5).size : Int)) = true := decide_eq_true c9
       have c9b1 : decide (100 < ((rd_T36 l0 x10_1).f5).size) = true := decide_eq_true (by omega)
       clear c9
       obtain rfl := Option.some.inj H
       have p193 : 0 ≤ (x10_1 : Int) := of_decide_eq_true zA
       have q193 : x10_1 < (l0.length : Int) := of_decide_eq_true zA
       obtain ⟨ad193, e193, hx193⟩ := at_T36 HR0.out x10_1 p193 q193
       cases e193
       obtain ⟨hx193_0, hx193_1, hx193_2, hx193_3, hx193_4, hx193_5, hx193_6, hx193_7⟩ := zc8 HB.out hx193
       replace p193 := eq_true p193
       replace q193 := eq_true q193
       go_wp2_with (first | ((with_reducible refine gate_dst (N := 4) rfl ?_); (try (refine gate_guard (by rfl) ?_; dsimp only)); refine zbox (N := 4) (cs := #[.int .u64 0, .int .u64 0, .int .u64 0, .int .u8 0, .string (⟨#[]⟩ : ByteArray), .string (⟨#[]⟩ : ByteArray), .int .i64 0, .int .i64 0]) (t := 36) ?_; intro gb194 hg w10 hbox hb; have BK194 := Aside0.mk (hbox); have GW194 := Aside0.mk ((by rw [hg]; exact (below_size zB) : w.heap.size ≤ gb194)); have GE194 := Aside0.mk ((by rw [hg]; exact (below_size zB) : w.heap.size ≤ gb194)); replace HB := Aside0.mk (below_step zB hb); clear hb hbox hg; obtain ⟨hcz11_0, hcz11_1, hcz11_2, hcz11_3, hcz11_4, hcz11_5, hcz11_6, hcz11_7, hfz11_0, hfz11_1, hfz11_2, hfz11_3, hfz11_4, hfz11_5, hfz11_6, hfz11_7⟩ := zb8 BK194.out))
       go_ret
       exact ⟨zV, zG GE194.out⟩
      ·rw [if_neg c9] at H
       have c9b0 : decide (100 < (((rd_T36 l0 x10_1).f5).size : Int)) = false := decide_eq_false c9
       have c9b1 : decide (100 < ((rd_T36 l0 x10_1).f5).size) = false := decide_eq_false (by omega)
       clear c9
       have H' := Aside0.mk H
       clear H
       have p193 : 0 ≤ (x10_1 : Int) := of_decide_eq_true zA
       have q193 : x10_1 < (l0.length : Int) := of_decide_eq_true zA
       obtain ⟨ad193, e193, hx193⟩ := at_T36 HR0.out x10_1 p193 q193
       cases e193
       obtain ⟨hx193_0, hx193_1, hx193_2, hx193_3, hx193_4, hx193_5, hx193_6, hx193_7⟩ := zc8 HB.out hx193
       replace p193 := eq_true p193
       replace q193 := eq_true q193
       go_wp2_with (first | ((with_reducible refine gate_dst (N := 4) rfl ?_); (try (refine gate_guard (by rfl) ?_; dsimp only)); refine zbox (N := 4) (cs := #[.int .u64 0, .int .u64 0, .int .u64 0, .int .u8 0, .string (⟨#[]⟩ : ByteArray), .string (⟨#[]⟩ : ByteArray), .int .i64 0, .int .i64 0]) (t := 36) ?_; intro gb194 hg w12 hbox hb; have BK194 := Aside0.mk (hbox); have GW194 := Aside0.mk ((by rw [hg]; exact (below_size zB) : w.heap.size ≤ gb194)); have GE194 := Aside0.mk ((by rw [hg]; exact (below_size zB) : w.heap.size ≤ gb194)); replace HB := Aside0.mk (below_step zB hb); clear hb hbox hg; obtain ⟨hcz13_0, hcz13_1, hcz13_2, hcz13_3, hcz13_4, hcz13_5, hcz13_6, hcz13_7, hfz13_0, hfz13_1, hfz13_2, hfz13_3, hfz13_4, hfz13_5, hfz13_6, hfz13_7⟩ := zb8 BK194.out))
       go_roundg k1
       case measure => have := HK1.out; omega
       case rel => exact ⟨(wrap64 (x10_1 + 1)), zE, H', ⟨by have := HK1.out; omega⟩, ⟨zG GE194.out⟩⟩
    ·rw [if_neg c3] at H
     have c3b0 := decide_eq_false c3
     clear c3
     obtain rfl := Option.some.inj H
     go_wp2
     go_ret
     exact ⟨zV, zB⟩
def merkhetref09_Same.l0 : Nat → List ByteArray → List ByteArray → Int → Option (Bool)
 | 0, _, _, _ => none
 | k + 1, x0, x1, x5 => if x5 < (x0.length : Int) then (if 0 ≤ x5 then (if x5 < (x1.length : Int) then (if (rdOf ByteArray.empty x0 x5).toList = (rdOf ByteArray.empty x1 x5).toList then (merkhetref09_Same.l0 k x0 x1 (wrap64 (x5 + 1))) else (some false)) else (none)) else (none)) else (some true)
def merkhetref09_Same.f (k : Nat) (l0 : List ByteArray) (l1 : List ByteArray) : Option (Bool) := if (l0.length : Int) = (l1.length : Int) then (merkhetref09_Same.l0 k l0 l1 0) else (some false)
theorem merkhetref09_Same.mono_l : ∀ k, (∀ y0 y1 y2, LeO (merkhetref09_Same.l0 k y0 y1 y2) (merkhetref09_Same.l0 (k + 1) y0 y1 y2))
 | 0 => fun _ _ _ r h => by simp [merkhetref09_Same.l0] at h
 | k + 1 => by
  have ih0 := merkhetref09_Same.mono_l k
  ·intro y0 y1 y2
   unfold merkhetref09_Same.l0
   exact zM
theorem merkhetref09_Same.mono : ∀ a0 a1 k, LeO (merkhetref09_Same.f k a0 a1) (merkhetref09_Same.f (k + 1) a0 a1) := by
 intro a0 a1 k
 have ih0 := merkhetref09_Same.mono_l k
 unfold merkhetref09_Same.f
 exact zM
set_option maxHeartbeats 8000000 in
set_option maxRecDepth 100000 in
theorem merkhetref09_Same.calls (k : Nat) (A0 : Option Addr) (c0 : Nat) (l0 : List ByteArray) (A1 : Option Addr) (c1 : Nat) (l1 : List ByteArray) (r : Bool) (w : World) (hr0 : Kd.C Kd.string w A0 l0.length l0) (hc0 : l0.length ≤ c0) (hr1 : Kd.C Kd.string w A1 l1.length l1) (hc1 : l1.length ≤ c1) (h : merkhetref09_Same.f k l0 l1 = some true) :
  Calls Tryz.prog 20 #[.slice A0 l0.length c0, .slice A1 l1.length c1] w fun e w' => e = .returned (.bool true) ∧ Drawn0 w w' := by
 have HR0 := Aside0.mk hr0
 have HC0 := Aside0.mk hc0
 clear hr0 hc0
 have HR1 := Aside0.mk hr1
 have HC1 := Aside0.mk hc1
 clear hr1 hc1
 have H : (if (l0.length : Int) = (l1.length : Int) then (merkhetref09_Same.l0 k l0 l1 0) else (some false)) = some true := h
 clear h
 by_cases c3 : (l0.length : Int) = (l1.length : Int)
 ·rw [if_pos c3] at H
  have c3b0 : ((l0.length : Int) == (l1.length : Int)) = true := beq_iff_eq.mpr c3
  have c3b1 : ((l0.length : Int) != (l1.length : Int)) = false := bne_eq_false_iff_eq.mpr c3
  have c3b2 : (l0.length == l1.length) = true := by first | simpa using c3 | (simp at c3 ⊢; omega)
  clear c3
  have H' := Aside0.mk H
  clear H
  go_enter Tryz.func20, Tryz.ntmps20
  go_wp2
  repeat (go_quiet (fail); try go_wp2)
  go_loopg [5] k (fun kq v5 w' => ∃ (x5_1 : Int), v5 = .int .i64 x5_1 ∧ Aside0 (merkhetref09_Same.l0 kq l0 l1 x5_1 = some true) ∧ Aside0 (kq ≤ k) ∧ Drawn0 w w')
  case atStart => exact ⟨(0), zE, H', ⟨Nat.le_refl _⟩, by repeat (first | exact Drawn0.refl _ | apply Drawn0.step)⟩
  case round =>
   clear H'
   (try clear c1); (try clear c2); (try clear p2); (try clear c3); (try clear c3b0); (try clear c3b1); (try clear c3b2)
   obtain ⟨x5_1, rfl, HA, HK1, ⟨m1, rfl⟩⟩ := hrel
   cases gk with
   | zero => exact absurd HA.out (by simp [merkhetref09_Same.l0])
   | succ k1 =>
    have H := HA.out
    clear HA
    simp only [merkhetref09_Same.l0] at H
    by_cases c4 : x5_1 < (l0.length : Int)
    ·rw [if_pos c4] at H
     have c4b0 := decide_eq_true c4
     clear c4
     obtain ⟨c5b0, H⟩ := zt H
     obtain ⟨c6b0, H⟩ := zt H
     by_cases c7 : (rdOf ByteArray.empty l0 x5_1).toList = (rdOf ByteArray.empty l1 x5_1).toList
     ·rw [if_pos c7] at H
      have c7b0 : ((rdOf ByteArray.empty l0 x5_1).toList == (rdOf ByteArray.empty l1 x5_1).toList) = true := beq_iff_eq.mpr c7
      have c7b1 : ((rdOf ByteArray.empty l0 x5_1).toList != (rdOf ByteArray.empty l1 x5_1).toList) = false := bne_eq_false_iff_eq.mpr c7
      clear c7
      have H' := Aside0.mk H
      clear H
      have p196 : 0 ≤ (x5_1 : Int) := of_decide_eq_true zA
      have q196 : x5_1 < (l0.length : Int) := of_decide_eq_true zA
      obtain ⟨ad196, e196, hx196_0⟩ := Kd.at_string HR0.out x5_1 p196 q196
      cases e196
      replace p196 := eq_true p196
      replace q196 := eq_true q196
      have p197 : 0 ≤ (x5_1 : Int) := of_decide_eq_true zA
      have q197 : x5_1 < (l1.length : Int) := of_decide_eq_true zA
      obtain ⟨ad197, e197, hx197_0⟩ := Kd.at_string HR1.out x5_1 p197 q197
      cases e197
      replace p197 := eq_true p197
      replace q197 := eq_true q197
      go_wp2
      repeat (go_quiet (fail); try go_wp2)
      go_roundg k1
      case measure => have := HK1.out; omega
      case rel => exact ⟨(wrap64 (x5_1 + 1)), zE, H', ⟨by have := HK1.out; omega⟩, by repeat (first | exact Drawn0.refl _ | apply Drawn0.step)⟩
     ·rw [if_neg c7] at H
      have c7b0 : ((rdOf ByteArray.empty l0 x5_1).toList == (rdOf ByteArray.empty l1 x5_1).toList) = false := beq_eq_false_iff_ne.mpr c7
      have c7b1 : ((rdOf ByteArray.empty l0 x5_1).toList != (rdOf ByteArray.empty l1 x5_1).toList) = true := bne_iff_ne.mpr c7
      exact absurd H (by simp)
    ·rw [if_neg c4] at H
     have c4b0 := decide_eq_false c4
     clear c4
     first | (obtain rfl := Option.some.inj H) | (have hr_ := Option.some.inj H; clear H)
     go_wp2
     repeat (go_quiet (fail); try go_wp2)
     go_ret
     exact ⟨zE, by repeat (first | exact Drawn0.refl _ | apply Drawn0.step)⟩
 ·rw [if_neg c3] at H
  have c3b0 : ((l0.length : Int) == (l1.length : Int)) = false := beq_eq_false_iff_ne.mpr c3
  have c3b1 : ((l0.length : Int) != (l1.length : Int)) = true := bne_iff_ne.mpr c3
  have c3b2 : (l0.length == l1.length) = false := by first | simpa using c3 | (simp at c3 ⊢; omega)
  exact absurd H (by simp)
end Go.Proofs.YtgknjgionicncaaGreat.Q
namespace Go.Proofs.YtgknjgionicncaaGreat.L
open Go.RowKit Go.Proofs.YtgknjgionicncaaGreat.Q Go.Proofs.YtgknjgionicncaaGreatW.PrintWords Go.Proofs.YtgknjgionicncaaGreatW.PrintLast Go.Proofs.YtgknjgionicncaaGreatW.PrintMore Go.Proofs.YtgknjgionicncaaGreatW.Lib
set_option linter.unusedVariables false
def cmpS (a b : S36) : Int := firstNZ [cmpI a.f6 b.f6, cmpI a.f1 b.f1, cmpI a.f2 b.f2, cmpI a.f3 b.f3, cmpI a.f7 b.f7, cmpB a.f4 b.f4, cmpB a.f5 b.f5, cmpI a.f0 b.f0]
theorem cmpS_is : IsCmp cmpS := by
 have h := (lexC_is cmpI_is (lexC_is cmpI_is (lexC_is cmpI_is (lexC_is cmpI_is (lexC_is cmpI_is (lexC_is cmpB_is (lexC_is cmpB_is cmpI_is))))))).pull (fun x : S36 => (x.f6, x.f1, x.f2, x.f3, x.f7, x.f4, x.f5, x.f0)) (fun x y h => by
  cases x; cases y; simp at h; simp [h])
 have e : cmpS = fun x y => lexC cmpI (lexC cmpI (lexC cmpI (lexC cmpI (lexC cmpI (lexC cmpB (lexC cmpB cmpI)))))) (x.f6, x.f1, x.f2, x.f3, x.f7, x.f4, x.f5, x.f0) (y.f6, y.f1, y.f2, y.f3, y.f7, y.f4, y.f5, y.f0) := by
  funext x y
  have z : ∀ q : Int, (if q = 0 then (0 : Int) else q) = q := fun q => by split <;> omega
  simp only [cmpS, firstNZ, lexC, z]
 rw [e]; exact h
theorem cmpI64_f (a b : Int) : cmp_Compare_int64.f a b = some (cmpI a b) := by
 simp only [cmp_Compare_int64.f, cmp_isNaN_int64.f, Option.bind_some, bne_self_eq_false, Bool.false_eq_true, if_false, cmpI]
 (repeat' split) <;> rfl
theorem cmpU64_f (a b : Int) : cmp_Compare_uint64.f a b = some (cmpI a b) := by
 simp only [cmp_Compare_uint64.f, cmp_isNaN_uint64.f, Option.bind_some, bne_self_eq_false, Bool.false_eq_true, if_false, cmpI]
 (repeat' split) <;> rfl
theorem cmpU8_f (a b : Int) : cmp_Compare_uint8.f a b = some (cmpI a b) := by
 simp only [cmp_Compare_uint8.f, cmp_isNaN_uint8.f, Option.bind_some, bne_self_eq_false, Bool.false_eq_true, if_false, cmpI]
 (repeat' split) <;> rfl
theorem compare_f (a b : ByteArray) : strings_Compare.f a b = some (cmpB a b) := rfl
theorem rd_drop (l : List Int) (i : Nat) (h : i < l.length) : l.drop i = rd l (i : Int) :: l.drop (i + 1) := by
 rw [List.drop_eq_getElem_cons h]
 simp [rd, List.getD, h]
theorem first_l0 (l : List Int) (hl : l.length < 1000) : ∀ (d i : Nat), l.length - i = d → i ≤ l.length → Ev (fun k => span_first.l0 k l (l.length : Int) (i : Int)) (firstNZ (l.drop i))
 | 0, i, hd, hi => by
  refine Ev.step (f := fun _ => some 0) (fun k => ?_) (Ev.cast (Ev.now _) ?_)
  ·simp only [span_first.l0]; rw [if_neg (by omega)]
  ·rw [List.drop_of_length_le (by omega)]; rfl
 | d + 1, i, hd, hi => by
  have ih := first_l0 l hl d (i + 1) (by omega) (by omega)
  rw [rd_drop l i (by omega)]
  refine Ev.step (f := fun k => if rd l (i : Int) = 0 then span_first.l0 k l (l.length : Int) ((i + 1 : Nat) : Int) else some (rd l (i : Int))) (fun k => ?_) ?_
  ·simp only [span_first.l0]
   rw [if_pos (by omega), if_pos (by omega), if_pos (by omega), wrap_id (by omega) (by omega)]; rfl
  ·simp only [firstNZ]
   refine Ev.ite (fun e => ?_) (fun e => ?_)
   ·rw [if_pos e]; exact ih
   ·rw [if_neg e]; exact Ev.now _
theorem cmp_ev (a b : S36) : Ev (fun k => span_Cmp.f k a.f0 a.f1 a.f2 a.f3 a.f4 a.f5 a.f6 a.f7 b.f0 b.f1 b.f2 b.f3 b.f4 b.f5 b.f6 b.f7) (cmpS a b) := by
 simp only [span_Cmp.f, cmpI64_f, cmpU64_f, cmpU8_f, compare_f, Option.bind_some]
 exact Ev.bind (first_l0 _ (by simp) 8 0 rfl (by simp)) (Ev.now _)
def eqS (x y : Span) : Bool := (x.f0 == y.f0) && ((x.f1 == y.f1) && ((x.f2 == y.f2) && ((x.f3 == y.f3) && ((x.f4.toList == y.f4.toList) && ((x.f5.toList == y.f5.toList) && ((x.f6 == y.f6) && (x.f7 == y.f7)))))))
theorem eqS_iff (x y : Span) : eqS x y = true ↔ x = y := by
 unfold eqS
 rw [toList_inj, toList_inj]
 cases x; cases y
 simp
theorem neqS (x y : Span) : ((!(x.f0 == y.f0)) || ((!(x.f1 == y.f1)) || ((!(x.f2 == y.f2)) || ((!(x.f3 == y.f3)) || ((!(x.f4.toList == y.f4.toList)) || ((!(x.f5.toList == y.f5.toList)) || ((!(x.f6 == y.f6)) || (!(x.f7 == y.f7))))))))) = !eqS x y := by
 unfold eqS; simp only [Bool.not_and]
def sameB : List Span → List Span → Bool
 | [], [] => true
 | x :: a, y :: b => eqS x y && sameB a b
 | _, _ => false
theorem sameB_iff : ∀ a b : List Span, sameB a b = true ↔ a = b
 | [], [] => by simp [sameB]
 | [], y :: b => by simp [sameB]
 | x :: a, [] => by simp [sameB]
 | x :: a, y :: b => by simp [sameB, eqS_iff, sameB_iff a b]
theorem sameB_self (a : List Span) : sameB a a = true := (sameB_iff a a).2 rfl
theorem same_l0 (a b : List Span) (hab : a.length = b.length) (ha : a.length ≤ maxLen) : ∀ (d i : Nat), a.length - i = d → i ≤ a.length → Ev (fun k => merkhetref01_Same.l0 k a b (i : Int)) (sameB (a.drop i) (b.drop i))
 | 0, i, hd, hi => by
  refine Ev.step (f := fun _ => some true) (fun k => ?_) (Ev.cast (Ev.now _) ?_)
  ·simp only [merkhetref01_Same.l0]; rw [if_neg (by omega)]
  ·rw [List.drop_of_length_le (by omega), List.drop_of_length_le (by omega)]; rfl
 | d + 1, i, hd, hi => by
  have ih := same_l0 a b hab ha d (i + 1) (by omega) (by omega)
  have hm : maxLen = 9223372036854775807 := rfl
  rw [List.drop_eq_getElem_cons (show i < a.length by omega), List.drop_eq_getElem_cons (show i < b.length by omega)]
  refine Ev.step (f := fun k => if (!eqS a[i] b[i]) = true then some false else merkhetref01_Same.l0 k a b ((i + 1 : Nat) : Int)) (fun k => ?_) ?_
  ·simp only [merkhetref01_Same.l0]
   rw [if_pos (by omega), if_pos (by omega), if_pos (by omega), rdS_nat a i (by omega), rdS_nat b i (by omega), neqS, wrap_id (by omega) (by omega)]; rfl
  ·simp only [sameB]
   refine Ev.ite (fun e => ?_) (fun e => ?_)
   ·have : eqS a[i] b[i] = false := by simpa using e
    rw [this]; exact Ev.now _
   ·have : eqS a[i] b[i] = true := by simpa using e
    rw [this, Bool.true_and]; exact ih
theorem sameB_len {a b : List Span} (h : a.length ≠ b.length) : sameB a b = false := by
 rw [Bool.eq_false_iff]; intro h'; exact h (by rw [(sameB_iff a b).1 h'])
theorem same_ev (a b : List Span) (ha : a.length ≤ maxLen) : Ev (fun k => merkhetref01_Same.f k a b) (sameB a b) := by
 unfold merkhetref01_Same.f
 refine Ev.ite (fun e => ?_) (fun e => ?_)
 ·have := same_l0 a b (by omega) ha a.length 0 (by omega) (by omega)
  simpa using this
 ·rw [sameB_len (by omega)]; exact Ev.now _
def posS (l : List Span) (s : Span) : Nat → Nat
 | 0 => 0
 | j + 1 => if cmpS (l.getD j z36) s > 0 then posS l s j else j + 1
theorem posS_le (l : List Span) (s : Span) : ∀ j, posS l s j ≤ j
 | 0 => Nat.le_refl _
 | j + 1 => by
  unfold posS
  split
  ·exact Nat.le_succ_of_le (posS_le l s j)
  ·exact Nat.le_refl _
theorem posS_above (l : List Span) (s : Span) : ∀ j i, posS l s j ≤ i → i < j → cmpS (l.getD i z36) s > 0
 | 0, i, _, h => by omega
 | j + 1, i, h1, h2 => by
  unfold posS at h1
  split at h1
  ·rename_i hc
   by_cases e : i = j
   ·subst e; exact hc
   ·exact posS_above l s j i h1 (by omega)
  ·omega
theorem posS_below (l : List Span) (s : Span) : ∀ j, 0 < posS l s j → cmpS (l.getD (posS l s j - 1) z36) s ≤ 0
 | 0, h => by simp [posS] at h
 | j + 1, h => by
  unfold posS at h ⊢
  split
  ·rename_i hc; rw [if_pos hc] at h; exact posS_below l s j h
  ·rename_i hc; simp only [Nat.add_sub_cancel]; omega
def insS (l : List Span) (s : Span) : List Span := l.take (posS l s l.length) ++ s :: l.drop (posS l s l.length)
def sortR (l : List Span) : List Span := l.foldl insS []
theorem insS_length (l : List Span) (s : Span) : (insS l s).length = l.length + 1 := by
 have := posS_le l s l.length
 simp [insS]; omega
theorem insS_perm (l : List Span) (s : Span) : (insS l s).Perm (s :: l) := by
 unfold insS
 refine List.perm_middle.trans ?_
 rw [List.take_append_drop]
def leS (x y : Span) : Prop := cmpS x y ≤ 0
theorem insS_sorted {l : List Span} (s : Span) (h : l.Pairwise leS) : (insS l s).Pairwise leS := by
 have hp := posS_le l s l.length
 have ha := posS_above l s l.length
 have hb := posS_below l s l.length
 unfold insS
 generalize posS l s l.length = p at *
 have hs : ∀ i j (hi : i < l.length) (hj : j < l.length), i < j → leS l[i] l[j] := fun i j hi hj hij => List.pairwise_iff_getElem.1 h i j hi hj hij
 have h1 : ∀ x ∈ l.take p, leS x s := by
  intro x hx
  obtain ⟨i, hi, rfl⟩ := List.getElem_of_mem hx
  have hip : i < p ∧ i < l.length := by simp at hi; omega
  have h2 : leS l[p - 1] s := by have := hb (by omega); rw [List.getD, List.getElem?_eq_getElem (by omega)] at this; exact this
  rw [List.getElem_take]
  by_cases e : i = p - 1
  ·subst e; exact h2
  ·exact cmpS_is.trans _ _ _ (hs i (p - 1) hip.2 (by omega) (by omega)) h2
 have h2 : ∀ y ∈ l.drop p, leS s y := by
  intro y hy
  obtain ⟨i, hi, rfl⟩ := List.getElem_of_mem hy
  have hil : p + i < l.length := by simp at hi; omega
  rw [List.getElem_drop]
  have := ha (p + i) (by omega) hil
  rw [List.getD, List.getElem?_eq_getElem hil] at this
  have an := cmpS_is.anti l[p + i] s
  simp only [Option.getD_some] at this
  show cmpS s l[p + i] ≤ 0
  omega
 rw [List.pairwise_append]
 refine ⟨h.sublist (List.take_sublist _ _), ?_, ?_⟩
 ·rw [List.pairwise_cons]
  exact ⟨h2, h.sublist (List.drop_sublist _ _)⟩
 ·intro x hx y hy
  rcases List.mem_cons.1 hy with rfl | hy
  ·exact h1 x hx
  ·exact cmpS_is.trans _ _ _ (h1 x hx) (h2 y hy)
theorem foldl_ins (l : List Span) : ∀ a : List Span, a.Pairwise leS → (l.foldl insS a).Pairwise leS ∧ (l.foldl insS a).Perm (a ++ l) ∧ (l.foldl insS a).length = a.length + l.length := by
 induction l with
 | nil => intro a h; exact ⟨h, by simp, by simp⟩
 | cons s l ih =>
  intro a h
  obtain ⟨h1, h2, h3⟩ := ih (insS a s) (insS_sorted s h)
  refine ⟨h1, h2.trans ?_, by rw [List.foldl_cons, h3, insS_length]; simp; omega⟩
  refine ((insS_perm a s).append_right l).trans ?_
  simpa using (List.perm_middle (a := s) (l₁ := a) (l₂ := l)).symm
theorem sortR_sorted (l : List Span) : (sortR l).Pairwise leS := (foldl_ins l [] List.Pairwise.nil).1
theorem sortR_perm (l : List Span) : (sortR l).Perm l := by simpa [sortR] using (foldl_ins l [] List.Pairwise.nil).2.1
theorem sorted_one {a b : List Span} (ha : a.Pairwise leS) (hb : b.Pairwise leS) (h : a.Perm b) : a = b :=
 h.eq_of_pairwise (fun x y _ _ h1 h2 => (cmpS_is.zero x y).1 (by have := cmpS_is.anti x y; unfold leS at *; omega)) ha hb
theorem cmpI64_calls (x y : Int) (w : World) : Calls Tryz.prog 98 #[.int .i64 x, .int .i64 y] w fun e w' => e = .returned (.int .i64 (cmpI x y)) ∧ w' = w := by
 by_cases h1 : x < y
 ·have e : cmpI x y = -1 := by unfold cmpI; rw [if_pos h1]
  rw [e]; clear e
  go_enter Tryz.func98, Tryz.ntmps98
  go_wp2
  go_ret
  exact ⟨rfl, rfl⟩
 ·by_cases h2 : y < x
  ·have e : cmpI x y = 1 := by unfold cmpI; rw [if_neg h1, if_pos h2]
   rw [e]; clear e
   go_enter Tryz.func98, Tryz.ntmps98
   go_wp2
   go_ret
   exact ⟨rfl, rfl⟩
  ·have e : cmpI x y = 0 := by unfold cmpI; rw [if_neg h1, if_neg h2]
   rw [e]; clear e
   go_enter Tryz.func98, Tryz.ntmps98
   go_wp2
   go_ret
   exact ⟨rfl, rfl⟩
theorem cmpU64_calls (x y : Int) (w : World) : Calls Tryz.prog 99 #[.int .u64 x, .int .u64 y] w fun e w' => e = .returned (.int .i64 (cmpI x y)) ∧ w' = w := by
 by_cases h1 : x < y
 ·have e : cmpI x y = -1 := by unfold cmpI; rw [if_pos h1]
  rw [e]; clear e
  go_enter Tryz.func99, Tryz.ntmps99
  go_wp2
  go_ret
  exact ⟨rfl, rfl⟩
 ·by_cases h2 : y < x
  ·have e : cmpI x y = 1 := by unfold cmpI; rw [if_neg h1, if_pos h2]
   rw [e]; clear e
   go_enter Tryz.func99, Tryz.ntmps99
   go_wp2
   go_ret
   exact ⟨rfl, rfl⟩
  ·have e : cmpI x y = 0 := by unfold cmpI; rw [if_neg h1, if_neg h2]
   rw [e]; clear e
   go_enter Tryz.func99, Tryz.ntmps99
   go_wp2
   go_ret
   exact ⟨rfl, rfl⟩
theorem cmpU8_calls (x y : Int) (w : World) : Calls Tryz.prog 100 #[.int .u8 x, .int .u8 y] w fun e w' => e = .returned (.int .i64 (cmpI x y)) ∧ w' = w := by
 by_cases h1 : x < y
 ·have e : cmpI x y = -1 := by unfold cmpI; rw [if_pos h1]
  rw [e]; clear e
  go_enter Tryz.func100, Tryz.ntmps100
  go_wp2
  go_ret
  exact ⟨rfl, rfl⟩
 ·by_cases h2 : y < x
  ·have e : cmpI x y = 1 := by unfold cmpI; rw [if_neg h1, if_pos h2]
   rw [e]; clear e
   go_enter Tryz.func100, Tryz.ntmps100
   go_wp2
   go_ret
   exact ⟨rfl, rfl⟩
  ·have e : cmpI x y = 0 := by unfold cmpI; rw [if_neg h1, if_neg h2]
   rw [e]; clear e
   go_enter Tryz.func100, Tryz.ntmps100
   go_wp2
   go_ret
   exact ⟨rfl, rfl⟩
set_option maxHeartbeats 1000000 in
set_option maxRecDepth 100000 in
theorem compare_calls (a b : ByteArray) (w : World) : Calls Tryz.prog 101 #[.string a, .string b] w fun e w' => e = .returned (.int .i64 (cmpB a b)) ∧ w' = w := by
 have hb : Calls Tryz.prog 134 #[.string a, .string b] w fun e w' => e = .returned (.int .i64 (cmpB a b)) ∧ w' = w := by
  unfold cmpB
  go_enter Tryz.func134, Tryz.ntmps134
  go_wp2
  rw [run_callFunc_extern Tryz.func151 (by kernel_rfl) (by kernel_rfl) (by kernel_rfl) (e := Extern.BytealgCompare.compare) (by kernel_rfl), Go.Lib.run_compareString]
  simp only [Result.andThen]
  rw [Oper.upon_value]
  go_wp2
  go_ret
  exact ⟨rfl, rfl⟩
 go_enter Tryz.func101, Tryz.ntmps101
 go_wp2_with (go_at_call 134; refine hb.mono ?_; rintro e w' ⟨rfl, rfl⟩)
 go_ret
 exact ⟨rfl, rfl⟩
theorem first_calls (l : List Int) (hl : l.length < 1000) (A : Option Addr) (c : Nat) (w : World) (hr : Kd.C (Kd.int .i64) w A l.length l) (hc : l.length ≤ c) :
  Calls Tryz.prog 97 #[.slice A l.length c] w fun e w' => e = .returned (.int .i64 (firstNZ l)) ∧ Drawn0 w w' := by
 obtain ⟨k, hk⟩ := Ev.rounds (first_l0 l hl l.length 0 (by omega) (by omega))
 exact span_first.calls k A c l (firstNZ l) w hr hc (by unfold span_first.f; simpa using hk)
set_option maxRecDepth 100000 in
set_option maxHeartbeats 4000000 in
theorem cmp_grow (a b : S36) (W : World) :
  Calls Tryz.prog 56 #[.agg #[.int .u64 a.f0, .int .u64 a.f1, .int .u64 a.f2, .int .u8 a.f3, .string a.f4, .string a.f5, .int .i64 a.f6, .int .i64 a.f7], .agg #[.int .u64 b.f0, .int .u64 b.f1, .int .u64 b.f2, .int .u8 b.f3, .string b.f4, .string b.f5, .int .i64 b.f6, .int .i64 b.f7]] W
   fun e w' => e = .returned (.int .i64 (cmpS a b)) ∧ ∃ q os', w' = Go.Sort.grow (W.drewN q) os' := by
 obtain ⟨a0, a1, a2, a3, a4, a5, a6, a7⟩ := a
 obtain ⟨b0, b1, b2, b3, b4, b5, b6, b7⟩ := b
 obtain ⟨r, hr⟩ : ∃ r, cmpS ⟨a0, a1, a2, a3, a4, a5, a6, a7⟩ ⟨b0, b1, b2, b3, b4, b5, b6, b7⟩ = r := ⟨_, rfl⟩
 rw [hr]
 have HR := Aside0.mk hr
 clear hr
 go_enter Tryz.func56, Tryz.ntmps56
 go_wp2_with fail
 generalize hW2 : (W.alloc (.cells #[.int .u64 a0, .int .u64 a1, .int .u64 a2, .int .u8 a3, .string a4, .string a5, .int .i64 a6, .int .i64 a7] 36)).alloc (.cells #[.int .u64 b0, .int .u64 b1, .int .u64 b2, .int .u8 b3, .string b4, .string b5, .int .i64 b6, .int .i64 b7] 36) = W2
 have hg : ∃ os, W2 = Go.Sort.grow W os := ⟨_, by rw [← hW2, Go.Sort.alloc_eq_grow, Go.Sort.alloc_eq_grow, Go.Sort.grow_grow]⟩
 have ca0 : W2.drew.cell? ⟨W.heap.size, 0, none⟩ = some (.int .u64 a0) := by rw [← hW2]; simp
 have ca1 : W2.drew.cell? ⟨W.heap.size, 1, none⟩ = some (.int .u64 a1) := by rw [← hW2]; simp
 have ca2 : W2.drew.cell? ⟨W.heap.size, 2, none⟩ = some (.int .u64 a2) := by rw [← hW2]; simp
 have ca3 : W2.drew.cell? ⟨W.heap.size, 3, none⟩ = some (.int .u8 a3) := by rw [← hW2]; simp
 have ca4 : W2.drew.cell? ⟨W.heap.size, 4, none⟩ = some (.string a4) := by rw [← hW2]; simp
 have ca5 : W2.drew.cell? ⟨W.heap.size, 5, none⟩ = some (.string a5) := by rw [← hW2]; simp
 have ca6 : W2.drew.cell? ⟨W.heap.size, 6, none⟩ = some (.int .i64 a6) := by rw [← hW2]; simp
 have ca7 : W2.drew.cell? ⟨W.heap.size, 7, none⟩ = some (.int .i64 a7) := by rw [← hW2]; simp
 have cb0 : W2.drew.cell? ⟨W.heap.size + 1, 0, none⟩ = some (.int .u64 b0) := by rw [← hW2]; simp
 have cb1 : W2.drew.cell? ⟨W.heap.size + 1, 1, none⟩ = some (.int .u64 b1) := by rw [← hW2]; simp
 have cb2 : W2.drew.cell? ⟨W.heap.size + 1, 2, none⟩ = some (.int .u64 b2) := by rw [← hW2]; simp
 have cb3 : W2.drew.cell? ⟨W.heap.size + 1, 3, none⟩ = some (.int .u8 b3) := by rw [← hW2]; simp
 have cb4 : W2.drew.cell? ⟨W.heap.size + 1, 4, none⟩ = some (.string b4) := by rw [← hW2]; simp
 have cb5 : W2.drew.cell? ⟨W.heap.size + 1, 5, none⟩ = some (.string b5) := by rw [← hW2]; simp
 have cb6 : W2.drew.cell? ⟨W.heap.size + 1, 6, none⟩ = some (.int .i64 b6) := by rw [← hW2]; simp
 have cb7 : W2.drew.cell? ⟨W.heap.size + 1, 7, none⟩ = some (.int .i64 b7) := by rw [← hW2]; simp
 clear hW2
 refine wp_region_still_tail 40 (by kernel_rfl) (by kernel_rfl) ?_
 simp only [List.take_succ_cons, List.take_zero, List.drop_succ_cons, List.drop_zero]
 change wpStill _ _ W2.drew _ _ _
 obtain ⟨W3, hW3⟩ : ∃ W3, W2.drew = W3 := ⟨_, rfl⟩
 rw [hW3] at ca0 ca1 ca2 ca3 ca4 ca5 ca6 ca7 cb0 cb1 cb2 cb3 cb4 cb5 cb6 cb7 ⊢
 have HW3 := Aside0.mk hW3
 have HG := Aside0.mk hg
 clear hW3 hg
 generalize W.heap.size = g0 at *
 iterate 4 still_step
 still_call (cmpI64_calls _ _ _)
 iterate 4 still_step
 still_call (cmpU64_calls _ _ _)
 iterate 4 still_step
 still_call (cmpU64_calls _ _ _)
 iterate 4 still_step
 still_call (cmpU8_calls _ _ _)
 iterate 4 still_step
 still_call (cmpI64_calls _ _ _)
 iterate 4 still_step
 still_call (compare_calls _ _ _)
 iterate 4 still_step
 still_call (compare_calls _ _ _)
 iterate 4 still_step
 still_call (cmpU64_calls _ _ _)
 refine wpStill_nil ?_
 change wpList _ _ _ _ _ W2.drew
 rw [HW3.out]
 clear ca0 ca1 ca2 ca3 ca4 ca5 ca6 ca7 cb0 cb1 cb2 cb3 cb4 cb5 cb6 cb7
 go_wp2_with fail
 have hrow : Kd.C (Kd.int .i64) (W3.alloc (.cells #[.int .i64 (cmpI a6 b6), .int .i64 (cmpI a1 b1), .int .i64 (cmpI a2 b2), .int .i64 (cmpI a3 b3), .int .i64 (cmpI a7 b7), .int .i64 (cmpB a4 b4), .int .i64 (cmpB a5 b5), .int .i64 (cmpI a0 b0)] 3)) (some ⟨W3.heap.size, 0, none⟩) 8 [cmpI a6 b6, cmpI a1 b1, cmpI a2 b2, cmpI a3 b3, cmpI a7 b7, cmpB a4 b4, cmpB a5 b5, cmpI a0 b0] := by
  refine ⟨rfl, by decide, fun _ => ⟨_, rfl, fun j p hp => ⟨[.int .i64 p], rfl, rfl, fun i u hu => ?_⟩⟩⟩
  have hj : j < 8 := (List.getElem?_eq_some_iff.1 hp).1
  have hi : i < 1 := (List.getElem?_eq_some_iff.1 hu).1
  obtain rfl : i = 0 := by omega
  obtain rfl : Value.int .i64 p = u := by simpa using hu
  rcases j with _ | _ | _ | _ | _ | _ | _ | _ | j <;> first | (simp at hp; subst hp; simp [Kd.int, Kd.scalar, Addr.add]) | omega
 have hc := first_calls [cmpI a6 b6, cmpI a1 b1, cmpI a2 b2, cmpI a3 b3, cmpI a7 b7, cmpB a4 b4, cmpB a5 b5, cmpI a0 b0] (by simp) _ 8 _ hrow (by simp)
 refine Calls.mono hc ?_
 rintro e w'' ⟨rfl, hd⟩
 have HD := Aside0.mk hd
 clear hc hrow hd
 rw [show firstNZ [cmpI a6 b6, cmpI a1 b1, cmpI a2 b2, cmpI a3 b3, cmpI a7 b7, cmpB a4 b4, cmpB a5 b5, cmpI a0 b0] = r from HR.out]
 go_wp2
 go_ret
 refine ⟨rfl, ?_⟩
 obtain ⟨n, hn⟩ := HD.out.out
 obtain ⟨os, ho⟩ := HG.out
 have h3 := HW3.out
 rw [hn, ← h3, ho, Go.Sort.alloc_eq_grow]
 have key : ∀ ob : Obj, ∃ q os', (Go.Sort.grow (Go.Sort.grow W os).drew #[ob]).drewN n = Go.Sort.grow (W.drewN q) os' := fun ob => ⟨1 + n, os ++ #[ob], by
  show Go.Sort.grow (Go.Sort.grow ((W.drewN 1).drewN n) os) #[ob] = _
  rw [Go.Sort.grow_grow, World.drewN_drewN]⟩
 exact key _
end Go.Proofs.YtgknjgionicncaaGreat.L
namespace Go.Proofs
open Go.Shelf
def Tryz.sortSpan_ren : Go.Shelf.Ren := ⟨fun | 6 => 103 | 15 => 136 | 14 => 135 | 28 => 160 | 29 => 161 | 20 => 152 | 21 => 153 | 22 => 154 | 23 => 155 | 24 => 156 | 25 => 157 | 26 => 158 | 27 => 159 | 46 => 173 | 47 => 174 | 48 => 175 | 49 => 176 | 50 => 177 | 57 => 184 | n => n, fun | 22 => 22 | 24 => 36 | 25 => 90 | 3 => 3 | 39 => 150 | 0 => 0 | 53 => 168 | 55 => 23 | 4 => 4 | 46 => 162 | 45 => 161 | 50 => 42 | 5 => 5 | 9 => 9 | 66 => 180 | 70 => 184 | 76 => 191 | 77 => 192 | n => n, fun | n => n⟩
theorem Tryz.sortSpan : Go.Proofs.SlLaysF0.n6 Tryz.prog Tryz.sortSpan_ren := {
 mixed := by kernel_rfl
 f6 := ⟨Tryz.f103.name, by decide, Tryz.func103.trans (congrArg some (by kernel_rfl))⟩
 f14 := ⟨Tryz.f135.name, by decide, Tryz.func135.trans (congrArg some (by kernel_rfl))⟩
 f15 := Tryz.func136.trans (congrArg some (by kernel_rfl))
 f20 := ⟨Tryz.f152.name, by decide, Tryz.func152.trans (congrArg some (by kernel_rfl))⟩
 f21 := ⟨Tryz.f153.name, by decide, Tryz.func153.trans (congrArg some (by kernel_rfl))⟩
 f22 := ⟨Tryz.f154.name, by decide, Tryz.func154.trans (congrArg some (by kernel_rfl))⟩
 f23 := ⟨Tryz.f155.name, by decide, Tryz.func155.trans (congrArg some (by kernel_rfl))⟩
 f24 := ⟨Tryz.f156.name, by decide, Tryz.func156.trans (congrArg some (by kernel_rfl))⟩
 f25 := ⟨Tryz.f157.name, by decide, Tryz.func157.trans (congrArg some (by kernel_rfl))⟩
 f26 := ⟨Tryz.f158.name, by decide, Tryz.func158.trans (congrArg some (by kernel_rfl))⟩
 f27 := ⟨Tryz.f159.name, by decide, Tryz.func159.trans (congrArg some (by kernel_rfl))⟩
 f28 := Tryz.func160.trans (congrArg some (by kernel_rfl))
 f29 := Tryz.func161.trans (congrArg some (by kernel_rfl))
 f46 := ⟨Tryz.f173.name, by decide, Tryz.func173.trans (congrArg some (by kernel_rfl))⟩
 f47 := Tryz.func174.trans (congrArg some (by kernel_rfl))
 f48 := Tryz.func175.trans (congrArg some (by kernel_rfl))
 f49 := ⟨Tryz.f176.name, by decide, Tryz.func176.trans (congrArg some (by kernel_rfl))⟩
 f50 := ⟨Tryz.f177.name, by decide, Tryz.func177.trans (congrArg some (by kernel_rfl))⟩
 f57 := ⟨Tryz.f184.name, by decide, Tryz.func184.trans (congrArg some (by kernel_rfl))⟩
 t0 := Tryz.underlying0
 a0 := Tryz.isAgg0
 z0 := Tryz.sizeOf0
 v0 := Tryz.zeroValue0
 t3 := Tryz.underlying3
 a3 := Tryz.isAgg3
 z3 := Tryz.sizeOf3
 v3 := Tryz.zeroValue3
 t4 := Tryz.underlying4
 a4 := Tryz.isAgg4
 z4 := Tryz.sizeOf4
 v4 := Tryz.zeroValue4
 t5 := Tryz.underlying5
 a5 := Tryz.isAgg5
 z5 := Tryz.sizeOf5
 v5 := Tryz.zeroValue5
 t9 := Tryz.underlying9
 a9 := Tryz.isAgg9
 z9 := Tryz.sizeOf9
 v9 := Tryz.zeroValue9
 t22 := Tryz.underlying22
 a22 := Tryz.isAgg22
 z22 := Tryz.sizeOf22
 v22 := Tryz.zeroValue22
 t25 := Tryz.underlying90
 a25 := Tryz.isAgg90
 z25 := Tryz.sizeOf90
 v25 := Tryz.zeroValue90
 t39 := Tryz.underlying150
 a39 := Tryz.isAgg150
 z39 := Tryz.sizeOf150
 v39 := Tryz.zeroValue150
 t45 := Tryz.underlying161
 a45 := Tryz.isAgg161
 z45 := Tryz.sizeOf161
 v45 := Tryz.zeroValue161
 t46 := Tryz.underlying162
 a46 := Tryz.isAgg162
 z46 := Tryz.sizeOf162
 v46 := Tryz.zeroValue162
 t50 := Tryz.underlying42
 a50 := Tryz.isAgg42
 z50 := Tryz.sizeOf42
 v50 := Tryz.zeroValue42
 t53 := Tryz.underlying168
 a53 := Tryz.isAgg168
 z53 := Tryz.sizeOf168
 v53 := Tryz.zeroValue168
 t55 := Tryz.underlying23
 a55 := Tryz.isAgg23
 z55 := Tryz.sizeOf23
 v55 := Tryz.zeroValue23
 t66 := Tryz.underlying180
 a66 := Tryz.isAgg180
 z66 := Tryz.sizeOf180
 v66 := Tryz.zeroValue180
 t70 := Tryz.underlying184
 a70 := Tryz.isAgg184
 z70 := Tryz.sizeOf184
 v70 := Tryz.zeroValue184
 t76 := Tryz.underlying191
 a76 := Tryz.isAgg191
 z76 := Tryz.sizeOf191
 v76 := Tryz.zeroValue191
 t77 := Tryz.underlying192
 a77 := Tryz.isAgg192
 z77 := Tryz.sizeOf192
 v77 := Tryz.zeroValue192 }
def Tryz.sortStr_ren : Go.Shelf.Ren := ⟨fun | 6 => 104 | 8 => 136 | 9 => 137 | 19 => 160 | 20 => 161 | 21 => 162 | 22 => 163 | 23 => 164 | 24 => 165 | 25 => 166 | 26 => 167 | 27 => 168 | 28 => 169 | 29 => 170 | 36 => 178 | 31 => 174 | 32 => 175 | 37 => 179 | 38 => 180 | 39 => 181 | 41 => 185 | n => n, fun | 27 => 28 | 29 => 9 | 3 => 3 | 32 => 150 | 26 => 28 | 0 => 0 | 44 => 168 | 46 => 23 | 4 => 4 | 36 => 162 | 35 => 161 | 41 => 42 | 5 => 5 | 9 => 9 | 53 => 180 | 57 => 184 | 63 => 191 | 64 => 192 | n => n, fun | n => n⟩
theorem Tryz.sortStr : Go.Proofs.SlLaysM.n6 Tryz.prog Tryz.sortStr_ren := {
 mixed := by kernel_rfl
 f6 := ⟨Tryz.f104.name, by decide, Tryz.func104.trans (congrArg some (by kernel_rfl))⟩
 f8 := Tryz.func136.trans (congrArg some (by kernel_rfl))
 f9 := ⟨Tryz.f137.name, by decide, Tryz.func137.trans (congrArg some (by kernel_rfl))⟩
 f19 := Tryz.func160.trans (congrArg some (by kernel_rfl))
 f20 := Tryz.func161.trans (congrArg some (by kernel_rfl))
 f21 := ⟨Tryz.f162.name, by decide, Tryz.func162.trans (congrArg some (by kernel_rfl))⟩
 f22 := ⟨Tryz.f163.name, by decide, Tryz.func163.trans (congrArg some (by kernel_rfl))⟩
 f23 := ⟨Tryz.f164.name, by decide, Tryz.func164.trans (congrArg some (by kernel_rfl))⟩
 f24 := ⟨Tryz.f165.name, by decide, Tryz.func165.trans (congrArg some (by kernel_rfl))⟩
 f25 := ⟨Tryz.f166.name, by decide, Tryz.func166.trans (congrArg some (by kernel_rfl))⟩
 f26 := ⟨Tryz.f167.name, by decide, Tryz.func167.trans (congrArg some (by kernel_rfl))⟩
 f27 := ⟨Tryz.f168.name, by decide, Tryz.func168.trans (congrArg some (by kernel_rfl))⟩
 f28 := ⟨Tryz.f169.name, by decide, Tryz.func169.trans (congrArg some (by kernel_rfl))⟩
 f29 := ⟨Tryz.f170.name, by decide, Tryz.func170.trans (congrArg some (by kernel_rfl))⟩
 f31 := Tryz.func174.trans (congrArg some (by kernel_rfl))
 f32 := Tryz.func175.trans (congrArg some (by kernel_rfl))
 f36 := ⟨Tryz.f178.name, by decide, Tryz.func178.trans (congrArg some (by kernel_rfl))⟩
 f37 := ⟨Tryz.f179.name, by decide, Tryz.func179.trans (congrArg some (by kernel_rfl))⟩
 f38 := ⟨Tryz.f180.name, by decide, Tryz.func180.trans (congrArg some (by kernel_rfl))⟩
 f39 := ⟨Tryz.f181.name, by decide, Tryz.func181.trans (congrArg some (by kernel_rfl))⟩
 f41 := ⟨Tryz.f185.name, by decide, Tryz.func185.trans (congrArg some (by kernel_rfl))⟩
 t0 := Tryz.underlying0
 a0 := Tryz.isAgg0
 z0 := Tryz.sizeOf0
 v0 := Tryz.zeroValue0
 t3 := Tryz.underlying3
 a3 := Tryz.isAgg3
 z3 := Tryz.sizeOf3
 v3 := Tryz.zeroValue3
 t4 := Tryz.underlying4
 a4 := Tryz.isAgg4
 z4 := Tryz.sizeOf4
 v4 := Tryz.zeroValue4
 t5 := Tryz.underlying5
 a5 := Tryz.isAgg5
 z5 := Tryz.sizeOf5
 v5 := Tryz.zeroValue5
 t9 := Tryz.underlying9
 a9 := Tryz.isAgg9
 z9 := Tryz.sizeOf9
 v9 := Tryz.zeroValue9
 t26 := Tryz.underlying28
 a26 := Tryz.isAgg28
 z26 := Tryz.sizeOf28
 v26 := Tryz.zeroValue28
 t27 := Tryz.underlying28
 a27 := Tryz.isAgg28
 z27 := Tryz.sizeOf28
 v27 := Tryz.zeroValue28
 t29 := Tryz.underlying9
 a29 := Tryz.isAgg9
 z29 := Tryz.sizeOf9
 v29 := Tryz.zeroValue9
 t32 := Tryz.underlying150
 a32 := Tryz.isAgg150
 z32 := Tryz.sizeOf150
 v32 := Tryz.zeroValue150
 t35 := Tryz.underlying161
 a35 := Tryz.isAgg161
 z35 := Tryz.sizeOf161
 v35 := Tryz.zeroValue161
 t36 := Tryz.underlying162
 a36 := Tryz.isAgg162
 z36 := Tryz.sizeOf162
 v36 := Tryz.zeroValue162
 t41 := Tryz.underlying42
 a41 := Tryz.isAgg42
 z41 := Tryz.sizeOf42
 v41 := Tryz.zeroValue42
 t44 := Tryz.underlying168
 a44 := Tryz.isAgg168
 z44 := Tryz.sizeOf168
 v44 := Tryz.zeroValue168
 t46 := Tryz.underlying23
 a46 := Tryz.isAgg23
 z46 := Tryz.sizeOf23
 v46 := Tryz.zeroValue23
 t53 := Tryz.underlying180
 a53 := Tryz.isAgg180
 z53 := Tryz.sizeOf180
 v53 := Tryz.zeroValue180
 t57 := Tryz.underlying184
 a57 := Tryz.isAgg184
 z57 := Tryz.sizeOf184
 v57 := Tryz.zeroValue184
 t63 := Tryz.underlying191
 a63 := Tryz.isAgg191
 z63 := Tryz.sizeOf191
 v63 := Tryz.zeroValue191
 t64 := Tryz.underlying192
 a64 := Tryz.isAgg192
 z64 := Tryz.sizeOf192
 v64 := Tryz.zeroValue192 }
def Tryz.compactStr_ren : Go.Shelf.Ren := ⟨fun | 44 => 105 | n => n, fun | 25 => 28 | 26 => 9 | 3 => 3 | 4 => 4 | 0 => 0 | n => n, fun | n => n⟩
theorem Tryz.compactStr : Go.Proofs.SlLaysN.n44 Tryz.prog Tryz.compactStr_ren := {
 mixed := by kernel_rfl
 f44 := ⟨Tryz.f105.name, by decide, Tryz.func105.trans (congrArg some (by kernel_rfl))⟩
 t0 := Tryz.underlying0
 a0 := Tryz.isAgg0
 z0 := Tryz.sizeOf0
 v0 := Tryz.zeroValue0
 t3 := Tryz.underlying3
 a3 := Tryz.isAgg3
 z3 := Tryz.sizeOf3
 v3 := Tryz.zeroValue3
 t4 := Tryz.underlying4
 a4 := Tryz.isAgg4
 z4 := Tryz.sizeOf4
 v4 := Tryz.zeroValue4
 t25 := Tryz.underlying28
 a25 := Tryz.isAgg28
 z25 := Tryz.sizeOf28
 v25 := Tryz.zeroValue28
 t26 := Tryz.underlying9
 a26 := Tryz.isAgg9
 z26 := Tryz.sizeOf9
 v26 := Tryz.zeroValue9
 i26 := by kernel_rfl }
end Go.Proofs
namespace Go.Proofs.YtgknjgionicncaaGreat.L
open Go.RowKit Go.Proofs.YtgknjgionicncaaGreat.Q Go.Proofs.YtgknjgionicncaaGreatW.PrintWords Go.Proofs.YtgknjgionicncaaGreatW.PrintLast Go.Proofs.YtgknjgionicncaaGreatW.PrintMore Go.Proofs.YtgknjgionicncaaGreatW.Lib Go.Proofs.YtgknjgionicncaaGreatW.RowB Go.Sort Go.Lib
set_option linter.unusedVariables false
def sortL (l : List S36) : List S36 := l.mergeSort fun x y => !ltOf cmpS y x
def encS (x : S36) : List Value := [.int .u64 x.f0, .int .u64 x.f1, .int .u64 x.f2, .int .u8 x.f3, .string x.f4, .string x.f5, .int .i64 x.f6, .int .i64 x.f7]
instance : Inhabited S36 := ⟨z36⟩
theorem swoS : SWO (ltOf cmpS) := by
 refine ⟨fun x => ?_, fun x y z h1 h2 => ?_, fun x y z h1 h2 => ?_⟩
 ·have := (cmpS_is.zero x x).2 rfl
  simp [ltOf, this]
 ·simp only [ltOf, decide_eq_true_eq] at *
  have t := cmpS_is.trans x y z (by omega) (by omega)
  rcases Int.lt_or_eq_of_le t with h | h
  ·exact h
  ·have e := (cmpS_is.zero x z).1 h
   subst e
   have := cmpS_is.anti x y
   omega
 ·simp only [ltOf, decide_eq_false_iff_not, Int.not_lt] at *
  have a1 := cmpS_is.anti x y
  have a2 := cmpS_is.anti y z
  have a3 := cmpS_is.anti x z
  have t := cmpS_is.trans z y x (by omega) (by omega)
  omega
theorem totS (x y : S36) (h1 : ltOf cmpS x y = false) (h2 : ltOf cmpS y x = false) : x = y := by
 simp only [ltOf, decide_eq_false_iff_not, Int.not_lt] at *
 have a1 := cmpS_is.anti x y
 exact (cmpS_is.zero x y).1 (by omega)
theorem clone_calls (l : List S36) (hl : l.length ≤ 1759218604441) (A : Option Addr) (c : Nat) (w : World) (hr : Kd.C k36 w A l.length l) (hc : l.length ≤ c) :
  Calls Tryz.prog 102 #[.slice A l.length c] w fun e w' => ∃ v : Value, e = .returned v ∧ Kd.R k36 36 w' w.heap.size (fun _ => True) v l ∧ Below w.heap.size w w' := by
 have q : ∀ (w : World) (a : Option Addr) (n c n' c' : Nat), (binOp .eql 22 (.slice a n c) (.slice none n' c')).run Tryz.prog w = .ok (.bool a.isNone) w := fun w a n c n' c' => Go.Lib.run_eql_slice_nil w _ _ a n c n' c' Tryz.underlying22
 cases A with
 | none =>
  have h0 : l = [] := by
   cases l with
   | nil => rfl
   | cons x l => obtain ⟨ad, h, _⟩ := hr.2.2 (by simp); exact absurd h (by simp)
  subst h0
  go_enter Tryz.func102, Tryz.ntmps102
  go_wp2
  go_ret
  exact ⟨_, rfl, Kd.R_nil _ _ _ _ _, Below.refl _ _⟩
 | some ad =>
  have HR0 := Aside0.mk hr
  clear hr
  have HL := Aside0.mk hl
  clear hl
  go_enter Tryz.func102, Tryz.ntmps102
  go_wp2_with (first
   | ((with_reducible refine gate_dst (N := 5) rfl ?_); refine Kd.R_lit k36 _ 36 ?hg (N := 5) ?hd (xs := ([] : List (S36))) (inner := []) (ok := fun _ => True) (okp := fun _ => True) ?hr ?hp (fun _ hk => hk) trivial (Below.refl _ _) (Nat.le_refl _) (by simp) ?_; (case hd => rfl); (case hg => rfl); (case hr => first | (go_simp; done) | (go_simp; rfl)); (case hp => exact (Reps.none _ _)); intro v1 w1 ho hb hg_ hnew_; clear hg_ hnew_; have HO := Aside0.mk ho; have HB := Aside0.mk hb; clear ho hb)
   | ((with_reducible refine gate_builtin (b := .append) (xs := #[.tmp 5, .tmp 6]) rfl ?_); at_builtin; refine Kd.R_append_rows k36 (w0 := w) w.heap.size rfl (.tmp 5) (.tmp 6) 22 36 (.agg #[(.int .u64 0), (.int .u64 0), (.int .u64 0), (.int .u8 0), (.string ⟨#[]⟩), (.string ⟨#[]⟩), (.int .i64 0), (.int .i64 0)]) 80 rfl Tryz.underlying22 info36 rfl (by decide) (by omega) v1 [] l _ _ _ (fun _ => True) (fun _ => False) rfl rfl ?aO ?aR (fun _ _ h => h) (fun _ h => h.elim) ?aF ?aB ?aS ?aL ?_; (case aR => exact (Kd.C_below HR0.out HB.out)); (case aB => exact HB.out); (case aF => exact (fun _ _ => trivial)); (case aO => exact HO.out); (case aS => exact HB.out.size); (case aL => have := HL.out; simp only [List.length_nil]; omega); intro v2 w2 ho hb hg hat; rw [List.nil_append] at ho; have HB2 := Aside0.mk hb; have HO2 := Aside0.mk ho; clear ho hb hg hat))
  go_ret
  exact ⟨_, rfl, HO2.out, HB2.out⟩
theorem cmp_lays (blk off size : Nat) (w : World) : CmpLays Tryz.prog 56 #[] encS 8 cmpS blk off size w := fun _ _ _ _ x y => cmp_grow x y _
set_option maxHeartbeats 1000000 in
theorem sort_calls (l : List S36) (hl : l.length ≤ 1759218604441) (A : Option Addr) (c : Nat) (w : World) (hr : Kd.C k36 w A l.length l) (hc : l.length ≤ c) :
  Calls Tryz.prog 57 #[.slice A l.length c] w fun e w' => ∃ v : Value, e = .returned v ∧ Kd.R k36 36 w' w.heap.size (fun _ => True) v (sortL l) ∧ Below w.heap.size w w' := by
 have hcl := clone_calls l hl A c w hr hc
 have hlen : (sortL l).length = l.length := List.length_mergeSort _
 have hsort : ∀ (v : Value) (w1 : World), Kd.R k36 36 w1 w.heap.size (fun _ => True) v l → Below w.heap.size w w1 →
   Calls Tryz.prog 103 #[v, .func (.func 56) #[] #[]] w1 fun e w' => e = .returned (.tuple #[]) ∧ Kd.R k36 36 w' w.heap.size (fun _ => True) v (sortL l) ∧ Below w.heap.size w w' := by
  intro v w1 hR hB
  obtain ⟨hok, inner, how, hre⟩ := hR
  have hre' : Reps (fun x c => c = encS x) 8 l inner := hre.imp_ (fun x c h => k36_openM h)
  by_cases h0 : l = []
  ·subst h0
   have hv : ∃ p cap, v = .slice p 0 cap := by
    rcases how.2 with ⟨h, _⟩ | ⟨g, cap, cur, h, _⟩
    ·exact ⟨none, 0, h⟩
    ·exact ⟨_, cap, h⟩
   obtain ⟨p, cap, rfl⟩ := hv
   refine (AnyF.slices_SortFunc_none Tryz.sortSpan p cap (.func (.func 56) #[] #[]) w1).mono ?_
   rintro e w' ⟨rfl, rfl⟩
   have hs0 : sortL [] = [] := by simp [sortL]
   exact ⟨rfl, by rw [hs0]; exact ⟨hok, inner, how, hre⟩, hB⟩
  ·have hpos : 0 < l.length := by
    rcases Nat.eq_zero_or_pos l.length with h | h
    ·exact absurd (List.length_eq_zero_iff.1 h) h0
    ·exact h
   rcases how.2 with ⟨_, h⟩ | ⟨g, cap, cur, rfl, hg, hh, hcap, hcm, hcs, htake⟩
   ·omega
   have hH : HoldsK encS 8 w1 g 0 l.toArray := holdsK_of (enc := encS) (k := 8) (l := l) (fun _ => rfl) hh htake hre'
   have hlt : g < w1.heap.size := (Array.getElem?_eq_some_iff.1 hh).1
   have eg : ∀ args w, (callFunc 56 args).run Tryz.prog w = .ok (.enter 56 args) w := enters_of Tryz.func56 (by kernel_rfl) rfl
   have hcon := AnyQ.slices_SortFunc_total Tryz.sortSpan 8 Tryz.isAgg36 Tryz.sizeOf36 encS (fun _ => rfl) (fun x v hv => by simp [encS] at hv; rcases hv with rfl | rfl | rfl | rfl | rfl | rfl | rfl | rfl <;> rfl) cmpS swoS 56 #[] g 0 cap l.toArray w1 eg (cmp_lays g 0 l.toArray.size w1) hH hlt (by simp; omega) totS
   have hcon2 : Calls Tryz.prog 103 #[.slice (some ⟨g, 0, none⟩) l.length cap, .func (.func 56) #[] #[]] w1 _ := hcon
   refine hcon2.mono ?_
   rintro e w' ⟨rfl, n, os, rfl⟩
   have hds : ((l.toArray.toList.mergeSort fun x y => !ltOf cmpS y x).toArray).size = l.length := by simp
   obtain ⟨inner', how', hre2⟩ := own_sorted (n := n) (os := os) (d := (l.toArray.toList.mergeSort fun x y => !ltOf cmpS y x).toArray) (base := w.heap.size) (enc := encS) (fun _ => rfl) hg hh (by rw [hds]; exact hcap) hcm hcs
   rw [hds] at how'
   refine ⟨rfl, ⟨fun _ _ => trivial, inner', by rw [hlen]; exact how', ?_⟩, hB.trans (below_sorted hg hB.size)⟩
   exact hre2.imp_ (fun x c h => by rw [h]; exact k36_mkM _ _ _ x)
 have HS := Aside0.mk hsort
 clear hsort
 have HC := Aside0.mk hcl
 clear hcl hr
 generalize sortL l = sl at *
 go_enter Tryz.func57, Tryz.ntmps57
 go_wp2_with (first
  | (go_at_call 102; refine HC.out.mono ?_; rintro e w1 ⟨v, rfl, ho, hb⟩; have HO := Aside0.mk ho; have HB := Aside0.mk hb; clear ho hb)
  | (go_at_call 103; refine (HS.out _ _ HO.out HB.out).mono ?_; rintro e w2 ⟨rfl, ho, hb⟩; have HO2 := Aside0.mk ho; have HB2 := Aside0.mk hb; clear ho hb))
 go_ret
 exact ⟨_, rfl, HO2.out, HB2.out⟩
end Go.Proofs.YtgknjgionicncaaGreat.L
namespace Go.Proofs.YtgknjgionicncaaGreat.L
open Go.RowKit Go.Proofs.YtgknjgionicncaaGreatW.PrintWords Go.Proofs.YtgknjgionicncaaGreatW.PrintLast Go.Proofs.YtgknjgionicncaaGreatW.PrintMore Go.Proofs.YtgknjgionicncaaGreatW.MapB Go.Maps Go.WideMaps
set_option linter.unusedVariables false
abbrev keyI (i : Int) : Lit := .int .u64 i
theorem keyI_is (i : Int) : WideAt.IsKeyLit (keyI i) := trivial
theorem keyI_inj (i j : Int) (h : keyI i = keyI j) : i = j := by injection h
end Go.Proofs.YtgknjgionicncaaGreat.L
namespace Go.Proofs.YtgknjgionicncaaGreat.L
open Go.RowKit Go.Proofs.YtgknjgionicncaaGreat.Q Go.Proofs.YtgknjgionicncaaGreatW.PrintWords Go.Proofs.YtgknjgionicncaaGreatW.PrintLast Go.Proofs.YtgknjgionicncaaGreatW.PrintMore Go.Sort
set_option linter.unusedVariables false
def hostsB (l : List S36) : List ByteArray := (hostsL (l.map (·.f4.data.toList))).map (fun x => ⟨x.toArray⟩)
theorem hostsB_cells (l : List S36) : (hostsB l).map Value.string = (hostsL (l.map (·.f4.data.toList))).map encStr := by
  unfold hostsB
  rw [List.map_map]; rfl
theorem hosts_left {w w1 : World} {g cap n nn q : Nat} {os : Array Obj} {ss : List (List UInt8)} (hown : w1.ownsRow w.heap.size 9 1 (.slice (some ⟨g, 0, none⟩) n cap) n (ss.map encStr)) (hbel : Below w.heap.size w w1) (hlen : ss.length = n) :
    (putRow encStr (Sort.ahead (grow (putRow encStr (Sort.ahead w1 nn) g 0 (ss.mergeSort fun x y => decide (x ≤ y)).toArray) os) q) g 0 (Lib.compact (ss.mergeSort fun x y => decide (x ≤ y)) ++ List.replicate ((ss.mergeSort fun x y => decide (x ≤ y)).length - (Lib.compact (ss.mergeSort fun x y => decide (x ≤ y))).length) []).toArray).ownsRow w.heap.size 9 1 (.slice (some ⟨g, 0, none⟩) (hostsL ss).length cap) (hostsL ss).length ((hostsL ss).map encStr) ∧
    Below w.heap.size w (putRow encStr (Sort.ahead (grow (putRow encStr (Sort.ahead w1 nn) g 0 (ss.mergeSort fun x y => decide (x ≤ y)).toArray) os) q) g 0 (Lib.compact (ss.mergeSort fun x y => decide (x ≤ y)) ++ List.replicate ((ss.mergeSort fun x y => decide (x ≤ y)).length - (Lib.compact (ss.mergeSort fun x y => decide (x ≤ y))).length) []).toArray) := by
  have hl2 : (ss.mergeSort fun x y => decide (x ≤ y)).length = ss.length := List.length_mergeSort ss
  have hle := Lib.compact_length_le (ss.mergeSort fun x y => decide (x ≤ y))
  subst hlen
  rcases hown.2 with ⟨h0, _⟩ | ⟨g', cap', cur, hv, hbase, hb, h1, h2, h3, h4⟩
  · cases h0
  cases hv
  have hs := ownsRow_sorted (n := nn) (os := os) (ts := ss.mergeSort fun x y => decide (x ≤ y)) hl2 hbase hb h1 h2 h3
  have hc := Lib.ownsRow_putRow (q := q) (k := (Lib.compact (ss.mergeSort fun x y => decide (x ≤ y))).length) (ys := Lib.compact (ss.mergeSort fun x y => decide (x ≤ y)) ++ List.replicate ((ss.mergeSort fun x y => decide (x ≤ y)).length - (Lib.compact (ss.mergeSort fun x y => decide (x ≤ y))).length) []) hs (by simp; omega) (by omega)
  rw [List.take_left] at hc
  exact ⟨hc, Lib.below_putRow (hbel.grown (grownBy_sorted _) hbel.size (fun j hj => by cases hj; exact hbase)) hbase⟩
set_option maxHeartbeats 4000000 in
set_option maxRecDepth 100000 in
theorem hosts_calls (l0 : List S36) (hl : l0.length ≤ 1759218604441) (A0 : Option Addr) (c0 : Nat) (w : World) (hr0 : Kd.C k36 w A0 l0.length l0) (hc0 : l0.length ≤ c0) :
    Calls Tryz.prog 59 #[.slice A0 l0.length c0] w fun e w' => ∃ v : Value, e = .returned v ∧ Kd.R Kd.string 9 w' w.heap.size (fun _ => True) v (hostsB l0) ∧ Below w.heap.size w w' := by
  have HR0 := Aside0.mk hr0
  have HL := Aside0.mk hl
  clear hr0 hc0 hl
  have HB := Aside0.mk (Below.refl w.heap.size w)
  go_enter Tryz.func59, Tryz.ntmps59
  go_wp2_with fail
  go_loopg [3, 8] l0.length (fun kq v3 v8 w' => ∃ x8 : Int, v8 = .int .i64 x8 ∧ Aside0 (0 ≤ x8 ∧ x8 + kq = l0.length) ∧ Aside0 (Kd.R Kd.string 9 w' w.heap.size (fun _ => True) v3 ((l0.take x8.toNat).map (·.f4))) ∧ Aside0 (Below w.heap.size w w'))
  case atStart => exact ⟨0, rfl, ⟨by omega, by omega⟩, ⟨Kd.R_nil _ _ _ _ _⟩, HB⟩
  case round =>
    obtain ⟨x8, rfl, HK, HO, HB⟩ := hrel
    by_cases c1 : x8 < (l0.length : Int)
    · have c1b := decide_eq_true c1
      have p1 : 0 ≤ x8 := HK.out.1
      obtain ⟨ad1, e1, hx1⟩ := at_T36 HR0.out x8 p1 c1
      cases e1
      obtain ⟨hx1_0, hx1_1, hx1_2, hx1_3, hx1_4, hx1_5, hx1_6, hx1_7⟩ := zc8 HB.out hx1
      have P1 := Aside0.mk p1
      have Q1 := Aside0.mk c1
      replace p1 := eq_true p1
      replace c1 := eq_true c1
      have W1 := Aside0.mk (show wrap64 (x8 + 1) = x8 + 1 from by unfold wrap64; have := HL.out; have := P1.out; have := Q1.out; omega)
      have HS := Aside0.mk (show (l0.take (x8 + 1).toNat).map (·.f4) = (l0.take x8.toNat).map (·.f4) ++ [(rd_T36 l0 x8).f4] from by
        have h1 := P1.out
        have h2 := Q1.out
        have h3 : x8.toNat < l0.length := by omega
        rw [show (x8 + 1).toNat = x8.toNat + 1 by omega, List.take_succ_eq_append_getElem h3, List.map_append]
        simp [rd_T36, List.getD, h3])
      go_wp2_with (first | ((with_reducible refine gate_builtin (b := .append) (xs := #[.tmp 12, .tmp 15]) rfl ?_); at_builtin; refine Kd.R_append Kd.string (w0 := w) w.heap.size rfl (.tmp 12) (.tmp 15) 28 9 (.string ⟨#[]⟩) 16 rfl Tryz.underlying28 (by kernel_rfl) rfl (by decide) (by omega) u3 ((l0.take x8.toNat).map (·.f4)) ((rd_T36 l0 x8).f4) [.string ((rd_T36 l0 x8).f4)] (fun _ => True) (fun _ => False) rfl ?aX ?aP (fun _ hk => hk.elim) ?aF ?aO ?aB ?aS ?aL ?_; (case aX => first | rfl | (go_simp; done) | (simp; done)); (case aP => exact rfl); (case aB => exact zB); (case aF => exact (fun _ _ => trivial)); (case aO => exact (zR HO.out)); (case aS => exact (below_size zB)); (case aL => have := HL.out; have := Q1.out; simp only [List.length_map, List.length_take]; omega); intro v2 w2 ho hb hg hat; rw [← HS.out] at ho; have HO2 := Aside0.mk ho; have HB2 := Aside0.mk hb; clear ho hb hg hat))
      obtain ⟨k1, rfl⟩ : ∃ k1, gk = k1 + 1 := ⟨gk - 1, by have := HK.out; have := Q1.out; omega⟩
      go_roundg k1
      case measure => omega
      case rel => exact ⟨x8 + 1, by rw [W1.out], ⟨by have := P1.out; omega, by have := HK.out; omega⟩, HO2, HB2⟩
    · have c1b := decide_eq_false c1
      have hx : x8.toNat = l0.length := by have := HK.out; omega
      have ho := HO.out
      rw [hx, List.take_length] at ho
      have hown := Kd.own_of_R ho
      have hbel := HB.out
      have hm : encs Value.string (l0.map (·.f4)) = (l0.map (·.f4.data.toList)).map encStr := by
        rw [show encs Value.string (l0.map (·.f4)) = (l0.map (·.f4)).map Value.string from rfl, ← Lib.map_encStr]
        congr 1
        rw [List.map_map]; rfl
      rw [hm, List.length_map] at hown
      have hlen : (l0.map (·.f4.data.toList)).length = l0.length := List.length_map _
      clear ho HO HR0
      rcases Nat.eq_zero_or_pos l0.length with h0 | h0
      · have hv : ∃ p cap, u3 = .slice p 0 cap := by
          rcases hown.2 with ⟨h, _⟩ | ⟨g, cap, cur, h, _⟩
          · exact ⟨none, 0, by rw [h]⟩
          · exact ⟨_, cap, by rw [h, h0]⟩
        obtain ⟨p, cap, rfl⟩ := hv
        have ho0 : wr.ownsRow w.heap.size 9 1 (.slice p 0 cap) 0 [] := by
          have := hown
          rw [h0] at this
          rw [List.length_eq_zero_iff.1 h0] at this
          exact this
        have hs0 : hostsB l0 = [] := by
          have h1 := hostsL_length (l0.map (·.f4.data.toList))
          rw [List.length_map, h0] at h1
          unfold hostsB
          rw [List.length_eq_zero_iff.1 (Nat.le_zero.1 h1)]; rfl
        have HS0 := Aside0.mk hs0
        have S1 := Aside0.mk (AnyM.slices_Sort_string_none Tryz.sortStr p cap)
        have S2 := Aside0.mk (AnyG.slices_Compact_string_empty Tryz.compactStr p cap)
        have HO := Aside0.mk ho0
        clear hown hs0 hm hbel ho0
        go_wp2_with (first
          | (go_at_call 104; refine (S1.out _).mono ?_; rintro e w1 ⟨rfl, rfl⟩)
          | (go_at_call 105; refine (S2.out _).mono ?_; rintro e w1 ⟨rfl, rfl⟩))
        go_ret
        refine ⟨_, rfl, ?_, HB.out⟩
        rw [HS0.out]
        exact Kd.R_of_own (enc := Value.string) (xs := []) HO.out (fun _ _ => trivial)
      · have hnn : u3 ≠ .slice none 0 0 := by
          intro e
          rcases hown.2 with ⟨_, h⟩ | ⟨g, cap, cur, h, _⟩
          · omega
          · rw [e] at h; cases h
        obtain ⟨g, cap, rfl, hbg, hgl, hncap, hcm, hlen2, hH⟩ := Lib.holds_of_ownsRow hown hnn
        have hsort := AnyM.slices_Sort_string Tryz.sortStr g 0 cap (l0.map (·.f4.data.toList)) wr hH hgl (by have := HL.out; omega)
        rw [hlen] at hsort
        have hcells := hostsB_cells l0
        have HM := Aside0.mk hown
        have HH := Aside0.mk hH
        have HC := Aside0.mk hcells
        have HN := Aside0.mk hlen
        generalize hss : (l0.map (·.f4.data.toList)) = ss at *
        have S1 := Aside0.mk hsort
        have HG := Aside0.mk hgl
        have HP := Aside0.mk hncap
        clear hsort hH hcells hlen hlen2 hown hgl hm hss hbel hncap
        go_wp2_with (first
          | (go_at_call 104; refine S1.out.mono ?_; rintro e w1 ⟨rfl, nn, os, rfl⟩
             have hl2 : (ss.mergeSort fun x y => decide (x ≤ y)).length = l0.length := by rw [List.length_mergeSort]; exact HN.out
             have hH2 : Holds encStr (grow (putRow encStr (Sort.ahead wr nn) g 0 (ss.mergeSort fun x y => decide (x ≤ y)).toArray) os) g 0 (ss.mergeSort fun x y => decide (x ≤ y)).toArray :=
               holds_grow encStr _ os g 0 _ (by simpa [putRow, mapBlock, Sort.ahead] using HG.out) (holds_putRow encStr _ g 0 _ _ (holds_ahead encStr wr nn g 0 _ HH.out) (by simp))
             have hcomp := AnyG.slices_Compact_string Tryz.compactStr g 0 cap (ss.mergeSort fun x y => decide (x ≤ y)) _ hH2 (by have := HL.out; omega) (by have := HP.out; omega)
             rw [hl2] at hcomp
             have S2 := Aside0.mk hcomp
             have HN2 := Aside0.mk hl2
             clear hcomp hH2 hl2)
          | (go_at_call 105; refine S2.out.mono ?_; rintro e w2 ⟨rfl, q, rfl⟩))
        go_ret
        have hle := hosts_left (nn := nn) (os := os) (q := q) HM.out HB.out HN.out
        have hl3 : (hostsB l0).length = (hostsL ss).length := by
          have := congrArg List.length HC.out
          simpa using this
        refine ⟨_, rfl, ?_, ?_⟩
        · refine Kd.R_of_own (enc := Value.string) (e := 9) ?_ (fun _ _ => trivial)
          rw [show encs Value.string (hostsB l0) = (hostsB l0).map Value.string from rfl, HC.out, hl3]
          have := hle.1
          rw [List.length_mergeSort, HN.out] at this
          exact this
        · have := hle.2
          rw [List.length_mergeSort, HN.out] at this
          exact this
end Go.Proofs.YtgknjgionicncaaGreat.L
namespace Go.Proofs.YtgknjgionicncaaGreat.L
open Go.RowKit Go.Proofs.YtgknjgionicncaaGreat.Q Go.Proofs.YtgknjgionicncaaGreatW.PrintWords
set_option linter.unusedVariables false
def fitS (x : S36) : Prop := (Lit.int .u64 x.f1).wf = true ∧ x.f4.size ≤ 140737488351232 ∧ x.f5.size ≤ 140737488351232
instance : DecidablePred fitS := fun x => by unfold fitS; infer_instance
end Go.Proofs.YtgknjgionicncaaGreat.L
namespace Go.Proofs.YtgknjgionicncaaGreat.L
open Go.RowKit Go.Proofs.YtgknjgionicncaaGreat.Q Go.Proofs.YtgknjgionicncaaGreatW.PrintWords Go.Maps
set_option linter.unusedVariables false
theorem hostsB_rise (l : List S36) : Rise cmpB (hostsB l) := by
 unfold hostsB Rise
 rw [List.pairwise_map]
 refine (hostsL_rise _).1.imp ?_
 intro x y h
 show Go.Lib.compareBytes _ _ < 0
 simpa using h
theorem hostsB_mem (l : List S36) (s : ByteArray) : s ∈ hostsB l ↔ ∃ x ∈ l, x.f4 = s := by
 unfold hostsB
 rw [List.mem_map]
 constructor
 ·rintro ⟨y, hy, rfl⟩
  rw [(hostsL_rise _).2, List.mem_map] at hy
  obtain ⟨x, hx, rfl⟩ := hy
  exact ⟨x, hx, by simp⟩
 ·rintro ⟨x, hx, rfl⟩
  refine ⟨x.f4.data.toList, ?_, by simp⟩
  rw [(hostsL_rise _).2]
  exact List.mem_map.2 ⟨x, hx, rfl⟩
theorem hostsB_length (l : List S36) : (hostsB l).length ≤ l.length := by
 unfold hostsB
 rw [List.length_map]
 exact Nat.le_trans (hostsL_length _) (by rw [List.length_map]; exact Nat.le_refl _)
theorem hostsB_nodup (l : List S36) : (hostsB l).Nodup := (hostsB_rise l).nodup cmpB_is
theorem hostsB_fit {l : List S36} (hf : ∀ x ∈ l, fitS x) : ∀ s ∈ hostsB l, s.size ≤ 140737488351232 := by
 intro s hs
 obtain ⟨x, hx, rfl⟩ := (hostsB_mem l s).1 hs
 exact (hf x hx).2.1
abbrev key (s : ByteArray) : Lit := .string s.data.toList
theorem key_inj {s t : ByteArray} (h : key s = key t) : s = t := by
 have h1 : s.data.toList = t.data.toList := by
  unfold key at h
  injection h
 cases s; cases t
 simp_all
theorem key_is (s : ByteArray) : WideAt.IsKeyLit (key s) := trivial
def numD (l : List ByteArray) : Nat → DataW Unit
 | 0 => .map []
 | k + 1 => (numD l k).put (key (l.getD k ByteArray.empty)) (.lit (.int .i64 k))
theorem numD_tidy (l : List ByteArray) : ∀ k, Tidy (numD l k)
 | 0 => tidy_empty
 | k + 1 => (numD_tidy l k).put (key_is _) _
theorem numD_has (l : List ByteArray) (s : ByteArray) : ∀ k, k ≤ l.length → (has (numD l k) (key s) = true ↔ s ∈ l.take k)
 | 0, _ => by simp [numD, has]
 | k + 1, hk => by
  have hl : l.getD k ByteArray.empty = l[k] := by simp [List.getD, show k < l.length by omega]
  rw [numD, hl, List.take_succ_eq_append_getElem (show k < l.length by omega)]
  by_cases e : s = l[k]
  ·rw [← e, has_put_same (numD_tidy l k).isMap (key_is _)]
   simp
  ·rw [has_put_other (fun h => e (key_inj h)), numD_has l s k (by omega), List.mem_append, List.mem_singleton]
   exact ⟨.inl, fun h => h.elim _root_.id (fun h => absurd h e)⟩
theorem numD_size {l : List ByteArray} (nd : l.Nodup) : ∀ k, k ≤ l.length → size (numD l k) = k
 | 0, _ => rfl
 | k + 1, hk => by
  have hl : l.getD k ByteArray.empty = l[k] := by simp [List.getD, show k < l.length by omega]
  have hn : l[k] ∉ l.take k := by
   intro h
   obtain ⟨j, hj, e⟩ := List.getElem_of_mem h
   rw [List.getElem_take] at e
   have hjk : j < k := by simp at hj; omega
   exact List.pairwise_iff_getElem.1 nd j k (by omega) (by omega) hjk e
  rw [numD, size_put (numD_tidy l k), hl, if_neg (fun h => hn ((numD_has l l[k] k (by omega)).1 h)), numD_size nd k (by omega)]
theorem numD_at {l : List ByteArray} (nd : l.Nodup) (z : DataW Unit) (j : Nat) (hj : j < l.length) : ∀ k, j < k → k ≤ l.length → (numD l k).atKey (key l[j]) z = .lit (.int .i64 j)
 | 0, h, _ => by omega
 | k + 1, h, hk => by
  have hl : l.getD k ByteArray.empty = l[k] := by simp [List.getD, show k < l.length by omega]
  rw [numD, hl]
  by_cases e : j = k
  ·subst e
   exact atKey_put_same (numD_tidy l j).isMap (key_is _) _ _
  ·rw [atKey_put_other (fun h2 => ?_)]
   ·exact numD_at nd z j hj k (by omega) (by omega)
   ·have := key_inj h2
    exact absurd this (List.pairwise_iff_getElem.1 nd j k hj (by omega) (by omega))
def numB (l : List ByteArray) (s : ByteArray) : Nat := l.findIdx (fun h => decide (h = s))
theorem numB_lt {l : List ByteArray} {s : ByteArray} (h : s ∈ l) : numB l s < l.length := List.findIdx_lt_length_of_exists ⟨s, h, by simp⟩
theorem numB_get {l : List ByteArray} {s : ByteArray} (h : s ∈ l) : l[numB l s]'(numB_lt h) = s := by
 have := List.findIdx_getElem (p := fun h => decide (h = s)) (w := numB_lt h)
 exact of_decide_eq_true this
theorem numD_num {l : List ByteArray} (nd : l.Nodup) {s : ByteArray} (h : s ∈ l) (z : DataW Unit) : (numD l l.length).atKey (key s) z = .lit (.int .i64 (numB l s)) := by
 have := numD_at nd z (numB l s) (numB_lt h) l.length (numB_lt h) (Nat.le_refl _)
 rw [numB_get h] at this
 exact this
def numsL (l : List S36) : List Int := l.map fun x => (numB (hostsB l) x.f4 : Int)
def greatL (l : List S36) : Bool := decide (512 < l.length) || decide (32 < (hostsB l).length)
end Go.Proofs.YtgknjgionicncaaGreat.L
namespace Go.Proofs.YtgknjgionicncaaGreat.L
open Go.RowKit Go.Proofs.YtgknjgionicncaaGreat.Q Go.Proofs.YtgknjgionicncaaGreatW.PrintWords Go.Proofs.YtgknjgionicncaaGreatW.MapB Go.Maps
set_option linter.unusedVariables false
def okS (t : Int) (s : Span) : Bool := decide (s.f0 = t) && mayB s.f0 s.f1 s.f2 s.f3 s.f4 s.f5 s.f6 s.f7
def metD (t : Int) (l : List Span) : List Span := l.foldl (stepD cmpS (·.f1) (okS t)) []
def ofD (l : List Span) (t : Int) : List Span := sortL (metD t l)
theorem metD_counts (t : Int) (l : List Span) : Counts cmpS (·.f1) (okS t) l (metD t l) := by
 have := stepD_counts cmpS_is l [] [] (counts_nil (c := cmpS) (id := (·.f1)) (ok := okS t))
 simpa [metD] using this
theorem metD_length (t : Int) (l : List Span) : (metD t l).length ≤ l.length := by
 have := foldD_length (c := cmpS) (id := (·.f1)) (ok := okS t) l []
 simpa [metD] using this
theorem sortL_sorted (l : List Span) : (sortL l).Pairwise leS := by
 have h := List.pairwise_mergeSort (le := fun x y => !ltOf cmpS y x) (fun a b c h1 h2 => by
  simp only [ltOf, Bool.not_eq_true', decide_eq_false_iff_not, Int.not_lt] at *
  have a1 := cmpS_is.anti a b; have a2 := cmpS_is.anti b c; have a3 := cmpS_is.anti a c
  have t := cmpS_is.trans a b c (by omega) (by omega)
  omega) (fun a b => by
  simp only [ltOf, Bool.or_eq_true, Bool.not_eq_true', decide_eq_false_iff_not, Int.not_lt]
  have a1 := cmpS_is.anti a b
  omega) l
 refine h.imp ?_
 intro a b hab
 simp only [ltOf, Bool.not_eq_true', decide_eq_false_iff_not, Int.not_lt] at hab
 have a1 := cmpS_is.anti a b
 show cmpS a b ≤ 0
 omega
theorem sortL_perm (l : List Span) : (sortL l).Perm l := List.mergeSort_perm l _
theorem sortL_eq (l : List Span) : sortL l = sortR l := sorted_one (sortL_sorted l) (sortR_sorted l) ((sortL_perm l).trans (sortR_perm l).symm)
theorem ofD_counts (l : List Span) (t : Int) : Counts cmpS (·.f1) (okS t) l (ofD l t) := (metD_counts t l).perm (sortL_perm _).symm
theorem ofD_sorted (l : List Span) (t : Int) : (ofD l t).Pairwise leS := sortL_sorted _
theorem ofD_length (l : List Span) (t : Int) : (ofD l t).length ≤ l.length := Nat.le_trans (Nat.le_of_eq (sortL_perm _).length_eq) (metD_length t l)
def idsD (m : List Span) : DataW Unit := mapN keyI 0 (m.map (·.f1)) m.length
theorem idsD_none {m : List Span} {i : Int} (h : m.findIdx? (fun x => decide (x.f1 = i)) = none) (z : DataW Unit) : (idsD m).atKey (keyI i) z = z ∧ has (idsD m) (keyI i) = false := by
 have hn : i ∉ m.map (·.f1) := by
  intro hm
  obtain ⟨x, hx, rfl⟩ := List.mem_map.1 hm
  have := List.findIdx?_eq_none_iff.1 h x hx
  simp at this
 have := mapN_none (d := 0) keyI_is keyI_inj hn z
 rw [List.length_map] at this
 exact this
theorem idsD_some {m : List Span} (nd : m.Pairwise fun x y => x.f1 ≠ y.f1) {i : Int} {j : Nat} (h : m.findIdx? (fun x => decide (x.f1 = i)) = some j) (z : DataW Unit) : (idsD m).atKey (keyI i) z = .lit (.int .i64 j) ∧ has (idsD m) (keyI i) = true := by
 obtain ⟨hj, he, _⟩ := List.findIdx?_eq_some_iff_getElem.1 h
 have he' : m[j].f1 = i := of_decide_eq_true he
 have nd' : (m.map (·.f1)).Nodup := by
  unfold List.Nodup
  rw [List.pairwise_map]
  exact nd
 have h1 := mapN_at (d := 0) keyI_is keyI_inj nd' z j (by simpa using hj) m.length hj (by simp)
 rw [List.getElem_map, he'] at h1
 refine ⟨h1, ?_⟩
 have := (mapN_has (d := 0) keyI_is keyI_inj (m.map (·.f1)) i m.length (by simp)).2 (by
  rw [List.take_of_length_le (by simp)]
  exact List.mem_map.2 ⟨m[j], List.getElem_mem _, he'⟩)
 exact this
theorem idsD_snoc (m : List Span) (s : Span) : (idsD m).put (keyI s.f1) (.lit (.int .i64 m.length)) = idsD (m ++ [s]) := by
 have := mapN_snoc (key := keyI) (d := 0) (m.map (·.f1)) s.f1
 unfold idsD
 rw [List.map_append, List.map_singleton]
 simp only [List.length_append, List.length_map, List.length_singleton] at this ⊢
 exact this.symm
theorem idsD_set {m : List Span} {s : Span} {j : Nat} (h : m.findIdx? (fun x => decide (x.f1 = s.f1)) = some j) : idsD (m.set j s) = idsD m := by
 obtain ⟨hj, he, _⟩ := List.findIdx?_eq_some_iff_getElem.1 h
 have he' : m[j].f1 = s.f1 := of_decide_eq_true he
 unfold idsD
 rw [List.length_set, List.map_set, ← he', ← List.getElem_map (f := fun x : Span => x.f1) (h := by simpa using hj), List.set_getElem_self]
end Go.Proofs.YtgknjgionicncaaGreat.L
namespace Go.Proofs.YtgknjgionicncaaGreat.L
open Go.RowKit Go.Proofs.YtgknjgionicncaaGreat.Q Go.Proofs.YtgknjgionicncaaGreatW.PrintWords Go.Proofs.YtgknjgionicncaaGreatW.PrintLast Go.Proofs.YtgknjgionicncaaGreatW.PrintMore Go.Proofs.YtgknjgionicncaaGreatW.MapB Go.Maps Go.WideMaps
set_option linter.unusedVariables false
theorem lawStr : Keyed Tryz.prog 9 := string_keyed Tryz.underlying9
theorem zeroInt (w : World) : (zeroValue 3).run Tryz.prog w = .ok (.int .i64 0) w := by kernel_rfl
theorem numD_next (hs : List ByteArray) (x : Int) (h0 : 0 ≤ x) : (numD hs x.toNat).put (key (rdOf ByteArray.empty hs x)) (.lit (.int .i64 x)) = numD hs (x + 1).toNat := by
 rw [show (x + 1).toNat = x.toNat + 1 by omega]
 show _ = (numD hs x.toNat).put _ (.lit (.int .i64 (x.toNat : Int)))
 rw [show (x.toNat : Int) = x by omega]
 rfl
theorem rdOf_mem {α : Type} {d : α} {l : List α} {x : Int} (h0 : 0 ≤ x) (h1 : x < l.length) : rdOf d l x ∈ l := by
 unfold rdOf
 rw [List.getD_eq_getElem?_getD, List.getElem?_eq_getElem (show x.toNat < l.length by omega)]
 exact List.getElem_mem _
set_option maxHeartbeats 4000000 in
set_option maxRecDepth 100000 in
theorem numbers_calls (l0 : List S36) (hl : l0.length ≤ 1759218604441) (hf : ∀ x ∈ l0, fitS x) (A0 : Option Addr) (c0 : Nat) (w : World) (hr0 : Kd.C k36 w A0 l0.length l0) (hc0 : l0.length ≤ c0) :
  Calls Tryz.prog 58 #[.slice A0 l0.length c0] w fun e w' => e = .returned (.map (some w.heap.size)) ∧ w'.ownsMap Tryz.prog 9 (plainElem Tryz.prog 3) w.heap.size (hostsB l0).length (numD (hostsB l0) (hostsB l0).length) ∧ Below w.heap.size w w' := by
 have hmm := @run_makeMap Tryz.prog
 have Q1 : Aside0 (∀ w1 : World, Below w.heap.size w w1 → Calls Tryz.prog 59 #[.slice A0 l0.length c0] w1 fun e w' => ∃ v : Value, e = .returned v ∧ Kd.R Kd.string 9 w' w1.heap.size (fun _ => True) v (hostsB l0) ∧ Below w1.heap.size w1 w') := ⟨fun w1 hb => hosts_calls l0 hl A0 c0 w1 (Kd.C_below hr0 hb) hc0⟩
 have HF := Aside0.mk (hostsB_fit hf)
 have HN := Aside0.mk (show (hostsB l0).length ≤ 1759218604441 from Nat.le_trans (hostsB_length l0) hl)
 clear hr0 hc0 hl hf
 generalize hostsB l0 = hs at *
 go_enter Tryz.func58, Tryz.ntmps58
 go_wp2_with (go_at_call 59; refine (Q1.out _ ((Below.refl _ _).alloc (Nat.le_refl _) _)).mono ?_; rintro e w1 ⟨v, rfl, ho, hb⟩; have HM := Aside0.mk (map_below (World.ownsMap_made (H := Unit) w Tryz.prog 9 (plainElem Tryz.prog 3)) hb); have HB := Aside0.mk (below_step ((Below.refl w.heap.size w).alloc (Nat.le_refl _) (.map #[] 0)) hb); have HO := Aside0.mk (Kd.R_lower ho (show w.heap.size ≤ (w.alloc (.map #[] 0)).heap.size by simp)); clear ho hb; obtain ⟨Av, cv, rfl⟩ := Kd.R_slice HO.out)
 go_loopg [10] hs.length (fun kq v10 w' => ∃ x10 : Int, v10 = .int .i64 x10 ∧ Aside0 (0 ≤ x10 ∧ x10 + kq = hs.length) ∧ Aside0 (Kd.R Kd.string 9 w' w.heap.size (fun _ => True) (.slice Av hs.length cv) hs) ∧ Aside0 (w'.ownsMap Tryz.prog 9 (plainElem Tryz.prog 3) w.heap.size x10.toNat (numD hs x10.toNat)) ∧ Aside0 (Below w.heap.size w w'))
 case atStart => exact ⟨0, rfl, ⟨by omega, by omega⟩, HO, HM, HB⟩
 case round =>
  clear HO HM HB
  obtain ⟨x10, rfl, HK, HO, HM, HB⟩ := hrel
  by_cases c1 : x10 < (hs.length : Int)
  ·have c1b := decide_eq_true c1
   have p1 : 0 ≤ x10 := HK.out.1
   obtain ⟨ad1, e1, hx1⟩ := Kd.at_string (Kd.R_reads' HO.out).2.2 x10 p1 c1
   cases e1
   have P1 := Aside0.mk p1
   have Q1 := Aside0.mk c1
   have hkey : keyOf Tryz.prog 9 (.string (rdOf ByteArray.empty hs x10)) = some (key (rdOf ByteArray.empty hs x10)) := keyOf_string_mk Tryz.underlying9 (Nat.le_trans (HF.out _ (rdOf_mem p1 c1)) (by decide))
   have HKey := Aside0.mk hkey
   clear hkey
   replace p1 := eq_true p1
   replace c1 := eq_true c1
   have W1 := Aside0.mk (show wrap64 (x10 + 1) = x10 + 1 from by unfold wrap64; have := HN.out; have := P1.out; have := Q1.out; omega)
   go_wp2_with (at_mapUpdate; refine wpList_mapUpdate_own _ rfl _ _ _ 91 rfl 9 3 lawStr Tryz.underlying91 _ w.heap.size x10.toNat _ rfl HM.out ?mN _ _ _ rfl rfl HKey.out _ [] (plainElem_int Tryz.underlying3 ?mW) ?_; (case mN => have := HN.out; have := Q1.out; show x10.toNat < 9223372036854775807; omega); (case mW => exact WalkArith.wf_i64 (by have := HN.out; have := P1.out; have := Q1.out; omega)); intro w2 hown2 hgrow2; have HM2 := Aside0.mk hown2; have HO2 := Aside0.mk (row_kept HM.out HO.out hgrow2); have HB2 := Aside0.mk (below_map HB.out hgrow2 (Nat.le_refl _) HB.out.size); clear hown2 hgrow2)
   obtain ⟨k1, rfl⟩ : ∃ k1, gk = k1 + 1 := ⟨gk - 1, by have := HK.out; have := Q1.out; omega⟩
   go_roundg k1
   case measure => omega
   case rel =>
    have h2 := HM2.out
    rw [numD_next hs x10 P1.out] at h2
    exact ⟨x10 + 1, by rw [W1.out], ⟨by have := P1.out; omega, by have := HK.out; omega⟩, HO2, ⟨by rw [show (x10 + 1).toNat = x10.toNat + 1 by have := P1.out; omega] at h2 ⊢; exact h2⟩, HB2⟩
  ·have c1b := decide_eq_false c1
   have hx : x10.toNat = hs.length := by have := HK.out; omega
   have hm := HM.out
   rw [hx] at hm
   have HM2 := Aside0.mk hm
   clear hm HM
   go_wp2
   go_ret
   exact ⟨rfl, HM2.out, HB.out⟩
theorem rdS_mem {l0 : List S36} {x : Int} (h0 : 0 ≤ x) (h1 : x < l0.length) : rd_T36 l0 x ∈ l0 := rdOf_mem h0 h1
end Go.Proofs.YtgknjgionicncaaGreat.L
namespace Go.Proofs.YtgknjgionicncaaGreat.L
open Go.RowKit Go.Proofs.YtgknjgionicncaaGreat.Q Go.Proofs.YtgknjgionicncaaGreatW.PrintWords Go.Proofs.YtgknjgionicncaaGreatW.PrintLast Go.Proofs.YtgknjgionicncaaGreatW.PrintMore Go.Proofs.YtgknjgionicncaaGreatW.MapB Go.Proofs.YtgknjgionicncaaGreatW.Lib Go.Maps Go.WideMaps
set_option linter.unusedVariables false
theorem lawU64 : Keyed Tryz.prog 23 := int_keyed Tryz.underlying23
theorem may_calls (s : Span) (h4 : s.f4.size ≤ 140737488351232) (h5 : s.f5.size ≤ 140737488351232) (w : World) :
  Calls Tryz.prog 55 #[.agg #[.int .u64 s.f0, .int .u64 s.f1, .int .u64 s.f2, .int .u8 s.f3, .string s.f4, .string s.f5, .int .i64 s.f6, .int .i64 s.f7]] w fun e w' => e = .returned (.bool (mayB s.f0 s.f1 s.f2 s.f3 s.f4 s.f5 s.f6 s.f7)) ∧ Below w.heap.size w w' := by
 obtain ⟨k, hk⟩ := Ev.rounds (may_ev s.f0 s.f1 s.f2 s.f3 s.f4 s.f5 s.f6 s.f7 h4 h5)
 exact span_May.calls k _ _ _ _ _ _ _ _ _ w hk
theorem cmp_calls (s m : Span) (w : World) :
  Calls Tryz.prog 56 #[.agg #[.int .u64 s.f0, .int .u64 s.f1, .int .u64 s.f2, .int .u8 s.f3, .string s.f4, .string s.f5, .int .i64 s.f6, .int .i64 s.f7], .agg #[.int .u64 m.f0, .int .u64 m.f1, .int .u64 m.f2, .int .u8 m.f3, .string m.f4, .string m.f5, .int .i64 m.f6, .int .i64 m.f7]] w fun e w' => e = .returned (.int .i64 (cmpS s m)) ∧ Below w.heap.size w w' := by
 obtain ⟨k, hk⟩ := Ev.rounds (cmp_ev s m)
 exact span_Cmp.calls k _ _ _ _ _ _ _ _ _ _ _ _ _ _ _ _ _ w hk
theorem new_block (w : World) (cs : Array Value) (t : TypeId) : (w.alloc (.cells cs t)).heap[w.heap.size]? = some (.cells cs t (0, 0)) := (MapKept.heap_alloc w _).1
theorem store_span {ops : Array Oper} {rest : List Oper} {o : Oper} {a : Act} {Q : Exit → Act → World → Prop} {w0 W : World} {base g n cap o' : Nat} (xi : Int) (m : List Span) (s : Span) (hN : o.dst = none) (hG : o.guard = none) (p x : Operand) (hP : o.op = .store 36 p x)
  (haddr : a.eval p = .pointer (some ⟨g, o', none⟩)) (hoff : o' = xi.toNat * 8) (hx : a.eval x = .agg #[.int .u64 s.f0, .int .u64 s.f1, .int .u64 s.f2, .int .u8 s.f3, .string s.f4, .string s.f5, .int .i64 s.f6, .int .i64 s.f7]) (HO : Kd.R k36 36 W base (fun _ => True) (.slice (some ⟨g, 0, none⟩) n cap) m) (h0 : 0 ≤ xi) (h1 : xi < n) (HB : Below base w0 W)
  (h : ∀ w1, Kd.R k36 36 w1 base (fun _ => True) (.slice (some ⟨g, 0, none⟩) n cap) (m.set xi.toNat s) → Below base w0 w1 → W.grownBy w1 (some g) → wpList Tryz.prog ops Q rest a w1) : wpList Tryz.prog ops Q (o :: rest) a W := by
 obtain ⟨ce, hcl, hM, hcc, _⟩ := Kd.R_elem HO z36 xi h0 h1
 obtain rfl := k36_openM hM
 refine Kd.R_store k36 (w0 := w0) (o' := o') base hN hG 36 p x hP 36 xi 0 m s (.agg #[.int .u64 s.f0, .int .u64 s.f1, .int .u64 s.f2, .int .u8 s.f3, .string s.f4, .string s.f5, .int .i64 s.f6, .int .i64 s.f7]) [.int .u64 s.f0, .int .u64 s.f1, .int .u64 s.f2, .int .u8 s.f3, .string s.f4, .string s.f5, .int .i64 s.f6, .int .i64 s.f7] _ (fun _ => True) (fun _ => False) haddr (by rw [hoff]; rfl) hx rfl (by kernel_rfl) ?_ HO h0 h1 hcl hcc (show 0 + 8 ≤ 8 by decide) (k36_mkM _ _ _ s) (fun _ h => h.elim) HB h
 intro q hq
 simp only [List.mem_cons, List.not_mem_nil, or_false] at hq
 rcases hq with rfl | rfl | rfl | rfl | rfl | rfl | rfl | rfl <;> rfl
theorem metD_next (t : Int) (l : List Span) (x : Int) (h0 : 0 ≤ x) (h1 : x < l.length) : metD t (l.take (x + 1).toNat) = stepD cmpS (·.f1) (okS t) (metD t (l.take x.toNat)) (rd_T36 l x) := by
 have h3 : x.toNat < l.length := by omega
 rw [show (x + 1).toNat = x.toNat + 1 by omega, List.take_succ_eq_append_getElem h3]
 unfold metD
 rw [List.foldl_append]
 simp [rd_T36, List.getD, h3]
set_option maxHeartbeats 8000000 in
set_option maxRecDepth 100000 in
theorem of_calls (l0 : List Span) (a1 : Int) (hl : l0.length ≤ 1759218604441) (hf : ∀ x ∈ l0, fitS x) (A0 : Option Addr) (c0 : Nat) (w : World) (hr0 : Kd.C k36 w A0 l0.length l0) (hc0 : l0.length ≤ c0) :
  Calls Tryz.prog 28 #[.slice A0 l0.length c0, .int .u64 a1] w fun e w' => ∃ v : Value, e = .returned v ∧ Kd.R k36 36 w' w.heap.size (fun _ => True) v (ofD l0 a1) ∧ Below w.heap.size w w' := by
 have hmm := @run_makeMap Tryz.prog
 have HR0 := Aside0.mk hr0
 have HL := Aside0.mk hl
 have HF := Aside0.mk hf
 have HB0 := Aside0.mk (Below.refl w.heap.size w)
 clear hr0 hc0 hl hf
 go_enter Tryz.func28, Tryz.ntmps28
 go_wp2_with fail
 go_loopg [6, 14] l0.length (fun kq v6 v14 w' => ∃ x14 : Int, v14 = .int .i64 x14 ∧ Aside0 (0 ≤ x14 ∧ x14 + kq = l0.length) ∧ Aside0 (Kd.R k36 36 w' w.heap.size (fun _ => True) v6 (metD a1 (l0.take x14.toNat))) ∧ Aside0 (w'.ownsMap Tryz.prog 23 (plainElem Tryz.prog 3) w.heap.size (metD a1 (l0.take x14.toNat)).length (idsD (metD a1 (l0.take x14.toNat)))) ∧ Aside0 (Below w.heap.size w w'))
 case atStart => exact ⟨0, rfl, ⟨by omega, by omega⟩, ⟨Kd.R_nil _ _ _ _ _⟩, ⟨World.ownsMap_made _ _ _ _⟩, ⟨(Below.refl _ _).alloc (Nat.le_refl _) _⟩⟩
 case round =>
  obtain ⟨x14, rfl, HK, HO, HM, HB⟩ := hrel
  by_cases c1 : x14 < (l0.length : Int)
  ·have c1b := decide_eq_true c1
   have p1 : 0 ≤ x14 := HK.out.1
   obtain ⟨ad1, e1, hx1⟩ := at_T36 HR0.out x14 p1 c1
   cases e1
   obtain ⟨hx1_0, hx1_1, hx1_2, hx1_3, hx1_4, hx1_5, hx1_6, hx1_7⟩ := zc8 HB.out hx1
   have P1 := Aside0.mk p1
   have Q1 := Aside0.mk c1
   have HNext := Aside0.mk (metD_next a1 l0 x14 p1 c1)
   have HFit := Aside0.mk (HF.out _ (rdS_mem p1 c1))
   have HIds := Aside0.mk (metD_counts a1 (l0.take x14.toNat)).ids
   have HMl := Aside0.mk (metD_length a1 (l0.take x14.toNat))
   generalize rd_T36 l0 x14 = s at *
   have HTk := Aside0.mk (show (l0.take x14.toNat).length ≤ x14.toNat from by rw [List.length_take]; omega)
   generalize hm : metD a1 (l0.take x14.toNat) = m at *
   clear hm
   replace p1 := eq_true p1
   replace c1 := eq_true c1
   have W1 := Aside0.mk (show wrap64 (x14 + 1) = x14 + 1 from by unfold wrap64; have := HL.out; have := P1.out; have := Q1.out; omega)
   have HMn := Aside0.mk (show m.length < 1759218604441 from by have := HL.out; have := P1.out; have := Q1.out; have := HMl.out; have := HTk.out; omega)
   obtain ⟨k1, rfl⟩ : ∃ k1, gk = k1 + 1 := ⟨gk - 1, by have := HK.out; have := Q1.out; omega⟩
   obtain ⟨A6, n6, rfl⟩ := Kd.R_slice HO.out
   by_cases hok : okS a1 s = true
   ·have hok2 : s.f0 = a1 ∧ mayB s.f0 s.f1 s.f2 s.f3 s.f4 s.f5 s.f6 s.f7 = true := by simpa [okS] using hok
    have q1 : (s.f0 != a1) = false := by simp [hok2.1]
    have q2 : decide (s.f0 = a1) = true := by simp [hok2.1]
    have QM := Aside0.mk (may_calls s HFit.out.2.1 HFit.out.2.2)
    rw [hok2.2] at QM
    have HKey := Aside0.mk (keyOf_int_mk Tryz.underlying23 HFit.out.1)
    have HOk := Aside0.mk hok
    clear hok hok2
    cases hfi : m.findIdx? (fun x => decide (x.f1 = s.f1)) with
    | none =>
     have HN := Aside0.mk (idsD_none hfi (.lit (.int .i64 0)))
     have HFi := Aside0.mk hfi
     clear hfi
     go_wp2_with (first
      | (go_at_call 55; refine (QM.out _).mono ?_; rintro e w1 ⟨rfl, hb⟩; have HB1 := Aside0.mk (below_step (below_alloc HB.out _) hb); have HM1 := Aside0.mk (map_below (HM.out.alloc _) hb); have HO1 := Aside0.mk (Kd.R_below (Kd.R_alloc HO.out _) hb); have bk := (hb.block wr.heap.size (by simp)).trans (new_block wr #[.int .u64 s.f0, .int .u64 s.f1, .int .u64 s.f2, .int .u8 s.f3, .string s.f4, .string s.f5, .int .i64 s.f6, .int .i64 s.f7] 36); have BK := Aside0.mk bk; have hk0 : w1.cell? ⟨wr.heap.size, 0, none⟩ = some (.int .u64 s.f0) := (blk_cell bk 0).trans rfl; have hk1 : w1.cell? ⟨wr.heap.size, 1, none⟩ = some (.int .u64 s.f1) := (blk_cell bk 1).trans rfl; have hk2 : w1.cell? ⟨wr.heap.size, 2, none⟩ = some (.int .u64 s.f2) := (blk_cell bk 2).trans rfl; have hk3 : w1.cell? ⟨wr.heap.size, 3, none⟩ = some (.int .u8 s.f3) := (blk_cell bk 3).trans rfl; have hk4 : w1.cell? ⟨wr.heap.size, 4, none⟩ = some (.string s.f4) := (blk_cell bk 4).trans rfl; have hk5 : w1.cell? ⟨wr.heap.size, 5, none⟩ = some (.string s.f5) := (blk_cell bk 5).trans rfl; have hk6 : w1.cell? ⟨wr.heap.size, 6, none⟩ = some (.int .i64 s.f6) := (blk_cell bk 6).trans rfl; have hk7 : w1.cell? ⟨wr.heap.size, 7, none⟩ = some (.int .i64 s.f7) := (blk_cell bk 7).trans rfl; have HLt := Aside0.mk (show wr.heap.size < w1.heap.size from Nat.lt_of_lt_of_le (by simp) hb.size); clear hb bk)
      | (at_lookup; refine lookup_ok_known _ rfl _ _ 41 rfl 23 3 .i64 lawU64 Tryz.underlying41 Tryz.underlying3 (zeroInt _) w.heap.size m.length (idsD m) rfl HM1.out _ _ rfl HKey.out 0 HN.out.1 false HN.out.2 ?_)
      | (at_mapUpdate; refine wpList_mapUpdate_own _ rfl _ _ _ 41 rfl 23 3 lawU64 Tryz.underlying41 _ w.heap.size m.length _ rfl HM1.out ?mN _ _ _ rfl rfl HKey.out _ [] (plainElem_int Tryz.underlying3 ?mW) ?_; (case mN => have := HMn.out; show m.length < 9223372036854775807; omega); (case mW => exact WalkArith.wf_i64 (by have := HMn.out; omega)); intro w2 hown2 hgrow2; have HM2 := Aside0.mk hown2; have HO2 := Aside0.mk (row_kept HM1.out HO1.out hgrow2); have HB2 := Aside0.mk (below_map HB1.out hgrow2 (Nat.le_refl _) HB1.out.size); have bk2 := (hgrow2.block wr.heap.size HLt.out (fun h => Nat.ne_of_gt HM.out.lt (Option.some.inj h))).trans BK.out; clear hown2 hgrow2 hk0 hk1 hk2 hk3 hk4 hk5 hk6 hk7; have hj0 : w2.cell? ⟨wr.heap.size, 0, none⟩ = some (.int .u64 s.f0) := (blk_cell bk2 0).trans rfl; have hj1 : w2.cell? ⟨wr.heap.size, 1, none⟩ = some (.int .u64 s.f1) := (blk_cell bk2 1).trans rfl; have hj2 : w2.cell? ⟨wr.heap.size, 2, none⟩ = some (.int .u64 s.f2) := (blk_cell bk2 2).trans rfl; have hj3 : w2.cell? ⟨wr.heap.size, 3, none⟩ = some (.int .u8 s.f3) := (blk_cell bk2 3).trans rfl; have hj4 : w2.cell? ⟨wr.heap.size, 4, none⟩ = some (.string s.f4) := (blk_cell bk2 4).trans rfl; have hj5 : w2.cell? ⟨wr.heap.size, 5, none⟩ = some (.string s.f5) := (blk_cell bk2 5).trans rfl; have hj6 : w2.cell? ⟨wr.heap.size, 6, none⟩ = some (.int .i64 s.f6) := (blk_cell bk2 6).trans rfl; have hj7 : w2.cell? ⟨wr.heap.size, 7, none⟩ = some (.int .i64 s.f7) := (blk_cell bk2 7).trans rfl; clear bk2)
      | ((with_reducible refine gate_builtin (b := .append) (xs := #[.tmp 42, .tmp 44]) rfl ?_); at_builtin; refine Kd.R_append k36 (w0 := w) w.heap.size rfl (.tmp 42) (.tmp 44) 22 36 (.agg #[(.int .u64 0), (.int .u64 0), (.int .u64 0), (.int .u8 0), (.string ⟨#[]⟩), (.string ⟨#[]⟩), (.int .i64 0), (.int .i64 0)]) 80 rfl Tryz.underlying22 info36 rfl (by decide) (by omega) (.slice A6 m.length n6) m s [.int .u64 s.f0, .int .u64 s.f1, .int .u64 s.f2, .int .u8 s.f3, .string s.f4, .string s.f5, .int .i64 s.f6, .int .i64 s.f7] (fun _ => True) (fun _ => False) rfl ?aX ?aP (fun _ hk => hk.elim) ?aF ?aO ?aB ?aS ?aL ?_; (case aX => first | rfl | (go_simp; done) | (simp; done)); (case aP => exact k36_mkM _ _ _ s); (case aB => exact HB2.out); (case aF => exact (fun _ _ => trivial)); (case aO => exact HO2.out); (case aS => exact HB2.out.size); (case aL => have := HMn.out; show (m.length + 1) * 80 ≤ 140737488355328; omega); intro v3 w3 ho hb hg hat; have HO3 := Aside0.mk ho; have HB3 := Aside0.mk hb; have HM3 := Aside0.mk (map_kept HM2.out HO2.out hg); clear ho hb hg hat))
     go_roundg k1
     case measure => omega
     case rel =>
      have hst : stepD cmpS (·.f1) (okS a1) m s = m ++ [s] := by
       unfold stepD
       rw [if_pos HOk.out]
       simp only [HFi.out]
      refine ⟨x14 + 1, by rw [W1.out], ⟨by have := P1.out; omega, by have := HK.out; omega⟩, ?_, ?_, HB3⟩
      ·rw [HNext.out, hst]; exact HO3
      ·rw [HNext.out, hst, ← idsD_snoc, List.length_append]; exact HM3
    | some j =>
     have hj : j < m.length := by
      obtain ⟨h, _⟩ := List.findIdx?_eq_some_iff_getElem.1 hfi
      exact h
     obtain ⟨xi, hxi⟩ : ∃ xi : Int, (j : Int) = xi := ⟨_, rfl⟩
     have hx0 : 0 ≤ xi := by omega
     have hx1 : xi < (m.length : Int) := by omega
     have hxj : xi.toNat = j := by omega
     have hN := idsD_some HIds.out hfi (.lit (.int .i64 0))
     rw [hxi] at hN
     have HN := Aside0.mk hN
     have HSet := Aside0.mk (idsD_set hfi)
     have hy : m.getD j s = rd_T36 m xi := by
      unfold rd_T36
      rw [hxj]
      simp [List.getD, hj]
     have hst : stepD cmpS (·.f1) (okS a1) m s = if cmpS s (rd_T36 m xi) < 0 then m.set xi.toNat s else m := by
      unfold stepD
      rw [if_pos HOk.out]
      simp only [hfi]
      rw [hy, hxj]
     have HSt := Aside0.mk hst
     have HXj := Aside0.mk hxj
     have X0 := Aside0.mk hx0
     have X1 := Aside0.mk hx1
     clear hN hst hy hfi hxi hxj hj
     obtain ⟨g6, cap6, e6, hg6⟩ := Kd.R_form HO.out (show 0 < m.length by omega)
     cases e6
     clear hg6
     have x0 := eq_true hx0
     have x1 := eq_true hx1
     clear hx0 hx1
     go_wp2_with (first
      | (go_at_call 55; refine (QM.out _).mono ?_; rintro e w1 ⟨rfl, hb⟩; have HB1 := Aside0.mk (below_step (below_alloc HB.out _) hb); have HM1 := Aside0.mk (map_below (HM.out.alloc _) hb); have HO1 := Aside0.mk (Kd.R_below (Kd.R_alloc HO.out _) hb); have bk := (hb.block wr.heap.size (by simp)).trans (new_block wr #[.int .u64 s.f0, .int .u64 s.f1, .int .u64 s.f2, .int .u8 s.f3, .string s.f4, .string s.f5, .int .i64 s.f6, .int .i64 s.f7] 36); have BK := Aside0.mk bk; have hk0 : w1.cell? ⟨wr.heap.size, 0, none⟩ = some (.int .u64 s.f0) := (blk_cell bk 0).trans rfl; have hk1 : w1.cell? ⟨wr.heap.size, 1, none⟩ = some (.int .u64 s.f1) := (blk_cell bk 1).trans rfl; have hk2 : w1.cell? ⟨wr.heap.size, 2, none⟩ = some (.int .u64 s.f2) := (blk_cell bk 2).trans rfl; have hk3 : w1.cell? ⟨wr.heap.size, 3, none⟩ = some (.int .u8 s.f3) := (blk_cell bk 3).trans rfl; have hk4 : w1.cell? ⟨wr.heap.size, 4, none⟩ = some (.string s.f4) := (blk_cell bk 4).trans rfl; have hk5 : w1.cell? ⟨wr.heap.size, 5, none⟩ = some (.string s.f5) := (blk_cell bk 5).trans rfl; have hk6 : w1.cell? ⟨wr.heap.size, 6, none⟩ = some (.int .i64 s.f6) := (blk_cell bk 6).trans rfl; have hk7 : w1.cell? ⟨wr.heap.size, 7, none⟩ = some (.int .i64 s.f7) := (blk_cell bk 7).trans rfl; have HLt := Aside0.mk (show wr.heap.size < w1.heap.size from Nat.lt_of_lt_of_le (by simp) hb.size); clear hb bk)
      | (at_lookup; refine lookup_ok_known _ rfl _ _ 41 rfl 23 3 .i64 lawU64 Tryz.underlying41 Tryz.underlying3 (zeroInt _) w.heap.size m.length (idsD m) rfl HM1.out _ _ rfl HKey.out xi HN.out.1 true HN.out.2 ?_))
     obtain ⟨ce, hcl, hM, hcc, hfr⟩ := Kd.R_elem HO1.out z36 xi X0.out X1.out
     obtain rfl := k36_openM hM
     refine wp_region_still_tail 5 (by kernel_rfl) (by kernel_rfl) ?_
     simp only [List.take_succ_cons, List.take_zero, List.drop_succ_cons, List.drop_zero]
     change wpStill _ _ w1.drew _ _ _
     obtain ⟨y, hy⟩ : ∃ y, rd_T36 m xi = y := ⟨_, rfl⟩
     have hgd : m.getD xi.toNat z36 = y := hy
     rw [hgd] at hcc
     rw [hy] at HSt
     have hW : ∃ W3, w1.drew = W3 := ⟨_, rfl⟩
     obtain ⟨W3, hW3⟩ := hW
     have hs0 : W3.cell? ⟨wr.heap.size, 0, none⟩ = some (.int .u64 s.f0) := by rw [← hW3]; exact hk0
     have hs1 : W3.cell? ⟨wr.heap.size, 1, none⟩ = some (.int .u64 s.f1) := by rw [← hW3]; exact hk1
     have hs2 : W3.cell? ⟨wr.heap.size, 2, none⟩ = some (.int .u64 s.f2) := by rw [← hW3]; exact hk2
     have hs3 : W3.cell? ⟨wr.heap.size, 3, none⟩ = some (.int .u8 s.f3) := by rw [← hW3]; exact hk3
     have hs4 : W3.cell? ⟨wr.heap.size, 4, none⟩ = some (.string s.f4) := by rw [← hW3]; exact hk4
     have hs5 : W3.cell? ⟨wr.heap.size, 5, none⟩ = some (.string s.f5) := by rw [← hW3]; exact hk5
     have hs6 : W3.cell? ⟨wr.heap.size, 6, none⟩ = some (.int .i64 s.f6) := by rw [← hW3]; exact hk6
     have hs7 : W3.cell? ⟨wr.heap.size, 7, none⟩ = some (.int .i64 s.f7) := by rw [← hW3]; exact hk7
     have hz0 : W3.cell? ⟨g6, xi.toNat * 8, none⟩ = some (.int .u64 y.f0) := by rw [← hW3]; exact hcc 0 _ rfl
     have hz1 : W3.cell? ⟨g6, xi.toNat * 8 + 1, none⟩ = some (.int .u64 y.f1) := by rw [← hW3]; exact hcc 1 _ rfl
     have hz2 : W3.cell? ⟨g6, xi.toNat * 8 + 2, none⟩ = some (.int .u64 y.f2) := by rw [← hW3]; exact hcc 2 _ rfl
     have hz3 : W3.cell? ⟨g6, xi.toNat * 8 + 3, none⟩ = some (.int .u8 y.f3) := by rw [← hW3]; exact hcc 3 _ rfl
     have hz4 : W3.cell? ⟨g6, xi.toNat * 8 + 4, none⟩ = some (.string y.f4) := by rw [← hW3]; exact hcc 4 _ rfl
     have hz5 : W3.cell? ⟨g6, xi.toNat * 8 + 5, none⟩ = some (.string y.f5) := by rw [← hW3]; exact hcc 5 _ rfl
     have hz6 : W3.cell? ⟨g6, xi.toNat * 8 + 6, none⟩ = some (.int .i64 y.f6) := by rw [← hW3]; exact hcc 6 _ rfl
     have hz7 : W3.cell? ⟨g6, xi.toNat * 8 + 7, none⟩ = some (.int .i64 y.f7) := by rw [← hW3]; exact hcc 7 _ rfl
     have HB2 := Aside0.mk (show Below w.heap.size w W3 from hW3 ▸ below_drew HB1.out)
     have HM2 := Aside0.mk (show W3.ownsMap Tryz.prog 23 (plainElem Tryz.prog 3) w.heap.size m.length (idsD m) from hW3 ▸ HM1.out.drew)
     have HO2 := Aside0.mk (show Kd.R k36 36 W3 w.heap.size (fun _ => True) (.slice (some ⟨g6, 0, none⟩) m.length n6) m from hW3 ▸ Kd.R_drew HO1.out)
     have BK2 := Aside0.mk (show W3.heap[wr.heap.size]? = some (.cells #[.int .u64 s.f0, .int .u64 s.f1, .int .u64 s.f2, .int .u8 s.f3, .string s.f4, .string s.f5, .int .i64 s.f6, .int .i64 s.f7] 36 (0, 0)) from hW3 ▸ BK.out)
     have HLt2 := Aside0.mk (show wr.heap.size < W3.heap.size from hW3 ▸ HLt.out)
     rw [hW3]
     have HW3 := Aside0.mk hW3
     clear hk0 hk1 hk2 hk3 hk4 hk5 hk6 hk7 hcc hfr hcl hM hW3 hgd hy HB1 HM1 HO1 BK HLt
     have x0' := X0.out
     have x1' := X1.out
     iterate 5 still_step
     refine wpStill_nil ?_
     change wpList _ _ _ _ _ w1.drew
     rw [HW3.out]
     by_cases hc : cmpS s y < 0
     ·have hcb := decide_eq_true hc
      rw [if_pos hc] at HSt
      clear hc
      go_wp2_with (first
       | (go_at_call 56; refine (cmp_calls s y _).mono ?_; rintro e w4 ⟨rfl, hb⟩; have HB3 := Aside0.mk (below_step HB2.out hb); have HM3 := Aside0.mk (map_below HM2.out hb); have HO3 := Aside0.mk (Kd.R_below HO2.out hb); have bk3 := (hb.block wr.heap.size HLt2.out).trans BK2.out; have ht0 : w4.cell? ⟨wr.heap.size, 0, none⟩ = some (.int .u64 s.f0) := (blk_cell bk3 0).trans rfl; have ht1 : w4.cell? ⟨wr.heap.size, 1, none⟩ = some (.int .u64 s.f1) := (blk_cell bk3 1).trans rfl; have ht2 : w4.cell? ⟨wr.heap.size, 2, none⟩ = some (.int .u64 s.f2) := (blk_cell bk3 2).trans rfl; have ht3 : w4.cell? ⟨wr.heap.size, 3, none⟩ = some (.int .u8 s.f3) := (blk_cell bk3 3).trans rfl; have ht4 : w4.cell? ⟨wr.heap.size, 4, none⟩ = some (.string s.f4) := (blk_cell bk3 4).trans rfl; have ht5 : w4.cell? ⟨wr.heap.size, 5, none⟩ = some (.string s.f5) := (blk_cell bk3 5).trans rfl; have ht6 : w4.cell? ⟨wr.heap.size, 6, none⟩ = some (.int .i64 s.f6) := (blk_cell bk3 6).trans rfl; have ht7 : w4.cell? ⟨wr.heap.size, 7, none⟩ = some (.int .i64 s.f7) := (blk_cell bk3 7).trans rfl; clear hb bk3)
       | ((with_reducible refine gate_store (t := 36) (p := 57) rfl ?_); refine store_span (w0 := w) (g := g6) (o' := xi.toNat * 8) xi m s rfl rfl (.tmp 57) (.tmp 56) rfl rfl rfl rfl HO3.out X0.out X1.out HB3.out ?_; intro w5 ho hb hg; have HM4 := Aside0.mk (map_kept HM3.out HO3.out (show w4.grownBy w5 (Value.slice (some ⟨g6, 0, none⟩) m.length n6).ownBlock from hg)); have HO4 := Aside0.mk ho; have HB4 := Aside0.mk hb; clear ho hb hg))
      go_roundg k1
      case measure => omega
      case rel =>
       refine ⟨x14 + 1, by rw [W1.out], ⟨by have := P1.out; omega, by have := HK.out; omega⟩, ?_, ?_, HB4⟩
       ·rw [HNext.out, HSt.out]; exact HO4
       ·rw [HNext.out, HSt.out, HXj.out, HSet.out, List.length_set]; exact HM4
     ·have hcb := decide_eq_false hc
      rw [if_neg hc] at HSt
      clear hc
      go_wp2_with (first
       | (go_at_call 56; refine (cmp_calls s y _).mono ?_; rintro e w4 ⟨rfl, hb⟩; have HB3 := Aside0.mk (below_step HB2.out hb); have HM3 := Aside0.mk (map_below HM2.out hb); have HO3 := Aside0.mk (Kd.R_below HO2.out hb); have bk3 := (hb.block wr.heap.size HLt2.out).trans BK2.out; have ht0 : w4.cell? ⟨wr.heap.size, 0, none⟩ = some (.int .u64 s.f0) := (blk_cell bk3 0).trans rfl; have ht1 : w4.cell? ⟨wr.heap.size, 1, none⟩ = some (.int .u64 s.f1) := (blk_cell bk3 1).trans rfl; have ht2 : w4.cell? ⟨wr.heap.size, 2, none⟩ = some (.int .u64 s.f2) := (blk_cell bk3 2).trans rfl; have ht3 : w4.cell? ⟨wr.heap.size, 3, none⟩ = some (.int .u8 s.f3) := (blk_cell bk3 3).trans rfl; have ht4 : w4.cell? ⟨wr.heap.size, 4, none⟩ = some (.string s.f4) := (blk_cell bk3 4).trans rfl; have ht5 : w4.cell? ⟨wr.heap.size, 5, none⟩ = some (.string s.f5) := (blk_cell bk3 5).trans rfl; have ht6 : w4.cell? ⟨wr.heap.size, 6, none⟩ = some (.int .i64 s.f6) := (blk_cell bk3 6).trans rfl; have ht7 : w4.cell? ⟨wr.heap.size, 7, none⟩ = some (.int .i64 s.f7) := (blk_cell bk3 7).trans rfl; clear hb bk3))
      go_roundg k1
      case measure => omega
      case rel =>
       refine ⟨x14 + 1, by rw [W1.out], ⟨by have := P1.out; omega, by have := HK.out; omega⟩, ?_, ?_, HB3⟩
       ·rw [HNext.out, HSt.out]; exact HO3
       ·rw [HNext.out, HSt.out]; exact HM3
   ·have hst : stepD cmpS (·.f1) (okS a1) m s = m := by
     unfold stepD
     rw [if_neg hok]
    by_cases hq : s.f0 = a1
    ·have hmay : mayB s.f0 s.f1 s.f2 s.f3 s.f4 s.f5 s.f6 s.f7 = false := by
      rw [Bool.eq_false_iff]
      intro h
      apply hok
      unfold okS
      rw [h, Bool.and_true]
      exact decide_eq_true hq
     have q1 : (s.f0 != a1) = false := by simp [hq]
     have q2 : decide (s.f0 = a1) = true := by simp [hq]
     have QM := Aside0.mk (may_calls s HFit.out.2.1 HFit.out.2.2)
     rw [hmay] at QM
     have HSt := Aside0.mk hst
     clear hok hmay hst hq
     go_wp2_with (go_at_call 55; refine (QM.out _).mono ?_; rintro e w1 ⟨rfl, hb⟩; have HB1 := Aside0.mk (below_step (below_alloc HB.out _) hb); have HM1 := Aside0.mk (map_below (HM.out.alloc _) hb); have HO1 := Aside0.mk (Kd.R_below (Kd.R_alloc HO.out _) hb); have bk := (hb.block wr.heap.size (by simp)).trans (new_block wr #[.int .u64 s.f0, .int .u64 s.f1, .int .u64 s.f2, .int .u8 s.f3, .string s.f4, .string s.f5, .int .i64 s.f6, .int .i64 s.f7] 36); have BK := Aside0.mk bk; have hk0 : w1.cell? ⟨wr.heap.size, 0, none⟩ = some (.int .u64 s.f0) := (blk_cell bk 0).trans rfl; have hk1 : w1.cell? ⟨wr.heap.size, 1, none⟩ = some (.int .u64 s.f1) := (blk_cell bk 1).trans rfl; have hk2 : w1.cell? ⟨wr.heap.size, 2, none⟩ = some (.int .u64 s.f2) := (blk_cell bk 2).trans rfl; have hk3 : w1.cell? ⟨wr.heap.size, 3, none⟩ = some (.int .u8 s.f3) := (blk_cell bk 3).trans rfl; have hk4 : w1.cell? ⟨wr.heap.size, 4, none⟩ = some (.string s.f4) := (blk_cell bk 4).trans rfl; have hk5 : w1.cell? ⟨wr.heap.size, 5, none⟩ = some (.string s.f5) := (blk_cell bk 5).trans rfl; have hk6 : w1.cell? ⟨wr.heap.size, 6, none⟩ = some (.int .i64 s.f6) := (blk_cell bk 6).trans rfl; have hk7 : w1.cell? ⟨wr.heap.size, 7, none⟩ = some (.int .i64 s.f7) := (blk_cell bk 7).trans rfl; have HLt := Aside0.mk (show wr.heap.size < w1.heap.size from Nat.lt_of_lt_of_le (by simp) hb.size); clear hb bk)
     go_roundg k1
     case measure => omega
     case rel =>
      refine ⟨x14 + 1, by rw [W1.out], ⟨by have := P1.out; omega, by have := HK.out; omega⟩, ?_, ?_, HB1⟩
      ·rw [HNext.out, HSt.out]; exact HO1
      ·rw [HNext.out, HSt.out]; exact HM1
    ·have q1 : (s.f0 != a1) = true := by simpa using hq
     have q2 : decide (s.f0 = a1) = false := by simpa using hq
     have HSt := Aside0.mk hst
     clear hok hst hq
     go_wp2_with fail
     go_roundg k1
     case measure => omega
     case rel =>
      refine ⟨x14 + 1, by rw [W1.out], ⟨by have := P1.out; omega, by have := HK.out; omega⟩, ?_, ?_, ⟨below_alloc HB.out _⟩⟩
      ·rw [HNext.out, HSt.out]; exact ⟨Kd.R_alloc HO.out _⟩
      ·rw [HNext.out, HSt.out]; exact ⟨HM.out.alloc _⟩
  ·have c1b := decide_eq_false c1
   have hx : x14.toNat = l0.length := by have := HK.out; omega
   have ho := HO.out
   rw [hx, List.take_length] at ho
   obtain ⟨A6, n6, rfl⟩ := Kd.R_slice ho
   have hml := metD_length a1 l0
   have hrd := Kd.R_reads' ho
   have QS := Aside0.mk (sort_calls (metD a1 l0) (by have := HL.out; omega) A6 n6 wr hrd.2.2 hrd.2.1)
   clear ho HO hml hrd
   go_wp2_with (go_at_call 57; refine QS.out.mono ?_; rintro e w1 ⟨v, rfl, ho, hb⟩; have HO2 := Aside0.mk (Kd.R_lower ho HB.out.size); have HB2 := Aside0.mk (below_step HB.out hb); clear ho hb)
   go_ret
   exact ⟨_, rfl, HO2.out, HB2.out⟩
end Go.Proofs.YtgknjgionicncaaGreat.L
namespace Go.Proofs.YtgknjgionicncaaGreat.L
open Go.RowKit Go.Proofs.YtgknjgionicncaaGreat.Q Go.Proofs.YtgknjgionicncaaGreatW.PrintWords Go.Proofs.YtgknjgionicncaaGreatW.PrintLast Go.Proofs.YtgknjgionicncaaGreatW.PrintMore Go.Proofs.YtgknjgionicncaaGreatW.MapB Go.Proofs.YtgknjgionicncaaGreatW.Lib
set_option linter.unusedVariables false
set_option maxRecDepth 100000 in
theorem store_here {ops : Array Oper} {o : Oper} {a : Act} {Q : Exit → Act → World → Prop} {K : Act → World → Prop} {w0 W : World} {base g n cap o' : Nat} (xi : Int) (m : List Span) (s : Span) (p x : Operand) (hP : o.op = .store 36 p x)
  (hw : Region.wanted o (yielded ops a.tmps) = true) (hN : o.dst = none)
  (haddr : a.eval p = .pointer (some ⟨g, o', none⟩)) (hoff : o' = xi.toNat * 8) (hx : a.eval x = .agg #[.int .u64 s.f0, .int .u64 s.f1, .int .u64 s.f2, .int .u8 s.f3, .string s.f4, .string s.f5, .int .i64 s.f6, .int .i64 s.f7]) (HO : Kd.R k36 36 W base (fun _ => True) (.slice (some ⟨g, 0, none⟩) n cap) m) (h0 : 0 ≤ xi) (h1 : xi < n) (HB : Below base w0 W)
  (h : ∀ w1, Kd.R k36 36 w1 base (fun _ => True) (.slice (some ⟨g, 0, none⟩) n cap) (m.set xi.toNat s) → Below base w0 w1 → K a w1) : if Region.wanted o (yielded ops a.tmps) = true then Oper.wp Tryz.prog o a W K Q else K (a.put none undef) W := by
 obtain ⟨ce, hcl, hM, hcc, _⟩ := Kd.R_elem HO z36 xi h0 h1
 obtain rfl := k36_openM hM
 subst hoff
 have hbg : base ≤ g := Kd.R_base HO g (by simp [Value.ownBlock])
 have hnx : n = m.length := (Kd.R_reads' HO).1
 obtain ⟨hrow, hg⟩ := Kd.R_seg (seg := [.int .u64 s.f0, .int .u64 s.f1, .int .u64 s.f2, .int .u8 s.f3, .string s.f4, .string s.f5, .int .i64 s.f6, .int .i64 s.f7]) (j := 0) (okp := fun _ => False) HO xi h0 h1 hcl hcc (show 0 + 8 ≤ 8 by decide) (k36_mkM _ _ _ s) (fun _ h => h.elim)
 have hB : Below base w0 (W.setCells g (xi.toNat * 8 + 0) [.int .u64 s.f0, .int .u64 s.f1, .int .u64 s.f2, .int .u8 s.f3, .string s.f4, .string s.f5, .int .i64 s.f6, .int .i64 s.f7]) := HB.grown hg (Nat.le_trans hbg (Nat.le_of_lt (World.block_lt_of_cell? W _ (hcc 0 _ rfl)))) (fun j hj => by cases hj; exact hbg)
 have hrun : (Instr.storeAt 36 (.pointer (some ⟨g, xi.toNat * 8, none⟩)) (.agg #[.int .u64 s.f0, .int .u64 s.f1, .int .u64 s.f2, .int .u8 s.f3, .string s.f4, .string s.f5, .int .i64 s.f6, .int .i64 s.f7])).run Tryz.prog W = .ok () (W.setCells g (xi.toNat * 8 + 0) [.int .u64 s.f0, .int .u64 s.f1, .int .u64 s.f2, .int .u8 s.f3, .string s.f4, .string s.f5, .int .i64 s.f6, .int .i64 s.f7]) := by
  obtain ⟨_, inner, hown, hr⟩ := HO
  rcases hown.2 with ⟨hv, _⟩ | ⟨g', cap', cur, hv, hb, hh, hnc, hcm, hcs, _⟩
  ·cases hv
  injection hv with ha _ hc
  injection ha with ha
  injection ha with hg'
  subst hg'; subst hc
  refine run_store_run 36 _ _ hh rfl (by kernel_rfl) ?_ (fun q hq => ?_)
  ·have h2 : xi.toNat * 8 + 8 ≤ n * 8 := by omega
   have h3 : n * 8 ≤ cap * 8 := Nat.mul_le_mul_right _ (by omega)
   have hk : k36.sz = 8 := rfl
   simp only [hk] at hcs
   simp only [List.length_cons, List.length_nil]
   omega
  ·simp only [List.mem_cons, List.not_mem_nil, or_false] at hq
   rcases hq with rfl | rfl | rfl | rfl | rfl | rfl | rfl | rfl <;> rfl
 rw [if_pos hw]
 unfold Oper.wp execOp
 simp only [hP, haddr, hx, Sem.run_bind, Sem.run_pure, Result.andThen_ok, hrun]
 show K (a.put o.dst undef) _
 rw [hN]
 exact h _ hrow hB
end Go.Proofs.YtgknjgionicncaaGreat.L
namespace Go.Proofs.YtgknjgionicncaaGreatW.LabG
open Go Go.RowKit Go.Proofs.YtgknjgionicncaaGreatW.PrintWords Go.Proofs.YtgknjgionicncaaGreatW.PrintLast
theorem scope_same {P : Program} {fn : Func} {R : Ending → World → Prop} {c : Code} {a : Act} {w : World} (h : c.wp P (bodyPost P fn R) a w) : (Code.scope c).wp P (bodyPost P fn R) a w := by
 refine wp_scope_straight (Go.wp_mono h fun e a w hq => ?_)
 cases e <;> first | exact hq | exact hq.elim
theorem far_cell {w : World} {b b' : Nat} {cs cs' : Array Value} {t t' : TypeId} (h : w.heap[b]? = some (.cells cs t (0, 0))) (h' : w.heap[b']? = some (.cells cs' t' (0, 0))) (ht : t ≠ t') (i k : Nat) (v : Value) :
  (w.setCell ⟨b', i, none⟩ v).cell? ⟨b, k, none⟩ = w.cell? ⟨b, k, none⟩ := by
 refine World.cell?_setCell_other w _ _ v fun e => ?_
 have e' : b' = b := by injection e
 subst e'
 rw [h] at h'
 injection h' with h'
 injection h' with _ h'
 exact ht h'
theorem gg_ {α : Type} {d : Kd α} {e : TypeId} {w : World} {base : Nat} {ok : Nat → Prop} {g o n c : Nat} {xs : List α} (h : d.R e w base ok (.slice (some ⟨g, o, none⟩) n c) xs) : ∃ cells, w.heap[g]? = some (.cells cells e (0, 0)) :=
 Kd.R_typed h g (by simp [Value.ownBlock])
end Go.Proofs.YtgknjgionicncaaGreatW.LabG
namespace Go.Proofs.YtgknjgionicncaaGreat.L
open Go.RowKit Go.Proofs.YtgknjgionicncaaGreat.Q Go.Proofs.YtgknjgionicncaaGreatW.PrintWords Go.Proofs.YtgknjgionicncaaGreatW.PrintLast Go.Proofs.YtgknjgionicncaaGreatW.PrintMore Go.Proofs.YtgknjgionicncaaGreatW.MapB Go.Proofs.YtgknjgionicncaaGreatW.Lib
set_option linter.unusedVariables false
set_option linter.unusedSimpArgs false
def inI (n : Int) : Prop := -9223372036854775808 ≤ n ∧ n < 9223372036854775808
instance : DecidablePred inI := fun n => by unfold inI; infer_instance
theorem own1 (w : World) (cs : Array Value) (t : TypeId) (i : Nat) {v : Value} (h : cs[i]? = some v) : (w.alloc (.cells cs t)).drew.cell? ⟨w.heap.size, i, none⟩ = some v := (blk_cell (MapKept.heap_alloc w _).1 i).trans h
def badE (n : Int) (e : S72) : Bool := decide (min e.f0 e.f1 < 0) || (decide (n ≤ max e.f0 e.f1) || (decide (4503599627370496 < e.f2) || decide (e.f2 < -4503599627370496)))
theorem keep1r {w : World} {a : Addr} {v : Value} {o1 : Obj} (h : w.cell? a = some v) : (w.alloc o1).cell? a = some v :=
 ((below_alloc (Below.refl w.heap.size w) o1).cell (World.block_lt_of_cell? w _ h)).trans h
set_option maxRecDepth 100000 in
set_option maxHeartbeats 2000000 in
theorem bad_calls (n : Int) (B : Nat) (e : S72) (w : World) (hc : w.cell? ⟨B, 0, none⟩ = some (.int .i64 n)) : Calls Tryz.prog 85 #[.agg #[.int .i64 e.f0, .int .i64 e.f1, .int .i64 e.f2, .int .i64 e.f3.f0, .int .i64 e.f3.f1, .bool e.f4], .pointer (some ⟨B, 0, none⟩)] w fun r w' => r = .returned (.bool (badE n e)) ∧ Below w.heap.size w w' := by
 have HB := Aside0.mk (Below.refl w.heap.size w)
 have hk := fun o => keep1r (o1 := o) hc
 clear hc
 unfold badE
 cases c1 : decide (min e.f0 e.f1 < 0) with
 | true =>
  go_enter Tryz.func85, Tryz.ntmps85
  go_wp2_with fail
  go_ret
  exact ⟨rfl, below_alloc HB.out _⟩
 | false =>
 cases c2 : decide (n ≤ max e.f0 e.f1) with
 | true =>
  go_enter Tryz.func85, Tryz.ntmps85
  go_wp2_with fail
  go_ret
  exact ⟨rfl, below_alloc HB.out _⟩
 | false =>
 cases c3 : decide (4503599627370496 < e.f2) with
 | true =>
  go_enter Tryz.func85, Tryz.ntmps85
  go_wp2_with fail
  go_ret
  exact ⟨rfl, below_alloc HB.out _⟩
 | false =>
 cases c4 : decide (e.f2 < -4503599627370496) with
 | true =>
  go_enter Tryz.func85, Tryz.ntmps85
  go_wp2_with fail
  go_ret
  exact ⟨rfl, below_alloc HB.out _⟩
 | false =>
  go_enter Tryz.func85, Tryz.ntmps85
  go_wp2_with fail
  go_ret
  exact ⟨rfl, below_alloc HB.out _⟩
set_option maxHeartbeats 4000000 in
set_option maxRecDepth 100000 in
theorem edgemay_index (n : Int) (B : Nat) (es : List S72) (hn : es.length ≤ 1000000000) (A0 : Option Addr) (c0 : Nat) (w : World) (hr0 : Kd.C k72 w A0 es.length es)
  (QL0 : ∀ e ∈ es, ∀ W, Below w.heap.size w W → Calls Tryz.prog 85 #[.agg #[.int .i64 e.f0, .int .i64 e.f1, .int .i64 e.f2, .int .i64 e.f3.f0, .int .i64 e.f3.f1, .bool e.f4], .pointer (some ⟨B, 0, none⟩)] W fun r w' => r = .returned (.bool ((badE n) e)) ∧ Below W.heap.size W w') :
  Calls Tryz.prog 125 #[.slice A0 es.length c0, .func (.func 85) #[] #[.pointer (some ⟨B, 0, none⟩)]] w fun r w' => ∃ i : Int, r = .returned (.int .i64 i) ∧ decide (0 ≤ i) = es.any (badE n) ∧ Below w.heap.size w w' := by
 have HB0 := Aside0.mk (Below.refl w.heap.size w)
 have HR0 := Aside0.mk hr0
 have HN := Aside0.mk hn
 have QL := Aside0.mk QL0
 clear hr0 hn QL0
 generalize hpp : (badE n) = pp at *
 clear hpp
 go_enter Tryz.func125, Tryz.ntmps125
 go_wp2_with fail
 go_loopg [8] es.length (fun kq v8 w' => ∃ x8 : Int, v8 = .int .i64 x8 ∧ Aside0 (0 ≤ x8 ∧ x8 + kq = es.length) ∧ Aside0 (∀ e ∈ es.take x8.toNat, pp e = false) ∧ Aside0 (Below w.heap.size w w'))
 case atStart => exact ⟨0, rfl, ⟨by omega, by omega⟩, ⟨by simp⟩, HB0⟩
 case round =>
  obtain ⟨x8, rfl, HK, HA, HB⟩ := hrel
  by_cases c1 : x8 < (es.length : Int)
  ·have c1b := decide_eq_true c1
   have p1 : 0 ≤ x8 := HK.out.1
   obtain ⟨ad, e1, hx0, hx1, hx2, hx3, hx4, hx5⟩ := at_T72 HR0.out x8 p1 c1
   cases e1
   replace hx0 := zc HB.out hx0
   replace hx1 := zc HB.out hx1
   replace hx2 := zc HB.out hx2
   replace hx3 := zc HB.out hx3
   replace hx4 := zc HB.out hx4
   replace hx5 := zc HB.out hx5
   have hit : x8.toNat < es.length := by omega
   have hev : rd_T72 es x8 = es[x8.toNat] := by simp [rd_T72, List.getD, hit]
   have hem : rd_T72 es x8 ∈ es := by rw [hev]; exact List.getElem_mem _
   have HE := Aside0.mk (show es.take (x8 + 1).toNat = es.take x8.toNat ++ [rd_T72 es x8] from by
    rw [show (x8 + 1).toNat = x8.toNat + 1 by omega, List.take_succ_eq_append_getElem hit, hev])
   have QE := Aside0.mk (QL.out _ hem wr HB.out)
   have HM := Aside0.mk hem
   have P1 := Aside0.mk p1
   have Q1 := Aside0.mk c1
   have W1 := Aside0.mk (show wrap64 (x8 + 1) = x8 + 1 from by unfold wrap64; have := HN.out; have := P1.out; have := Q1.out; omega)
   clear hev hem hit
   generalize rd_T72 es x8 = e at *
   replace p1 := eq_true p1
   replace c1 := eq_true c1
   obtain ⟨k1, rfl⟩ : ∃ k1, gk = k1 + 1 := ⟨gk - 1, by have := HK.out; have := Q1.out; omega⟩
   cases hq : pp e with
   | false =>
    rw [hq] at QE
    have HQ := Aside0.mk hq
    clear hq
    go_wp2_with (go_at_call 85; refine QE.out.mono ?_; rintro r w1 ⟨rfl, hb⟩; have HB1 := Aside0.mk (below_step HB.out hb); clear hb)
    go_roundg k1
    case measure => omega
    case rel => exact ⟨x8 + 1, by rw [W1.out], ⟨by have := P1.out; omega, by have := HK.out; omega⟩, ⟨by
     rw [HE.out]
     intro y hy
     rcases List.mem_append.1 hy with h | h
     ·exact HA.out y h
     ·rw [List.mem_singleton.1 h]; exact HQ.out⟩, HB1⟩
   | true =>
    rw [hq] at QE
    have HQ := Aside0.mk hq
    clear hq
    go_wp2_with (go_at_call 85; refine QE.out.mono ?_; rintro r w1 ⟨rfl, hb⟩; have HB1 := Aside0.mk (below_step HB.out hb); clear hb)
    go_ret
    refine ⟨x8, rfl, ?_, HB1.out⟩
    rw [decide_eq_true P1.out]
    exact (List.any_eq_true.2 ⟨e, HM.out, HQ.out⟩).symm
  ·have c1b := decide_eq_false c1
   have hx : x8.toNat = es.length := by have := HK.out; omega
   have ha := HA.out
   rw [hx, List.take_length] at ha
   have HAll := Aside0.mk ha
   clear ha hx c1
   go_wp2_with fail
   go_ret
   refine ⟨-1, rfl, ?_, HB.out⟩
   exact (List.any_eq_false.2 (fun e he => by rw [HAll.out e he]; simp)).symm
set_option maxHeartbeats 2000000 in
set_option maxRecDepth 100000 in
theorem edgemay_contains (n : Int) (B : Nat) (es : List S72) (hn : es.length ≤ 1000000000) (A0 : Option Addr) (c0 : Nat) (w : World) (hr0 : Kd.C k72 w A0 es.length es)
  (QL0 : ∀ e ∈ es, ∀ W, Below w.heap.size w W → Calls Tryz.prog 85 #[.agg #[.int .i64 e.f0, .int .i64 e.f1, .int .i64 e.f2, .int .i64 e.f3.f0, .int .i64 e.f3.f1, .bool e.f4], .pointer (some ⟨B, 0, none⟩)] W fun r w' => r = .returned (.bool ((badE n) e)) ∧ Below W.heap.size W w') :
  Calls Tryz.prog 84 #[.slice A0 es.length c0, .func (.func 85) #[] #[.pointer (some ⟨B, 0, none⟩)]] w fun r w' => r = .returned (.bool (es.any (badE n))) ∧ Below w.heap.size w w' := by
 have HB0 := Aside0.mk (Below.refl w.heap.size w)
 have QI := Aside0.mk (edgemay_index n B es hn A0 c0 w hr0 QL0)
 clear hn hr0 QL0
 go_enter Tryz.func84, Tryz.ntmps84
 go_wp2_with (go_at_call 125; refine QI.out.mono ?_; rintro r w1 ⟨i, rfl, hd, hb⟩; have HD := Aside0.mk hd; have HB2 := Aside0.mk hb; clear hb hd)
 go_ret
 refine ⟨?_, HB2.out⟩
 rw [← HD.out]
 rfl
def rmayB (n : Int) (es : List S72) : Bool := if 0 ≤ n ∧ n ≤ 32 then !es.any (badE n) else false
set_option maxRecDepth 100000 in
set_option maxHeartbeats 2000000 in
theorem rmayE_calls (n : Int) (es : List S72) (hn : es.length ≤ 1000000000) (A0 : Option Addr) (c0 : Nat) (w : World) (hr0 : Kd.C k72 w A0 es.length es) :
  Calls Tryz.prog 47 #[.int .i64 n, .slice A0 es.length c0] w fun r w' => r = .returned (.bool (rmayB n es)) ∧ Below w.heap.size w w' := by
 have hmf : ∀ (fn : Fn) (first cap : Array Value) (w : World), (Instr.makeFunc fn first cap).run Tryz.prog w = .ok (.func fn first cap) w := fun _ _ _ _ => rfl
 have HB := Aside0.mk (Below.refl w.heap.size w)
 have hb1 := below_alloc HB.out (.cells #[.int .i64 n] 3)
 have hcell : (w.alloc (.cells #[.int .i64 n] 3)).cell? ⟨w.heap.size, 0, none⟩ = some (.int .i64 n) := (blk_cell (MapKept.heap_alloc w _).1 0).trans rfl
 have QC := Aside0.mk (edgemay_contains n w.heap.size es hn A0 c0 _ (Kd.C_below hr0 hb1) (fun e he W hb => bad_calls n w.heap.size e W ((hb.cell (World.block_lt_of_cell? _ _ hcell)).trans hcell)))
 have HB1 := Aside0.mk hb1
 clear hb1 hcell hn hr0
 by_cases h0 : n < 0
 ·have hv : rmayB n es = false := by unfold rmayB; rw [if_neg (by omega)]
  rw [hv]
  have b0 := decide_eq_true h0
  clear h0 hv
  go_enter Tryz.func47, Tryz.ntmps47
  go_wp2_with fail
  go_ret
  exact ⟨rfl, below_alloc HB.out _⟩
 by_cases h1 : 32 < n
 ·have hv : rmayB n es = false := by unfold rmayB; rw [if_neg (by omega)]
  rw [hv]
  have b0 := decide_eq_false h0
  have b1 := decide_eq_true h1
  clear h0 h1 hv
  go_enter Tryz.func47, Tryz.ntmps47
  go_wp2_with fail
  go_ret
  exact ⟨rfl, below_alloc HB.out _⟩
 have hv : rmayB n es = !es.any (badE n) := by unfold rmayB; rw [if_pos ⟨by omega, by omega⟩]
 rw [hv]
 have b0 := decide_eq_false h0
 have b1 := decide_eq_false h1
 clear h0 h1 hv
 generalize es.any (badE n) = r at *
 go_enter Tryz.func47, Tryz.ntmps47
 go_wp2_with (go_at_call 84; refine QC.out.mono ?_; rintro e w1 ⟨rfl, hb⟩; have HB2 := Aside0.mk (below_step HB1.out hb); clear hb)
 go_ret
 exact ⟨rfl, HB2.out⟩
end Go.Proofs.YtgknjgionicncaaGreat.L
