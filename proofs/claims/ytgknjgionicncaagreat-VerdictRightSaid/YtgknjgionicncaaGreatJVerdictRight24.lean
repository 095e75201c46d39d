/- Texts joined by wip/tools/merge.py: Open QOpens Qx4 Qx5 Qx6 SpanA MayS ClaC SpanN SpanT Qx7 Qx1 Qx8 SpanB CmpG SortG KeyI DedL DedG EdgC GapR CycP CycA CycG CycL Qx10 Qx11 ParR CycQ CycV ParP ParG. -/
import Derived.Test.YtgknjgionicncaaGreatJVerdictRight12
import Derived.Test.YtgknjgionicncaaGreatJVerdictRight0
import Derived.Test.YtgknjgionicncaaGreatJVerdictRight11
import Derived.Test.YtgknjgionicncaaGreatJVerdictRight23
import Derived.WalkKit
import Derived.ProofKit
import Derived.OpenShut
import Derived.Deep.Slices
import Derived.DataElems
import Derived.Test.YtgknjgionicncaaGreatJVerdictRight22
import Derived.KernelRfl
import Derived.Test.YtgknjgionicncaaGreatJVerdictRight21
import Derived.StillTailTactics
import Derived.Sort.Grow
import Derived.Test.YtgknjgionicncaaGreatJVerdictRight5
import Derived.Lib.AppendZeros
import Derived.Lib.OwnBridge
import Derived.Lib.SliceRun
import Derived.RegionTactic
import Derived.BigRegion
import Derived.RangeFuncBox
import Derived.WalkMore
import Derived.WalkArith
namespace Go.Proofs.YtgknjgionicncaaGreatW.Open
open Go.RowKit Go.Proofs.YtgknjgionicncaaGreatW.PrintWords Go.ChangeShapes Go.WideShapes
set_option linter.unusedVariables false
structure Opens {α : Type} (P : Program) (t : TypeId) (k : Kd α) (wf : α → Prop) : Prop where
 sz : P.cellsOf t = k.sz
 K : ∀ {H : Type} {enc : TypeId × Value → H} {W : World} {base : Nat} {spare : Nat → Bool} {held : Bool} {fuel : Nat} {cs : List Value} {d : DataW H} {ps : List MemPlace},
  DataW.trod enc P W base spare held fuel t cs = some (d, ps) → (∀ n ∈ d.weights P t, n ≤ reachBytes) → ∃ x, k.K W x cs ∧ wf x
section
variable {P : Program} {t e : TypeId}
theorem Opens.int {k : IntKind} (ht : P.underlying t = some (.int k)) (hc : P.cellsOf t = 1) : Opens P t (Kd.int k) (fun x => (Lit.int k x).wf = true) := by
 refine ⟨hc, ?_⟩
 intro H enc W base spare held fuel cs d ps h _
 obtain ⟨n, rfl, _, hw⟩ := DataW.trod_int ht h
 exact ⟨n, rfl, hw⟩
theorem Opens.bool (ht : P.underlying t = some .bool) (hc : P.cellsOf t = 1) : Opens P t Kd.bool (fun _ => True) := by
 refine ⟨hc, ?_⟩
 intro H enc W base spare held fuel cs d ps h _
 obtain ⟨b, rfl, _⟩ := DataW.trod_bool ht h
 exact ⟨b, rfl, trivial⟩
theorem Opens.string (ht : P.underlying t = some .string) (hc : P.cellsOf t = 1) : Opens P t Kd.string (fun s => s.size ≤ reachBytes) := by
 refine ⟨hc, ?_⟩
 intro H enc W base spare held fuel cs d ps h hs
 obtain ⟨s, rfl, hx, _⟩ := DataW.trod_string ht h
 obtain ⟨rfl, rfl⟩ := Prod.mk.inj hx
 refine ⟨s, rfl, ?_⟩
 have := hs s.data.toList.length (by simp [DataW.weights])
 simpa using this
theorem Opens.iso {α β : Type} {k : Kd α} {wf : α → Prop} (f : β → α) (g : α → β) (hfg : ∀ x, f (g x) = x) (h : Opens P t k wf) : Opens P t (Kd.iso k f) (fun y => wf (f y)) := by
 refine ⟨h.sz, ?_⟩
 intro H enc W base spare held fuel cs d ps h1 hs
 obtain ⟨x, hK, hw⟩ := h.K h1 hs
 exact ⟨g x, by show k.K W (f (g x)) cs; rw [hfg]; exact hK, by show wf (f (g x)); rw [hfg]; exact hw⟩
theorem Opens.imp {α : Type} {k : Kd α} {wf wf' : α → Prop} (h : Opens P t k wf) (hw : ∀ x, wf x → wf' x) : Opens P t k wf' := by
 refine ⟨h.sz, ?_⟩
 intro H enc W base spare held fuel cs d ps h1 hs
 obtain ⟨x, hK, hx⟩ := h.K h1 hs
 exact ⟨x, hK, hw x hx⟩
def OpensF {α : Type} (P : Program) (fs : List Field) (o : Nat) (k : Kd α) (wf : α → Prop) : Prop :=
 ∀ {H : Type} {enc : TypeId × Value → H} {W : World} {base : Nat} {spare : Nat → Bool} {held : Bool} {n : Nat} {cs : List Value} {xs : List (DataW H × List MemPlace)},
  xs.length = fs.length → (∀ (i : Nat) (f : Field), fs[i]? = some f → DataW.trod enc P W base spare held n f.type ((cs.drop f.offset).take (P.cellsOf f.type)) = xs[i]?) → cs.length = o + k.sz →
  (∀ m ∈ DataW.weightsEach P (fs.map (·.type)) (xs.map (·.1)), m ≤ reachBytes) → ∃ x, k.K W x (cs.drop o) ∧ wf x
theorem OpensF.one {α : Type} {f : Field} {o : Nat} {k : Kd α} {wf : α → Prop} (ho : f.offset = o) (h : Opens P f.type k wf) : OpensF P [f] o k wf := by
 intro H enc W base spare held n cs xs hl hx hc hs
 match xs, hl with
 | [y], _ =>
  have h1 := hx 0 f rfl
  rw [ho, h.sz, List.take_of_length_le (by rw [List.length_drop]; omega)] at h1
  exact h.K (d := y.1) (ps := y.2) h1 (fun m hm => hs m (by simp [DataW.weightsEach, hm]))
theorem OpensF.cons {α β : Type} {f : Field} {fs : List Field} {o o' : Nat} {a : Kd α} {b : Kd β} {wa : α → Prop} {wb : β → Prop} (ho : f.offset = o) (ho' : o' = o + a.sz) (h : Opens P f.type a wa) (hr : OpensF P fs o' b wb) :
  OpensF P (f :: fs) o (Kd.pair a b) (fun x => wa x.1 ∧ wb x.2) := by
 intro H enc W base spare held n cs xs hl hx hc hs
 subst ho'
 match xs, hl with
 | y :: ys, hl =>
  have h1 := hx 0 f rfl
  rw [ho, h.sz] at h1
  obtain ⟨x, hK, hw⟩ := h.K (d := y.1) (ps := y.2) h1 (fun m hm => hs m (by simp [DataW.weightsEach, hm]))
  obtain ⟨z, hK2, hw2⟩ := hr (xs := ys) (cs := cs) (by simpa using hl) (fun i g hg => by have := hx (i + 1) g (by simpa using hg); simpa using this) (by rw [hc]; show o + (a.sz + b.sz) = _; omega) (fun m hm => hs m (by simp [DataW.weightsEach, hm]))
  refine ⟨(x, z), ⟨(cs.drop o).take a.sz, cs.drop (o + a.sz), ?_, hK, hK2⟩, hw, hw2⟩
  rw [← List.drop_drop, List.take_append_drop]
theorem Opens.struct {α : Type} {fs : Array Field} {k : Kd α} {wf : α → Prop} (ht : P.underlying t = some (.struct fs)) (hc : P.cellsOf t = k.sz) (h : OpensF P fs.toList 0 k wf) : Opens P t k wf := by
 refine ⟨hc, ?_⟩
 intro H enc W base spare held fuel cs d ps h1 hs
 obtain ⟨xs, n, _, hx, hl, hlen, hf⟩ := DataW.trod_struct ht h1
 obtain ⟨rfl, rfl⟩ := Prod.mk.inj hx
 have := h (cs := cs) (xs := xs) (by simpa using hlen) (fun i f hif => hf i f (by simpa using hif)) (by omega) (fun m hm => hs m (by simpa [DataW.weights, ht] using hm))
 simpa using this
theorem weightsAll_mem {H : Type} {e : TypeId} : ∀ {l : List (DataW H)} {d : DataW H}, d ∈ l → ∀ n ∈ d.weights P e, n ∈ DataW.weightsAll P e l
 | d0 :: l, d, h, n, hn => by
  simp only [DataW.weightsAll, List.mem_append]
  rcases List.mem_cons.1 h with rfl | h
  ·exact .inl hn
  ·exact .inr (weightsAll_mem h n hn)
theorem Opens.slice {α : Type} {k : Kd α} {wf : α → Prop} {B : Nat} (ht : P.underlying t = some (.slice e)) (hc : P.cellsOf t = 1) (hB : P.bytesOf e = B) (h : Opens P e k wf) :
  Opens P t (Kd.slice e k) (fun l => l.length ≤ maxLen ∧ l.length * B ≤ reachBytes ∧ ∀ x ∈ l, wf x) := by
 refine ⟨hc, ?_⟩
 intro H enc W base spare held fuel cs d ps h1 hs
 rcases Go.Deep.open_slice ht h1 with ⟨rfl, hx⟩ | ⟨a, len, cap, m, n, D, Pl, rfl, hb, hl, hm, hmm, hx, hel⟩
 ·refine ⟨[], ⟨none, 0, rfl, by simp, Kd.C_nil _ _⟩, by simp [maxLen], by simp, by simp⟩
 ·obtain ⟨rfl, rfl⟩ := Prod.mk.inj hx
  have hle : len ≤ m := by rw [hmm]; split <;> omega
  have hw : ∀ j, j < len → ∃ x, (∃ c, c.length = k.sz ∧ k.K W x c ∧ ∀ i u, c[i]? = some u → W.cell? (a.add (j * k.sz + i)) = some u) ∧ wf x := by
   intro j hj
   obtain ⟨cs', h2, h3⟩ := hel j (by omega)
   obtain ⟨x, hK, hx⟩ := h.K h3 (fun q hq => hs q (by
    simp only [DataW.weights, ht, List.mem_cons, List.mem_append]
    exact .inr (.inl (weightsAll_mem (List.mem_map.2 ⟨j, by simpa using hj, rfl⟩) q hq))))
   obtain ⟨_, hlen, hcell⟩ := World.cells?_some h2
   refine ⟨x, ⟨cs', by rw [hlen, h.sz], hK, fun i u hu => ?_⟩, hx⟩
   have hi : i < cs'.length := (List.getElem?_eq_some_iff.1 hu).1
   have := hcell i (by omega)
   rw [hu, h.sz] at this
   rw [← this, Addr.add_add]
  obtain ⟨X, hX⟩ : ∃ X : Fin len → α, ∀ j : Fin len, (∃ c, c.length = k.sz ∧ k.K W (X j) c ∧ ∀ i u, c[i]? = some u → W.cell? (a.add (j.1 * k.sz + i)) = some u) ∧ wf (X j) :=
   ⟨fun j => Classical.choose (hw j.1 j.2), fun j => Classical.choose_spec (hw j.1 j.2)⟩
  have hml : (9223372036854775807 : Nat) = maxLen := rfl
  refine ⟨List.ofFn X, ⟨some a, cap, by simp, by simpa using hl, ?_⟩, ?_, ?_, ?_⟩
  ·refine ⟨rfl, by rw [hml]; simpa using Nat.le_trans hl hm, fun _ => ⟨a, rfl, fun j p hp => ?_⟩⟩
   obtain ⟨hj, rfl⟩ := List.getElem?_eq_some_iff.1 hp
   have hj' : j < len := by simpa using hj
   have := (hX ⟨j, hj'⟩).1
   simpa using this
  ·simpa using Nat.le_trans hl hm
  ·have := hs ((len + (m - len)) * P.bytesOf e) (by simp [DataW.weights, ht])
   rw [hB] at this
   rw [List.length_ofFn]
   exact Nat.le_trans (Nat.mul_le_mul_right _ (by omega)) this
  ·intro x hx
   obtain ⟨j, rfl⟩ := (List.mem_ofFn).1 hx
   exact (hX j).2
theorem weights_le {H : Type} {ts : List TypeId} {ds : List (DataW H)} {j : Nat} {t : TypeId} {d : DataW H} (h : (DataW.weightsEach P ts ds).all (· ≤ reachBytes) = true) (ht : ts[j]? = some t) (hd : ds[j]? = some d) : ∀ n ∈ d.weights P t, n ≤ reachBytes := by
 intro n hn
 simpa using List.all_eq_true.1 h n (DataW.weights_mem_each ht hd n hn)
end
theorem open_row {P : Program} {t e : TypeId} {α : Type} {k : Kd α} {wf : List α → Prop} (ho : Opens P t (Kd.slice e k) wf) {H : Type} {enc : TypeId × Value → H} {W : World} {base : Nat} {spare : Nat → Bool} {held : Bool} {a : Option Addr} {n c : Nat} {d : DataW H} {ps : List MemPlace}
  (h : DataW.Trod enc P W base spare held t (.slice a n c) d ps) (hs : ∀ m ∈ d.weights P t, m ≤ reachBytes) : ∃ l, n = l.length ∧ l.length ≤ c ∧ k.C W a l.length l ∧ wf l := by
 obtain ⟨fuel, hf⟩ := h
 obtain ⟨l, ⟨A, c', he, hl, hC⟩, hw⟩ := ho.K hf hs
 simp [Value.cells] at he
 obtain ⟨rfl, rfl, rfl⟩ := he
 exact ⟨l, rfl, hl, hC, hw⟩
end Go.Proofs.YtgknjgionicncaaGreatW.Open
namespace Go.Proofs.YtgknjgionicncaaGreat.Q
open Go.RowKit Go.Proofs.YtgknjgionicncaaGreatW.PrintWords Go.Proofs.YtgknjgionicncaaGreatW.Open
set_option linter.unusedVariables false
def wf36 (x : S36) : Prop := ((Lit.int .u64 x.f0).wf = true) ∧ ((Lit.int .u64 x.f1).wf = true) ∧ ((Lit.int .u64 x.f2).wf = true) ∧ ((Lit.int .u8 x.f3).wf = true) ∧ (x.f4.size ≤ reachBytes) ∧ (x.f5.size ≤ reachBytes) ∧ ((Lit.int .i64 x.f6).wf = true) ∧ ((Lit.int .i64 x.f7).wf = true)
set_option maxRecDepth 100000 in
theorem opens36 : Opens Tryz.prog 36 k36 wf36 := by
 refine (Opens.iso _ (fun x => (⟨x.1, x.2.1, x.2.2.1, x.2.2.2.1, x.2.2.2.2.1, x.2.2.2.2.2.1, x.2.2.2.2.2.2.1, x.2.2.2.2.2.2.2⟩ : S36)) (fun _ => rfl) (Opens.struct Tryz.underlying36 (by kernel_rfl) (OpensF.cons rfl rfl (Opens.int Tryz.underlying23 (by kernel_rfl)) (OpensF.cons rfl rfl (Opens.int Tryz.underlying23 (by kernel_rfl)) (OpensF.cons rfl rfl (Opens.int Tryz.underlying23 (by kernel_rfl)) (OpensF.cons rfl rfl (Opens.int Tryz.underlying5 (by kernel_rfl)) (OpensF.cons rfl rfl (Opens.string Tryz.underlying9 (by kernel_rfl)) (OpensF.cons rfl rfl (Opens.string Tryz.underlying9 (by kernel_rfl)) (OpensF.cons rfl rfl (Opens.int Tryz.underlying2 (by kernel_rfl)) (OpensF.one rfl (Opens.int Tryz.underlying2 (by kernel_rfl)))))))))))).imp ?_
 exact fun _ h => h
end Go.Proofs.YtgknjgionicncaaGreat.Q
namespace Go.Proofs.YtgknjgionicncaaGreat.Q
open Go.RowKit Go.Proofs.YtgknjgionicncaaGreatW.PrintWords Go.Proofs.YtgknjgionicncaaGreatW.PrintLast Go.Proofs.YtgknjgionicncaaGreatW.PrintMore
attribute [local go_sem] max2_int min2_int max_two min_two max_three min_three max_four min_four
set_option linter.unusedVariables false
set_option linter.unusedSimpArgs false
def cmp_Compare_uint64.f (a0 : Int) (a1 : Int) : Option (Int) := (cmp_isNaN_uint64.f a0).bind fun t108 => ((cmp_isNaN_uint64.f a1).bind fun t109 => (if t108 = true then (if t109 = true then (some 0) else (some (-1))) else (if t109 = true then (some 1) else (if a0 < a1 then (some (-1)) else (if a0 > a1 then (some 1) else (some 0))))))
set_option maxHeartbeats 8000000 in
set_option maxRecDepth 100000 in
theorem cmp_Compare_uint64.calls (a0 : Int) (a1 : Int) (r : Int) (w : World) (h : cmp_Compare_uint64.f a0 a1 = some r) :
  Calls Tryz.prog 99 #[.int .u64 a0, .int .u64 a1] w fun e w' => e = .returned (.int .i64 r) ∧ Drawn0 w w' := by
 have H : ((cmp_isNaN_uint64.f a0).bind fun t108 => ((cmp_isNaN_uint64.f a1).bind fun t109 => (if t108 = true then (if t109 = true then (some 0) else (some (-1))) else (if t109 = true then (some 1) else (if a0 < a1 then (some (-1)) else (if a0 > a1 then (some 1) else (some 0))))))) = some r := h
 clear h
 replace H := Option.bind_eq_some_iff.mp H
 obtain ⟨t108, A30, H⟩ := H
 have A3 := Aside0.mk A30
 clear A30
 replace H := Option.bind_eq_some_iff.mp H
 obtain ⟨t109, A40, H⟩ := H
 have A4 := Aside0.mk A40
 clear A40
 by_cases c5 : t108 = true
 ·subst c5
  rw [if_pos rfl] at H
  by_cases c6 : t109 = true
  ·subst c6
   rw [if_pos rfl] at H
   obtain rfl := Option.some.inj H
   go_enter Tryz.func99, Tryz.ntmps99
   go_wp2_with (first | ((with_reducible refine gate_callee (f := 132) rfl ?_); refine goesL_ (some 8) rfl rfl Tryz.func132 (by kernel_rfl) rfl #[.int .u64 a0] rfl zL ?_; (with_reducible refine (cmp_isNaN_uint64.calls a0 true _ A3.out).mono ?_); rintro e w' ⟨rfl, ⟨nd, rfl⟩⟩; refine ⟨_, rfl, ?_⟩) | ((with_reducible refine gate_callee (f := 132) rfl ?_); refine goesL_ (some 10) rfl rfl Tryz.func132 (by kernel_rfl) rfl #[.int .u64 a1] rfl zL ?_; (with_reducible refine (cmp_isNaN_uint64.calls a1 true _ A4.out).mono ?_); rintro e w' ⟨rfl, ⟨nd, rfl⟩⟩; refine ⟨_, rfl, ?_⟩))
   go_ret
   exact ⟨zE, zD0⟩
  ·replace c6 := Bool.eq_false_iff.mpr c6
   subst c6
   rw [if_neg (show ¬ (false = true) by decide)] at H
   obtain rfl := Option.some.inj H
   go_enter Tryz.func99, Tryz.ntmps99
   go_wp2_with (first | ((with_reducible refine gate_callee (f := 132) rfl ?_); refine goesL_ (some 8) rfl rfl Tryz.func132 (by kernel_rfl) rfl #[.int .u64 a0] rfl zL ?_; (with_reducible refine (cmp_isNaN_uint64.calls a0 true _ A3.out).mono ?_); rintro e w' ⟨rfl, ⟨nd, rfl⟩⟩; refine ⟨_, rfl, ?_⟩) | ((with_reducible refine gate_callee (f := 132) rfl ?_); refine goesL_ (some 10) rfl rfl Tryz.func132 (by kernel_rfl) rfl #[.int .u64 a1] rfl zL ?_; (with_reducible refine (cmp_isNaN_uint64.calls a1 false _ A4.out).mono ?_); rintro e w' ⟨rfl, ⟨nd, rfl⟩⟩; refine ⟨_, rfl, ?_⟩))
   go_ret
   exact ⟨zE, zD0⟩
 ·replace c5 := Bool.eq_false_iff.mpr c5
  subst c5
  rw [if_neg (show ¬ (false = true) by decide)] at H
  by_cases c7 : t109 = true
  ·subst c7
   rw [if_pos rfl] at H
   obtain rfl := Option.some.inj H
   go_enter Tryz.func99, Tryz.ntmps99
   go_wp2_with (first | ((with_reducible refine gate_callee (f := 132) rfl ?_); refine goesL_ (some 8) rfl rfl Tryz.func132 (by kernel_rfl) rfl #[.int .u64 a0] rfl zL ?_; (with_reducible refine (cmp_isNaN_uint64.calls a0 false _ A3.out).mono ?_); rintro e w' ⟨rfl, ⟨nd, rfl⟩⟩; refine ⟨_, rfl, ?_⟩) | ((with_reducible refine gate_callee (f := 132) rfl ?_); refine goesL_ (some 10) rfl rfl Tryz.func132 (by kernel_rfl) rfl #[.int .u64 a1] rfl zL ?_; (with_reducible refine (cmp_isNaN_uint64.calls a1 true _ A4.out).mono ?_); rintro e w' ⟨rfl, ⟨nd, rfl⟩⟩; refine ⟨_, rfl, ?_⟩))
   go_ret
   exact ⟨zE, zD0⟩
  ·replace c7 := Bool.eq_false_iff.mpr c7
   subst c7
   rw [if_neg (show ¬ (false = true) by decide)] at H
   by_cases c8 : a0 < a1
   ·rw [if_pos c8] at H
    have c8b0 := decide_eq_true c8
    clear c8
    obtain rfl := Option.some.inj H
    go_enter Tryz.func99, Tryz.ntmps99
    go_wp2_with (first | ((with_reducible refine gate_callee (f := 132) rfl ?_); refine goesL_ (some 8) rfl rfl Tryz.func132 (by kernel_rfl) rfl #[.int .u64 a0] rfl zL ?_; (with_reducible refine (cmp_isNaN_uint64.calls a0 false _ A3.out).mono ?_); rintro e w' ⟨rfl, ⟨nd, rfl⟩⟩; refine ⟨_, rfl, ?_⟩) | ((with_reducible refine gate_callee (f := 132) rfl ?_); refine goesL_ (some 10) rfl rfl Tryz.func132 (by kernel_rfl) rfl #[.int .u64 a1] rfl zL ?_; (with_reducible refine (cmp_isNaN_uint64.calls a1 false _ A4.out).mono ?_); rintro e w' ⟨rfl, ⟨nd, rfl⟩⟩; refine ⟨_, rfl, ?_⟩))
    go_ret
    exact ⟨zE, zD0⟩
   ·rw [if_neg c8] at H
    have c8b0 := decide_eq_false c8
    clear c8
    by_cases c9 : a0 > a1
    ·rw [if_pos c9] at H
     have c9b0 : decide (a1 < a0) = true := decide_eq_true c9
     clear c9
     obtain rfl := Option.some.inj H
     go_enter Tryz.func99, Tryz.ntmps99
     go_wp2_with (first | ((with_reducible refine gate_callee (f := 132) rfl ?_); refine goesL_ (some 8) rfl rfl Tryz.func132 (by kernel_rfl) rfl #[.int .u64 a0] rfl zL ?_; (with_reducible refine (cmp_isNaN_uint64.calls a0 false _ A3.out).mono ?_); rintro e w' ⟨rfl, ⟨nd, rfl⟩⟩; refine ⟨_, rfl, ?_⟩) | ((with_reducible refine gate_callee (f := 132) rfl ?_); refine goesL_ (some 10) rfl rfl Tryz.func132 (by kernel_rfl) rfl #[.int .u64 a1] rfl zL ?_; (with_reducible refine (cmp_isNaN_uint64.calls a1 false _ A4.out).mono ?_); rintro e w' ⟨rfl, ⟨nd, rfl⟩⟩; refine ⟨_, rfl, ?_⟩))
     go_ret
     exact ⟨zE, zD0⟩
    ·rw [if_neg c9] at H
     have c9b0 : decide (a1 < a0) = false := decide_eq_false c9
     clear c9
     obtain rfl := Option.some.inj H
     go_enter Tryz.func99, Tryz.ntmps99
     go_wp2_with (first | ((with_reducible refine gate_callee (f := 132) rfl ?_); refine goesL_ (some 8) rfl rfl Tryz.func132 (by kernel_rfl) rfl #[.int .u64 a0] rfl zL ?_; (with_reducible refine (cmp_isNaN_uint64.calls a0 false _ A3.out).mono ?_); rintro e w' ⟨rfl, ⟨nd, rfl⟩⟩; refine ⟨_, rfl, ?_⟩) | ((with_reducible refine gate_callee (f := 132) rfl ?_); refine goesL_ (some 10) rfl rfl Tryz.func132 (by kernel_rfl) rfl #[.int .u64 a1] rfl zL ?_; (with_reducible refine (cmp_isNaN_uint64.calls a1 false _ A4.out).mono ?_); rintro e w' ⟨rfl, ⟨nd, rfl⟩⟩; refine ⟨_, rfl, ?_⟩))
     go_ret
     exact ⟨zE, zD0⟩
def cmp_isNaN_uint8.f (a0 : Int) : Option (Bool) := some (a0 != a0)
set_option maxHeartbeats 8000000 in
set_option maxRecDepth 100000 in
theorem cmp_isNaN_uint8.calls (a0 : Int) (r : Bool) (w : World) (h : cmp_isNaN_uint8.f a0 = some r) :
  Calls Tryz.prog 133 #[.int .u8 a0] w fun e w' => e = .returned (.bool r) ∧ Drawn0 w w' := by
 have H : (some (a0 != a0)) = some r := h
 clear h
 obtain rfl := Option.some.inj H
 go_enter Tryz.func133, Tryz.ntmps133
 go_wp2
 go_ret
 exact ⟨zE, zD0⟩
def cmp_Compare_uint8.f (a0 : Int) (a1 : Int) : Option (Int) := (cmp_isNaN_uint8.f a0).bind fun t110 => ((cmp_isNaN_uint8.f a1).bind fun t111 => (if t110 = true then (if t111 = true then (some 0) else (some (-1))) else (if t111 = true then (some 1) else (if a0 < a1 then (some (-1)) else (if a0 > a1 then (some 1) else (some 0))))))
set_option maxHeartbeats 8000000 in
set_option maxRecDepth 100000 in
theorem cmp_Compare_uint8.calls (a0 : Int) (a1 : Int) (r : Int) (w : World) (h : cmp_Compare_uint8.f a0 a1 = some r) :
  Calls Tryz.prog 100 #[.int .u8 a0, .int .u8 a1] w fun e w' => e = .returned (.int .i64 r) ∧ Drawn0 w w' := by
 have H : ((cmp_isNaN_uint8.f a0).bind fun t110 => ((cmp_isNaN_uint8.f a1).bind fun t111 => (if t110 = true then (if t111 = true then (some 0) else (some (-1))) else (if t111 = true then (some 1) else (if a0 < a1 then (some (-1)) else (if a0 > a1 then (some 1) else (some 0))))))) = some r := h
 clear h
 replace H := Option.bind_eq_some_iff.mp H
 obtain ⟨t110, A30, H⟩ := H
 have A3 := Aside0.mk A30
 clear A30
 replace H := Option.bind_eq_some_iff.mp H
 obtain ⟨t111, A40, H⟩ := H
 have A4 := Aside0.mk A40
 clear A40
 by_cases c5 : t110 = true
 ·subst c5
  rw [if_pos rfl] at H
  by_cases c6 : t111 = true
  ·subst c6
   rw [if_pos rfl] at H
   obtain rfl := Option.some.inj H
   go_enter Tryz.func100, Tryz.ntmps100
   go_wp2_with (first | ((with_reducible refine gate_callee (f := 133) rfl ?_); refine goesL_ (some 8) rfl rfl Tryz.func133 (by kernel_rfl) rfl #[.int .u8 a0] rfl zL ?_; (with_reducible refine (cmp_isNaN_uint8.calls a0 true _ A3.out).mono ?_); rintro e w' ⟨rfl, ⟨nd, rfl⟩⟩; refine ⟨_, rfl, ?_⟩) | ((with_reducible refine gate_callee (f := 133) rfl ?_); refine goesL_ (some 10) rfl rfl Tryz.func133 (by kernel_rfl) rfl #[.int .u8 a1] rfl zL ?_; (with_reducible refine (cmp_isNaN_uint8.calls a1 true _ A4.out).mono ?_); rintro e w' ⟨rfl, ⟨nd, rfl⟩⟩; refine ⟨_, rfl, ?_⟩))
   go_ret
   exact ⟨zE, zD0⟩
  ·replace c6 := Bool.eq_false_iff.mpr c6
   subst c6
   rw [if_neg (show ¬ (false = true) by decide)] at H
   obtain rfl := Option.some.inj H
   go_enter Tryz.func100, Tryz.ntmps100
   go_wp2_with (first | ((with_reducible refine gate_callee (f := 133) rfl ?_); refine goesL_ (some 8) rfl rfl Tryz.func133 (by kernel_rfl) rfl #[.int .u8 a0] rfl zL ?_; (with_reducible refine (cmp_isNaN_uint8.calls a0 true _ A3.out).mono ?_); rintro e w' ⟨rfl, ⟨nd, rfl⟩⟩; refine ⟨_, rfl, ?_⟩) | ((with_reducible refine gate_callee (f := 133) rfl ?_); refine goesL_ (some 10) rfl rfl Tryz.func133 (by kernel_rfl) rfl #[.int .u8 a1] rfl zL ?_; (with_reducible refine (cmp_isNaN_uint8.calls a1 false _ A4.out).mono ?_); rintro e w' ⟨rfl, ⟨nd, rfl⟩⟩; refine ⟨_, rfl, ?_⟩))
   go_ret
   exact ⟨zE, zD0⟩
 ·replace c5 := Bool.eq_false_iff.mpr c5
  subst c5
  rw [if_neg (show ¬ (false = true) by decide)] at H
  by_cases c7 : t111 = true
  ·subst c7
   rw [if_pos rfl] at H
   obtain rfl := Option.some.inj H
   go_enter Tryz.func100, Tryz.ntmps100
   go_wp2_with (first | ((with_reducible refine gate_callee (f := 133) rfl ?_); refine goesL_ (some 8) rfl rfl Tryz.func133 (by kernel_rfl) rfl #[.int .u8 a0] rfl zL ?_; (with_reducible refine (cmp_isNaN_uint8.calls a0 false _ A3.out).mono ?_); rintro e w' ⟨rfl, ⟨nd, rfl⟩⟩; refine ⟨_, rfl, ?_⟩) | ((with_reducible refine gate_callee (f := 133) rfl ?_); refine goesL_ (some 10) rfl rfl Tryz.func133 (by kernel_rfl) rfl #[.int .u8 a1] rfl zL ?_; (with_reducible refine (cmp_isNaN_uint8.calls a1 true _ A4.out).mono ?_); rintro e w' ⟨rfl, ⟨nd, rfl⟩⟩; refine ⟨_, rfl, ?_⟩))
   go_ret
   exact ⟨zE, zD0⟩
  ·replace c7 := Bool.eq_false_iff.mpr c7
   subst c7
   rw [if_neg (show ¬ (false = true) by decide)] at H
   by_cases c8 : a0 < a1
   ·rw [if_pos c8] at H
    have c8b0 := decide_eq_true c8
    clear c8
    obtain rfl := Option.some.inj H
    go_enter Tryz.func100, Tryz.ntmps100
    go_wp2_with (first | ((with_reducible refine gate_callee (f := 133) rfl ?_); refine goesL_ (some 8) rfl rfl Tryz.func133 (by kernel_rfl) rfl #[.int .u8 a0] rfl zL ?_; (with_reducible refine (cmp_isNaN_uint8.calls a0 false _ A3.out).mono ?_); rintro e w' ⟨rfl, ⟨nd, rfl⟩⟩; refine ⟨_, rfl, ?_⟩) | ((with_reducible refine gate_callee (f := 133) rfl ?_); refine goesL_ (some 10) rfl rfl Tryz.func133 (by kernel_rfl) rfl #[.int .u8 a1] rfl zL ?_; (with_reducible refine (cmp_isNaN_uint8.calls a1 false _ A4.out).mono ?_); rintro e w' ⟨rfl, ⟨nd, rfl⟩⟩; refine ⟨_, rfl, ?_⟩))
    go_ret
    exact ⟨zE, zD0⟩
   ·rw [if_neg c8] at H
    have c8b0 := decide_eq_false c8
    clear c8
    by_cases c9 : a0 > a1
    ·rw [if_pos c9] at H
     have c9b0 : decide (a1 < a0) = true := decide_eq_true c9
     clear c9
     obtain rfl := Option.some.inj H
     go_enter Tryz.func100, Tryz.ntmps100
     go_wp2_with (first | ((with_reducible refine gate_callee (f := 133) rfl ?_); refine goesL_ (some 8) rfl rfl Tryz.func133 (by kernel_rfl) rfl #[.int .u8 a0] rfl zL ?_; (with_reducible refine (cmp_isNaN_uint8.calls a0 false _ A3.out).mono ?_); rintro e w' ⟨rfl, ⟨nd, rfl⟩⟩; refine ⟨_, rfl, ?_⟩) | ((with_reducible refine gate_callee (f := 133) rfl ?_); refine goesL_ (some 10) rfl rfl Tryz.func133 (by kernel_rfl) rfl #[.int .u8 a1] rfl zL ?_; (with_reducible refine (cmp_isNaN_uint8.calls a1 false _ A4.out).mono ?_); rintro e w' ⟨rfl, ⟨nd, rfl⟩⟩; refine ⟨_, rfl, ?_⟩))
     go_ret
     exact ⟨zE, zD0⟩
    ·rw [if_neg c9] at H
     have c9b0 : decide (a1 < a0) = false := decide_eq_false c9
     clear c9
     obtain rfl := Option.some.inj H
     go_enter Tryz.func100, Tryz.ntmps100
     go_wp2_with (first | ((with_reducible refine gate_callee (f := 133) rfl ?_); refine goesL_ (some 8) rfl rfl Tryz.func133 (by kernel_rfl) rfl #[.int .u8 a0] rfl zL ?_; (with_reducible refine (cmp_isNaN_uint8.calls a0 false _ A3.out).mono ?_); rintro e w' ⟨rfl, ⟨nd, rfl⟩⟩; refine ⟨_, rfl, ?_⟩) | ((with_reducible refine gate_callee (f := 133) rfl ?_); refine goesL_ (some 10) rfl rfl Tryz.func133 (by kernel_rfl) rfl #[.int .u8 a1] rfl zL ?_; (with_reducible refine (cmp_isNaN_uint8.calls a1 false _ A4.out).mono ?_); rintro e w' ⟨rfl, ⟨nd, rfl⟩⟩; refine ⟨_, rfl, ?_⟩))
     go_ret
     exact ⟨zE, zD0⟩
def bytealg_CompareString.f (a0 a1 : ByteArray) : Option Int := some (Lib.compareBytes a0.data.toList a1.data.toList)
set_option maxHeartbeats 1000000 in
set_option maxRecDepth 100000 in
theorem bytealg_CompareString.calls (a0 a1 : ByteArray) (r : Int) (w : World) (h : bytealg_CompareString.f a0 a1 = some r) :
  Calls Tryz.prog 134 #[.string a0, .string a1] w fun e w' => e = .returned (.int .i64 r) ∧ Drawn0 w w' := by
 obtain rfl := Option.some.inj h
 clear h
 go_enter Tryz.func134, Tryz.ntmps134
 go_wp2
 rw [run_callFunc_extern Tryz.func151 (by kernel_rfl) (by kernel_rfl) (by kernel_rfl) (e := Extern.BytealgCompare.compare) (by kernel_rfl), Lib.run_compareString]
 simp only [Result.andThen]
 rw [Oper.upon_value]
 go_wp2
 go_ret
 exact ⟨rfl, Drawn0.refl _⟩
def strings_Compare.f (a0 : ByteArray) (a1 : ByteArray) : Option (Int) := (bytealg_CompareString.f a0 a1).bind fun t112 => (some t112)
set_option maxHeartbeats 8000000 in
set_option maxRecDepth 100000 in
theorem strings_Compare.calls (a0 : ByteArray) (a1 : ByteArray) (r : Int) (w : World) (h : strings_Compare.f a0 a1 = some r) :
  Calls Tryz.prog 101 #[.string a0, .string a1] w fun e w' => e = .returned (.int .i64 r) ∧ Drawn0 w w' := by
 have H : ((bytealg_CompareString.f a0 a1).bind fun t112 => (some t112)) = some r := h
 clear h
 replace H := Option.bind_eq_some_iff.mp H
 obtain ⟨t112, A30, H⟩ := H
 have A3 := Aside0.mk A30
 clear A30
 obtain rfl := Option.some.inj H
 go_enter Tryz.func101, Tryz.ntmps101
 go_wp2_with (first | ((with_reducible refine gate_callee (f := 134) rfl ?_); refine goesL_ (some 7) rfl rfl Tryz.func134 (by kernel_rfl) rfl #[.string a0, .string a1] rfl zL ?_; (with_reducible refine (bytealg_CompareString.calls a0 a1 t112 _ A3.out).mono ?_); rintro e w' ⟨rfl, ⟨nd, rfl⟩⟩; refine ⟨_, rfl, ?_⟩))
 go_ret
 exact ⟨zE, zD0⟩
def span_Cmp.f (k : Nat) (a0_0 : Int) (a0_1 : Int) (a0_2 : Int) (a0_3 : Int) (a0_4 : ByteArray) (a0_5 : ByteArray) (a0_6 : Int) (a0_7 : Int) (a1_0 : Int) (a1_1 : Int) (a1_2 : Int) (a1_3 : Int) (a1_4 : ByteArray) (a1_5 : ByteArray) (a1_6 : Int) (a1_7 : Int) : Option (Int) := (cmp_Compare_int64.f a0_6 a1_6).bind fun t115 => ((cmp_Compare_uint64.f a0_1 a1_1).bind fun t116 => ((cmp_Compare_uint64.f a0_2 a1_2).bind fun t117 => ((cmp_Compare_uint8.f a0_3 a1_3).bind fun t118 => ((cmp_Compare_int64.f a0_7 a1_7).bind fun t119 => ((strings_Compare.f a0_4 a1_4).bind fun t120 => ((strings_Compare.f a0_5 a1_5).bind fun t121 => ((cmp_Compare_uint64.f a0_0 a1_0).bind fun t122 => ((span_first.f k (([t115, t116, t117, t118, t119, t120, t121, t122] : List Int))).bind fun t126 => (some t126)))))))))
theorem span_Cmp.mono : ∀ a0 a1 a2 a3 a4 a5 a6 a7 a8 a9 a10 a11 a12 a13 a14 a15 k, LeO (span_Cmp.f k a0 a1 a2 a3 a4 a5 a6 a7 a8 a9 a10 a11 a12 a13 a14 a15) (span_Cmp.f (k + 1) a0 a1 a2 a3 a4 a5 a6 a7 a8 a9 a10 a11 a12 a13 a14 a15) := by
 intro a0 a1 a2 a3 a4 a5 a6 a7 a8 a9 a10 a11 a12 a13 a14 a15 k
 unfold span_Cmp.f
 have m0 := @span_first.mono
 exact zM
def span_Cmp.T1 : Bool × List (List Nat × List Nat) := (true, [([], []), ([0], [0]), ([], []), ([2], [2]), ([1, 3], [1, 3]), ([], []), ([5], [5]), ([], []), ([7], [7]), ([6, 8, 4], [6, 8]), ([], []), ([10], [10]), ([], []), ([12], [12]), ([11, 13, 9], [11, 13]), ([], []), ([15], [15]), ([], []), ([17], [17]), ([16, 18, 14], [16, 18]), ([], []), ([20], [20]), ([], []), ([22], [22]), ([21, 23, 19], [21, 23]), ([], []), ([25], [25]), ([], []), ([27], [27]), ([26, 28, 24], [26, 28]), ([], []), ([30], [30]), ([], []), ([32], [32]), ([31, 33, 29], [31, 33]), ([], []), ([35], [35]), ([], []), ([37], [37]), ([36, 38, 34], [36, 38]), ([4, 9, 14, 19, 24, 29, 34, 39], [4, 9, 14, 19, 24, 29, 34, 39]), ([40, 39], [40]), ([41, 41, 0, 1, 2, 3, 4, 5, 6, 7, 8, 9, 10, 11, 12, 13, 14, 15, 16, 17, 18, 19, 20, 21, 22, 23, 24, 25, 26, 27, 28, 29, 30, 31, 32, 33, 34, 35, 36, 37, 38, 39, 40, 41], [41])])
def span_Cmp.B1 : List Nat := [0, 1, 0, 4, 15, 0, 32, 0, 128, 511, 0, 1024, 0, 4096, 16383, 0, 32768, 0, 131072, 524287, 0, 1048576, 0, 4194304, 16777215, 0, 33554432, 0, 134217728, 536870911, 0, 1073741824, 0, 4294967296, 17179869183, 0, 34359738368, 0, 137438953472, 549755813887, 1099511627775, 2199023255551, 4398046511103]
theorem span_Cmp.tab1 : rtab .any (opsOf Tryz.f56 1) = span_Cmp.T1 := by kernel_rfl
theorem span_Cmp.bits1 : waitsOk span_Cmp.T1.2 span_Cmp.B1 = true := by kernel_rfl
set_option maxHeartbeats 8000000 in
set_option maxRecDepth 100000 in
theorem span_Cmp.calls (k : Nat) (a0_0 : Int) (a0_1 : Int) (a0_2 : Int) (a0_3 : Int) (a0_4 : ByteArray) (a0_5 : ByteArray) (a0_6 : Int) (a0_7 : Int) (a1_0 : Int) (a1_1 : Int) (a1_2 : Int) (a1_3 : Int) (a1_4 : ByteArray) (a1_5 : ByteArray) (a1_6 : Int) (a1_7 : Int) (r : Int) (w : World) (h : span_Cmp.f k a0_0 a0_1 a0_2 a0_3 a0_4 a0_5 a0_6 a0_7 a1_0 a1_1 a1_2 a1_3 a1_4 a1_5 a1_6 a1_7 = some r) :
  Calls Tryz.prog 56 #[.agg #[.int .u64 a0_0, .int .u64 a0_1, .int .u64 a0_2, .int .u8 a0_3, .string a0_4, .string a0_5, .int .i64 a0_6, .int .i64 a0_7], .agg #[.int .u64 a1_0, .int .u64 a1_1, .int .u64 a1_2, .int .u8 a1_3, .string a1_4, .string a1_5, .int .i64 a1_6, .int .i64 a1_7]] w fun e w' => e = .returned (.int .i64 r) ∧ Below w.heap.size w w' := by
 have hu36 := Tryz.underlying36
 have HB := Aside0.mk (Below.refl w.heap.size w)
 have H : ((cmp_Compare_int64.f a0_6 a1_6).bind fun t115 => ((cmp_Compare_uint64.f a0_1 a1_1).bind fun t116 => ((cmp_Compare_uint64.f a0_2 a1_2).bind fun t117 => ((cmp_Compare_uint8.f a0_3 a1_3).bind fun t118 => ((cmp_Compare_int64.f a0_7 a1_7).bind fun t119 => ((strings_Compare.f a0_4 a1_4).bind fun t120 => ((strings_Compare.f a0_5 a1_5).bind fun t121 => ((cmp_Compare_uint64.f a0_0 a1_0).bind fun t122 => ((span_first.f k (([t115, t116, t117, t118, t119, t120, t121, t122] : List Int))).bind fun t126 => (some t126)))))))))) = some r := h
 clear h
 replace H := Option.bind_eq_some_iff.mp H
 obtain ⟨t115, A30, H⟩ := H
 have A3 := Aside0.mk A30
 clear A30
 replace H := Option.bind_eq_some_iff.mp H
 obtain ⟨t116, A40, H⟩ := H
 have A4 := Aside0.mk A40
 clear A40
 replace H := Option.bind_eq_some_iff.mp H
 obtain ⟨t117, A50, H⟩ := H
 have A5 := Aside0.mk A50
 clear A50
 replace H := Option.bind_eq_some_iff.mp H
 obtain ⟨t118, A60, H⟩ := H
 have A6 := Aside0.mk A60
 clear A60
 replace H := Option.bind_eq_some_iff.mp H
 obtain ⟨t119, A70, H⟩ := H
 have A7 := Aside0.mk A70
 clear A70
 replace H := Option.bind_eq_some_iff.mp H
 obtain ⟨t120, A80, H⟩ := H
 have A8 := Aside0.mk A80
 clear A80
 replace H := Option.bind_eq_some_iff.mp H
 obtain ⟨t121, A90, H⟩ := H
 have A9 := Aside0.mk A90
 clear A90
 replace H := Option.bind_eq_some_iff.mp H
 obtain ⟨t122, A100, H⟩ := H
 have A10 := Aside0.mk A100
 clear A100
 obtain ⟨y123, hy123⟩ : ∃ y_ : List Int, y_ = (([t115, t116, t117, t118, t119, t120, t121, t122] : List Int)) := ⟨_, rfl⟩
 first | (replace H := zo H hy123) | rw [← hy123] at H
 have Ny123 := Aside0.mk hy123
 clear hy123
 replace H := Option.bind_eq_some_iff.mp H
 obtain ⟨t126, A110, H⟩ := H
 have A11 := Aside0.mk A110
 clear A110
 obtain rfl := Option.some.inj H
 go_enter Tryz.func56, Tryz.ntmps56
 try go_wp2_with (first | ((with_reducible refine gate_dst (N := 2) rfl ?_); refine zbox (N := 2) (cs := #[.int .u64 a0_0, .int .u64 a0_1, .int .u64 a0_2, .int .u8 a0_3, .string a0_4, .string a0_5, .int .i64 a0_6, .int .i64 a0_7]) (t := 36) ?_; intro gb113 hg w12 hbox hb; have BK113 := Aside0.mk (hbox); have GW113 := Aside0.mk ((by rw [hg]; exact (below_size zB) : w.heap.size ≤ gb113)); have GE113 := Aside0.mk ((by rw [hg]; exact (below_size zB) : w.heap.size ≤ gb113)); replace HB := Aside0.mk (below_step zB hb); clear hb hbox hg) | ((with_reducible refine gate_dst (N := 3) rfl ?_); refine zbox (N := 3) (cs := #[.int .u64 a1_0, .int .u64 a1_1, .int .u64 a1_2, .int .u8 a1_3, .string a1_4, .string a1_5, .int .i64 a1_6, .int .i64 a1_7]) (t := 36) ?_; intro gb114 hg w13 hbox hb; have BK114 := Aside0.mk (hbox); have GW114 := Aside0.mk ((by rw [hg]; exact (below_size (zG GE113.out)) : w.heap.size ≤ gb114)); have GE114 := Aside0.mk ((by rw [hg]; exact (below_size (zG GE113.out)) : w.heap.size ≤ gb114)); replace HB := Aside0.mk (below_step (zG GE113.out) hb); have NB113_114 := Aside0.mk ((by rw [hg]; exact Nat.ne_of_lt (zKl BK113.out) : gb113 ≠ gb114)); have NB114_113 := Aside0.mk ((by rw [hg]; exact Nat.ne_of_gt (zKl BK113.out) : gb114 ≠ gb113)); replace BK113 := Aside0.mk (zKb BK113.out hb); clear hb hbox hg))
 replace BK113 := Aside0.mk (blk_drew BK113.out)
 replace BK114 := Aside0.mk (blk_drew BK114.out)
 replace HB := Aside0.mk (below_drew1 HB.out)
 refine start_ (n := 43) (S := fun w' => w'.cell? ⟨gb113, 0, none⟩ = some (.int .u64 a0_0) ∧ w'.cell? ⟨gb113, 1, none⟩ = some (.int .u64 a0_1) ∧ w'.cell? ⟨gb113, 2, none⟩ = some (.int .u64 a0_2) ∧ w'.cell? ⟨gb113, 3, none⟩ = some (.int .u8 a0_3) ∧ w'.cell? ⟨gb113, 4, none⟩ = some (.string a0_4) ∧ w'.cell? ⟨gb113, 5, none⟩ = some (.string a0_5) ∧ w'.cell? ⟨gb113, 6, none⟩ = some (.int .i64 a0_6) ∧ w'.cell? ⟨gb113, 7, none⟩ = some (.int .i64 a0_7) ∧ w'.cell? ⟨gb114, 0, none⟩ = some (.int .u64 a1_0) ∧ w'.cell? ⟨gb114, 1, none⟩ = some (.int .u64 a1_1) ∧ w'.cell? ⟨gb114, 2, none⟩ = some (.int .u64 a1_2) ∧ w'.cell? ⟨gb114, 3, none⟩ = some (.int .u8 a1_3) ∧ w'.cell? ⟨gb114, 4, none⟩ = some (.string a1_4) ∧ w'.cell? ⟨gb114, 5, none⟩ = some (.string a1_5) ∧ w'.cell? ⟨gb114, 6, none⟩ = some (.int .i64 a1_6) ∧ w'.cell? ⟨gb114, 7, none⟩ = some (.int .i64 a1_7)) (ds := []) #[false, false, false, false, false, false, false, false, false, false, false, false, false, false, false, false, false, false, false, false, false, false, false, false, false, false, false, false, false, false, false, false, false, false, false, false, false, false, false, false, false, false, false] (by kernel_rfl) rfl rfl ⟨(blk_cell BK113.out 0).trans rfl, (blk_cell BK113.out 1).trans rfl, (blk_cell BK113.out 2).trans rfl, (blk_cell BK113.out 3).trans rfl, (blk_cell BK113.out 4).trans rfl, (blk_cell BK113.out 5).trans rfl, (blk_cell BK113.out 6).trans rfl, (blk_cell BK113.out 7).trans rfl, (blk_cell BK114.out 0).trans rfl, (blk_cell BK114.out 1).trans rfl, (blk_cell BK114.out 2).trans rfl, (blk_cell BK114.out 3).trans rfl, (blk_cell BK114.out 4).trans rfl, (blk_cell BK114.out 5).trans rfl, (blk_cell BK114.out 6).trans rfl, (blk_cell BK114.out 7).trans rfl⟩ (fun hHeld => ?_); refine with_tabW span_Cmp.tab1 span_Cmp.bits1 (fun HT_ HW_ => ?_)
 generalize w13.drew = w14 at BK113 BK114 HB hHeld ⊢
 refine zp 0 (some 5) ?_
 refine zp 2 (some 7) ?_
 refine zp 5 (some 10) ?_
 refine zp 7 (some 12) ?_
 refine zp 10 (some 15) ?_
 refine zp 12 (some 17) ?_
 refine zp 15 (some 20) ?_
 refine zp 17 (some 22) ?_
 refine zp 20 (some 25) ?_
 refine zp 22 (some 27) ?_
 refine zp 25 (some 30) ?_
 refine zp 27 (some 32) ?_
 refine zp 30 (some 35) ?_
 refine zp 32 (some 37) ?_
 refine zp 35 (some 40) ?_
 refine zp 37 (some 42) ?_
 refine zt16 1 (some 6) ?_
 refine zt16 3 (some 8) ?_
 refine zt16 6 (some 11) ?_
 refine zt16 8 (some 13) ?_
 refine zt16 11 (some 16) ?_
 refine zt16 13 (some 18) ?_
 refine zt16 16 (some 21) ?_
 refine zt16 18 (some 23) ?_
 refine zt16 21 (some 26) ?_
 refine zt16 23 (some 28) ?_
 refine zt16 26 (some 31) ?_
 refine zt16 28 (some 33) ?_
 refine zt16 31 (some 36) ?_
 refine zt16 33 (some 38) ?_
 refine zt16 36 (some 41) ?_
 refine zt16 38 (some 43) ?_
 refine z1 4 (some 9) (fun K hK => ?_)
 refine goes_ Tryz.func98 (by kernel_rfl) rfl #[.int .i64 a0_6, .int .i64 a1_6] (by rfl) rfl rfl zL ?_
 with_reducible refine (cmp_Compare_int64.calls a0_6 a1_6 t115 _ A3.out).mono ?_
 rintro e w' ⟨rfl, ⟨nd, rfl⟩⟩
 refine ⟨_, rfl, ?_⟩
 refine hK.out _ _ ⟨(blk_cell BK113.out 0).trans rfl, (blk_cell BK113.out 1).trans rfl, (blk_cell BK113.out 2).trans rfl, (blk_cell BK113.out 3).trans rfl, (blk_cell BK113.out 4).trans rfl, (blk_cell BK113.out 5).trans rfl, (blk_cell BK113.out 6).trans rfl, (blk_cell BK113.out 7).trans rfl, (blk_cell BK114.out 0).trans rfl, (blk_cell BK114.out 1).trans rfl, (blk_cell BK114.out 2).trans rfl, (blk_cell BK114.out 3).trans rfl, (blk_cell BK114.out 4).trans rfl, (blk_cell BK114.out 5).trans rfl, (blk_cell BK114.out 6).trans rfl, (blk_cell BK114.out 7).trans rfl⟩ (fun hHeld => ?_)
 clear hK K
 refine norm_ (a' := ?_) ?_ ?_
 rotate_left
 ·show Act.put _ (some 9) _ = _
  simp only [Act.put, List.setIfInBounds_toArray, List.set_cons_zero, List.set_cons_succ, i64_w, i32_w]
  rfl
 refine z1 9 (some 14) (fun K hK => ?_)
 refine goes_ Tryz.func99 (by kernel_rfl) rfl #[.int .u64 a0_1, .int .u64 a1_1] (by rfl) rfl rfl zL ?_
 with_reducible refine (cmp_Compare_uint64.calls a0_1 a1_1 t116 _ A4.out).mono ?_
 rintro e w' ⟨rfl, ⟨nd, rfl⟩⟩
 refine ⟨_, rfl, ?_⟩
 refine hK.out _ _ ⟨(blk_cell BK113.out 0).trans rfl, (blk_cell BK113.out 1).trans rfl, (blk_cell BK113.out 2).trans rfl, (blk_cell BK113.out 3).trans rfl, (blk_cell BK113.out 4).trans rfl, (blk_cell BK113.out 5).trans rfl, (blk_cell BK113.out 6).trans rfl, (blk_cell BK113.out 7).trans rfl, (blk_cell BK114.out 0).trans rfl, (blk_cell BK114.out 1).trans rfl, (blk_cell BK114.out 2).trans rfl, (blk_cell BK114.out 3).trans rfl, (blk_cell BK114.out 4).trans rfl, (blk_cell BK114.out 5).trans rfl, (blk_cell BK114.out 6).trans rfl, (blk_cell BK114.out 7).trans rfl⟩ (fun hHeld => ?_)
 clear hK K
 refine norm_ (a' := ?_) ?_ ?_
 rotate_left
 ·show Act.put _ (some 14) _ = _
  simp only [Act.put, List.setIfInBounds_toArray, List.set_cons_zero, List.set_cons_succ, i64_w, i32_w]
  rfl
 refine z1 14 (some 19) (fun K hK => ?_)
 refine goes_ Tryz.func99 (by kernel_rfl) rfl #[.int .u64 a0_2, .int .u64 a1_2] (by rfl) rfl rfl zL ?_
 with_reducible refine (cmp_Compare_uint64.calls a0_2 a1_2 t117 _ A5.out).mono ?_
 rintro e w' ⟨rfl, ⟨nd, rfl⟩⟩
 refine ⟨_, rfl, ?_⟩
 refine hK.out _ _ ⟨(blk_cell BK113.out 0).trans rfl, (blk_cell BK113.out 1).trans rfl, (blk_cell BK113.out 2).trans rfl, (blk_cell BK113.out 3).trans rfl, (blk_cell BK113.out 4).trans rfl, (blk_cell BK113.out 5).trans rfl, (blk_cell BK113.out 6).trans rfl, (blk_cell BK113.out 7).trans rfl, (blk_cell BK114.out 0).trans rfl, (blk_cell BK114.out 1).trans rfl, (blk_cell BK114.out 2).trans rfl, (blk_cell BK114.out 3).trans rfl, (blk_cell BK114.out 4).trans rfl, (blk_cell BK114.out 5).trans rfl, (blk_cell BK114.out 6).trans rfl, (blk_cell BK114.out 7).trans rfl⟩ (fun hHeld => ?_)
 clear hK K
 refine norm_ (a' := ?_) ?_ ?_
 rotate_left
 ·show Act.put _ (some 19) _ = _
  simp only [Act.put, List.setIfInBounds_toArray, List.set_cons_zero, List.set_cons_succ, i64_w, i32_w]
  rfl
 refine z1 19 (some 24) (fun K hK => ?_)
 refine goes_ Tryz.func100 (by kernel_rfl) rfl #[.int .u8 a0_3, .int .u8 a1_3] (by rfl) rfl rfl zL ?_
 with_reducible refine (cmp_Compare_uint8.calls a0_3 a1_3 t118 _ A6.out).mono ?_
 rintro e w' ⟨rfl, ⟨nd, rfl⟩⟩
 refine ⟨_, rfl, ?_⟩
 refine hK.out _ _ ⟨(blk_cell BK113.out 0).trans rfl, (blk_cell BK113.out 1).trans rfl, (blk_cell BK113.out 2).trans rfl, (blk_cell BK113.out 3).trans rfl, (blk_cell BK113.out 4).trans rfl, (blk_cell BK113.out 5).trans rfl, (blk_cell BK113.out 6).trans rfl, (blk_cell BK113.out 7).trans rfl, (blk_cell BK114.out 0).trans rfl, (blk_cell BK114.out 1).trans rfl, (blk_cell BK114.out 2).trans rfl, (blk_cell BK114.out 3).trans rfl, (blk_cell BK114.out 4).trans rfl, (blk_cell BK114.out 5).trans rfl, (blk_cell BK114.out 6).trans rfl, (blk_cell BK114.out 7).trans rfl⟩ (fun hHeld => ?_)
 clear hK K
 refine norm_ (a' := ?_) ?_ ?_
 rotate_left
 ·show Act.put _ (some 24) _ = _
  simp only [Act.put, List.setIfInBounds_toArray, List.set_cons_zero, List.set_cons_succ, i64_w, i32_w]
  rfl
 refine z1 24 (some 29) (fun K hK => ?_)
 refine goes_ Tryz.func98 (by kernel_rfl) rfl #[.int .i64 a0_7, .int .i64 a1_7] (by rfl) rfl rfl zL ?_
 with_reducible refine (cmp_Compare_int64.calls a0_7 a1_7 t119 _ A7.out).mono ?_
 rintro e w' ⟨rfl, ⟨nd, rfl⟩⟩
 refine ⟨_, rfl, ?_⟩
 refine hK.out _ _ ⟨(blk_cell BK113.out 0).trans rfl, (blk_cell BK113.out 1).trans rfl, (blk_cell BK113.out 2).trans rfl, (blk_cell BK113.out 3).trans rfl, (blk_cell BK113.out 4).trans rfl, (blk_cell BK113.out 5).trans rfl, (blk_cell BK113.out 6).trans rfl, (blk_cell BK113.out 7).trans rfl, (blk_cell BK114.out 0).trans rfl, (blk_cell BK114.out 1).trans rfl, (blk_cell BK114.out 2).trans rfl, (blk_cell BK114.out 3).trans rfl, (blk_cell BK114.out 4).trans rfl, (blk_cell BK114.out 5).trans rfl, (blk_cell BK114.out 6).trans rfl, (blk_cell BK114.out 7).trans rfl⟩ (fun hHeld => ?_)
 clear hK K
 refine norm_ (a' := ?_) ?_ ?_
 rotate_left
 ·show Act.put _ (some 29) _ = _
  simp only [Act.put, List.setIfInBounds_toArray, List.set_cons_zero, List.set_cons_succ, i64_w, i32_w]
  rfl
 refine z1 29 (some 34) (fun K hK => ?_)
 refine goes_ Tryz.func101 (by kernel_rfl) rfl #[.string a0_4, .string a1_4] (by rfl) rfl rfl zL ?_
 with_reducible refine (strings_Compare.calls a0_4 a1_4 t120 _ A8.out).mono ?_
 rintro e w' ⟨rfl, ⟨nd, rfl⟩⟩
 refine ⟨_, rfl, ?_⟩
 refine hK.out _ _ ⟨(blk_cell BK113.out 0).trans rfl, (blk_cell BK113.out 1).trans rfl, (blk_cell BK113.out 2).trans rfl, (blk_cell BK113.out 3).trans rfl, (blk_cell BK113.out 4).trans rfl, (blk_cell BK113.out 5).trans rfl, (blk_cell BK113.out 6).trans rfl, (blk_cell BK113.out 7).trans rfl, (blk_cell BK114.out 0).trans rfl, (blk_cell BK114.out 1).trans rfl, (blk_cell BK114.out 2).trans rfl, (blk_cell BK114.out 3).trans rfl, (blk_cell BK114.out 4).trans rfl, (blk_cell BK114.out 5).trans rfl, (blk_cell BK114.out 6).trans rfl, (blk_cell BK114.out 7).trans rfl⟩ (fun hHeld => ?_)
 clear hK K
 refine norm_ (a' := ?_) ?_ ?_
 rotate_left
 ·show Act.put _ (some 34) _ = _
  simp only [Act.put, List.setIfInBounds_toArray, List.set_cons_zero, List.set_cons_succ, i64_w, i32_w]
  rfl
 refine z1 34 (some 39) (fun K hK => ?_)
 refine goes_ Tryz.func101 (by kernel_rfl) rfl #[.string a0_5, .string a1_5] (by rfl) rfl rfl zL ?_
 with_reducible refine (strings_Compare.calls a0_5 a1_5 t121 _ A9.out).mono ?_
 rintro e w' ⟨rfl, ⟨nd, rfl⟩⟩
 refine ⟨_, rfl, ?_⟩
 refine hK.out _ _ ⟨(blk_cell BK113.out 0).trans rfl, (blk_cell BK113.out 1).trans rfl, (blk_cell BK113.out 2).trans rfl, (blk_cell BK113.out 3).trans rfl, (blk_cell BK113.out 4).trans rfl, (blk_cell BK113.out 5).trans rfl, (blk_cell BK113.out 6).trans rfl, (blk_cell BK113.out 7).trans rfl, (blk_cell BK114.out 0).trans rfl, (blk_cell BK114.out 1).trans rfl, (blk_cell BK114.out 2).trans rfl, (blk_cell BK114.out 3).trans rfl, (blk_cell BK114.out 4).trans rfl, (blk_cell BK114.out 5).trans rfl, (blk_cell BK114.out 6).trans rfl, (blk_cell BK114.out 7).trans rfl⟩ (fun hHeld => ?_)
 clear hK K
 refine norm_ (a' := ?_) ?_ ?_
 rotate_left
 ·show Act.put _ (some 39) _ = _
  simp only [Act.put, List.setIfInBounds_toArray, List.set_cons_zero, List.set_cons_succ, i64_w, i32_w]
  rfl
 refine z1 39 (some 44) (fun K hK => ?_)
 refine goes_ Tryz.func99 (by kernel_rfl) rfl #[.int .u64 a0_0, .int .u64 a1_0] (by rfl) rfl rfl zL ?_
 with_reducible refine (cmp_Compare_uint64.calls a0_0 a1_0 t122 _ A10.out).mono ?_
 rintro e w' ⟨rfl, ⟨nd, rfl⟩⟩
 refine ⟨_, rfl, ?_⟩
 refine hK.out _ _ ⟨(blk_cell BK113.out 0).trans rfl, (blk_cell BK113.out 1).trans rfl, (blk_cell BK113.out 2).trans rfl, (blk_cell BK113.out 3).trans rfl, (blk_cell BK113.out 4).trans rfl, (blk_cell BK113.out 5).trans rfl, (blk_cell BK113.out 6).trans rfl, (blk_cell BK113.out 7).trans rfl, (blk_cell BK114.out 0).trans rfl, (blk_cell BK114.out 1).trans rfl, (blk_cell BK114.out 2).trans rfl, (blk_cell BK114.out 3).trans rfl, (blk_cell BK114.out 4).trans rfl, (blk_cell BK114.out 5).trans rfl, (blk_cell BK114.out 6).trans rfl, (blk_cell BK114.out 7).trans rfl⟩ (fun hHeld => ?_)
 clear hK K
 refine norm_ (a' := ?_) ?_ ?_
 rotate_left
 ·show Act.put _ (some 44) _ = _
  simp only [Act.put, List.setIfInBounds_toArray, List.set_cons_zero, List.set_cons_succ, i64_w, i32_w]
  rfl
 refine z1 40 (some 45) (fun K hK => ?_)
 refine Kd.R_lit_step (Kd.int .i64) _ 3 ?hg (N := 45) ?hd (xs := ([t115, t116, t117, t118, t119, t120, t121, t122] : List Int)) (inner := [.int .i64 t115, .int .i64 t116, .int .i64 t117, .int .i64 t118, .int .i64 t119, .int .i64 t120, .int .i64 t121, .int .i64 t122]) (ok := fun _ => True) (okp := fun _ => True) ?hr ?hp (fun _ hk => hk) trivial (Below.refl _ _) (Nat.le_refl _) (by simp) ?_; (case hd => rfl); (case hg => rfl); (case hr => first | (go_simp; done) | (go_simp; rfl)); (case hp => exact (Reps.one (show Kd.M (Kd.int .i64) _ _ _ t115 [.int .i64 t115] from rfl) (Reps.one (show Kd.M (Kd.int .i64) _ _ _ t116 [.int .i64 t116] from rfl) (Reps.one (show Kd.M (Kd.int .i64) _ _ _ t117 [.int .i64 t117] from rfl) (Reps.one (show Kd.M (Kd.int .i64) _ _ _ t118 [.int .i64 t118] from rfl) (Reps.one (show Kd.M (Kd.int .i64) _ _ _ t119 [.int .i64 t119] from rfl) (Reps.one (show Kd.M (Kd.int .i64) _ _ _ t120 [.int .i64 t120] from rfl) (Reps.one (show Kd.M (Kd.int .i64) _ _ _ t121 [.int .i64 t121] from rfl) (Reps.one (show Kd.M (Kd.int .i64) _ _ _ t122 [.int .i64 t122] from rfl) (Reps.none _ _))))))))))
 intro v124 w15 ho16 hb hg_ hnew_
 clear hg_ hnew_
 (first | rw [← Ny123.out] at ho16 | (simp only [Int.reduceToNat] at ho16; rw [← Ny123.out] at ho16))
 have HO125 := Aside0.mk (Kd.R_lower ho16 (below_size (zG2 GE113.out GE114.out)))
 replace BK113 := Aside0.mk (zKb BK113.out hb)
 replace BK114 := Aside0.mk (zKb BK114.out hb)
 replace HB := Aside0.mk (below_step (zG2 GE113.out GE114.out) hb)
 clear hb ho16
 obtain ⟨Ao17, co17, eo17⟩ := Kd.R_slice HO125.out
 (first | subst eo17 | (injection eo17 with f1_ f2_ f3_; have f4_ := f1_.symm; have f5_ := f3_.symm; clear f1_ f2_ f3_; subst f4_; subst f5_))
 refine hK.out _ _ ⟨(blk_cell BK113.out 0).trans rfl, (blk_cell BK113.out 1).trans rfl, (blk_cell BK113.out 2).trans rfl, (blk_cell BK113.out 3).trans rfl, (blk_cell BK113.out 4).trans rfl, (blk_cell BK113.out 5).trans rfl, (blk_cell BK113.out 6).trans rfl, (blk_cell BK113.out 7).trans rfl, (blk_cell BK114.out 0).trans rfl, (blk_cell BK114.out 1).trans rfl, (blk_cell BK114.out 2).trans rfl, (blk_cell BK114.out 3).trans rfl, (blk_cell BK114.out 4).trans rfl, (blk_cell BK114.out 5).trans rfl, (blk_cell BK114.out 6).trans rfl, (blk_cell BK114.out 7).trans rfl⟩ (fun hHeld => ?_)
 clear hK K
 refine norm_ (a' := ?_) ?_ ?_
 rotate_left
 ·show Act.put _ (some 45) _ = _
  simp only [Act.put, List.setIfInBounds_toArray, List.set_cons_zero, List.set_cons_succ, i64_w, i32_w]
  rfl
 refine z1 41 (some 46) (fun K hK => ?_)
 refine goes_ Tryz.func97 (by kernel_rfl) rfl #[.slice Ao17 y123.length co17] (by rfl) rfl rfl zL ?_
 with_reducible refine (span_first.calls k _ _ y123 t126 _ ?side1 ?side2 A11.out).mono ?_
 (case side1 => exact zC ((Kd.R_reads' HO125.out).2.2))
 (case side2 => exact (Kd.R_reads' HO125.out).2.1)
 rintro e w' ⟨rfl, ⟨nd, rfl⟩⟩
 refine ⟨_, rfl, ?_⟩
 refine hK.out _ _ ⟨(blk_cell BK113.out 0).trans rfl, (blk_cell BK113.out 1).trans rfl, (blk_cell BK113.out 2).trans rfl, (blk_cell BK113.out 3).trans rfl, (blk_cell BK113.out 4).trans rfl, (blk_cell BK113.out 5).trans rfl, (blk_cell BK113.out 6).trans rfl, (blk_cell BK113.out 7).trans rfl, (blk_cell BK114.out 0).trans rfl, (blk_cell BK114.out 1).trans rfl, (blk_cell BK114.out 2).trans rfl, (blk_cell BK114.out 3).trans rfl, (blk_cell BK114.out 4).trans rfl, (blk_cell BK114.out 5).trans rfl, (blk_cell BK114.out 6).trans rfl, (blk_cell BK114.out 7).trans rfl⟩ (fun hHeld => ?_)
 clear hK K
 refine norm_ (a' := ?_) ?_ ?_
 rotate_left
 ·show Act.put _ (some 46) _ = _
  simp only [Act.put, List.setIfInBounds_toArray, List.set_cons_zero, List.set_cons_succ, i64_w, i32_w]
  rfl
 refine zp 42 (some 4) ?_
 refine done_ (done_of HT_.out (by kernel_rfl)) ?_
 try go_wp2
 go_ret
 exact ⟨zV, zG2 GE113.out GE114.out⟩
end Go.Proofs.YtgknjgionicncaaGreat.Q
namespace Go.Proofs.YtgknjgionicncaaGreat.L
open Go.RowKit Go.Proofs.YtgknjgionicncaaGreat.Q Go.Proofs.YtgknjgionicncaaGreatW.PrintWords Go.Proofs.YtgknjgionicncaaGreatW.PrintLast Go.Proofs.YtgknjgionicncaaGreatW.PrintMore Go.Proofs.YtgknjgionicncaaGreatW.Lib
set_option linter.unusedVariables false
def letterB (c : Int) : Bool := (decide (97 ≤ c) && decide (c ≤ 122)) || (decide (48 ≤ c) && decide (c ≤ 57)) || decide (c = 45) || decide (c = 46) || decide (c = 95)
theorem letter_f (c : Int) : span_letter.f c = some (letterB c) := by
 unfold span_letter.f letterB
 repeat' split
 all_goals (rw [Option.some.injEq, Bool.eq_iff_iff]; simp; omega)
def nameB (s : ByteArray) : Bool := decide (1 ≤ s.size) && decide (s.size ≤ 16) && (bytesOf s).all letterB
theorem name_l0 (s : ByteArray) (hs : s.size ≤ 140737488351232) : ∀ (d i : Nat), s.size - i = d → i ≤ s.size → Ev (fun k => span_Name.l0 k s (s.size : Int) (i : Int)) (((bytesOf s).drop i).all letterB)
 | 0, i, hd, hi => by
  refine Ev.step (f := fun _ => some true) (fun k => ?_) (Ev.cast (Ev.now true) ?_)
  ·simp only [span_Name.l0]; rw [if_neg (by omega)]
  ·rw [List.drop_of_length_le (by rw [bytesOf_size]; omega)]; rfl
 | d + 1, i, hd, hi => by
  have ih := name_l0 s hs d (i + 1) (by omega) (by omega)
  rw [bytesOf_drop s i (by omega), List.all_cons]
  refine Ev.step (f := fun k => if letterB (bt s i) = true then span_Name.l0 k s (s.size : Int) ((i + 1 : Nat) : Int) else some false) (fun k => ?_) ?_
  ·simp only [span_Name.l0]
   rw [if_pos (by omega), if_pos (by omega), if_pos (by omega), letter_f]
   simp only [Option.bind_some]
   rw [wrap_id (by omega) (by omega)]; rfl
  ·refine Ev.ite (fun h => ?_) (fun h => ?_)
   ·rw [h, Bool.true_and]; exact ih
   ·rw [Bool.not_eq_true] at h; rw [h, Bool.false_and]; exact Ev.now _
theorem name_ev (s : ByteArray) (hs : s.size ≤ 140737488351232) : Ev (fun k => span_Name.f k s) (nameB s) := by
 unfold span_Name.f nameB
 refine Ev.ite (fun h => ?_) (fun h => ?_)
 ·refine Ev.step (f := fun _ => some false) (fun k => by simp [span_Name.j0]) (Ev.cast (Ev.now _) ?_)
  rw [decide_eq_false (by omega : ¬ 1 ≤ s.size)]; rfl
 ·refine Ev.step (f := fun k => if decide ((s.size : Int) > 16) = true then some false else span_Name.l0 k s (s.size : Int) 0) (fun k => by simp only [span_Name.j0]) ?_
  refine Ev.ite (fun h2 => ?_) (fun h2 => ?_)
  ·have h3 := of_decide_eq_true h2
   refine Ev.cast (Ev.now _) ?_
   rw [decide_eq_false (by omega : ¬ s.size ≤ 16)]; simp
  ·have h3 : ¬ ((s.size : Int) > 16) := fun h4 => h2 (decide_eq_true h4)
   have := name_l0 s hs s.size 0 (by omega) (by omega)
   rw [decide_eq_true (by omega : 1 ≤ s.size), decide_eq_true (by omega : s.size ≤ 16)]
   simpa using this
def mayB (t i p k : Int) (h n : ByteArray) (s d : Int) : Bool :=
 !(decide (t = 0) || decide (i = 0) || decide (p = i) || decide (k > 2)) && (!(decide (s < 0) || decide (s ≥ 1125899906842624) || decide (d < 0) || decide (d > 1125899906842624)) && (nameB h && nameB n))
theorem may_j1 (b : Bool) (t i p k : Int) (h n : ByteArray) (s d : Int) (hh : h.size ≤ 140737488351232) (hn : n.size ≤ 140737488351232) :
  Ev (fun m => span_May.j1 m b t i p k h n s d) (!b && (nameB h && nameB n)) := by
 refine Ev.step (f := fun m => if b = true then some false else (span_Name.f m h).bind fun x => if x = true then (span_Name.f m n).bind fun y => some y else some false) (fun m => by simp only [span_May.j1]) ?_
 refine Ev.ite (fun e => ?_) (fun e => ?_)
 ·exact Ev.cast (Ev.now _) (by rw [e]; rfl)
 ·refine Ev.bind (name_ev h hh) (Ev.ite (fun e1 => ?_) (fun e1 => ?_))
  ·refine Ev.cast (Ev.bind (name_ev n hn) (Ev.now _)) ?_
   rw [Bool.not_eq_true] at e; rw [e, e1]; rfl
  ·exact Ev.cast (Ev.now _) (by rw [Bool.not_eq_true] at e1; rw [e1]; simp)
theorem may_j0 (b : Bool) (t i p k : Int) (h n : ByteArray) (s d : Int) (hh : h.size ≤ 140737488351232) (hn : n.size ≤ 140737488351232) :
  Ev (fun m => span_May.j0 m b t i p k h n s d) (!b && (!(decide (s < 0) || decide (s ≥ 1125899906842624) || decide (d < 0) || decide (d > 1125899906842624)) && (nameB h && nameB n))) := by
 refine Ev.step (f := fun m => if b = true then some false else if s < 0 then span_May.j1 m (decide (s < 0)) t i p k h n s d else if s ≥ 1125899906842624 then span_May.j1 m (decide (s ≥ 1125899906842624)) t i p k h n s d else if d < 0 then span_May.j1 m (decide (d < 0)) t i p k h n s d else span_May.j1 m (decide (d > 1125899906842624)) t i p k h n s d) (fun m => by simp only [span_May.j0]) ?_
 refine Ev.ite (fun e => Ev.cast (Ev.now _) (by rw [e]; rfl)) (fun e => ?_)
 rw [Bool.not_eq_true] at e
 rw [e]
 refine Ev.ite (fun e1 => Ev.cast (may_j1 _ t i p k h n s d hh hn) (by simp [e1])) (fun e1 => ?_)
 refine Ev.ite (fun e2 => Ev.cast (may_j1 _ t i p k h n s d hh hn) (by simp [e2])) (fun e2 => ?_)
 refine Ev.ite (fun e3 => Ev.cast (may_j1 _ t i p k h n s d hh hn) (by simp [e3])) (fun e3 => ?_)
 exact Ev.cast (may_j1 _ t i p k h n s d hh hn) (by simp [e1, e2, e3])
theorem may_ev (t i p k : Int) (h n : ByteArray) (s d : Int) (hh : h.size ≤ 140737488351232) (hn : n.size ≤ 140737488351232) :
  Ev (fun m => span_May.f m t i p k h n s d) (mayB t i p k h n s d) := by
 unfold span_May.f mayB
 refine Ev.ite (fun e1 => Ev.cast (may_j0 _ t i p k h n s d hh hn) (by simp [e1])) (fun e1 => ?_)
 refine Ev.ite (fun e2 => Ev.cast (may_j0 _ t i p k h n s d hh hn) (by simp [e2])) (fun e2 => ?_)
 refine Ev.ite (fun e3 => Ev.cast (may_j0 _ t i p k h n s d hh hn) (by simp [e3])) (fun e3 => ?_)
 exact Ev.cast (may_j0 _ t i p k h n s d hh hn) (by simp [e1, e2, e3])
theorem mayB_le {t i p k : Int} {h n : ByteArray} {s d : Int} (hm : mayB t i p k h n s d = true) : 0 ≤ s ∧ s < 1125899906842624 ∧ 0 ≤ d ∧ d ≤ 1125899906842624 := by
 simp [mayB] at hm; omega
def mayS (s : S36) : Bool := mayB s.f0 s.f1 s.f2 s.f3 s.f4 s.f5 s.f6 s.f7
theorem mayS_ev (l : List S36) (h : ∀ x ∈ l, fitS x) : ∀ s ∈ l, ∃ k, span_May.f k s.f0 s.f1 s.f2 s.f3 s.f4 s.f5 s.f6 s.f7 = some (mayS s) :=
 fun s hs => Ev.rounds (may_ev _ _ _ _ _ _ _ _ (h s hs).2.1 (h s hs).2.2)
def mayA (l : List S36) : Bool := l.all mayS
def fitR (x : S36) : Prop := fitS x ∧ 0 ≤ x.f3
instance : DecidablePred fitR := fun x => by unfold fitR; infer_instance
end Go.Proofs.YtgknjgionicncaaGreat.L
namespace Go.Proofs.YtgknjgionicncaaGreat.L
open Go.RowKit Go.Proofs.YtgknjgionicncaaGreat.Q Go.Proofs.YtgknjgionicncaaGreatW.PrintWords Go.Proofs.YtgknjgionicncaaGreatW.PrintLast Go.Proofs.YtgknjgionicncaaGreatW.PrintMore Go.Proofs.YtgknjgionicncaaGreatW.MapB Go.Proofs.YtgknjgionicncaaGreatW.Lib
set_option linter.unusedVariables false
set_option linter.unusedSimpArgs false
theorem claspan_calls (s : S36) (h : fitS s) (w : World) : Calls Tryz.prog 55 #[.agg #[.int .u64 s.f0, .int .u64 s.f1, .int .u64 s.f2, .int .u8 s.f3, .string s.f4, .string s.f5, .int .i64 s.f6, .int .i64 s.f7]] w fun e w' => e = .returned (.bool (mayS s)) ∧ Below w.heap.size w w' := by
 obtain ⟨k, hk⟩ := Ev.rounds (may_ev s.f0 s.f1 s.f2 s.f3 s.f4 s.f5 s.f6 s.f7 h.2.1 h.2.2)
 exact span_May.calls k _ _ _ _ _ _ _ _ _ w hk
set_option maxRecDepth 100000 in
theorem clamay_calls (s : S36) (h : fitS s) (w : World) : Calls Tryz.prog 91 #[.agg #[.int .u64 s.f0, .int .u64 s.f1, .int .u64 s.f2, .int .u8 s.f3, .string s.f4, .string s.f5, .int .i64 s.f6, .int .i64 s.f7]] w fun e w' => e = .returned (.bool (!mayS s)) ∧ Below w.heap.size w w' := by
 have HB := Aside0.mk (Below.refl w.heap.size w)
 have QM := Aside0.mk (claspan_calls s h)
 clear h
 go_enter Tryz.func91, Tryz.ntmps91
 go_wp2_with (go_at_call 55; refine (QM.out _).mono ?_; rintro e w1 ⟨rfl, hb⟩; have HB1 := Aside0.mk (below_step (below_alloc HB.out _) hb); clear hb)
 go_ret
 exact ⟨rfl, HB1.out⟩
set_option maxHeartbeats 4000000 in
set_option maxRecDepth 100000 in
theorem cla_index  (es : List S36) (hn : es.length ≤ 1000000000) (A0 : Option Addr) (c0 : Nat) (w : World) (hr0 : Kd.C k36 w A0 es.length es)
  (QL0 : ∀ e ∈ es, ∀ W, Below w.heap.size w W → Calls Tryz.prog 91 #[.agg #[.int .u64 e.f0, .int .u64 e.f1, .int .u64 e.f2, .int .u8 e.f3, .string e.f4, .string e.f5, .int .i64 e.f6, .int .i64 e.f7]] W fun r w' => r = .returned (.bool ((fun s => !mayS s) e)) ∧ Below W.heap.size W w') :
  Calls Tryz.prog 127 #[.slice A0 es.length c0, .func (.func 91) #[] #[]] w fun r w' => ∃ i : Int, r = .returned (.int .i64 i) ∧ decide (0 ≤ i) = es.any (fun s => !mayS s) ∧ Below w.heap.size w w' := by
 have HB0 := Aside0.mk (Below.refl w.heap.size w)
 have HR0 := Aside0.mk hr0
 have HN := Aside0.mk hn
 have QL := Aside0.mk QL0
 clear hr0 hn QL0
 generalize hpp : (fun s => !mayS s) = pp at *
 clear hpp
 go_enter Tryz.func127, Tryz.ntmps127
 go_wp2_with fail
 go_loopg [8] es.length (fun kq v8 w' => ∃ x8 : Int, v8 = .int .i64 x8 ∧ Aside0 (0 ≤ x8 ∧ x8 + kq = es.length) ∧ Aside0 (∀ e ∈ es.take x8.toNat, pp e = false) ∧ Aside0 (Below w.heap.size w w'))
 case atStart => exact ⟨0, rfl, ⟨by omega, by omega⟩, ⟨by simp⟩, HB0⟩
 case round =>
  obtain ⟨x8, rfl, HK, HA, HB⟩ := hrel
  by_cases c1 : x8 < (es.length : Int)
  ·have c1b := decide_eq_true c1
   have p1 : 0 ≤ x8 := HK.out.1
   obtain ⟨ad, e1, hx0, hx1, hx2, hx3, hx4, hx5, hx6, hx7⟩ := at_T36 HR0.out x8 p1 c1
   cases e1
   replace hx0 := zc HB.out hx0
   replace hx1 := zc HB.out hx1
   replace hx2 := zc HB.out hx2
   replace hx3 := zc HB.out hx3
   replace hx4 := zc HB.out hx4
   replace hx5 := zc HB.out hx5
   replace hx6 := zc HB.out hx6
   replace hx7 := zc HB.out hx7
   have hit : x8.toNat < es.length := by omega
   have hev : rd_T36 es x8 = es[x8.toNat] := by simp [rd_T36, List.getD, hit]
   have hem : rd_T36 es x8 ∈ es := by rw [hev]; exact List.getElem_mem _
   have HE := Aside0.mk (show es.take (x8 + 1).toNat = es.take x8.toNat ++ [rd_T36 es x8] from by
    rw [show (x8 + 1).toNat = x8.toNat + 1 by omega, List.take_succ_eq_append_getElem hit, hev])
   have QE := Aside0.mk (QL.out _ hem wr HB.out)
   have HM := Aside0.mk hem
   have P1 := Aside0.mk p1
   have Q1 := Aside0.mk c1
   have W1 := Aside0.mk (show wrap64 (x8 + 1) = x8 + 1 from by unfold wrap64; have := HN.out; have := P1.out; have := Q1.out; omega)
   clear hev hem hit
   generalize rd_T36 es x8 = e at *
   replace p1 := eq_true p1
   replace c1 := eq_true c1
   obtain ⟨k1, rfl⟩ : ∃ k1, gk = k1 + 1 := ⟨gk - 1, by have := HK.out; have := Q1.out; omega⟩
   cases hq : pp e with
   | false =>
    rw [hq] at QE
    have HQ := Aside0.mk hq
    clear hq
    go_wp2_with (go_at_call 91; refine QE.out.mono ?_; rintro r w1 ⟨rfl, hb⟩; have HB1 := Aside0.mk (below_step HB.out hb); clear hb)
    go_roundg k1
    case measure => omega
    case rel => exact ⟨x8 + 1, by rw [W1.out], ⟨by have := P1.out; omega, by have := HK.out; omega⟩, ⟨by
     rw [HE.out]
     intro y hy
     rcases List.mem_append.1 hy with h | h
     ·exact HA.out y h
     ·rw [List.mem_singleton.1 h]; exact HQ.out⟩, HB1⟩
   | true =>
    rw [hq] at QE
    have HQ := Aside0.mk hq
    clear hq
    go_wp2_with (go_at_call 91; refine QE.out.mono ?_; rintro r w1 ⟨rfl, hb⟩; have HB1 := Aside0.mk (below_step HB.out hb); clear hb)
    go_ret
    refine ⟨x8, rfl, ?_, HB1.out⟩
    rw [decide_eq_true P1.out]
    exact (List.any_eq_true.2 ⟨e, HM.out, HQ.out⟩).symm
  ·have c1b := decide_eq_false c1
   have hx : x8.toNat = es.length := by have := HK.out; omega
   have ha := HA.out
   rw [hx, List.take_length] at ha
   have HAll := Aside0.mk ha
   clear ha hx c1
   go_wp2_with fail
   go_ret
   refine ⟨-1, rfl, ?_, HB.out⟩
   exact (List.any_eq_false.2 (fun e he => by rw [HAll.out e he]; simp)).symm
set_option maxHeartbeats 2000000 in
set_option maxRecDepth 100000 in
theorem cla_contains  (es : List S36) (hn : es.length ≤ 1000000000) (A0 : Option Addr) (c0 : Nat) (w : World) (hr0 : Kd.C k36 w A0 es.length es)
  (QL0 : ∀ e ∈ es, ∀ W, Below w.heap.size w W → Calls Tryz.prog 91 #[.agg #[.int .u64 e.f0, .int .u64 e.f1, .int .u64 e.f2, .int .u8 e.f3, .string e.f4, .string e.f5, .int .i64 e.f6, .int .i64 e.f7]] W fun r w' => r = .returned (.bool ((fun s => !mayS s) e)) ∧ Below W.heap.size W w') :
  Calls Tryz.prog 90 #[.slice A0 es.length c0, .func (.func 91) #[] #[]] w fun r w' => r = .returned (.bool (es.any (fun s => !mayS s))) ∧ Below w.heap.size w w' := by
 have HB0 := Aside0.mk (Below.refl w.heap.size w)
 have QI := Aside0.mk (cla_index  es hn A0 c0 w hr0 QL0)
 clear hn hr0 QL0
 go_enter Tryz.func90, Tryz.ntmps90
 go_wp2_with (go_at_call 127; refine QI.out.mono ?_; rintro r w1 ⟨i, rfl, hd, hb⟩; have HD := Aside0.mk hd; have HB2 := Aside0.mk hb; clear hb hd)
 go_ret
 refine ⟨?_, HB2.out⟩
 rw [← HD.out]
 rfl
end Go.Proofs.YtgknjgionicncaaGreat.L
namespace Go.Proofs.YtgknjgionicncaaGreat.L
open Go.RowKit Go.Proofs.YtgknjgionicncaaGreat.Q Go.Proofs.YtgknjgionicncaaGreatW.PrintWords
set_option linter.unusedVariables false
abbrev Span := S36
theorem rdS_nat (l : List Span) (i : Nat) (h : i < l.length) : rd_T36 l (i : Int) = l[i] := by simp [rd_T36, List.getD, h]
end Go.Proofs.YtgknjgionicncaaGreat.L
namespace Go.Proofs.YtgknjgionicncaaGreat.L
open Go.RowKit Go.Proofs.YtgknjgionicncaaGreat.Q Go.Proofs.YtgknjgionicncaaGreatW.PrintWords Go.Proofs.YtgknjgionicncaaGreatW.PrintLast Go.Proofs.YtgknjgionicncaaGreatW.PrintMore Go.Proofs.YtgknjgionicncaaGreatW.Lib
set_option linter.unusedVariables false
end Go.Proofs.YtgknjgionicncaaGreat.L
namespace Go.Proofs.YtgknjgionicncaaGreat.Q
open Go.RowKit Go.Proofs.YtgknjgionicncaaGreatW.PrintWords Go.Proofs.YtgknjgionicncaaGreatW.PrintLast Go.Proofs.YtgknjgionicncaaGreatW.PrintMore
attribute [local go_sem] max2_int min2_int max_two min_two max_three min_three max_four min_four
set_option linter.unusedVariables false
set_option linter.unusedSimpArgs false
theorem eqA36 (d : Nat) (w : World) (x0 y0 : Int) (x1 y1 : Int) (x2 y2 : Int) (x3 y3 : Int) (x4 y4 : ByteArray) (x5 y5 : ByteArray) (x6 y6 : Int) (x7 y7 : Int) :
  (Op.equalIn (d + 2) 36 (.agg #[.int .u64 x0, .int .u64 x1, .int .u64 x2, .int .u8 x3, .string x4, .string x5, .int .i64 x6, .int .i64 x7]) (.agg #[.int .u64 y0, .int .u64 y1, .int .u64 y2, .int .u8 y3, .string y4, .string y5, .int .i64 y6, .int .i64 y7])).run Tryz.prog w = .ok (x0 == y0 && (x1 == y1 && (x2 == y2 && (x3 == y3 && (x4.toList == y4.toList && (x5.toList == y5.toList && (x6 == y6 && (x7 == y7)))))))) w := by
 refine eqA_of Tryz.underlying36 (by kernel_rfl) ?_
 refine eqf_cons (by rfl) (by go_simp; rfl) (by go_simp; rfl) (by go_simp) ?_
 refine eqf_cons (by rfl) (by go_simp; rfl) (by go_simp; rfl) (by go_simp) ?_
 refine eqf_cons (by rfl) (by go_simp; rfl) (by go_simp; rfl) (by go_simp) ?_
 refine eqf_cons (by rfl) (by go_simp; rfl) (by go_simp; rfl) (by go_simp) ?_
 refine eqf_cons (by rfl) (by go_simp; rfl) (by go_simp; rfl) (by go_simp) ?_
 refine eqf_cons (by rfl) (by go_simp; rfl) (by go_simp; rfl) (by go_simp) ?_
 refine eqf_cons (by rfl) (by go_simp; rfl) (by go_simp; rfl) (by go_simp) ?_
 exact eqf_last (by rfl) (by go_simp; rfl) (by go_simp; rfl) (by go_simp)
attribute [local go_sem high] eqA36
def merkhetlaw04_Great.l0 : Nat → List (S36) → Int → Int → Option (Bool)
 | 0, _, _, _ => none
 | k + 1, x8, x9, x10 => if x10 < x9 then (if 0 ≤ x10 then (if x10 < (x8.length : Int) then (if (((rd_T36 x8 x10).f4).size : Int) > 100 then (some true) else (if (((rd_T36 x8 x10).f5).size : Int) > 100 then (some true) else (merkhetlaw04_Great.l0 k x8 x9 (wrap64 (x10 + 1))))) else (none)) else (none)) else (some false)
def merkhetlaw04_Great.f (k : Nat) (l0 : List (S36)) : Option (Bool) := if (l0.length : Int) > 60 then (some true) else (merkhetlaw04_Great.l0 k l0 (l0.length : Int) 0)
theorem merkhetlaw04_Great.mono_l : ∀ k, (∀ y0 y1 y2, LeO (merkhetlaw04_Great.l0 k y0 y1 y2) (merkhetlaw04_Great.l0 (k + 1) y0 y1 y2))
 | 0 => fun _ _ _ r h => by simp [merkhetlaw04_Great.l0] at h
 | k + 1 => by
  have ih0 := merkhetlaw04_Great.mono_l k
  ·intro y0 y1 y2
   unfold merkhetlaw04_Great.l0
   exact zM
theorem merkhetlaw04_Great.mono : ∀ a0 k, LeO (merkhetlaw04_Great.f k a0) (merkhetlaw04_Great.f (k + 1) a0) := by
 intro a0 k
 have ih0 := merkhetlaw04_Great.mono_l k
 unfold merkhetlaw04_Great.f
 exact zM
set_option maxHeartbeats 8000000 in
set_option maxRecDepth 100000 in
theorem merkhetlaw04_Great.calls (k : Nat) (A0 : Option Addr) (c0 : Nat) (l0 : List (S36)) (r : Bool) (w : World) (hr0 : Kd.C k36 w A0 l0.length l0) (hc0 : l0.length ≤ c0) (h : merkhetlaw04_Great.f k l0 = some r) :
  Calls Tryz.prog 9 #[.slice A0 l0.length c0] w fun e w' => e = .returned (.bool r) ∧ Below w.heap.size w w' := by
 have hu36 := Tryz.underlying36
 have HR0 := Aside0.mk hr0
 have HC0 := Aside0.mk hc0
 clear hr0 hc0
 have HB := Aside0.mk (Below.refl w.heap.size w)
 have H : (if (l0.length : Int) > 60 then (some true) else (merkhetlaw04_Great.l0 k l0 (l0.length : Int) 0)) = some r := h
 clear h
 by_cases c2 : (l0.length : Int) > 60
 ·rw [if_pos c2] at H
  have c2b0 : decide (60 < (l0.length : Int)) = true := decide_eq_true c2
  have c2b1 : decide (60 < l0.length) = true := decide_eq_true (by omega)
  clear c2
  obtain rfl := Option.some.inj H
  go_enter Tryz.func9, Tryz.ntmps9
  go_wp2
  go_ret
  exact ⟨zV, zB⟩
 ·rw [if_neg c2] at H
  have c2b0 : decide (60 < (l0.length : Int)) = false := decide_eq_false c2
  have c2b1 : decide (60 < l0.length) = false := decide_eq_false (by omega)
  clear c2
  have H' := Aside0.mk H
  clear H
  go_enter Tryz.func9, Tryz.ntmps9
  go_wp2
  go_loopg [10] k (fun kq v10 w' => ∃ (x10_1 : Int), v10 = .int .i64 x10_1 ∧ Aside0 (merkhetlaw04_Great.l0 kq l0 (l0.length : Int) x10_1 = some r) ∧ Aside0 (kq ≤ k) ∧ Aside0 (Below w.heap.size w w'))
  case atStart => exact ⟨(0), zE, H', ⟨Nat.le_refl _⟩, ⟨zB⟩⟩
  case round =>
   clear H'
   (try clear c2); (try clear c2b0); (try clear c2b1); (try clear p2)
   obtain ⟨x10_1, rfl, HA, HK1, HB⟩ := hrel
   cases gk with
   | zero => exact absurd HA.out (by simp [merkhetlaw04_Great.l0])
   | succ k1 =>
    have H := HA.out
    clear HA
    simp only [merkhetlaw04_Great.l0] at H
    by_cases c3 : x10_1 < (l0.length : Int)
    ·rw [if_pos c3] at H
     have c3b0 := decide_eq_true c3
     clear c3
     obtain ⟨c4b0, H⟩ := zt H
     obtain ⟨c5b0, H⟩ := zt H
     by_cases c6 : (((rd_T36 l0 x10_1).f4).size : Int) > 100
     ·rw [if_pos c6] at H
      have c6b0 : decide (100 < (((rd_T36 l0 x10_1).f4).size : Int)) = true := decide_eq_true c6
      have c6b1 : decide (100 < ((rd_T36 l0 x10_1).f4).size) = true := decide_eq_true (by omega)
      clear c6
      obtain rfl := Option.some.inj H
      have p193 : 0 ≤ (x10_1 : Int) := of_decide_eq_true zA
      have q193 : x10_1 < (l0.length : Int) := of_decide_eq_true zA
      obtain ⟨ad193, e193, hx193⟩ := at_T36 HR0.out x10_1 p193 q193
      cases e193
      obtain ⟨hx193_0, hx193_1, hx193_2, hx193_3, hx193_4, hx193_5, hx193_6, hx193_7⟩ := zc8 HB.out hx193
      replace p193 := eq_true p193
      replace q193 := eq_true q193
      go_wp2_with (first | ((with_reducible refine gate_dst (N := 4) rfl ?_); (try (refine gate_guard (by rfl) ?_; dsimp only)); refine zbox (N := 4) (cs := #[.int .u64 0, .int .u64 0, .int .u64 0, .int .u8 0, .string (⟨#[]⟩ : ByteArray), .string (⟨#[]⟩ : ByteArray), .int .i64 0, .int .i64 0]) (t := 36) ?_; intro gb194 hg w7 hbox hb; have BK194 := Aside0.mk (hbox); have GW194 := Aside0.mk ((by rw [hg]; exact (below_size zB) : w.heap.size ≤ gb194)); have GE194 := Aside0.mk ((by rw [hg]; exact (below_size zB) : w.heap.size ≤ gb194)); replace HB := Aside0.mk (below_step zB hb); clear hb hbox hg; obtain ⟨hcz8_0, hcz8_1, hcz8_2, hcz8_3, hcz8_4, hcz8_5, hcz8_6, hcz8_7, hfz8_0, hfz8_1, hfz8_2, hfz8_3, hfz8_4, hfz8_5, hfz8_6, hfz8_7⟩ := zb8 BK194.out))
      go_ret
      exact ⟨zV, zG GE194.out⟩
     ·rw [if_neg c6] at H
      have c6b0 : decide (100 < (((rd_T36 l0 x10_1).f4).size : Int)) = false := decide_eq_false c6
      have c6b1 : decide (100 < ((rd_T36 l0 x10_1).f4).size) = false := decide_eq_false (by omega)
      clear c6
      by_cases c9 : (((rd_T36 l0 x10_1).f5).size : Int) > 100
      ·rw [if_pos c9] at H
       have c9b0 : decide (100 < (((rd_T36 l0 x10_1).f5).size : Int)) = true := decide_eq_true c9
       have c9b1 : decide (100 < ((rd_T36 l0 x10_1).f5).size) = true := decide_eq_true (by omega)
       clear c9
       obtain rfl := Option.some.inj H
       have p193 : 0 ≤ (x10_1 : Int) := of_decide_eq_true zA
       have q193 : x10_1 < (l0.length : Int) := of_decide_eq_true zA
       obtain ⟨ad193, e193, hx193⟩ := at_T36 HR0.out x10_1 p193 q193
       cases e193
       obtain ⟨hx193_0, hx193_1, hx193_2, hx193_3, hx193_4, hx193_5, hx193_6, hx193_7⟩ := zc8 HB.out hx193
       replace p193 := eq_true p193
       replace q193 := eq_true q193
       go_wp2_with (first | ((with_reducible refine gate_dst (N := 4) rfl ?_); (try (refine gate_guard (by rfl) ?_; dsimp only)); refine zbox (N := 4) (cs := #[.int .u64 0, .int .u64 0, .int .u64 0, .int .u8 0, .string (⟨#[]⟩ : ByteArray), .string (⟨#[]⟩ : ByteArray), .int .i64 0, .int .i64 0]) (t := 36) ?_; intro gb194 hg w10 hbox hb; have BK194 := Aside0.mk (hbox); have GW194 := Aside0.mk ((by rw [hg]; exact (below_size zB) : w.heap.size ≤ gb194)); have GE194 := Aside0.mk ((by rw [hg]; exact (below_size zB) : w.heap.size ≤ gb194)); replace HB := Aside0.mk (below_step zB hb); clear hb hbox hg; obtain ⟨hcz11_0, hcz11_1, hcz11_2, hcz11_3, hcz11_4, hcz11_5, hcz11_6, hcz11_7, hfz11_0, hfz11_1, hfz11_2, hfz11_3, hfz11_4, hfz11_5, hfz11_6, hfz11_7⟩ := zb8 BK194.out))
       go_ret
       exact ⟨zV, zG GE194.out⟩
      ·rw [if_neg c9] at H
       have c9b0 : decide (100 < (((rd_T36 l0 x10_1).f5).size : Int)) = false := decide_eq_false c9
       have c9b1 : decide (100 < ((rd_T36 l0 x10_1).f5).size) = false := decide_eq_false (by omega)
       clear c9
       have H' := Aside0.mk H
       clear H
       have p193 : 0 ≤ (x10_1 : Int) := of_decide_eq_true zA
       have q193 : x10_1 < (l0.length : Int) := of_decide_eq_true zA
       obtain ⟨ad193, e193, hx193⟩ := at_T36 HR0.out x10_1 p193 q193
       cases e193
       obtain ⟨hx193_0, hx193_1, hx193_2, hx193_3, hx193_4, hx193_5, hx193_6, hx193_7⟩ := zc8 HB.out hx193
       replace p193 := eq_true p193
       replace q193 := eq_true q193
       go_wp2_with (first | ((with_reducible refine gate_dst (N := 4) rfl ?_); (try (refine gate_guard (by rfl) ?_; dsimp only)); refine zbox (N := 4) (cs := #[.int .u64 0, .int .u64 0, .int .u64 0, .int .u8 0, .string (⟨#[]⟩ : ByteArray), .string (⟨#[]⟩ : ByteArray), .int .i64 0, .int .i64 0]) (t := 36) ?_; intro gb194 hg w12 hbox hb; have BK194 := Aside0.mk (hbox); have GW194 := Aside0.mk ((by rw [hg]; exact (below_size zB) : w.heap.size ≤ gb194)); have GE194 := Aside0.mk ((by rw [hg]; exact (below_size zB) : w.heap.size ≤ gb194)); replace HB := Aside0.mk (below_step zB hb); clear hb hbox hg; obtain ⟨hcz13_0, hcz13_1, hcz13_2, hcz13_3, hcz13_4, hcz13_5, hcz13_6, hcz13_7, hfz13_0, hfz13_1, hfz13_2, hfz13_3, hfz13_4, hfz13_5, hfz13_6, hfz13_7⟩ := zb8 BK194.out))
       go_roundg k1
       case measure => have := HK1.out; omega
       case rel => exact ⟨(wrap64 (x10_1 + 1)), zE, H', ⟨by have := HK1.out; omega⟩, ⟨zG GE194.out⟩⟩
    ·rw [if_neg c3] at H
     have c3b0 := decide_eq_false c3
     clear c3
     obtain rfl := Option.some.inj H
     go_wp2
     go_ret
     exact ⟨zV, zB⟩
end Go.Proofs.YtgknjgionicncaaGreat.Q
namespace Go.Proofs.YtgknjgionicncaaGreat.L
open Go.RowKit Go.Proofs.YtgknjgionicncaaGreat.Q Go.Proofs.YtgknjgionicncaaGreatW.PrintWords Go.Proofs.YtgknjgionicncaaGreatW.PrintLast Go.Proofs.YtgknjgionicncaaGreatW.PrintMore Go.Proofs.YtgknjgionicncaaGreatW.Lib
set_option linter.unusedVariables false
def cmpS (a b : S36) : Int := firstNZ [cmpI a.f6 b.f6, cmpI a.f1 b.f1, cmpI a.f2 b.f2, cmpI a.f3 b.f3, cmpI a.f7 b.f7, cmpB a.f4 b.f4, cmpB a.f5 b.f5, cmpI a.f0 b.f0]
theorem cmpS_is : IsCmp cmpS := by
 have h := (lexC_is cmpI_is (lexC_is cmpI_is (lexC_is cmpI_is (lexC_is cmpI_is (lexC_is cmpI_is (lexC_is cmpB_is (lexC_is cmpB_is cmpI_is))))))).pull (fun x : S36 => (x.f6, x.f1, x.f2, x.f3, x.f7, x.f4, x.f5, x.f0)) (fun x y h => by
  cases x; cases y; simp at h; simp [h])
 have e : cmpS = fun x y => lexC cmpI (lexC cmpI (lexC cmpI (lexC cmpI (lexC cmpI (lexC cmpB (lexC cmpB cmpI)))))) (x.f6, x.f1, x.f2, x.f3, x.f7, x.f4, x.f5, x.f0) (y.f6, y.f1, y.f2, y.f3, y.f7, y.f4, y.f5, y.f0) := by
  funext x y
  have z : ∀ q : Int, (if q = 0 then (0 : Int) else q) = q := fun q => by split <;> omega
  simp only [cmpS, firstNZ, lexC, z]
 rw [e]; exact h
theorem cmpI64_f (a b : Int) : cmp_Compare_int64.f a b = some (cmpI a b) := by
 simp only [cmp_Compare_int64.f, cmp_isNaN_int64.f, Option.bind_some, bne_self_eq_false, Bool.false_eq_true, if_false, cmpI]
 (repeat' split) <;> rfl
theorem cmpU64_f (a b : Int) : cmp_Compare_uint64.f a b = some (cmpI a b) := by
 simp only [cmp_Compare_uint64.f, cmp_isNaN_uint64.f, Option.bind_some, bne_self_eq_false, Bool.false_eq_true, if_false, cmpI]
 (repeat' split) <;> rfl
theorem cmpU8_f (a b : Int) : cmp_Compare_uint8.f a b = some (cmpI a b) := by
 simp only [cmp_Compare_uint8.f, cmp_isNaN_uint8.f, Option.bind_some, bne_self_eq_false, Bool.false_eq_true, if_false, cmpI]
 (repeat' split) <;> rfl
theorem compare_f (a b : ByteArray) : strings_Compare.f a b = some (cmpB a b) := rfl
theorem rd_drop (l : List Int) (i : Nat) (h : i < l.length) : l.drop i = rd l (i : Int) :: l.drop (i + 1) := by
 rw [List.drop_eq_getElem_cons h]
 simp [rd, List.getD, h]
theorem first_l0 (l : List Int) (hl : l.length < 1000) : ∀ (d i : Nat), l.length - i = d → i ≤ l.length → Ev (fun k => span_first.l0 k l (l.length : Int) (i : Int)) (firstNZ (l.drop i))
 | 0, i, hd, hi => by
  refine Ev.step (f := fun _ => some 0) (fun k => ?_) (Ev.cast (Ev.now _) ?_)
  ·simp only [span_first.l0]; rw [if_neg (by omega)]
  ·rw [List.drop_of_length_le (by omega)]; rfl
 | d + 1, i, hd, hi => by
  have ih := first_l0 l hl d (i + 1) (by omega) (by omega)
  rw [rd_drop l i (by omega)]
  refine Ev.step (f := fun k => if rd l (i : Int) = 0 then span_first.l0 k l (l.length : Int) ((i + 1 : Nat) : Int) else some (rd l (i : Int))) (fun k => ?_) ?_
  ·simp only [span_first.l0]
   rw [if_pos (by omega), if_pos (by omega), if_pos (by omega), wrap_id (by omega) (by omega)]; rfl
  ·simp only [firstNZ]
   refine Ev.ite (fun e => ?_) (fun e => ?_)
   ·rw [if_pos e]; exact ih
   ·rw [if_neg e]; exact Ev.now _
theorem cmp_ev (a b : S36) : Ev (fun k => span_Cmp.f k a.f0 a.f1 a.f2 a.f3 a.f4 a.f5 a.f6 a.f7 b.f0 b.f1 b.f2 b.f3 b.f4 b.f5 b.f6 b.f7) (cmpS a b) := by
 simp only [span_Cmp.f, cmpI64_f, cmpU64_f, cmpU8_f, compare_f, Option.bind_some]
 exact Ev.bind (first_l0 _ (by simp) 8 0 rfl (by simp)) (Ev.now _)
def posS (l : List Span) (s : Span) : Nat → Nat
 | 0 => 0
 | j + 1 => if cmpS (l.getD j z36) s > 0 then posS l s j else j + 1
theorem posS_le (l : List Span) (s : Span) : ∀ j, posS l s j ≤ j
 | 0 => Nat.le_refl _
 | j + 1 => by
  unfold posS
  split
  ·exact Nat.le_succ_of_le (posS_le l s j)
  ·exact Nat.le_refl _
theorem posS_above (l : List Span) (s : Span) : ∀ j i, posS l s j ≤ i → i < j → cmpS (l.getD i z36) s > 0
 | 0, i, _, h => by omega
 | j + 1, i, h1, h2 => by
  unfold posS at h1
  split at h1
  ·rename_i hc
   by_cases e : i = j
   ·subst e; exact hc
   ·exact posS_above l s j i h1 (by omega)
  ·omega
theorem posS_below (l : List Span) (s : Span) : ∀ j, 0 < posS l s j → cmpS (l.getD (posS l s j - 1) z36) s ≤ 0
 | 0, h => by simp [posS] at h
 | j + 1, h => by
  unfold posS at h ⊢
  split
  ·rename_i hc; rw [if_pos hc] at h; exact posS_below l s j h
  ·rename_i hc; simp only [Nat.add_sub_cancel]; omega
def insS (l : List Span) (s : Span) : List Span := l.take (posS l s l.length) ++ s :: l.drop (posS l s l.length)
def sortR (l : List Span) : List Span := l.foldl insS []
theorem insS_length (l : List Span) (s : Span) : (insS l s).length = l.length + 1 := by
 have := posS_le l s l.length
 simp [insS]; omega
theorem insS_perm (l : List Span) (s : Span) : (insS l s).Perm (s :: l) := by
 unfold insS
 refine List.perm_middle.trans ?_
 rw [List.take_append_drop]
def leS (x y : Span) : Prop := cmpS x y ≤ 0
theorem insS_sorted {l : List Span} (s : Span) (h : l.Pairwise leS) : (insS l s).Pairwise leS := by
 have hp := posS_le l s l.length
 have ha := posS_above l s l.length
 have hb := posS_below l s l.length
 unfold insS
 generalize posS l s l.length = p at *
 have hs : ∀ i j (hi : i < l.length) (hj : j < l.length), i < j → leS l[i] l[j] := fun i j hi hj hij => List.pairwise_iff_getElem.1 h i j hi hj hij
 have h1 : ∀ x ∈ l.take p, leS x s := by
  intro x hx
  obtain ⟨i, hi, rfl⟩ := List.getElem_of_mem hx
  have hip : i < p ∧ i < l.length := by simp at hi; omega
  have h2 : leS l[p - 1] s := by have := hb (by omega); rw [List.getD, List.getElem?_eq_getElem (by omega)] at this; exact this
  rw [List.getElem_take]
  by_cases e : i = p - 1
  ·subst e; exact h2
  ·exact cmpS_is.trans _ _ _ (hs i (p - 1) hip.2 (by omega) (by omega)) h2
 have h2 : ∀ y ∈ l.drop p, leS s y := by
  intro y hy
  obtain ⟨i, hi, rfl⟩ := List.getElem_of_mem hy
  have hil : p + i < l.length := by simp at hi; omega
  rw [List.getElem_drop]
  have := ha (p + i) (by omega) hil
  rw [List.getD, List.getElem?_eq_getElem hil] at this
  have an := cmpS_is.anti l[p + i] s
  simp only [Option.getD_some] at this
  show cmpS s l[p + i] ≤ 0
  omega
 rw [List.pairwise_append]
 refine ⟨h.sublist (List.take_sublist _ _), ?_, ?_⟩
 ·rw [List.pairwise_cons]
  exact ⟨h2, h.sublist (List.drop_sublist _ _)⟩
 ·intro x hx y hy
  rcases List.mem_cons.1 hy with rfl | hy
  ·exact h1 x hx
  ·exact cmpS_is.trans _ _ _ (h1 x hx) (h2 y hy)
theorem foldl_ins (l : List Span) : ∀ a : List Span, a.Pairwise leS → (l.foldl insS a).Pairwise leS ∧ (l.foldl insS a).Perm (a ++ l) ∧ (l.foldl insS a).length = a.length + l.length := by
 induction l with
 | nil => intro a h; exact ⟨h, by simp, by simp⟩
 | cons s l ih =>
  intro a h
  obtain ⟨h1, h2, h3⟩ := ih (insS a s) (insS_sorted s h)
  refine ⟨h1, h2.trans ?_, by rw [List.foldl_cons, h3, insS_length]; simp; omega⟩
  refine ((insS_perm a s).append_right l).trans ?_
  simpa using (List.perm_middle (a := s) (l₁ := a) (l₂ := l)).symm
theorem sortR_sorted (l : List Span) : (sortR l).Pairwise leS := (foldl_ins l [] List.Pairwise.nil).1
theorem sortR_perm (l : List Span) : (sortR l).Perm l := by simpa [sortR] using (foldl_ins l [] List.Pairwise.nil).2.1
theorem sorted_one {a b : List Span} (ha : a.Pairwise leS) (hb : b.Pairwise leS) (h : a.Perm b) : a = b :=
 h.eq_of_pairwise (fun x y _ _ h1 h2 => (cmpS_is.zero x y).1 (by have := cmpS_is.anti x y; unfold leS at *; omega)) ha hb
theorem cmpI64_calls (x y : Int) (w : World) : Calls Tryz.prog 98 #[.int .i64 x, .int .i64 y] w fun e w' => e = .returned (.int .i64 (cmpI x y)) ∧ w' = w := by
 by_cases h1 : x < y
 ·have e : cmpI x y = -1 := by unfold cmpI; rw [if_pos h1]
  rw [e]; clear e
  go_enter Tryz.func98, Tryz.ntmps98
  go_wp2
  go_ret
  exact ⟨rfl, rfl⟩
 ·by_cases h2 : y < x
  ·have e : cmpI x y = 1 := by unfold cmpI; rw [if_neg h1, if_pos h2]
   rw [e]; clear e
   go_enter Tryz.func98, Tryz.ntmps98
   go_wp2
   go_ret
   exact ⟨rfl, rfl⟩
  ·have e : cmpI x y = 0 := by unfold cmpI; rw [if_neg h1, if_neg h2]
   rw [e]; clear e
   go_enter Tryz.func98, Tryz.ntmps98
   go_wp2
   go_ret
   exact ⟨rfl, rfl⟩
theorem cmpU64_calls (x y : Int) (w : World) : Calls Tryz.prog 99 #[.int .u64 x, .int .u64 y] w fun e w' => e = .returned (.int .i64 (cmpI x y)) ∧ w' = w := by
 by_cases h1 : x < y
 ·have e : cmpI x y = -1 := by unfold cmpI; rw [if_pos h1]
  rw [e]; clear e
  go_enter Tryz.func99, Tryz.ntmps99
  go_wp2
  go_ret
  exact ⟨rfl, rfl⟩
 ·by_cases h2 : y < x
  ·have e : cmpI x y = 1 := by unfold cmpI; rw [if_neg h1, if_pos h2]
   rw [e]; clear e
   go_enter Tryz.func99, Tryz.ntmps99
   go_wp2
   go_ret
   exact ⟨rfl, rfl⟩
  ·have e : cmpI x y = 0 := by unfold cmpI; rw [if_neg h1, if_neg h2]
   rw [e]; clear e
   go_enter Tryz.func99, Tryz.ntmps99
   go_wp2
   go_ret
   exact ⟨rfl, rfl⟩
theorem cmpU8_calls (x y : Int) (w : World) : Calls Tryz.prog 100 #[.int .u8 x, .int .u8 y] w fun e w' => e = .returned (.int .i64 (cmpI x y)) ∧ w' = w := by
 by_cases h1 : x < y
 ·have e : cmpI x y = -1 := by unfold cmpI; rw [if_pos h1]
  rw [e]; clear e
  go_enter Tryz.func100, Tryz.ntmps100
  go_wp2
  go_ret
  exact ⟨rfl, rfl⟩
 ·by_cases h2 : y < x
  ·have e : cmpI x y = 1 := by unfold cmpI; rw [if_neg h1, if_pos h2]
   rw [e]; clear e
   go_enter Tryz.func100, Tryz.ntmps100
   go_wp2
   go_ret
   exact ⟨rfl, rfl⟩
  ·have e : cmpI x y = 0 := by unfold cmpI; rw [if_neg h1, if_neg h2]
   rw [e]; clear e
   go_enter Tryz.func100, Tryz.ntmps100
   go_wp2
   go_ret
   exact ⟨rfl, rfl⟩
set_option maxHeartbeats 1000000 in
set_option maxRecDepth 100000 in
theorem compare_calls (a b : ByteArray) (w : World) : Calls Tryz.prog 101 #[.string a, .string b] w fun e w' => e = .returned (.int .i64 (cmpB a b)) ∧ w' = w := by
 have hb : Calls Tryz.prog 134 #[.string a, .string b] w fun e w' => e = .returned (.int .i64 (cmpB a b)) ∧ w' = w := by
  unfold cmpB
  go_enter Tryz.func134, Tryz.ntmps134
  go_wp2
  rw [run_callFunc_extern Tryz.func151 (by kernel_rfl) (by kernel_rfl) (by kernel_rfl) (e := Extern.BytealgCompare.compare) (by kernel_rfl), Go.Lib.run_compareString]
  simp only [Result.andThen]
  rw [Oper.upon_value]
  go_wp2
  go_ret
  exact ⟨rfl, rfl⟩
 go_enter Tryz.func101, Tryz.ntmps101
 go_wp2_with (go_at_call 134; refine hb.mono ?_; rintro e w' ⟨rfl, rfl⟩)
 go_ret
 exact ⟨rfl, rfl⟩
theorem first_calls (l : List Int) (hl : l.length < 1000) (A : Option Addr) (c : Nat) (w : World) (hr : Kd.C (Kd.int .i64) w A l.length l) (hc : l.length ≤ c) :
  Calls Tryz.prog 97 #[.slice A l.length c] w fun e w' => e = .returned (.int .i64 (firstNZ l)) ∧ Drawn0 w w' := by
 obtain ⟨k, hk⟩ := Ev.rounds (first_l0 l hl l.length 0 (by omega) (by omega))
 exact span_first.calls k A c l (firstNZ l) w hr hc (by unfold span_first.f; simpa using hk)
set_option maxRecDepth 100000 in
set_option maxHeartbeats 4000000 in
theorem cmp_grow (a b : S36) (W : World) :
  Calls Tryz.prog 56 #[.agg #[.int .u64 a.f0, .int .u64 a.f1, .int .u64 a.f2, .int .u8 a.f3, .string a.f4, .string a.f5, .int .i64 a.f6, .int .i64 a.f7], .agg #[.int .u64 b.f0, .int .u64 b.f1, .int .u64 b.f2, .int .u8 b.f3, .string b.f4, .string b.f5, .int .i64 b.f6, .int .i64 b.f7]] W
   fun e w' => e = .returned (.int .i64 (cmpS a b)) ∧ ∃ q os', w' = Go.Sort.grow (W.drewN q) os' := by
 obtain ⟨a0, a1, a2, a3, a4, a5, a6, a7⟩ := a
 obtain ⟨b0, b1, b2, b3, b4, b5, b6, b7⟩ := b
 obtain ⟨r, hr⟩ : ∃ r, cmpS ⟨a0, a1, a2, a3, a4, a5, a6, a7⟩ ⟨b0, b1, b2, b3, b4, b5, b6, b7⟩ = r := ⟨_, rfl⟩
 rw [hr]
 have HR := Aside0.mk hr
 clear hr
 go_enter Tryz.func56, Tryz.ntmps56
 go_wp2_with fail
 generalize hW2 : (W.alloc (.cells #[.int .u64 a0, .int .u64 a1, .int .u64 a2, .int .u8 a3, .string a4, .string a5, .int .i64 a6, .int .i64 a7] 36)).alloc (.cells #[.int .u64 b0, .int .u64 b1, .int .u64 b2, .int .u8 b3, .string b4, .string b5, .int .i64 b6, .int .i64 b7] 36) = W2
 have hg : ∃ os, W2 = Go.Sort.grow W os := ⟨_, by rw [← hW2, Go.Sort.alloc_eq_grow, Go.Sort.alloc_eq_grow, Go.Sort.grow_grow]⟩
 have ca0 : W2.drew.cell? ⟨W.heap.size, 0, none⟩ = some (.int .u64 a0) := by rw [← hW2]; simp
 have ca1 : W2.drew.cell? ⟨W.heap.size, 1, none⟩ = some (.int .u64 a1) := by rw [← hW2]; simp
 have ca2 : W2.drew.cell? ⟨W.heap.size, 2, none⟩ = some (.int .u64 a2) := by rw [← hW2]; simp
 have ca3 : W2.drew.cell? ⟨W.heap.size, 3, none⟩ = some (.int .u8 a3) := by rw [← hW2]; simp
 have ca4 : W2.drew.cell? ⟨W.heap.size, 4, none⟩ = some (.string a4) := by rw [← hW2]; simp
 have ca5 : W2.drew.cell? ⟨W.heap.size, 5, none⟩ = some (.string a5) := by rw [← hW2]; simp
 have ca6 : W2.drew.cell? ⟨W.heap.size, 6, none⟩ = some (.int .i64 a6) := by rw [← hW2]; simp
 have ca7 : W2.drew.cell? ⟨W.heap.size, 7, none⟩ = some (.int .i64 a7) := by rw [← hW2]; simp
 have cb0 : W2.drew.cell? ⟨W.heap.size + 1, 0, none⟩ = some (.int .u64 b0) := by rw [← hW2]; simp
 have cb1 : W2.drew.cell? ⟨W.heap.size + 1, 1, none⟩ = some (.int .u64 b1) := by rw [← hW2]; simp
 have cb2 : W2.drew.cell? ⟨W.heap.size + 1, 2, none⟩ = some (.int .u64 b2) := by rw [← hW2]; simp
 have cb3 : W2.drew.cell? ⟨W.heap.size + 1, 3, none⟩ = some (.int .u8 b3) := by rw [← hW2]; simp
 have cb4 : W2.drew.cell? ⟨W.heap.size + 1, 4, none⟩ = some (.string b4) := by rw [← hW2]; simp
 have cb5 : W2.drew.cell? ⟨W.heap.size + 1, 5, none⟩ = some (.string b5) := by rw [← hW2]; simp
 have cb6 : W2.drew.cell? ⟨W.heap.size + 1, 6, none⟩ = some (.int .i64 b6) := by rw [← hW2]; simp
 have cb7 : W2.drew.cell? ⟨W.heap.size + 1, 7, none⟩ = some (.int .i64 b7) := by rw [← hW2]; simp
 clear hW2
 refine wp_region_still_tail 40 (by kernel_rfl) (by kernel_rfl) ?_
 simp only [List.take_succ_cons, List.take_zero, List.drop_succ_cons, List.drop_zero]
 change wpStill _ _ W2.drew _ _ _
 obtain ⟨W3, hW3⟩ : ∃ W3, W2.drew = W3 := ⟨_, rfl⟩
 rw [hW3] at ca0 ca1 ca2 ca3 ca4 ca5 ca6 ca7 cb0 cb1 cb2 cb3 cb4 cb5 cb6 cb7 ⊢
 have HW3 := Aside0.mk hW3
 have HG := Aside0.mk hg
 clear hW3 hg
 generalize W.heap.size = g0 at *
 iterate 4 still_step
 still_call (cmpI64_calls _ _ _)
 iterate 4 still_step
 still_call (cmpU64_calls _ _ _)
 iterate 4 still_step
 still_call (cmpU64_calls _ _ _)
 iterate 4 still_step
 still_call (cmpU8_calls _ _ _)
 iterate 4 still_step
 still_call (cmpI64_calls _ _ _)
 iterate 4 still_step
 still_call (compare_calls _ _ _)
 iterate 4 still_step
 still_call (compare_calls _ _ _)
 iterate 4 still_step
 still_call (cmpU64_calls _ _ _)
 refine wpStill_nil ?_
 change wpList _ _ _ _ _ W2.drew
 rw [HW3.out]
 clear ca0 ca1 ca2 ca3 ca4 ca5 ca6 ca7 cb0 cb1 cb2 cb3 cb4 cb5 cb6 cb7
 go_wp2_with fail
 have hrow : Kd.C (Kd.int .i64) (W3.alloc (.cells #[.int .i64 (cmpI a6 b6), .int .i64 (cmpI a1 b1), .int .i64 (cmpI a2 b2), .int .i64 (cmpI a3 b3), .int .i64 (cmpI a7 b7), .int .i64 (cmpB a4 b4), .int .i64 (cmpB a5 b5), .int .i64 (cmpI a0 b0)] 3)) (some ⟨W3.heap.size, 0, none⟩) 8 [cmpI a6 b6, cmpI a1 b1, cmpI a2 b2, cmpI a3 b3, cmpI a7 b7, cmpB a4 b4, cmpB a5 b5, cmpI a0 b0] := by
  refine ⟨rfl, by decide, fun _ => ⟨_, rfl, fun j p hp => ⟨[.int .i64 p], rfl, rfl, fun i u hu => ?_⟩⟩⟩
  have hj : j < 8 := (List.getElem?_eq_some_iff.1 hp).1
  have hi : i < 1 := (List.getElem?_eq_some_iff.1 hu).1
  obtain rfl : i = 0 := by omega
  obtain rfl : Value.int .i64 p = u := by simpa using hu
  rcases j with _ | _ | _ | _ | _ | _ | _ | _ | j <;> first | (simp at hp; subst hp; simp [Kd.int, Kd.scalar, Addr.add]) | omega
 have hc := first_calls [cmpI a6 b6, cmpI a1 b1, cmpI a2 b2, cmpI a3 b3, cmpI a7 b7, cmpB a4 b4, cmpB a5 b5, cmpI a0 b0] (by simp) _ 8 _ hrow (by simp)
 refine Calls.mono hc ?_
 rintro e w'' ⟨rfl, hd⟩
 have HD := Aside0.mk hd
 clear hc hrow hd
 rw [show firstNZ [cmpI a6 b6, cmpI a1 b1, cmpI a2 b2, cmpI a3 b3, cmpI a7 b7, cmpB a4 b4, cmpB a5 b5, cmpI a0 b0] = r from HR.out]
 go_wp2
 go_ret
 refine ⟨rfl, ?_⟩
 obtain ⟨n, hn⟩ := HD.out.out
 obtain ⟨os, ho⟩ := HG.out
 have h3 := HW3.out
 rw [hn, ← h3, ho, Go.Sort.alloc_eq_grow]
 have key : ∀ ob : Obj, ∃ q os', (Go.Sort.grow (Go.Sort.grow W os).drew #[ob]).drewN n = Go.Sort.grow (W.drewN q) os' := fun ob => ⟨1 + n, os ++ #[ob], by
  show Go.Sort.grow (Go.Sort.grow ((W.drewN 1).drewN n) os) #[ob] = _
  rw [Go.Sort.grow_grow, World.drewN_drewN]⟩
 exact key _
end Go.Proofs.YtgknjgionicncaaGreat.L
namespace Go.Proofs.YtgknjgionicncaaGreat.L
open Go.RowKit Go.Proofs.YtgknjgionicncaaGreat.Q Go.Proofs.YtgknjgionicncaaGreatW.PrintWords Go.Proofs.YtgknjgionicncaaGreatW.PrintLast Go.Proofs.YtgknjgionicncaaGreatW.PrintMore Go.Proofs.YtgknjgionicncaaGreatW.Lib Go.Proofs.YtgknjgionicncaaGreatW.RowB Go.Sort Go.Lib
set_option linter.unusedVariables false
def sortL (l : List S36) : List S36 := l.mergeSort fun x y => !ltOf cmpS y x
def encS (x : S36) : List Value := [.int .u64 x.f0, .int .u64 x.f1, .int .u64 x.f2, .int .u8 x.f3, .string x.f4, .string x.f5, .int .i64 x.f6, .int .i64 x.f7]
instance : Inhabited S36 := ⟨z36⟩
theorem swoS : SWO (ltOf cmpS) := by
 refine ⟨fun x => ?_, fun x y z h1 h2 => ?_, fun x y z h1 h2 => ?_⟩
 ·have := (cmpS_is.zero x x).2 rfl
  simp [ltOf, this]
 ·simp only [ltOf, decide_eq_true_eq] at *
  have t := cmpS_is.trans x y z (by omega) (by omega)
  rcases Int.lt_or_eq_of_le t with h | h
  ·exact h
  ·have e := (cmpS_is.zero x z).1 h
   subst e
   have := cmpS_is.anti x y
   omega
 ·simp only [ltOf, decide_eq_false_iff_not, Int.not_lt] at *
  have a1 := cmpS_is.anti x y
  have a2 := cmpS_is.anti y z
  have a3 := cmpS_is.anti x z
  have t := cmpS_is.trans z y x (by omega) (by omega)
  omega
theorem totS (x y : S36) (h1 : ltOf cmpS x y = false) (h2 : ltOf cmpS y x = false) : x = y := by
 simp only [ltOf, decide_eq_false_iff_not, Int.not_lt] at *
 have a1 := cmpS_is.anti x y
 exact (cmpS_is.zero x y).1 (by omega)
theorem clone_calls (l : List S36) (hl : l.length ≤ 1759218604441) (A : Option Addr) (c : Nat) (w : World) (hr : Kd.C k36 w A l.length l) (hc : l.length ≤ c) :
  Calls Tryz.prog 102 #[.slice A l.length c] w fun e w' => ∃ v : Value, e = .returned v ∧ Kd.R k36 36 w' w.heap.size (fun _ => True) v l ∧ Below w.heap.size w w' := by
 have q : ∀ (w : World) (a : Option Addr) (n c n' c' : Nat), (binOp .eql 22 (.slice a n c) (.slice none n' c')).run Tryz.prog w = .ok (.bool a.isNone) w := fun w a n c n' c' => Go.Lib.run_eql_slice_nil w _ _ a n c n' c' Tryz.underlying22
 cases A with
 | none =>
  have h0 : l = [] := by
   cases l with
   | nil => rfl
   | cons x l => obtain ⟨ad, h, _⟩ := hr.2.2 (by simp); exact absurd h (by simp)
  subst h0
  go_enter Tryz.func102, Tryz.ntmps102
  go_wp2
  go_ret
  exact ⟨_, rfl, Kd.R_nil _ _ _ _ _, Below.refl _ _⟩
 | some ad =>
  have HR0 := Aside0.mk hr
  clear hr
  have HL := Aside0.mk hl
  clear hl
  go_enter Tryz.func102, Tryz.ntmps102
  go_wp2_with (first
   | ((with_reducible refine gate_dst (N := 5) rfl ?_); refine Kd.R_lit k36 _ 36 ?hg (N := 5) ?hd (xs := ([] : List (S36))) (inner := []) (ok := fun _ => True) (okp := fun _ => True) ?hr ?hp (fun _ hk => hk) trivial (Below.refl _ _) (Nat.le_refl _) (by simp) ?_; (case hd => rfl); (case hg => rfl); (case hr => first | (go_simp; done) | (go_simp; rfl)); (case hp => exact (Reps.none _ _)); intro v1 w1 ho hb hg_ hnew_; clear hg_ hnew_; have HO := Aside0.mk ho; have HB := Aside0.mk hb; clear ho hb)
   | ((with_reducible refine gate_builtin (b := .append) (xs := #[.tmp 5, .tmp 6]) rfl ?_); at_builtin; refine Kd.R_append_rows k36 (w0 := w) w.heap.size rfl (.tmp 5) (.tmp 6) 22 36 (.agg #[(.int .u64 0), (.int .u64 0), (.int .u64 0), (.int .u8 0), (.string ⟨#[]⟩), (.string ⟨#[]⟩), (.int .i64 0), (.int .i64 0)]) 80 rfl Tryz.underlying22 info36 rfl (by decide) (by omega) v1 [] l _ _ _ (fun _ => True) (fun _ => False) rfl rfl ?aO ?aR (fun _ _ h => h) (fun _ h => h.elim) ?aF ?aB ?aS ?aL ?_; (case aR => exact (Kd.C_below HR0.out HB.out)); (case aB => exact HB.out); (case aF => exact (fun _ _ => trivial)); (case aO => exact HO.out); (case aS => exact HB.out.size); (case aL => have := HL.out; simp only [List.length_nil]; omega); intro v2 w2 ho hb hg hat; rw [List.nil_append] at ho; have HB2 := Aside0.mk hb; have HO2 := Aside0.mk ho; clear ho hb hg hat))
  go_ret
  exact ⟨_, rfl, HO2.out, HB2.out⟩
theorem cmp_lays (blk off size : Nat) (w : World) : CmpLays Tryz.prog 56 #[] encS 8 cmpS blk off size w := fun _ _ _ _ x y => cmp_grow x y _
set_option maxHeartbeats 1000000 in
theorem sort_calls (l : List S36) (hl : l.length ≤ 1759218604441) (A : Option Addr) (c : Nat) (w : World) (hr : Kd.C k36 w A l.length l) (hc : l.length ≤ c) :
  Calls Tryz.prog 57 #[.slice A l.length c] w fun e w' => ∃ v : Value, e = .returned v ∧ Kd.R k36 36 w' w.heap.size (fun _ => True) v (sortL l) ∧ Below w.heap.size w w' := by
 have hcl := clone_calls l hl A c w hr hc
 have hlen : (sortL l).length = l.length := List.length_mergeSort _
 have hsort : ∀ (v : Value) (w1 : World), Kd.R k36 36 w1 w.heap.size (fun _ => True) v l → Below w.heap.size w w1 →
   Calls Tryz.prog 103 #[v, .func (.func 56) #[] #[]] w1 fun e w' => e = .returned (.tuple #[]) ∧ Kd.R k36 36 w' w.heap.size (fun _ => True) v (sortL l) ∧ Below w.heap.size w w' := by
  intro v w1 hR hB
  obtain ⟨hok, inner, how, hre⟩ := hR
  have hre' : Reps (fun x c => c = encS x) 8 l inner := hre.imp_ (fun x c h => k36_openM h)
  by_cases h0 : l = []
  ·subst h0
   have hv : ∃ p cap, v = .slice p 0 cap := by
    rcases how.2 with ⟨h, _⟩ | ⟨g, cap, cur, h, _⟩
    ·exact ⟨none, 0, h⟩
    ·exact ⟨_, cap, h⟩
   obtain ⟨p, cap, rfl⟩ := hv
   refine (AnyF.slices_SortFunc_none Tryz.sortSpan p cap (.func (.func 56) #[] #[]) w1).mono ?_
   rintro e w' ⟨rfl, rfl⟩
   have hs0 : sortL [] = [] := by simp [sortL]
   exact ⟨rfl, by rw [hs0]; exact ⟨hok, inner, how, hre⟩, hB⟩
  ·have hpos : 0 < l.length := by
    rcases Nat.eq_zero_or_pos l.length with h | h
    ·exact absurd (List.length_eq_zero_iff.1 h) h0
    ·exact h
   rcases how.2 with ⟨_, h⟩ | ⟨g, cap, cur, rfl, hg, hh, hcap, hcm, hcs, htake⟩
   ·omega
   have hH : HoldsK encS 8 w1 g 0 l.toArray := holdsK_of (enc := encS) (k := 8) (l := l) (fun _ => rfl) hh htake hre'
   have hlt : g < w1.heap.size := (Array.getElem?_eq_some_iff.1 hh).1
   have eg : ∀ args w, (callFunc 56 args).run Tryz.prog w = .ok (.enter 56 args) w := enters_of Tryz.func56 (by kernel_rfl) rfl
   have hcon := AnyQ.slices_SortFunc_total Tryz.sortSpan 8 Tryz.isAgg36 Tryz.sizeOf36 encS (fun _ => rfl) (fun x v hv => by simp [encS] at hv; rcases hv with rfl | rfl | rfl | rfl | rfl | rfl | rfl | rfl <;> rfl) cmpS swoS 56 #[] g 0 cap l.toArray w1 eg (cmp_lays g 0 l.toArray.size w1) hH hlt (by simp; omega) totS
   have hcon2 : Calls Tryz.prog 103 #[.slice (some ⟨g, 0, none⟩) l.length cap, .func (.func 56) #[] #[]] w1 _ := hcon
   refine hcon2.mono ?_
   rintro e w' ⟨rfl, n, os, rfl⟩
   have hds : ((l.toArray.toList.mergeSort fun x y => !ltOf cmpS y x).toArray).size = l.length := by simp
   obtain ⟨inner', how', hre2⟩ := own_sorted (n := n) (os := os) (d := (l.toArray.toList.mergeSort fun x y => !ltOf cmpS y x).toArray) (base := w.heap.size) (enc := encS) (fun _ => rfl) hg hh (by rw [hds]; exact hcap) hcm hcs
   rw [hds] at how'
   refine ⟨rfl, ⟨fun _ _ => trivial, inner', by rw [hlen]; exact how', ?_⟩, hB.trans (below_sorted hg hB.size)⟩
   exact hre2.imp_ (fun x c h => by rw [h]; exact k36_mkM _ _ _ x)
 have HS := Aside0.mk hsort
 clear hsort
 have HC := Aside0.mk hcl
 clear hcl hr
 generalize sortL l = sl at *
 go_enter Tryz.func57, Tryz.ntmps57
 go_wp2_with (first
  | (go_at_call 102; refine HC.out.mono ?_; rintro e w1 ⟨v, rfl, ho, hb⟩; have HO := Aside0.mk ho; have HB := Aside0.mk hb; clear ho hb)
  | (go_at_call 103; refine (HS.out _ _ HO.out HB.out).mono ?_; rintro e w2 ⟨rfl, ho, hb⟩; have HO2 := Aside0.mk ho; have HB2 := Aside0.mk hb; clear ho hb))
 go_ret
 exact ⟨_, rfl, HO2.out, HB2.out⟩
end Go.Proofs.YtgknjgionicncaaGreat.L
namespace Go.Proofs.YtgknjgionicncaaGreat.L
open Go.RowKit Go.Proofs.YtgknjgionicncaaGreatW.PrintWords Go.Proofs.YtgknjgionicncaaGreatW.PrintLast Go.Proofs.YtgknjgionicncaaGreatW.PrintMore Go.Proofs.YtgknjgionicncaaGreatW.MapB Go.Maps Go.WideMaps
set_option linter.unusedVariables false
abbrev keyI (i : Int) : Lit := .int .u64 i
theorem keyI_is (i : Int) : WideAt.IsKeyLit (keyI i) := trivial
theorem keyI_inj (i j : Int) (h : keyI i = keyI j) : i = j := by injection h
end Go.Proofs.YtgknjgionicncaaGreat.L
namespace Go.Proofs.YtgknjgionicncaaGreat.L
open Go.RowKit Go.Proofs.YtgknjgionicncaaGreat.Q Go.Proofs.YtgknjgionicncaaGreatW.PrintWords Go.Proofs.YtgknjgionicncaaGreatW.MapB Go.Maps
set_option linter.unusedVariables false
def okS (t : Int) (s : Span) : Bool := decide (s.f0 = t) && mayB s.f0 s.f1 s.f2 s.f3 s.f4 s.f5 s.f6 s.f7
def metD (t : Int) (l : List Span) : List Span := l.foldl (stepD cmpS (·.f1) (okS t)) []
def ofD (l : List Span) (t : Int) : List Span := sortL (metD t l)
theorem metD_counts (t : Int) (l : List Span) : Counts cmpS (·.f1) (okS t) l (metD t l) := by
 have := stepD_counts cmpS_is l [] [] (counts_nil (c := cmpS) (id := (·.f1)) (ok := okS t))
 simpa [metD] using this
theorem metD_length (t : Int) (l : List Span) : (metD t l).length ≤ l.length := by
 have := foldD_length (c := cmpS) (id := (·.f1)) (ok := okS t) l []
 simpa [metD] using this
theorem sortL_sorted (l : List Span) : (sortL l).Pairwise leS := by
 have h := List.pairwise_mergeSort (le := fun x y => !ltOf cmpS y x) (fun a b c h1 h2 => by
  simp only [ltOf, Bool.not_eq_true', decide_eq_false_iff_not, Int.not_lt] at *
  have a1 := cmpS_is.anti a b; have a2 := cmpS_is.anti b c; have a3 := cmpS_is.anti a c
  have t := cmpS_is.trans a b c (by omega) (by omega)
  omega) (fun a b => by
  simp only [ltOf, Bool.or_eq_true, Bool.not_eq_true', decide_eq_false_iff_not, Int.not_lt]
  have a1 := cmpS_is.anti a b
  omega) l
 refine h.imp ?_
 intro a b hab
 simp only [ltOf, Bool.not_eq_true', decide_eq_false_iff_not, Int.not_lt] at hab
 have a1 := cmpS_is.anti a b
 show cmpS a b ≤ 0
 omega
theorem sortL_perm (l : List Span) : (sortL l).Perm l := List.mergeSort_perm l _
theorem sortL_eq (l : List Span) : sortL l = sortR l := sorted_one (sortL_sorted l) (sortR_sorted l) ((sortL_perm l).trans (sortR_perm l).symm)
theorem ofD_counts (l : List Span) (t : Int) : Counts cmpS (·.f1) (okS t) l (ofD l t) := (metD_counts t l).perm (sortL_perm _).symm
theorem ofD_sorted (l : List Span) (t : Int) : (ofD l t).Pairwise leS := sortL_sorted _
theorem ofD_length (l : List Span) (t : Int) : (ofD l t).length ≤ l.length := Nat.le_trans (Nat.le_of_eq (sortL_perm _).length_eq) (metD_length t l)
def idsD (m : List Span) : DataW Unit := mapN keyI 0 (m.map (·.f1)) m.length
theorem idsD_none {m : List Span} {i : Int} (h : m.findIdx? (fun x => decide (x.f1 = i)) = none) (z : DataW Unit) : (idsD m).atKey (keyI i) z = z ∧ has (idsD m) (keyI i) = false := by
 have hn : i ∉ m.map (·.f1) := by
  intro hm
  obtain ⟨x, hx, rfl⟩ := List.mem_map.1 hm
  have := List.findIdx?_eq_none_iff.1 h x hx
  simp at this
 have := mapN_none (d := 0) keyI_is keyI_inj hn z
 rw [List.length_map] at this
 exact this
theorem idsD_some {m : List Span} (nd : m.Pairwise fun x y => x.f1 ≠ y.f1) {i : Int} {j : Nat} (h : m.findIdx? (fun x => decide (x.f1 = i)) = some j) (z : DataW Unit) : (idsD m).atKey (keyI i) z = .lit (.int .i64 j) ∧ has (idsD m) (keyI i) = true := by
 obtain ⟨hj, he, _⟩ := List.findIdx?_eq_some_iff_getElem.1 h
 have he' : m[j].f1 = i := of_decide_eq_true he
 have nd' : (m.map (·.f1)).Nodup := by
  unfold List.Nodup
  rw [List.pairwise_map]
  exact nd
 have h1 := mapN_at (d := 0) keyI_is keyI_inj nd' z j (by simpa using hj) m.length hj (by simp)
 rw [List.getElem_map, he'] at h1
 refine ⟨h1, ?_⟩
 have := (mapN_has (d := 0) keyI_is keyI_inj (m.map (·.f1)) i m.length (by simp)).2 (by
  rw [List.take_of_length_le (by simp)]
  exact List.mem_map.2 ⟨m[j], List.getElem_mem _, he'⟩)
 exact this
theorem idsD_snoc (m : List Span) (s : Span) : (idsD m).put (keyI s.f1) (.lit (.int .i64 m.length)) = idsD (m ++ [s]) := by
 have := mapN_snoc (key := keyI) (d := 0) (m.map (·.f1)) s.f1
 unfold idsD
 rw [List.map_append, List.map_singleton]
 simp only [List.length_append, List.length_map, List.length_singleton] at this ⊢
 exact this.symm
theorem idsD_set {m : List Span} {s : Span} {j : Nat} (h : m.findIdx? (fun x => decide (x.f1 = s.f1)) = some j) : idsD (m.set j s) = idsD m := by
 obtain ⟨hj, he, _⟩ := List.findIdx?_eq_some_iff_getElem.1 h
 have he' : m[j].f1 = s.f1 := of_decide_eq_true he
 unfold idsD
 rw [List.length_set, List.map_set, ← he', ← List.getElem_map (f := fun x : Span => x.f1) (h := by simpa using hj), List.set_getElem_self]
end Go.Proofs.YtgknjgionicncaaGreat.L
namespace Go.Proofs.YtgknjgionicncaaGreat.L
open Go.RowKit Go.Proofs.YtgknjgionicncaaGreat.Q Go.Proofs.YtgknjgionicncaaGreatW.PrintWords Go.Proofs.YtgknjgionicncaaGreatW.PrintLast Go.Proofs.YtgknjgionicncaaGreatW.PrintMore Go.Proofs.YtgknjgionicncaaGreatW.MapB Go.Proofs.YtgknjgionicncaaGreatW.Lib Go.Maps Go.WideMaps
set_option linter.unusedVariables false
theorem lawU64 : Keyed Tryz.prog 23 := int_keyed Tryz.underlying23
theorem may_calls (s : Span) (h4 : s.f4.size ≤ 140737488351232) (h5 : s.f5.size ≤ 140737488351232) (w : World) :
  Calls Tryz.prog 55 #[.agg #[.int .u64 s.f0, .int .u64 s.f1, .int .u64 s.f2, .int .u8 s.f3, .string s.f4, .string s.f5, .int .i64 s.f6, .int .i64 s.f7]] w fun e w' => e = .returned (.bool (mayB s.f0 s.f1 s.f2 s.f3 s.f4 s.f5 s.f6 s.f7)) ∧ Below w.heap.size w w' := by
 obtain ⟨k, hk⟩ := Ev.rounds (may_ev s.f0 s.f1 s.f2 s.f3 s.f4 s.f5 s.f6 s.f7 h4 h5)
 exact span_May.calls k _ _ _ _ _ _ _ _ _ w hk
theorem cmp_calls (s m : Span) (w : World) :
  Calls Tryz.prog 56 #[.agg #[.int .u64 s.f0, .int .u64 s.f1, .int .u64 s.f2, .int .u8 s.f3, .string s.f4, .string s.f5, .int .i64 s.f6, .int .i64 s.f7], .agg #[.int .u64 m.f0, .int .u64 m.f1, .int .u64 m.f2, .int .u8 m.f3, .string m.f4, .string m.f5, .int .i64 m.f6, .int .i64 m.f7]] w fun e w' => e = .returned (.int .i64 (cmpS s m)) ∧ Below w.heap.size w w' := by
 obtain ⟨k, hk⟩ := Ev.rounds (cmp_ev s m)
 exact span_Cmp.calls k _ _ _ _ _ _ _ _ _ _ _ _ _ _ _ _ _ w hk
theorem new_block (w : World) (cs : Array Value) (t : TypeId) : (w.alloc (.cells cs t)).heap[w.heap.size]? = some (.cells cs t (0, 0)) := (MapKept.heap_alloc w _).1
theorem store_span {ops : Array Oper} {rest : List Oper} {o : Oper} {a : Act} {Q : Exit → Act → World → Prop} {w0 W : World} {base g n cap o' : Nat} (xi : Int) (m : List Span) (s : Span) (hN : o.dst = none) (hG : o.guard = none) (p x : Operand) (hP : o.op = .store 36 p x)
  (haddr : a.eval p = .pointer (some ⟨g, o', none⟩)) (hoff : o' = xi.toNat * 8) (hx : a.eval x = .agg #[.int .u64 s.f0, .int .u64 s.f1, .int .u64 s.f2, .int .u8 s.f3, .string s.f4, .string s.f5, .int .i64 s.f6, .int .i64 s.f7]) (HO : Kd.R k36 36 W base (fun _ => True) (.slice (some ⟨g, 0, none⟩) n cap) m) (h0 : 0 ≤ xi) (h1 : xi < n) (HB : Below base w0 W)
  (h : ∀ w1, Kd.R k36 36 w1 base (fun _ => True) (.slice (some ⟨g, 0, none⟩) n cap) (m.set xi.toNat s) → Below base w0 w1 → W.grownBy w1 (some g) → wpList Tryz.prog ops Q rest a w1) : wpList Tryz.prog ops Q (o :: rest) a W := by
 obtain ⟨ce, hcl, hM, hcc, _⟩ := Kd.R_elem HO z36 xi h0 h1
 obtain rfl := k36_openM hM
 refine Kd.R_store k36 (w0 := w0) (o' := o') base hN hG 36 p x hP 36 xi 0 m s (.agg #[.int .u64 s.f0, .int .u64 s.f1, .int .u64 s.f2, .int .u8 s.f3, .string s.f4, .string s.f5, .int .i64 s.f6, .int .i64 s.f7]) [.int .u64 s.f0, .int .u64 s.f1, .int .u64 s.f2, .int .u8 s.f3, .string s.f4, .string s.f5, .int .i64 s.f6, .int .i64 s.f7] _ (fun _ => True) (fun _ => False) haddr (by rw [hoff]; rfl) hx rfl (by kernel_rfl) ?_ HO h0 h1 hcl hcc (show 0 + 8 ≤ 8 by decide) (k36_mkM _ _ _ s) (fun _ h => h.elim) HB h
 intro q hq
 simp only [List.mem_cons, List.not_mem_nil, or_false] at hq
 rcases hq with rfl | rfl | rfl | rfl | rfl | rfl | rfl | rfl <;> rfl
theorem metD_next (t : Int) (l : List Span) (x : Int) (h0 : 0 ≤ x) (h1 : x < l.length) : metD t (l.take (x + 1).toNat) = stepD cmpS (·.f1) (okS t) (metD t (l.take x.toNat)) (rd_T36 l x) := by
 have h3 : x.toNat < l.length := by omega
 rw [show (x + 1).toNat = x.toNat + 1 by omega, List.take_succ_eq_append_getElem h3]
 unfold metD
 rw [List.foldl_append]
 simp [rd_T36, List.getD, h3]
set_option maxHeartbeats 8000000 in
set_option maxRecDepth 100000 in
theorem of_calls (l0 : List Span) (a1 : Int) (hl : l0.length ≤ 1759218604441) (hf : ∀ x ∈ l0, fitS x) (A0 : Option Addr) (c0 : Nat) (w : World) (hr0 : Kd.C k36 w A0 l0.length l0) (hc0 : l0.length ≤ c0) :
  Calls Tryz.prog 28 #[.slice A0 l0.length c0, .int .u64 a1] w fun e w' => ∃ v : Value, e = .returned v ∧ Kd.R k36 36 w' w.heap.size (fun _ => True) v (ofD l0 a1) ∧ Below w.heap.size w w' := by
 have hmm := @run_makeMap Tryz.prog
 have HR0 := Aside0.mk hr0
 have HL := Aside0.mk hl
 have HF := Aside0.mk hf
 have HB0 := Aside0.mk (Below.refl w.heap.size w)
 clear hr0 hc0 hl hf
 go_enter Tryz.func28, Tryz.ntmps28
 go_wp2_with fail
 go_loopg [6, 14] l0.length (fun kq v6 v14 w' => ∃ x14 : Int, v14 = .int .i64 x14 ∧ Aside0 (0 ≤ x14 ∧ x14 + kq = l0.length) ∧ Aside0 (Kd.R k36 36 w' w.heap.size (fun _ => True) v6 (metD a1 (l0.take x14.toNat))) ∧ Aside0 (w'.ownsMap Tryz.prog 23 (plainElem Tryz.prog 3) w.heap.size (metD a1 (l0.take x14.toNat)).length (idsD (metD a1 (l0.take x14.toNat)))) ∧ Aside0 (Below w.heap.size w w'))
 case atStart => exact ⟨0, rfl, ⟨by omega, by omega⟩, ⟨Kd.R_nil _ _ _ _ _⟩, ⟨World.ownsMap_made _ _ _ _⟩, ⟨(Below.refl _ _).alloc (Nat.le_refl _) _⟩⟩
 case round =>
  obtain ⟨x14, rfl, HK, HO, HM, HB⟩ := hrel
  by_cases c1 : x14 < (l0.length : Int)
  ·have c1b := decide_eq_true c1
   have p1 : 0 ≤ x14 := HK.out.1
   obtain ⟨ad1, e1, hx1⟩ := at_T36 HR0.out x14 p1 c1
   cases e1
   obtain ⟨hx1_0, hx1_1, hx1_2, hx1_3, hx1_4, hx1_5, hx1_6, hx1_7⟩ := zc8 HB.out hx1
   have P1 := Aside0.mk p1
   have Q1 := Aside0.mk c1
   have HNext := Aside0.mk (metD_next a1 l0 x14 p1 c1)
   have HFit := Aside0.mk (HF.out _ (rdS_mem p1 c1))
   have HIds := Aside0.mk (metD_counts a1 (l0.take x14.toNat)).ids
   have HMl := Aside0.mk (metD_length a1 (l0.take x14.toNat))
   generalize rd_T36 l0 x14 = s at *
   have HTk := Aside0.mk (show (l0.take x14.toNat).length ≤ x14.toNat from by rw [List.length_take]; omega)
   generalize hm : metD a1 (l0.take x14.toNat) = m at *
   clear hm
   replace p1 := eq_true p1
   replace c1 := eq_true c1
   have W1 := Aside0.mk (show wrap64 (x14 + 1) = x14 + 1 from by unfold wrap64; have := HL.out; have := P1.out; have := Q1.out; omega)
   have HMn := Aside0.mk (show m.length < 1759218604441 from by have := HL.out; have := P1.out; have := Q1.out; have := HMl.out; have := HTk.out; omega)
   obtain ⟨k1, rfl⟩ : ∃ k1, gk = k1 + 1 := ⟨gk - 1, by have := HK.out; have := Q1.out; omega⟩
   obtain ⟨A6, n6, rfl⟩ := Kd.R_slice HO.out
   by_cases hok : okS a1 s = true
   ·have hok2 : s.f0 = a1 ∧ mayB s.f0 s.f1 s.f2 s.f3 s.f4 s.f5 s.f6 s.f7 = true := by simpa [okS] using hok
    have q1 : (s.f0 != a1) = false := by simp [hok2.1]
    have q2 : decide (s.f0 = a1) = true := by simp [hok2.1]
    have QM := Aside0.mk (may_calls s HFit.out.2.1 HFit.out.2.2)
    rw [hok2.2] at QM
    have HKey := Aside0.mk (keyOf_int_mk Tryz.underlying23 HFit.out.1)
    have HOk := Aside0.mk hok
    clear hok hok2
    cases hfi : m.findIdx? (fun x => decide (x.f1 = s.f1)) with
    | none =>
     have HN := Aside0.mk (idsD_none hfi (.lit (.int .i64 0)))
     have HFi := Aside0.mk hfi
     clear hfi
     go_wp2_with (first
      | (go_at_call 55; refine (QM.out _).mono ?_; rintro e w1 ⟨rfl, hb⟩; have HB1 := Aside0.mk (below_step (below_alloc HB.out _) hb); have HM1 := Aside0.mk (map_below (HM.out.alloc _) hb); have HO1 := Aside0.mk (Kd.R_below (Kd.R_alloc HO.out _) hb); have bk := (hb.block wr.heap.size (by simp)).trans (new_block wr #[.int .u64 s.f0, .int .u64 s.f1, .int .u64 s.f2, .int .u8 s.f3, .string s.f4, .string s.f5, .int .i64 s.f6, .int .i64 s.f7] 36); have BK := Aside0.mk bk; have hk0 : w1.cell? ⟨wr.heap.size, 0, none⟩ = some (.int .u64 s.f0) := (blk_cell bk 0).trans rfl; have hk1 : w1.cell? ⟨wr.heap.size, 1, none⟩ = some (.int .u64 s.f1) := (blk_cell bk 1).trans rfl; have hk2 : w1.cell? ⟨wr.heap.size, 2, none⟩ = some (.int .u64 s.f2) := (blk_cell bk 2).trans rfl; have hk3 : w1.cell? ⟨wr.heap.size, 3, none⟩ = some (.int .u8 s.f3) := (blk_cell bk 3).trans rfl; have hk4 : w1.cell? ⟨wr.heap.size, 4, none⟩ = some (.string s.f4) := (blk_cell bk 4).trans rfl; have hk5 : w1.cell? ⟨wr.heap.size, 5, none⟩ = some (.string s.f5) := (blk_cell bk 5).trans rfl; have hk6 : w1.cell? ⟨wr.heap.size, 6, none⟩ = some (.int .i64 s.f6) := (blk_cell bk 6).trans rfl; have hk7 : w1.cell? ⟨wr.heap.size, 7, none⟩ = some (.int .i64 s.f7) := (blk_cell bk 7).trans rfl; have HLt := Aside0.mk (show wr.heap.size < w1.heap.size from Nat.lt_of_lt_of_le (by simp) hb.size); clear hb bk)
      | (at_lookup; refine lookup_ok_known _ rfl _ _ 41 rfl 23 3 .i64 lawU64 Tryz.underlying41 Tryz.underlying3 (zeroInt _) w.heap.size m.length (idsD m) rfl HM1.out _ _ rfl HKey.out 0 HN.out.1 false HN.out.2 ?_)
      | (at_mapUpdate; refine wpList_mapUpdate_own _ rfl _ _ _ 41 rfl 23 3 lawU64 Tryz.underlying41 _ w.heap.size m.length _ rfl HM1.out ?mN _ _ _ rfl rfl HKey.out _ [] (plainElem_int Tryz.underlying3 ?mW) ?_; (case mN => have := HMn.out; show m.length < 9223372036854775807; omega); (case mW => exact WalkArith.wf_i64 (by have := HMn.out; omega)); intro w2 hown2 hgrow2; have HM2 := Aside0.mk hown2; have HO2 := Aside0.mk (row_kept HM1.out HO1.out hgrow2); have HB2 := Aside0.mk (below_map HB1.out hgrow2 (Nat.le_refl _) HB1.out.size); have bk2 := (hgrow2.block wr.heap.size HLt.out (fun h => Nat.ne_of_gt HM.out.lt (Option.some.inj h))).trans BK.out; clear hown2 hgrow2 hk0 hk1 hk2 hk3 hk4 hk5 hk6 hk7; have hj0 : w2.cell? ⟨wr.heap.size, 0, none⟩ = some (.int .u64 s.f0) := (blk_cell bk2 0).trans rfl; have hj1 : w2.cell? ⟨wr.heap.size, 1, none⟩ = some (.int .u64 s.f1) := (blk_cell bk2 1).trans rfl; have hj2 : w2.cell? ⟨wr.heap.size, 2, none⟩ = some (.int .u64 s.f2) := (blk_cell bk2 2).trans rfl; have hj3 : w2.cell? ⟨wr.heap.size, 3, none⟩ = some (.int .u8 s.f3) := (blk_cell bk2 3).trans rfl; have hj4 : w2.cell? ⟨wr.heap.size, 4, none⟩ = some (.string s.f4) := (blk_cell bk2 4).trans rfl; have hj5 : w2.cell? ⟨wr.heap.size, 5, none⟩ = some (.string s.f5) := (blk_cell bk2 5).trans rfl; have hj6 : w2.cell? ⟨wr.heap.size, 6, none⟩ = some (.int .i64 s.f6) := (blk_cell bk2 6).trans rfl; have hj7 : w2.cell? ⟨wr.heap.size, 7, none⟩ = some (.int .i64 s.f7) := (blk_cell bk2 7).trans rfl; clear bk2)
      | ((with_reducible refine gate_builtin (b := .append) (xs := #[.tmp 42, .tmp 44]) rfl ?_); at_builtin; refine Kd.R_append k36 (w0 := w) w.heap.size rfl (.tmp 42) (.tmp 44) 22 36 (.agg #[(.int .u64 0), (.int .u64 0), (.int .u64 0), (.int .u8 0), (.string ⟨#[]⟩), (.string ⟨#[]⟩), (.int .i64 0), (.int .i64 0)]) 80 rfl Tryz.underlying22 info36 rfl (by decide) (by omega) (.slice A6 m.length n6) m s [.int .u64 s.f0, .int .u64 s.f1, .int .u64 s.f2, .int .u8 s.f3, .string s.f4, .string s.f5, .int .i64 s.f6, .int .i64 s.f7] (fun _ => True) (fun _ => False) rfl ?aX ?aP (fun _ hk => hk.elim) ?aF ?aO ?aB ?aS ?aL ?_; (case aX => first | rfl | (go_simp; done) | (simp; done)); (case aP => exact k36_mkM _ _ _ s); (case aB => exact HB2.out); (case aF => exact (fun _ _ => trivial)); (case aO => exact HO2.out); (case aS => exact HB2.out.size); (case aL => have := HMn.out; show (m.length + 1) * 80 ≤ 140737488355328; omega); intro v3 w3 ho hb hg hat; have HO3 := Aside0.mk ho; have HB3 := Aside0.mk hb; have HM3 := Aside0.mk (map_kept HM2.out HO2.out hg); clear ho hb hg hat))
     go_roundg k1
     case measure => omega
     case rel =>
      have hst : stepD cmpS (·.f1) (okS a1) m s = m ++ [s] := by
       unfold stepD
       rw [if_pos HOk.out]
       simp only [HFi.out]
      refine ⟨x14 + 1, by rw [W1.out], ⟨by have := P1.out; omega, by have := HK.out; omega⟩, ?_, ?_, HB3⟩
      ·rw [HNext.out, hst]; exact HO3
      ·rw [HNext.out, hst, ← idsD_snoc, List.length_append]; exact HM3
    | some j =>
     have hj : j < m.length := by
      obtain ⟨h, _⟩ := List.findIdx?_eq_some_iff_getElem.1 hfi
      exact h
     obtain ⟨xi, hxi⟩ : ∃ xi : Int, (j : Int) = xi := ⟨_, rfl⟩
     have hx0 : 0 ≤ xi := by omega
     have hx1 : xi < (m.length : Int) := by omega
     have hxj : xi.toNat = j := by omega
     have hN := idsD_some HIds.out hfi (.lit (.int .i64 0))
     rw [hxi] at hN
     have HN := Aside0.mk hN
     have HSet := Aside0.mk (idsD_set hfi)
     have hy : m.getD j s = rd_T36 m xi := by
      unfold rd_T36
      rw [hxj]
      simp [List.getD, hj]
     have hst : stepD cmpS (·.f1) (okS a1) m s = if cmpS s (rd_T36 m xi) < 0 then m.set xi.toNat s else m := by
      unfold stepD
      rw [if_pos HOk.out]
      simp only [hfi]
      rw [hy, hxj]
     have HSt := Aside0.mk hst
     have HXj := Aside0.mk hxj
     have X0 := Aside0.mk hx0
     have X1 := Aside0.mk hx1
     clear hN hst hy hfi hxi hxj hj
     obtain ⟨g6, cap6, e6, hg6⟩ := Kd.R_form HO.out (show 0 < m.length by omega)
     cases e6
     clear hg6
     have x0 := eq_true hx0
     have x1 := eq_true hx1
     clear hx0 hx1
     go_wp2_with (first
      | (go_at_call 55; refine (QM.out _).mono ?_; rintro e w1 ⟨rfl, hb⟩; have HB1 := Aside0.mk (below_step (below_alloc HB.out _) hb); have HM1 := Aside0.mk (map_below (HM.out.alloc _) hb); have HO1 := Aside0.mk (Kd.R_below (Kd.R_alloc HO.out _) hb); have bk := (hb.block wr.heap.size (by simp)).trans (new_block wr #[.int .u64 s.f0, .int .u64 s.f1, .int .u64 s.f2, .int .u8 s.f3, .string s.f4, .string s.f5, .int .i64 s.f6, .int .i64 s.f7] 36); have BK := Aside0.mk bk; have hk0 : w1.cell? ⟨wr.heap.size, 0, none⟩ = some (.int .u64 s.f0) := (blk_cell bk 0).trans rfl; have hk1 : w1.cell? ⟨wr.heap.size, 1, none⟩ = some (.int .u64 s.f1) := (blk_cell bk 1).trans rfl; have hk2 : w1.cell? ⟨wr.heap.size, 2, none⟩ = some (.int .u64 s.f2) := (blk_cell bk 2).trans rfl; have hk3 : w1.cell? ⟨wr.heap.size, 3, none⟩ = some (.int .u8 s.f3) := (blk_cell bk 3).trans rfl; have hk4 : w1.cell? ⟨wr.heap.size, 4, none⟩ = some (.string s.f4) := (blk_cell bk 4).trans rfl; have hk5 : w1.cell? ⟨wr.heap.size, 5, none⟩ = some (.string s.f5) := (blk_cell bk 5).trans rfl; have hk6 : w1.cell? ⟨wr.heap.size, 6, none⟩ = some (.int .i64 s.f6) := (blk_cell bk 6).trans rfl; have hk7 : w1.cell? ⟨wr.heap.size, 7, none⟩ = some (.int .i64 s.f7) := (blk_cell bk 7).trans rfl; have HLt := Aside0.mk (show wr.heap.size < w1.heap.size from Nat.lt_of_lt_of_le (by simp) hb.size); clear hb bk)
      | (at_lookup; refine lookup_ok_known _ rfl _ _ 41 rfl 23 3 .i64 lawU64 Tryz.underlying41 Tryz.underlying3 (zeroInt _) w.heap.size m.length (idsD m) rfl HM1.out _ _ rfl HKey.out xi HN.out.1 true HN.out.2 ?_))
     obtain ⟨ce, hcl, hM, hcc, hfr⟩ := Kd.R_elem HO1.out z36 xi X0.out X1.out
     obtain rfl := k36_openM hM
     refine wp_region_still_tail 5 (by kernel_rfl) (by kernel_rfl) ?_
     simp only [List.take_succ_cons, List.take_zero, List.drop_succ_cons, List.drop_zero]
     change wpStill _ _ w1.drew _ _ _
     obtain ⟨y, hy⟩ : ∃ y, rd_T36 m xi = y := ⟨_, rfl⟩
     have hgd : m.getD xi.toNat z36 = y := hy
     rw [hgd] at hcc
     rw [hy] at HSt
     have hW : ∃ W3, w1.drew = W3 := ⟨_, rfl⟩
     obtain ⟨W3, hW3⟩ := hW
     have hs0 : W3.cell? ⟨wr.heap.size, 0, none⟩ = some (.int .u64 s.f0) := by rw [← hW3]; exact hk0
     have hs1 : W3.cell? ⟨wr.heap.size, 1, none⟩ = some (.int .u64 s.f1) := by rw [← hW3]; exact hk1
     have hs2 : W3.cell? ⟨wr.heap.size, 2, none⟩ = some (.int .u64 s.f2) := by rw [← hW3]; exact hk2
     have hs3 : W3.cell? ⟨wr.heap.size, 3, none⟩ = some (.int .u8 s.f3) := by rw [← hW3]; exact hk3
     have hs4 : W3.cell? ⟨wr.heap.size, 4, none⟩ = some (.string s.f4) := by rw [← hW3]; exact hk4
     have hs5 : W3.cell? ⟨wr.heap.size, 5, none⟩ = some (.string s.f5) := by rw [← hW3]; exact hk5
     have hs6 : W3.cell? ⟨wr.heap.size, 6, none⟩ = some (.int .i64 s.f6) := by rw [← hW3]; exact hk6
     have hs7 : W3.cell? ⟨wr.heap.size, 7, none⟩ = some (.int .i64 s.f7) := by rw [← hW3]; exact hk7
     have hz0 : W3.cell? ⟨g6, xi.toNat * 8, none⟩ = some (.int .u64 y.f0) := by rw [← hW3]; exact hcc 0 _ rfl
     have hz1 : W3.cell? ⟨g6, xi.toNat * 8 + 1, none⟩ = some (.int .u64 y.f1) := by rw [← hW3]; exact hcc 1 _ rfl
     have hz2 : W3.cell? ⟨g6, xi.toNat * 8 + 2, none⟩ = some (.int .u64 y.f2) := by rw [← hW3]; exact hcc 2 _ rfl
     have hz3 : W3.cell? ⟨g6, xi.toNat * 8 + 3, none⟩ = some (.int .u8 y.f3) := by rw [← hW3]; exact hcc 3 _ rfl
     have hz4 : W3.cell? ⟨g6, xi.toNat * 8 + 4, none⟩ = some (.string y.f4) := by rw [← hW3]; exact hcc 4 _ rfl
     have hz5 : W3.cell? ⟨g6, xi.toNat * 8 + 5, none⟩ = some (.string y.f5) := by rw [← hW3]; exact hcc 5 _ rfl
     have hz6 : W3.cell? ⟨g6, xi.toNat * 8 + 6, none⟩ = some (.int .i64 y.f6) := by rw [← hW3]; exact hcc 6 _ rfl
     have hz7 : W3.cell? ⟨g6, xi.toNat * 8 + 7, none⟩ = some (.int .i64 y.f7) := by rw [← hW3]; exact hcc 7 _ rfl
     have HB2 := Aside0.mk (show Below w.heap.size w W3 from hW3 ▸ below_drew HB1.out)
     have HM2 := Aside0.mk (show W3.ownsMap Tryz.prog 23 (plainElem Tryz.prog 3) w.heap.size m.length (idsD m) from hW3 ▸ HM1.out.drew)
     have HO2 := Aside0.mk (show Kd.R k36 36 W3 w.heap.size (fun _ => True) (.slice (some ⟨g6, 0, none⟩) m.length n6) m from hW3 ▸ Kd.R_drew HO1.out)
     have BK2 := Aside0.mk (show W3.heap[wr.heap.size]? = some (.cells #[.int .u64 s.f0, .int .u64 s.f1, .int .u64 s.f2, .int .u8 s.f3, .string s.f4, .string s.f5, .int .i64 s.f6, .int .i64 s.f7] 36 (0, 0)) from hW3 ▸ BK.out)
     have HLt2 := Aside0.mk (show wr.heap.size < W3.heap.size from hW3 ▸ HLt.out)
     rw [hW3]
     have HW3 := Aside0.mk hW3
     clear hk0 hk1 hk2 hk3 hk4 hk5 hk6 hk7 hcc hfr hcl hM hW3 hgd hy HB1 HM1 HO1 BK HLt
     have x0' := X0.out
     have x1' := X1.out
     iterate 5 still_step
     refine wpStill_nil ?_
     change wpList _ _ _ _ _ w1.drew
     rw [HW3.out]
     by_cases hc : cmpS s y < 0
     ·have hcb := decide_eq_true hc
      rw [if_pos hc] at HSt
      clear hc
      go_wp2_with (first
       | (go_at_call 56; refine (cmp_calls s y _).mono ?_; rintro e w4 ⟨rfl, hb⟩; have HB3 := Aside0.mk (below_step HB2.out hb); have HM3 := Aside0.mk (map_below HM2.out hb); have HO3 := Aside0.mk (Kd.R_below HO2.out hb); have bk3 := (hb.block wr.heap.size HLt2.out).trans BK2.out; have ht0 : w4.cell? ⟨wr.heap.size, 0, none⟩ = some (.int .u64 s.f0) := (blk_cell bk3 0).trans rfl; have ht1 : w4.cell? ⟨wr.heap.size, 1, none⟩ = some (.int .u64 s.f1) := (blk_cell bk3 1).trans rfl; have ht2 : w4.cell? ⟨wr.heap.size, 2, none⟩ = some (.int .u64 s.f2) := (blk_cell bk3 2).trans rfl; have ht3 : w4.cell? ⟨wr.heap.size, 3, none⟩ = some (.int .u8 s.f3) := (blk_cell bk3 3).trans rfl; have ht4 : w4.cell? ⟨wr.heap.size, 4, none⟩ = some (.string s.f4) := (blk_cell bk3 4).trans rfl; have ht5 : w4.cell? ⟨wr.heap.size, 5, none⟩ = some (.string s.f5) := (blk_cell bk3 5).trans rfl; have ht6 : w4.cell? ⟨wr.heap.size, 6, none⟩ = some (.int .i64 s.f6) := (blk_cell bk3 6).trans rfl; have ht7 : w4.cell? ⟨wr.heap.size, 7, none⟩ = some (.int .i64 s.f7) := (blk_cell bk3 7).trans rfl; clear hb bk3)
       | ((with_reducible refine gate_store (t := 36) (p := 57) rfl ?_); refine store_span (w0 := w) (g := g6) (o' := xi.toNat * 8) xi m s rfl rfl (.tmp 57) (.tmp 56) rfl rfl rfl rfl HO3.out X0.out X1.out HB3.out ?_; intro w5 ho hb hg; have HM4 := Aside0.mk (map_kept HM3.out HO3.out (show w4.grownBy w5 (Value.slice (some ⟨g6, 0, none⟩) m.length n6).ownBlock from hg)); have HO4 := Aside0.mk ho; have HB4 := Aside0.mk hb; clear ho hb hg))
      go_roundg k1
      case measure => omega
      case rel =>
       refine ⟨x14 + 1, by rw [W1.out], ⟨by have := P1.out; omega, by have := HK.out; omega⟩, ?_, ?_, HB4⟩
       ·rw [HNext.out, HSt.out]; exact HO4
       ·rw [HNext.out, HSt.out, HXj.out, HSet.out, List.length_set]; exact HM4
     ·have hcb := decide_eq_false hc
      rw [if_neg hc] at HSt
      clear hc
      go_wp2_with (first
       | (go_at_call 56; refine (cmp_calls s y _).mono ?_; rintro e w4 ⟨rfl, hb⟩; have HB3 := Aside0.mk (below_step HB2.out hb); have HM3 := Aside0.mk (map_below HM2.out hb); have HO3 := Aside0.mk (Kd.R_below HO2.out hb); have bk3 := (hb.block wr.heap.size HLt2.out).trans BK2.out; have ht0 : w4.cell? ⟨wr.heap.size, 0, none⟩ = some (.int .u64 s.f0) := (blk_cell bk3 0).trans rfl; have ht1 : w4.cell? ⟨wr.heap.size, 1, none⟩ = some (.int .u64 s.f1) := (blk_cell bk3 1).trans rfl; have ht2 : w4.cell? ⟨wr.heap.size, 2, none⟩ = some (.int .u64 s.f2) := (blk_cell bk3 2).trans rfl; have ht3 : w4.cell? ⟨wr.heap.size, 3, none⟩ = some (.int .u8 s.f3) := (blk_cell bk3 3).trans rfl; have ht4 : w4.cell? ⟨wr.heap.size, 4, none⟩ = some (.string s.f4) := (blk_cell bk3 4).trans rfl; have ht5 : w4.cell? ⟨wr.heap.size, 5, none⟩ = some (.string s.f5) := (blk_cell bk3 5).trans rfl; have ht6 : w4.cell? ⟨wr.heap.size, 6, none⟩ = some (.int .i64 s.f6) := (blk_cell bk3 6).trans rfl; have ht7 : w4.cell? ⟨wr.heap.size, 7, none⟩ = some (.int .i64 s.f7) := (blk_cell bk3 7).trans rfl; clear hb bk3))
      go_roundg k1
      case measure => omega
      case rel =>
       refine ⟨x14 + 1, by rw [W1.out], ⟨by have := P1.out; omega, by have := HK.out; omega⟩, ?_, ?_, HB3⟩
       ·rw [HNext.out, HSt.out]; exact HO3
       ·rw [HNext.out, HSt.out]; exact HM3
   ·have hst : stepD cmpS (·.f1) (okS a1) m s = m := by
     unfold stepD
     rw [if_neg hok]
    by_cases hq : s.f0 = a1
    ·have hmay : mayB s.f0 s.f1 s.f2 s.f3 s.f4 s.f5 s.f6 s.f7 = false := by
      rw [Bool.eq_false_iff]
      intro h
      apply hok
      unfold okS
      rw [h, Bool.and_true]
      exact decide_eq_true hq
     have q1 : (s.f0 != a1) = false := by simp [hq]
     have q2 : decide (s.f0 = a1) = true := by simp [hq]
     have QM := Aside0.mk (may_calls s HFit.out.2.1 HFit.out.2.2)
     rw [hmay] at QM
     have HSt := Aside0.mk hst
     clear hok hmay hst hq
     go_wp2_with (go_at_call 55; refine (QM.out _).mono ?_; rintro e w1 ⟨rfl, hb⟩; have HB1 := Aside0.mk (below_step (below_alloc HB.out _) hb); have HM1 := Aside0.mk (map_below (HM.out.alloc _) hb); have HO1 := Aside0.mk (Kd.R_below (Kd.R_alloc HO.out _) hb); have bk := (hb.block wr.heap.size (by simp)).trans (new_block wr #[.int .u64 s.f0, .int .u64 s.f1, .int .u64 s.f2, .int .u8 s.f3, .string s.f4, .string s.f5, .int .i64 s.f6, .int .i64 s.f7] 36); have BK := Aside0.mk bk; have hk0 : w1.cell? ⟨wr.heap.size, 0, none⟩ = some (.int .u64 s.f0) := (blk_cell bk 0).trans rfl; have hk1 : w1.cell? ⟨wr.heap.size, 1, none⟩ = some (.int .u64 s.f1) := (blk_cell bk 1).trans rfl; have hk2 : w1.cell? ⟨wr.heap.size, 2, none⟩ = some (.int .u64 s.f2) := (blk_cell bk 2).trans rfl; have hk3 : w1.cell? ⟨wr.heap.size, 3, none⟩ = some (.int .u8 s.f3) := (blk_cell bk 3).trans rfl; have hk4 : w1.cell? ⟨wr.heap.size, 4, none⟩ = some (.string s.f4) := (blk_cell bk 4).trans rfl; have hk5 : w1.cell? ⟨wr.heap.size, 5, none⟩ = some (.string s.f5) := (blk_cell bk 5).trans rfl; have hk6 : w1.cell? ⟨wr.heap.size, 6, none⟩ = some (.int .i64 s.f6) := (blk_cell bk 6).trans rfl; have hk7 : w1.cell? ⟨wr.heap.size, 7, none⟩ = some (.int .i64 s.f7) := (blk_cell bk 7).trans rfl; have HLt := Aside0.mk (show wr.heap.size < w1.heap.size from Nat.lt_of_lt_of_le (by simp) hb.size); clear hb bk)
     go_roundg k1
     case measure => omega
     case rel =>
      refine ⟨x14 + 1, by rw [W1.out], ⟨by have := P1.out; omega, by have := HK.out; omega⟩, ?_, ?_, HB1⟩
      ·rw [HNext.out, HSt.out]; exact HO1
      ·rw [HNext.out, HSt.out]; exact HM1
    ·have q1 : (s.f0 != a1) = true := by simpa using hq
     have q2 : decide (s.f0 = a1) = false := by simpa using hq
     have HSt := Aside0.mk hst
     clear hok hst hq
     go_wp2_with fail
     go_roundg k1
     case measure => omega
     case rel =>
      refine ⟨x14 + 1, by rw [W1.out], ⟨by have := P1.out; omega, by have := HK.out; omega⟩, ?_, ?_, ⟨below_alloc HB.out _⟩⟩
      ·rw [HNext.out, HSt.out]; exact ⟨Kd.R_alloc HO.out _⟩
      ·rw [HNext.out, HSt.out]; exact ⟨HM.out.alloc _⟩
  ·have c1b := decide_eq_false c1
   have hx : x14.toNat = l0.length := by have := HK.out; omega
   have ho := HO.out
   rw [hx, List.take_length] at ho
   obtain ⟨A6, n6, rfl⟩ := Kd.R_slice ho
   have hml := metD_length a1 l0
   have hrd := Kd.R_reads' ho
   have QS := Aside0.mk (sort_calls (metD a1 l0) (by have := HL.out; omega) A6 n6 wr hrd.2.2 hrd.2.1)
   clear ho HO hml hrd
   go_wp2_with (go_at_call 57; refine QS.out.mono ?_; rintro e w1 ⟨v, rfl, ho, hb⟩; have HO2 := Aside0.mk (Kd.R_lower ho HB.out.size); have HB2 := Aside0.mk (below_step HB.out hb); clear ho hb)
   go_ret
   exact ⟨_, rfl, HO2.out, HB2.out⟩
end Go.Proofs.YtgknjgionicncaaGreat.L
namespace Go.Proofs.YtgknjgionicncaaGreat.L
open Go.RowKit Go.Proofs.YtgknjgionicncaaGreat.Q Go.Proofs.YtgknjgionicncaaGreatW.PrintWords Go.Proofs.YtgknjgionicncaaGreatW.PrintLast Go.Proofs.YtgknjgionicncaaGreatW.PrintMore Go.Proofs.YtgknjgionicncaaGreatW.Lib Go.Sort Go.Lib
set_option linter.unusedVariables false
theorem cloneE_calls (l : List S72) (hl : l.length ≤ 1759218604441) (A : Option Addr) (c : Nat) (w : World) (hr : Kd.C k72 w A l.length l) (hc : l.length ≤ c) :
  Calls Tryz.prog 142 #[.slice A l.length c] w fun e w' => ∃ v : Value, e = .returned v ∧ Kd.R k72 72 w' w.heap.size (fun _ => True) v l ∧ Below w.heap.size w w' := by
 have q : ∀ (w : World) (a : Option Addr) (n c n' c' : Nat), (binOp .eql 29 (.slice a n c) (.slice none n' c')).run Tryz.prog w = .ok (.bool a.isNone) w := fun w a n c n' c' => Go.Lib.run_eql_slice_nil w _ _ a n c n' c' Tryz.underlying29
 cases A with
 | none =>
  have h0 : l = [] := by
   cases l with
   | nil => rfl
   | cons x l => obtain ⟨ad, h, _⟩ := hr.2.2 (by simp); exact absurd h (by simp)
  subst h0
  go_enter Tryz.func142, Tryz.ntmps142
  go_wp2
  go_ret
  exact ⟨_, rfl, Kd.R_nil _ _ _ _ _, Below.refl _ _⟩
 | some ad =>
  have HR0 := Aside0.mk hr
  clear hr
  have HL := Aside0.mk hl
  clear hl
  go_enter Tryz.func142, Tryz.ntmps142
  go_wp2_with (first
   | ((with_reducible refine gate_dst (N := 5) rfl ?_); refine Kd.R_lit k72 _ 72 ?hg (N := 5) ?hd (xs := ([] : List (S72))) (inner := []) (ok := fun _ => True) (okp := fun _ => True) ?hr ?hp (fun _ hk => hk) trivial (Below.refl _ _) (Nat.le_refl _) (by simp) ?_; (case hd => rfl); (case hg => rfl); (case hr => first | (go_simp; done) | (go_simp; rfl)); (case hp => exact (Reps.none _ _)); intro v1 w1 ho hb hg_ hnew_; clear hg_ hnew_; have HO := Aside0.mk ho; have HB := Aside0.mk hb; clear ho hb)
   | ((with_reducible refine gate_builtin (b := .append) (xs := #[.tmp 5, .tmp 6]) rfl ?_); at_builtin; refine Kd.R_append_rows k72 (w0 := w) w.heap.size rfl (.tmp 5) (.tmp 6) 29 72 (.agg #[(.int .i64 0), (.int .i64 0), (.int .i64 0), (.int .i64 0), (.int .i64 0), (.bool false)]) 48 rfl Tryz.underlying29 (by kernel_rfl) rfl (by decide) (by omega) v1 [] l _ _ _ (fun _ => True) (fun _ => False) rfl rfl ?aO ?aR (fun _ _ h => h) (fun _ h => h.elim) ?aF ?aB ?aS ?aL ?_; (case aR => exact (Kd.C_below HR0.out HB.out)); (case aB => exact HB.out); (case aF => exact (fun _ _ => trivial)); (case aO => exact HO.out); (case aS => exact HB.out.size); (case aL => have := HL.out; simp only [List.length_nil]; omega); intro v2 w2 ho hb hg hat; rw [List.nil_append] at ho; have HB2 := Aside0.mk hb; have HO2 := Aside0.mk ho; clear ho hb hg hat))
  go_ret
  exact ⟨_, rfl, HO2.out, HB2.out⟩
set_option maxRecDepth 100000 in
set_option maxHeartbeats 2000000 in
theorem growE_calls (n : Int) (h0 : 0 ≤ n) (h1 : n ≤ 1000000000) (w : World) :
  Calls Tryz.prog 171 #[.slice none 0 0, .int .i64 n] w fun e w' => ∃ v : Value, e = .returned v ∧ Kd.R k72 72 w' w.heap.size (fun _ => True) v [] ∧ Below w.heap.size w w' := by
 by_cases c : n = 0
 ·subst c
  go_enter Tryz.func171, Tryz.ntmps171
  go_wp2
  go_ret
  exact ⟨_, rfl, Kd.R_nil _ _ _ _ _, Below.refl _ _⟩
 ·have f1 : ¬ (n < 0) := by omega
  have f2 : wrap64 (n - 0) = n := by unfold wrap64; omega
  have f3 : n > 0 := by omega
  obtain ⟨v1, w1, hrun, hR, hg, _⟩ := Kd.R_zeros_run k72 (W := w) w.heap.size 29 3 29 72 (.agg #[(.int .i64 0), (.int .i64 0), (.int .i64 0), (.int .i64 0), (.int .i64 0), (.bool false)]) 48 Tryz.underlying29 Tryz.underlying3 (by kernel_rfl) rfl (by decide) (by omega)
   (.slice none 0 0) [] z72 (ok := fun _ => True) (by exact ⟨_, _, rfl, rfl, ⟨_, _, rfl, rfl, ⟨_, _, rfl, rfl, ⟨_, _, rfl, ⟨_, _, rfl, rfl, rfl⟩, rfl⟩⟩⟩⟩) (fun _ _ => trivial) (Kd.R_nil _ _ _ _ _) .i64 n h0 (by simp only [List.length_nil]; omega) (Nat.le_refl _)
  obtain ⟨g, cap, rfl, hb, hl, _⟩ := Kd.R_form hR (by simp; omega)
  have hlen : (([] : List S72) ++ List.replicate n.toNat z72).length = n.toNat := by simp
  rw [hlen] at hrun hR
  have hrd := Kd.R_reads' hR
  have hc : n.toNat ≤ cap := hrd.2.1
  have hT := Kd.R_take (m := 0) hR (Nat.zero_le _)
  rw [List.take_zero] at hT
  have f4 : wrap64 n = n := by unfold wrap64; omega
  have HT := Aside0.mk hT
  have HRUN := Aside0.mk hrun
  have HG := Aside0.mk hg
  clear hT hrun hg hR hrd hlen h0 h1 c hb hl
  go_enter Tryz.func171, Tryz.ntmps171
  go_wp2_with (first | ((with_reducible refine gate_builtin (b := .append) (xs := #[.tmp 20, .tmp 21]) rfl ?_); at_builtin; refine Go.Lib.wpList_append_run _ rfl _ _ _ _ rfl _ _ rfl rfl _ _ (by rw [f4]; exact HRUN.out) ?_))
  go_ret
  exact ⟨_, rfl, HT.out, (Below.refl _ _).grown HG.out (Nat.le_refl _) (fun k hk => by simp [Value.ownBlock] at hk)⟩
end Go.Proofs.YtgknjgionicncaaGreat.L
namespace Go.Proofs.YtgknjgionicncaaGreat.L
open Go.RowKit Go.Proofs.YtgknjgionicncaaGreat.Q Go.Proofs.YtgknjgionicncaaGreatW.PrintWords Go.Proofs.YtgknjgionicncaaGreatW.PrintLast Go.Proofs.YtgknjgionicncaaGreatW.PrintMore Go.Proofs.YtgknjgionicncaaGreatW.MapB Go.Proofs.YtgknjgionicncaaGreatW.Lib
set_option linter.unusedVariables false
set_option linter.unusedSimpArgs false
theorem blk_lt {w : World} {k : Nat} {o : Obj} (h : w.heap[k]? = some o) : k < w.heap.size := (Array.getElem?_eq_some_iff.1 h).1
end Go.Proofs.YtgknjgionicncaaGreat.L
namespace Go.Proofs.YtgknjgionicncaaGreat.L
open Go.RowKit Go.Proofs.YtgknjgionicncaaGreatW.PrintWords
set_option linter.unusedVariables false
theorem rdC_set (l : List Int) (i j v : Int) (h0 : 0 ≤ i) (h1 : i < l.length) (hj : 0 ≤ j) : rd (l.set i.toNat v) j = if i = j then v else rd l j := by
 unfold rd
 simp only [List.getD_eq_getElem?_getD, List.getElem?_set]
 by_cases e : i = j
 ·subst e
  rw [if_pos rfl, if_pos rfl, if_pos (by omega)]; rfl
 ·rw [if_neg e, if_neg (by omega)]
def upL (ps : List Int) (at_ : Int) : Nat → Int
 | 0 => at_
 | k + 1 => if at_ < 0 then at_ else upL ps (rd ps at_) k
theorem upL_neg (ps : List Int) {a : Int} (h : a < 0) : ∀ k, upL ps a k = a
 | 0 => rfl
 | k + 1 => by unfold upL; rw [if_pos h]
theorem upL_more (ps : List Int) : ∀ (k : Nat) (a : Int), upL ps a k < 0 → ∀ d, upL ps a (k + d) < 0
 | 0, a, h, d => by
  have h' : a < 0 := h
  rw [upL_neg ps h']
  exact h'
 | k + 1, a, h, d => by
  rw [show k + 1 + d = (k + d) + 1 by omega]
  unfold upL at h ⊢
  split
  ·assumption
  ·rename_i c
   rw [if_neg c] at h
   exact upL_more ps k _ h d
def endsAt (ps : List Int) (a : Int) : Prop := ∃ k, upL ps a k < 0
inductive Walk (ps : List Int) : Int → List Int → Int → Prop
 | none (a : Int) : Walk ps a [] a
 | step {a : Int} {L : List Int} {b : Int} : 0 ≤ a → Walk ps (rd ps a) L b → Walk ps a (a :: L) b
theorem Walk.up {ps : List Int} {a : Int} {L : List Int} {b : Int} (h : Walk ps a L b) : upL ps a L.length = b := by
 induction h with
 | none a => rfl
 | step h0 _ ih => simp only [List.length_cons, upL]; rw [if_neg (by omega)]; exact ih
theorem Walk.ends {ps : List Int} {a : Int} {L : List Int} {b : Int} (h : Walk ps a L b) (hb : endsAt ps b) : endsAt ps a ∧ ∀ x ∈ L, endsAt ps x := by
 induction h with
 | none a => exact ⟨hb, fun x hx => by cases hx⟩
 | @step a L b h0 _ ih =>
  obtain ⟨⟨k, hk⟩, h2⟩ := ih hb
  have ha : endsAt ps a := ⟨k + 1, by unfold upL; rw [if_neg (by omega)]; exact hk⟩
  refine ⟨ha, fun x hx => ?_⟩
  rcases List.mem_cons.1 hx with e | e
  ·rw [e]; exact ha
  ·exact h2 x e
theorem Walk.next {ps : List Int} {a : Int} {L : List Int} {b : Int} (h : Walk ps a L b) : ∀ x ∈ L, 0 ≤ x ∧ (rd ps x ∈ L ∨ rd ps x = b) := by
 induction h with
 | none a => intro x hx; cases hx
 | @step a L b h0 hw ih =>
  intro x hx
  rcases List.mem_cons.1 hx with e | e
  ·subst e
   refine ⟨h0, ?_⟩
   cases hw with
   | none => exact .inr rfl
   | step _ _ => exact .inl (List.mem_cons_of_mem _ (List.mem_cons_self ..))
  ·obtain ⟨h1, h2⟩ := ih x e
   exact ⟨h1, h2.elim (fun h => .inl (List.mem_cons_of_mem _ h)) .inr⟩
theorem Walk.round {ps : List Int} {a : Int} {L : List Int} {b : Int} (h : Walk ps a L b) (hb : b ∈ L) : ∀ x ∈ L, ¬ endsAt ps x := by
 have hn := h.next
 have key : ∀ (k : Nat) (x : Int), x ∈ L → 0 ≤ upL ps x k := by
  intro k
  induction k with
  | zero => intro x hx; exact (hn x hx).1
  | succ k ih =>
   intro x hx
   obtain ⟨h0, h1⟩ := hn x hx
   unfold upL
   rw [if_neg (by omega)]
   rcases h1 with h1 | h1
   ·exact ih _ h1
   ·rw [h1]; exact ih _ hb
 rintro x hx ⟨k, hk⟩
 have := key k x hx
 omega
def mark (v : Int) (L : List Int) (st : List Int) : List Int := L.foldl (fun s x => s.set x.toNat v) st
theorem mark_len (v : Int) : ∀ (L st : List Int), (mark v L st).length = st.length
 | [], _ => rfl
 | x :: L, st => by
  have := mark_len v L (st.set x.toNat v)
  rw [List.length_set] at this
  exact this
theorem rd_mark (v : Int) : ∀ (L st : List Int), (∀ x ∈ L, 0 ≤ x ∧ x < st.length) → ∀ j : Int, 0 ≤ j → rd (mark v L st) j = if j ∈ L then v else rd st j
 | [], st, _, j, _ => by simp [mark]
 | x :: L, st, h, j, hj => by
  have hx := h x (List.mem_cons_self ..)
  have e : mark v (x :: L) st = mark v L (st.set x.toNat v) := rfl
  rw [e, rd_mark v L _ (fun y hy => by rw [List.length_set]; exact h y (List.mem_cons_of_mem _ hy)) j hj, rdC_set st x j v hx.1 hx.2 hj]
  by_cases c : j ∈ L
  ·rw [if_pos c, if_pos (List.mem_cons_of_mem _ c)]
  ·rw [if_neg c]
   by_cases d : x = j
   ·rw [if_pos d, if_pos (by rw [d]; exact List.mem_cons_self ..)]
   ·rw [if_neg d, if_neg (fun h => (List.mem_cons.1 h).elim (fun h => d h.symm) c)]
def go1 (ps : List Int) : Nat → List Int → Int → List Int × Int
 | 0, st, a => (st, a)
 | f + 1, st, a => if 0 ≤ a ∧ rd st a = 0 then go1 ps f (st.set a.toNat 1) (rd ps a) else (st, a)
def go2 (ps : List Int) : Nat → List Int → Int → List Int
 | 0, st, _ => st
 | f + 1, st, a => if 0 ≤ a ∧ rd st a = 1 then go2 ps f (st.set a.toNat 2) (rd ps a) else st
def inR (n : Nat) (ps : List Int) : Prop := ps.length = n ∧ ∀ p ∈ ps, -1 ≤ p ∧ p < n
theorem inR_rd {n : Nat} {ps : List Int} (h : inR n ps) {a : Int} (h0 : 0 ≤ a) (h1 : a < n) : -1 ≤ rd ps a ∧ rd ps a < n := by
 have hx : a.toNat < ps.length := by rw [h.1]; omega
 have e : rd ps a = ps[a.toNat] := by simp [rd, List.getD, hx]
 rw [e]
 exact h.2 _ (List.getElem_mem _)
def zeros (st : List Int) : Nat := st.countP (fun x => decide (x = 0))
theorem zeros_set {st : List Int} {a : Int} (h0 : 0 ≤ a) (h1 : a < st.length) (hz : rd st a = 0) : zeros (st.set a.toNat 1) + 1 = zeros st := by
 have hx : a.toNat < st.length := by omega
 have e : st[a.toNat] = 0 := by simpa [rd, List.getD, hx] using hz
 unfold zeros
 rw [List.countP_set hx, e]
 have : 0 < st.countP (fun x => decide (x = 0)) := List.countP_pos_iff.2 ⟨0, by rw [← e]; exact List.getElem_mem _, by decide⟩
 simp
 omega
theorem go1_spec {n : Nat} {ps : List Int} (hp : inR n ps) : ∀ (f : Nat) (st : List Int) (a : Int), st.length = n → zeros st < f → a < n → ∃ L b, go1 ps f st a = (mark 1 L st, b) ∧ Walk ps a L b ∧ L.Nodup ∧ (∀ x ∈ L, 0 ≤ x ∧ x < n ∧ rd st x = 0) ∧ b < n ∧ (b < 0 ∨ rd (mark 1 L st) b ≠ 0)
 | 0, st, a, hl, hz, ha => by omega
 | f + 1, st, a, hl, hz, ha => by
  unfold go1
  by_cases c : 0 ≤ a ∧ rd st a = 0
  ·rw [if_pos c]
   have hzs := zeros_set c.1 (by rw [hl]; exact ha) c.2
   obtain ⟨L, b, h1, h2, h3, h4, h5, h6⟩ := go1_spec hp f (st.set a.toNat 1) (rd ps a) (by rw [List.length_set, hl]) (by omega) (inR_rd hp c.1 ha).2
   have hset : ∀ x : Int, 0 ≤ x → rd (st.set a.toNat 1) x = if a = x then 1 else rd st x := fun x hx => rdC_set st a x 1 c.1 (by rw [hl]; exact ha) hx
   have hna : ∀ x ∈ L, x ≠ a ∧ rd st x = 0 := by
    intro x hx
    obtain ⟨g0, g1, g2⟩ := h4 x hx
    rw [hset x g0] at g2
    by_cases e : a = x
    ·rw [if_pos e] at g2; omega
    ·rw [if_neg e] at g2; exact ⟨fun h => e h.symm, g2⟩
   refine ⟨a :: L, b, h1, .step c.1 h2, List.nodup_cons.2 ⟨fun h => (hna a h).1 rfl, h3⟩, ?_, h5, h6⟩
   intro x hx
   rcases List.mem_cons.1 hx with e | e
   ·rw [e]; exact ⟨c.1, ha, c.2⟩
   ·exact ⟨(h4 x e).1, (h4 x e).2.1, (hna x e).2⟩
  ·rw [if_neg c]
   refine ⟨[], a, rfl, .none a, List.nodup_nil, (fun x hx => absurd hx (by simp)), ha, ?_⟩
   show a < 0 ∨ rd st a ≠ 0
   rcases Int.lt_or_le a 0 with h | h
   ·exact .inl h
   ·exact .inr fun e => c ⟨h, e⟩
theorem go2_spec {ps : List Int} {a : Int} {L : List Int} {b : Int} (h : Walk ps a L b) : ∀ (f : Nat) (st : List Int), L.Nodup → (∀ x ∈ L, 0 ≤ x ∧ x < st.length ∧ rd st x = 1) → (b < 0 ∨ rd (mark 2 L st) b ≠ 1) → L.length < f → go2 ps f st a = mark 2 L st := by
 induction h with
 | none a =>
  intro f st _ _ hb hf
  obtain ⟨f, rfl⟩ : ∃ g, f = g + 1 := ⟨f - 1, by simp at hf; omega⟩
  unfold go2
  rw [if_neg (fun c => hb.elim (fun h => by omega) (fun h => h c.2))]
  rfl
 | @step a L b h0 hw ih =>
  intro f st nd hx hb hf
  rw [List.length_cons] at hf
  obtain ⟨f, rfl⟩ : ∃ g, f = g + 1 := ⟨f - 1, by omega⟩
  have ha := hx a (List.mem_cons_self ..)
  have nd2 := List.nodup_cons.1 nd
  unfold go2
  rw [if_pos ⟨h0, ha.2.2⟩]
  refine ih f (st.set a.toNat 2) nd2.2 ?_ hb (by omega)
  intro x hxl
  obtain ⟨g0, g1, g2⟩ := hx x (List.mem_cons_of_mem _ hxl)
  rw [List.length_set, rdC_set st a x 2 h0 ha.2.1 g0, if_neg (show ¬ a = x from fun e => nd2.1 (by rw [e]; exact hxl))]
  exact ⟨g0, g1, g2⟩
def roundC (ps : List Int) (z : List Int × List Int) (i : Int) : List Int × List Int :=
 let r := go1 ps (ps.length + 1) z.1 i
 (go2 ps (ps.length + 1) r.1 i, if 0 ≤ r.2 ∧ rd r.1 r.2 = 1 then z.2 ++ [r.2] else z.2)
structure CycInv (n : Nat) (ps : List Int) (z : List Int × List Int) : Prop where
 len : z.1.length = n
 two : ∀ a : Int, 0 ≤ a → a < n → rd z.1 a = 0 ∨ rd z.1 a = 2
 ends : z.2 = [] → ∀ a : Int, 0 ≤ a → a < n → rd z.1 a = 2 → endsAt ps a
 bad : z.2 ≠ [] → ∃ a : Int, 0 ≤ a ∧ a < n ∧ ¬ endsAt ps a
theorem zeros_le (st : List Int) : zeros st ≤ st.length := List.countP_le_length
theorem nodup_len {n : Nat} {L : List Int} (nd : L.Nodup) (h : ∀ x ∈ L, 0 ≤ x ∧ x < n) : L.length ≤ n := by
 have key : ∀ (l m : List Int), l.Nodup → (∀ x ∈ l, x ∈ m) → l.length ≤ m.length := by
  intro l
  induction l with
  | nil => intro m _ _; exact Nat.zero_le _
  | cons a l ih =>
   intro m nd h
   have ha := h a (List.mem_cons_self ..)
   have nd2 := List.nodup_cons.1 nd
   have := ih (m.erase a) nd2.2 (fun x hx => (List.mem_erase_of_ne (show x ≠ a from fun e => nd2.1 (by rw [← e]; exact hx))).2 (h x (List.mem_cons_of_mem _ hx)))
   rw [List.length_erase_of_mem ha] at this
   have h0 : 0 < m.length := List.length_pos_of_mem ha
   rw [List.length_cons]
   omega
 have := key L ((List.range n).map fun i : Nat => (i : Int)) nd (fun x hx => List.mem_map.2 ⟨x.toNat, List.mem_range.2 (by have := h x hx; omega), by have := h x hx; omega⟩)
 simpa using this
theorem round_inv {n : Nat} {ps : List Int} (hp : inR n ps) {z : List Int × List Int} (h : CycInv n ps z) {i : Int} (h0 : 0 ≤ i) (h1 : i < n) : CycInv n ps (roundC ps z i) ∧ rd (roundC ps z i).1 i = 2 ∧ ∀ a : Int, 0 ≤ a → a < n → rd z.1 a = 2 → rd (roundC ps z i).1 a = 2 := by
 obtain ⟨st, fl⟩ := z
 obtain ⟨hlen, htwo, hends, hbad⟩ := h
 dsimp only at hlen htwo hends hbad
 have hzl := zeros_le st
 obtain ⟨L, b, g1, g2, g3, g4, g5, g6⟩ := go1_spec hp (ps.length + 1) st i hlen (by rw [hp.1]; omega) h1
 have hL : L.length ≤ n := nodup_len g3 (fun x hx => ⟨(g4 x hx).1, (g4 x hx).2.1⟩)
 have m1 : ∀ j : Int, 0 ≤ j → rd (mark 1 L st) j = if j ∈ L then 1 else rd st j := rd_mark 1 L st (fun x hx => ⟨(g4 x hx).1, by rw [hlen]; exact (g4 x hx).2.1⟩)
 have m2 : ∀ j : Int, 0 ≤ j → rd (mark 2 L (mark 1 L st)) j = if j ∈ L then 2 else rd st j := by
  intro j hj
  rw [rd_mark 2 L _ (fun x hx => ⟨(g4 x hx).1, by rw [mark_len, hlen]; exact (g4 x hx).2.1⟩) j hj, m1 j hj]
  by_cases c : j ∈ L
  ·rw [if_pos c, if_pos c]
  ·rw [if_neg c, if_neg c]; rw [if_neg c]
 have e2 : go2 ps (ps.length + 1) (mark 1 L st) i = mark 2 L (mark 1 L st) := by
  refine go2_spec g2 _ _ g3 (fun x hx => ⟨(g4 x hx).1, by rw [mark_len, hlen]; exact (g4 x hx).2.1, by rw [m1 x (g4 x hx).1, if_pos hx]⟩) ?_ (by rw [hp.1]; omega)
  rcases Int.lt_or_le b 0 with c | c
  ·exact .inl c
  ·refine .inr ?_
   rw [m2 b c]
   by_cases d : b ∈ L
   ·rw [if_pos d]; decide
   ·rw [if_neg d]
    rcases htwo b c g5 with e | e <;> omega
 have hround : roundC ps (st, fl) i = (mark 2 L (mark 1 L st), if 0 ≤ b ∧ b ∈ L then fl ++ [b] else fl) := by
  unfold roundC
  dsimp only
  rw [g1]
  dsimp only
  rw [e2]
  congr 1
  by_cases c : 0 ≤ b
  ·rw [m1 b c]
   by_cases d : b ∈ L
   ·rw [if_pos d, if_pos ⟨c, rfl⟩, if_pos ⟨c, d⟩]
   ·rw [if_neg d, if_neg (show ¬ (0 ≤ b ∧ rd st b = 1) from fun h => by rcases htwo b c g5 with e | e <;> omega), if_neg (show ¬ (0 ≤ b ∧ b ∈ L) from fun h => d h.2)]
  ·rw [if_neg (fun h => c h.1), if_neg (fun h => c h.1)]
 have hi2 : rd (mark 2 L (mark 1 L st)) i = 2 := by
  rw [m2 i h0]
  by_cases d : i ∈ L
  ·rw [if_pos d]
  ·rw [if_neg d]
   rcases htwo i h0 h1 with e | e
   ·exfalso
    cases g2 with
    | none =>
     rcases g6 with h | h
     ·omega
     ·exact h e
    | step _ _ => exact d (List.mem_cons_self ..)
   ·exact e
 rw [hround]
 refine ⟨⟨by rw [mark_len, mark_len, hlen], ?_, ?_, ?_⟩, hi2, ?_⟩
 ·intro a a0 a1
  dsimp only
  rw [m2 a a0]
  by_cases d : a ∈ L
  ·rw [if_pos d]; exact .inr rfl
  ·rw [if_neg d]; exact htwo a a0 a1
 ·intro hf a a0 a1 h2
  dsimp only at hf h2
  by_cases c : 0 ≤ b ∧ b ∈ L
  ·rw [if_pos c] at hf; simp at hf
  ·rw [if_neg c] at hf
   rw [m2 a a0] at h2
   by_cases d : a ∈ L
   ·have hb : endsAt ps b := by
     rcases Int.lt_or_le b 0 with e | e
     ·exact ⟨0, e⟩
     ·have hnb : b ∉ L := fun h => c ⟨e, h⟩
      refine hends hf b e g5 ?_
      rcases htwo b e g5 with q | q
      ·exfalso
       rcases g6 with g | g
       ·omega
       ·rw [m1 b e, if_neg hnb] at g; exact g q
      ·exact q
    exact (g2.ends hb).2 a d
   ·rw [if_neg d] at h2
    exact hends hf a a0 a1 h2
 ·intro hf
  dsimp only at hf
  by_cases c : 0 ≤ b ∧ b ∈ L
  ·exact ⟨b, c.1, g5, g2.round c.2 b c.2⟩
  ·rw [if_neg c] at hf
   exact hbad hf
 ·intro a a0 a1 h2
  dsimp only at h2 ⊢
  rw [m2 a a0]
  by_cases d : a ∈ L
  ·rw [if_pos d]
  ·rw [if_neg d]; exact h2
def cycZ (ps : List Int) : Nat → List Int × List Int
 | 0 => (List.replicate ps.length 0, [])
 | k + 1 => roundC ps (cycZ ps k) (k : Int)
theorem cyc_inv {n : Nat} {ps : List Int} (hp : inR n ps) : ∀ k : Nat, k ≤ n → CycInv n ps (cycZ ps k) ∧ ∀ a : Int, 0 ≤ a → a < k → rd (cycZ ps k).1 a = 2
 | 0, _ => by
  have hr : ∀ a : Int, 0 ≤ a → a < n → rd (List.replicate ps.length (0 : Int)) a = 0 := fun a a0 a1 => by
   have hx : a.toNat < ps.length := by rw [hp.1]; omega
   simp [rd, List.getD, hx]
  refine ⟨⟨by simp [cycZ, hp.1], fun a a0 a1 => .inl (hr a a0 a1), ?_, fun h => absurd rfl h⟩, fun a a0 a1 => by omega⟩
  intro _ a a0 a1 h
  have := hr a a0 a1
  have h' : rd (List.replicate ps.length (0 : Int)) a = 2 := h
  omega
 | k + 1, hk => by
  obtain ⟨h1, h2⟩ := cyc_inv hp k (by omega)
  obtain ⟨g1, g2, g3⟩ := round_inv hp h1 (i := (k : Int)) (by omega) (by omega)
  refine ⟨g1, fun a a0 a1 => ?_⟩
  by_cases e : a = (k : Int)
  ·rw [e]; exact g2
  ·exact g3 a a0 (by omega) (h2 a a0 (by omega))
theorem cyc_none {n : Nat} {ps : List Int} (hp : inR n ps) : (cycZ ps n).2 = [] ↔ ∀ a : Int, 0 ≤ a → a < n → endsAt ps a := by
 obtain ⟨h1, h2⟩ := cyc_inv hp n (Nat.le_refl _)
 constructor
 ·intro h a a0 a1
  exact h1.ends h a a0 a1 (h2 a a0 a1)
 ·intro h
  cases hc : (cycZ ps n).2 with
  | nil => rfl
  | cons x l =>
   obtain ⟨a, a0, a1, hb⟩ := h1.bad (by rw [hc]; simp)
   exact absurd (h a a0 a1) hb
theorem ends_in {n : Nat} {ps : List Int} (hp : inR n ps) {a : Int} (a1 : a < n) : endsAt ps a ↔ upL ps a (n + 1) < 0 := by
 refine ⟨fun h => ?_, fun h => ⟨_, h⟩⟩
 have hz := zeros_le (List.replicate n (0 : Int))
 rw [List.length_replicate] at hz
 obtain ⟨L, b, g1, g2, g3, g4, g5, g6⟩ := go1_spec hp (n + 1) (List.replicate n 0) a (by simp) (by omega) a1
 have hL : L.length ≤ n := nodup_len g3 (fun x hx => ⟨(g4 x hx).1, (g4 x hx).2.1⟩)
 rcases Int.lt_or_le b 0 with c | c
 ·have := upL_more ps L.length a (by rw [g2.up]; exact c) (n + 1 - L.length)
  rw [show L.length + (n + 1 - L.length) = n + 1 by omega] at this
  exact this
 ·exfalso
  have hbL : b ∈ L := by
   rcases g6 with g | g
   ·omega
   ·rw [rd_mark 1 L _ (fun x hx => ⟨(g4 x hx).1, by rw [List.length_replicate]; exact (g4 x hx).2.1⟩) b c] at g
    by_cases d : b ∈ L
    ·exact d
    ·rw [if_neg d] at g
     exfalso
     apply g
     have hx : b.toNat < n := by omega
     simp [rd, List.getD, hx]
  have hr := g2.round hbL
  cases g2 with
  | none => cases hbL
  | step _ _ => exact hr a (List.mem_cons_self ..) h
end Go.Proofs.YtgknjgionicncaaGreat.L
namespace Go.Proofs.YtgknjgionicncaaGreat.L
open Go.RowKit Go.Proofs.YtgknjgionicncaaGreat.Q Go.Proofs.YtgknjgionicncaaGreatW.PrintWords Go.Proofs.YtgknjgionicncaaGreatW.PrintLast Go.Proofs.YtgknjgionicncaaGreatW.PrintMore Go.Proofs.YtgknjgionicncaaGreatW.Lib Go.Proofs.YtgknjgionicncaaGreatW.MapB
set_option linter.unusedVariables false
theorem no_calls (x : Int) (B : Nat) (b : Bool) (w : World) (hb : Boxed w B 4 (.bool b)) :
  Calls Tryz.prog 126 #[.int .i64 x, .pointer (some ⟨B, 0, none⟩)] w fun e w' => e = .returned (.tuple #[]) ∧ Boxed w' B 4 (.bool false) ∧ w.grownBy w' (some B) := by
 have hc := hb.cell
 have hf := hb.frozen
 go_enter Tryz.func126, Tryz.ntmps126
 go_wp2
 go_end0
 exact ⟨rfl, hb.set _, grownBy_setCell' _ _ _⟩
def rowB (W : World) (g : Nat) (st : List Int) : Prop := W.heap[g]? = some (.cells (st.map (Value.int .i64)).toArray 3 (0, 0))
theorem rowB_cell {W : World} {g : Nat} {st : List Int} (h : rowB W g st) {a : Int} (h0 : 0 ≤ a) (h1 : a < st.length) : W.cell? ⟨g, a.toNat, none⟩ = some (.int .i64 (rd st a)) := by
 have hx : a.toNat < st.length := by omega
 unfold rowB at h
 simp [World.cell?, h, rd, List.getD, hx]
theorem rowB_frozen {W : World} {g : Nat} {st : List Int} (h : rowB W g st) (a : Nat) : W.frozen? ⟨g, a, none⟩ = false := by
 unfold rowB at h
 simp [World.frozen?, h]
theorem rowB_set {W : World} {g : Nat} {st : List Int} (h : rowB W g st) (a : Nat) (v : Int) : rowB (W.setCell ⟨g, a, none⟩ (.int .i64 v)) g (st.set a v) := by
 unfold rowB at *
 obtain ⟨hlt, hk⟩ := Array.getElem?_eq_some_iff.1 h
 show (W.heap.modify g _)[g]? = _
 rw [Array.getElem?_eq_getElem (by rw [Array.size_modify]; exact hlt), Array.getElem_modify_self, hk]
 simp [List.map_set]
theorem rowB_kept {W W' : World} {g : Nat} {st : List Int} {row : Option Nat} (h : rowB W g st) (hg : W.grownBy W' row) (hne : some g ≠ row) : rowB W' g st := (hg.block g (Array.getElem?_eq_some_iff.1 h).1 hne).trans h
theorem heap_made (W : World) (z : Value) (n : Nat) (e : TypeId) : (W.alloc (.cells (madeCells #[z] n) e)).heap[W.heap.size]? = some (.cells (List.replicate n z).toArray e (0, 0)) := by
 have h := (MapKept.heap_alloc W (.cells (madeCells #[z] n) e)).1
 have e1 : madeCells #[z] n = (List.replicate n z).toArray := by
  apply Array.ext
  ·simp [madeCells]
  ·intro i h1 h2
   simp [madeCells, Nat.mod_one]
 exact h.trans (by rw [e1])
theorem grownBy_set (W : World) (g o : Nat) (v : Value) : W.grownBy (W.setCell ⟨g, o, none⟩ v) (some g) :=
 ⟨rfl, rfl, rfl, (KeepsWalks.setCell W _ v).size, fun k _ hk => Below.heap_setCell _ _ _ k (fun e => hk (by rw [e]))⟩
theorem go1_on {ps : List Int} {f : Nat} {st : List Int} {a : Int} (c : 0 ≤ a ∧ rd st a = 0) : go1 ps (f + 1) st a = go1 ps f (st.set a.toNat 1) (rd ps a) := by
 show (if _ then _ else _) = _
 rw [if_pos c]
theorem go1_stop {ps : List Int} {f : Nat} {st : List Int} {a : Int} (c : ¬ rd st a = 0) : go1 ps (f + 1) st a = (st, a) := by
 show (if _ then _ else _) = _
 rw [if_neg (fun h => c h.2)]
theorem go1_len (ps : List Int) : ∀ (f : Nat) (st : List Int) (a : Int), (go1 ps f st a).1.length = st.length
 | 0, _, _ => rfl
 | f + 1, st, a => by
  unfold go1
  split
  ·rw [go1_len ps f, List.length_set]
  ·rfl
def ones (st : List Int) : Nat := st.countP (fun x => decide (x = 1))
theorem ones_set {st : List Int} {a : Int} (h0 : 0 ≤ a) (h1 : a < st.length) (hz : rd st a = 1) : ones (st.set a.toNat 2) + 1 = ones st := by
 have hx : a.toNat < st.length := by omega
 have e : st[a.toNat] = 1 := by simpa [rd, List.getD, hx] using hz
 unfold ones
 rw [List.countP_set hx, e]
 have : 0 < st.countP (fun x => decide (x = 1)) := List.countP_pos_iff.2 ⟨1, by rw [← e]; exact List.getElem_mem _, by decide⟩
 simp
 omega
theorem go2_on {ps : List Int} {f : Nat} {st : List Int} {a : Int} (c : 0 ≤ a ∧ rd st a = 1) : go2 ps (f + 1) st a = go2 ps f (st.set a.toNat 2) (rd ps a) := by
 show (if _ then _ else _) = _
 rw [if_pos c]
theorem go2_stop {ps : List Int} {f : Nat} {st : List Int} {a : Int} (c : ¬ (0 ≤ a ∧ rd st a = 1)) : go2 ps (f + 1) st a = st := by
 show (if _ then _ else _) = _
 rw [if_neg c]
end Go.Proofs.YtgknjgionicncaaGreat.L
namespace Go.Proofs.YtgknjgionicncaaGreat.Q
open Go.RowKit Go.Proofs.YtgknjgionicncaaGreatW.PrintWords Go.Proofs.YtgknjgionicncaaGreatW.PrintLast Go.Proofs.YtgknjgionicncaaGreatW.PrintMore
attribute [local go_sem] max2_int min2_int max_two min_two max_three min_three max_four min_four
set_option linter.unusedVariables false
set_option linter.unusedSimpArgs false
end Go.Proofs.YtgknjgionicncaaGreat.Q
namespace Go.Proofs.YtgknjgionicncaaGreat.L
open Go.RowKit Go.Proofs.YtgknjgionicncaaGreat.Q Go.Proofs.YtgknjgionicncaaGreatW.PrintWords Go.Proofs.YtgknjgionicncaaGreatW.PrintLast Go.Proofs.YtgknjgionicncaaGreatW.PrintMore Go.Proofs.YtgknjgionicncaaGreatW.Lib
set_option linter.unusedVariables false
def upP (ps : List Int) (at_ : Int) : Nat → Int
 | 0 => at_
 | n + 1 => if at_ ≥ 0 then upP ps (rd ps at_) n else at_
def inP (n : Nat) (ps : List Int) : Prop := ∀ x ∈ ps, -1 ≤ x ∧ x < n
theorem inP_rd {ps : List Int} (h : inP ps.length ps) (x : Int) (h0 : 0 ≤ x) (h1 : x < ps.length) : -1 ≤ rd ps x ∧ rd ps x < ps.length := by
 have hx : x.toNat < ps.length := by omega
 have e : rd ps x = ps[x.toNat] := by simp [rd, List.getD, hx]
 rw [e]
 exact h _ (List.getElem_mem hx)
def onP (ps : List Int) (a : Int) : Bool := (List.range ps.length).any (fun n => decide (upP ps a (n + 1) = a))
def scanD (l : List S36) (id : Int) : Nat → Int → Int
 | 0, p => p
 | j + 1, p => scanD l id j (if id ≠ 0 ∧ (rd_T36 l j).f1 = id then (j : Int) else p)
theorem scanD_in (l : List S36) (id : Int) : ∀ (j : Nat) (p : Int), j ≤ l.length → -1 ≤ p → p < l.length → -1 ≤ scanD l id j p ∧ scanD l id j p < l.length
 | 0, p, _, h0, h1 => ⟨h0, h1⟩
 | j + 1, p, hj, h0, h1 => by
  simp only [scanD]
  split
  ·exact scanD_in l id j _ (by omega) (by omega) (by omega)
  ·exact scanD_in l id j _ (by omega) h0 h1
def rawL (l : List S36) : List Int := l.map (fun s => scanD l s.f2 l.length (-1))
theorem rawL_length (l : List S36) : (rawL l).length = l.length := by simp [rawL]
theorem rawL_in (l : List S36) (h : 0 < l.length ∨ l.length = 0) : inP l.length (rawL l) := by
 intro x hx
 obtain ⟨s, hs, rfl⟩ := List.mem_map.1 hx
 exact scanD_in l s.f2 l.length (-1) (by omega) (by omega) (by omega)
def loL (ps : List Int) (i : Int) : Nat → Int → Bool
 | 0, _ => true
 | f + 1, a => if rd ps a = i then true else if rd ps a < i then false else loL ps i f (rd ps a)
def parAt (ps : List Int) (i : Int) : Int := if (onP ps i && loL ps i ps.length i) = true then -1 else rd ps i
def parL (l : List S36) : List Int := (List.range l.length).map (fun i : Nat => parAt (rawL l) i)
theorem parL_length (l : List S36) : (parL l).length = l.length := by simp [parL]
theorem upP_upL (ps : List Int) : ∀ (n : Nat) (a : Int), upP ps a n = upL ps a n
 | 0, a => rfl
 | n + 1, a => by
  unfold upP upL
  by_cases c : a < 0
  ·rw [if_pos c, if_neg (by omega)]
  ·rw [if_neg c, if_pos (by omega), upP_upL ps n]
theorem upL_add (ps : List Int) : ∀ (k j : Nat) (a : Int), upL ps a (k + j) = upL ps (upL ps a k) j
 | 0, j, a => by rw [Nat.zero_add]; rfl
 | k + 1, j, a => by
  rw [show k + 1 + j = (k + j) + 1 by omega]
  show (if a < 0 then a else upL ps (rd ps a) (k + j)) = upL ps (if a < 0 then a else upL ps (rd ps a) k) j
  by_cases c : a < 0
  ·rw [if_pos c, if_pos c, upL_neg ps c]
  ·rw [if_neg c, if_neg c]; exact upL_add ps k j _
theorem Walk.app {ps : List Int} {a : Int} {A : List Int} {x : Int} (h : Walk ps a A x) : ∀ {B : List Int} {b : Int}, Walk ps x B b → Walk ps a (A ++ B) b := by
 induction h with
 | none a => intro B b h; exact h
 | step h0 _ ih => intro B b h; exact .step h0 (ih h)
theorem Walk.split {ps : List Int} {a : Int} {L : List Int} {b : Int} (h : Walk ps a L b) {x : Int} (hx : x ∈ L) : ∃ A B, L = A ++ x :: B ∧ Walk ps a A x ∧ Walk ps x (x :: B) b := by
 induction h with
 | none a => cases hx
 | @step a L b h0 hw ih =>
  by_cases e : x = a
  ·subst e
   exact ⟨[], L, rfl, .none _, .step h0 hw⟩
  ·obtain ⟨A, B, h1, h2, h3⟩ := ih ((List.mem_cons.1 hx).resolve_left e)
   exact ⟨a :: A, B, by rw [h1]; rfl, .step h0 h2, h3⟩
structure Cyc (ps : List Int) (L : List Int) (a : Int) : Prop where
 walk : Walk ps a L a
 mem : a ∈ L
 nd : L.Nodup
theorem Cyc.rot {ps : List Int} {L : List Int} {a : Int} (h : Cyc ps L a) {x : Int} (hx : x ∈ L) : ∃ L', L'.Perm L ∧ Cyc ps L' x := by
 obtain ⟨A, B, rfl, h2, h3⟩ := h.walk.split hx
 have hp : ((x :: B) ++ A).Perm (A ++ x :: B) := List.perm_append_comm
 exact ⟨(x :: B) ++ A, hp, h3.app h2, by simp, hp.nodup_iff.2 h.nd⟩
theorem Cyc.next {ps : List Int} {L : List Int} {a : Int} (h : Cyc ps L a) {x : Int} (hx : x ∈ L) : 0 ≤ x ∧ rd ps x ∈ L := by
 obtain ⟨h0, h1⟩ := h.walk.next x hx
 exact ⟨h0, h1.elim (fun h => h) (fun e => by rw [e]; exact h.mem)⟩
theorem Cyc.up {ps : List Int} {L : List Int} {a : Int} (h : Cyc ps L a) : ∀ (k : Nat) {x : Int}, x ∈ L → upL ps x k ∈ L
 | 0, x, hx => hx
 | k + 1, x, hx => by
  have := h.next hx
  unfold upL
  rw [if_neg (by omega)]
  exact h.up k this.2
theorem Cyc.no_end {ps : List Int} {L : List Int} {a : Int} (h : Cyc ps L a) {x : Int} (hx : x ∈ L) : ¬ endsAt ps x := by
 rintro ⟨k, hk⟩
 have := (h.next (h.up k hx)).1
 omega
theorem cyc_of_up {ps : List Int} {a : Int} (h0 : 0 ≤ a) {k : Nat} (hk : 0 < k) (h : upL ps a k = a) : ∃ L, Cyc ps L a := by
 have key : ∀ d : Nat, ∀ j : Nat, j ≤ d → 0 < j → upL ps a j = a → ∃ L, Cyc ps L a := by
  intro d
  induction d with
  | zero => intro j h1 h2; omega
  | succ d ih =>
   intro j hjd hj0 hj
   by_cases hs : ∃ i, 0 < i ∧ i < j ∧ upL ps a i = a
   ·obtain ⟨i, i0, i1, i2⟩ := hs
    exact ih i (by omega) i0 i2
   ·-- the walk of j steps
    have hnn : ∀ i, i ≤ j → 0 ≤ upL ps a i := by
     intro i hi
     rcases Int.lt_or_le (upL ps a i) 0 with c | c
     ·exfalso
      have := upL_more ps i a c (j - i)
      rw [show i + (j - i) = j by omega, hj] at this
      omega
     ·exact c
    have walk : ∀ m : Nat, m ≤ j → Walk ps a ((List.range m).map (fun i => upL ps a i)) (upL ps a m) := by
     intro m
     induction m with
     | zero => intro _; exact .none _
     | succ m ihm =>
      intro hm
      rw [List.range_succ, List.map_append]
      refine (ihm (by omega)).app ?_
      have e : upL ps a (m + 1) = rd ps (upL ps a m) := by
       rw [upL_add ps m 1 a]
       show (if upL ps a m < 0 then _ else upL ps (rd ps (upL ps a m)) 0) = _
       rw [if_neg (by have := hnn m (by omega); omega)]; rfl
      rw [e]
      exact .step (hnn m (by omega)) (.none _)
    have nd : ((List.range j).map (fun i => upL ps a i)).Nodup := by
     rw [List.nodup_iff_pairwise_ne, List.pairwise_map]
     refine List.pairwise_iff_getElem.2 ?_
     intro x y hx hy hxy
     simp only [List.getElem_range, List.length_range] at hx hy ⊢
     intro e
     apply hs
     refine ⟨x + (j - y), by omega, by omega, ?_⟩
     rw [upL_add ps x (j - y) a, e, ← upL_add ps y (j - y) a, show y + (j - y) = j by omega, hj]
    refine ⟨_, ?_, ?_, nd⟩
    ·have := walk j (Nat.le_refl _)
     rw [hj] at this
     exact this
    ·exact List.mem_map.2 ⟨0, List.mem_range.2 hj0, rfl⟩
 exact key k k (Nat.le_refl _) hk h
theorem Cyc.len {ps : List Int} {n : Nat} (hp : inR n ps) {L : List Int} {a : Int} (h : Cyc ps L a) (h1 : a < n) : (∀ x ∈ L, 0 ≤ x ∧ x < n) ∧ L.length ≤ n := by
 have hx : ∀ x ∈ L, 0 ≤ x ∧ x < n := by
  intro x hx
  obtain ⟨A, B, _, h2, _⟩ := h.walk.split hx
  have : ∀ {a x : Int} {A : List Int}, Walk ps a A x → a < n → x < n := by
   intro a x A hw
   induction hw with
   | none a => intro h; exact h
   | step h0 _ ih => intro h; exact ih (inR_rd hp h0 h).2
  exact ⟨(h.next hx).1, this h2 h1⟩
 exact ⟨hx, nodup_len h.nd hx⟩
theorem round_form {n : Nat} {ps : List Int} (hp : inR n ps) {z : List Int × List Int} (h : CycInv n ps z) {i : Int} (h0 : 0 ≤ i) (h1 : i < n) : ∃ L b, Walk ps i L b ∧ L.Nodup ∧ b < n ∧ (roundC ps z i).2 = (if 0 ≤ b ∧ b ∈ L then z.2 ++ [b] else z.2) ∧ (∀ j : Int, 0 ≤ j → rd (roundC ps z i).1 j = if j ∈ L then 2 else rd z.1 j) ∧ (b < 0 ∨ b ∈ L ∨ rd z.1 b = 2) := by
 obtain ⟨st, fl⟩ := z
 obtain ⟨hlen, htwo, hends, hbad⟩ := h
 dsimp only at hlen htwo hends hbad
 have hzl := zeros_le st
 obtain ⟨L, b, g1, g2, g3, g4, g5, g6⟩ := go1_spec hp (ps.length + 1) st i hlen (by rw [hp.1]; omega) h1
 have hL : L.length ≤ n := nodup_len g3 (fun x hx => ⟨(g4 x hx).1, (g4 x hx).2.1⟩)
 have m1 : ∀ j : Int, 0 ≤ j → rd (mark 1 L st) j = if j ∈ L then 1 else rd st j := rd_mark 1 L st (fun x hx => ⟨(g4 x hx).1, by rw [hlen]; exact (g4 x hx).2.1⟩)
 have m2 : ∀ j : Int, 0 ≤ j → rd (mark 2 L (mark 1 L st)) j = if j ∈ L then 2 else rd st j := by
  intro j hj
  rw [rd_mark 2 L _ (fun x hx => ⟨(g4 x hx).1, by rw [mark_len, hlen]; exact (g4 x hx).2.1⟩) j hj, m1 j hj]
  by_cases c : j ∈ L
  ·rw [if_pos c, if_pos c]
  ·rw [if_neg c, if_neg c]; rw [if_neg c]
 have e2 : go2 ps (ps.length + 1) (mark 1 L st) i = mark 2 L (mark 1 L st) := by
  refine go2_spec g2 _ _ g3 (fun x hx => ⟨(g4 x hx).1, by rw [mark_len, hlen]; exact (g4 x hx).2.1, by rw [m1 x (g4 x hx).1, if_pos hx]⟩) ?_ (by rw [hp.1]; omega)
  rcases Int.lt_or_le b 0 with c | c
  ·exact .inl c
  ·refine .inr ?_
   rw [m2 b c]
   by_cases d : b ∈ L
   ·rw [if_pos d]; decide
   ·rw [if_neg d]
    rcases htwo b c g5 with e | e <;> omega
 have hround : roundC ps (st, fl) i = (mark 2 L (mark 1 L st), if 0 ≤ b ∧ b ∈ L then fl ++ [b] else fl) := by
  unfold roundC
  dsimp only
  rw [g1]
  dsimp only
  rw [e2]
  congr 1
  by_cases c : 0 ≤ b
  ·rw [m1 b c]
   by_cases d : b ∈ L
   ·rw [if_pos d, if_pos ⟨c, rfl⟩, if_pos ⟨c, d⟩]
   ·rw [if_neg d, if_neg (show ¬ (0 ≤ b ∧ rd st b = 1) from fun h => by rcases htwo b c g5 with e | e <;> omega), if_neg (show ¬ (0 ≤ b ∧ b ∈ L) from fun h => d h.2)]
  ·rw [if_neg (fun h => c h.1), if_neg (fun h => c h.1)]
 refine ⟨L, b, g2, g3, g5, by rw [hround], by rw [hround]; exact m2, ?_⟩
 rcases Int.lt_or_le b 0 with c | c
 ·exact .inl c
 ·refine .inr ?_
  by_cases d : b ∈ L
  ·exact .inl d
  ·refine .inr ?_
   rcases g6 with g | g
   ·omega
   ·rw [m1 b c, if_neg d] at g
    exact (htwo b c g5).resolve_left g
structure CalInv (n : Nat) (ps : List Int) (z : List Int × List Int) : Prop where
 reach : ∀ a : Int, 0 ≤ a → a < n → rd z.1 a = 2 → endsAt ps a ∨ ∃ b ∈ z.2, ∃ k, upL ps a k = b
 cyc : ∀ b ∈ z.2, b < n ∧ ∃ L, Cyc ps L b
theorem cal_round {n : Nat} {ps : List Int} (hp : inR n ps) {z : List Int × List Int} (h : CycInv n ps z) (hc : CalInv n ps z) {i : Int} (h0 : 0 ≤ i) (h1 : i < n) : CalInv n ps (roundC ps z i) := by
 obtain ⟨L, b, g2, g3, g5, e2, e1, g6⟩ := round_form hp h h0 h1
 refine ⟨?_, ?_⟩
 ·intro a a0 a1 ha
  rw [e1 a a0] at ha
  rw [e2]
  have old : ∀ x : Int, (endsAt ps x ∨ ∃ c ∈ z.2, ∃ k, upL ps x k = c) → endsAt ps x ∨ ∃ c ∈ (if 0 ≤ b ∧ b ∈ L then z.2 ++ [b] else z.2), ∃ k, upL ps x k = c := by
   rintro x (h | ⟨c, hc1, hk⟩)
   ·exact .inl h
   ·refine .inr ⟨c, ?_, hk⟩
    split
    ·exact List.mem_append_left _ hc1
    ·exact hc1
  by_cases d : a ∈ L
  ·obtain ⟨A, B, _, _, hw⟩ := g2.split d
   rcases Int.lt_or_le b 0 with c | c
   ·exact .inl (hw.ends ⟨0, c⟩).1
   ·by_cases db : b ∈ L
    ·refine .inr ⟨b, ?_, _, hw.up⟩
     rw [if_pos ⟨c, db⟩]
     simp
    ·have hb2 : rd z.1 b = 2 := by
      rcases g6 with g | g | g
      ·omega
      ·exact absurd g db
      ·exact g
     rcases hc.reach b c g5 hb2 with hE | ⟨x, hx, k, hk⟩
     ·exact .inl (hw.ends hE).1
     ·refine old a (.inr ⟨x, hx, (a :: B).length + k, ?_⟩)
      rw [upL_add, hw.up, hk]
  ·rw [if_neg d] at ha
   exact old a (hc.reach a a0 a1 ha)
 ·intro c hcm
  rw [e2] at hcm
  by_cases d : 0 ≤ b ∧ b ∈ L
  ·rw [if_pos d] at hcm
   rcases List.mem_append.1 hcm with hm | hm
   ·exact hc.cyc c hm
   ·rw [List.mem_singleton] at hm
    subst hm
    obtain ⟨A, B, eL, _, hw⟩ := g2.split d.2
    refine ⟨g5, c :: B, hw, by simp, ?_⟩
    rw [eL] at g3
    exact (List.nodup_append.1 g3).2.1
  ·rw [if_neg d] at hcm
   exact hc.cyc c hcm
theorem cal_inv {n : Nat} {ps : List Int} (hp : inR n ps) : ∀ k : Nat, k ≤ n → CalInv n ps (cycZ ps k)
 | 0, _ => by
  refine ⟨?_, fun b hb => by cases hb⟩
  intro a a0 a1 h
  exfalso
  have hx : a.toNat < ps.length := by rw [hp.1]; omega
  have h' : rd (List.replicate ps.length (0 : Int)) a = 2 := h
  simp [rd, List.getD, hx] at h'
 | k + 1, hk => cal_round hp (cyc_inv hp k (by omega)).1 (cal_inv hp k (by omega)) (by omega) (by omega)
def leastF (ps : List Int) (b : Int) : Nat → Int → Int → Int
 | 0, _, m => m
 | f + 1, k, m => if k = b then m else leastF ps b f (rd ps k) (min m k)
def leastC (ps : List Int) (b : Int) : Int := leastF ps b (ps.length + 1) (rd ps b) b
theorem leastF_walk {ps : List Int} {k : Int} {L : List Int} {b : Int} (h : Walk ps k L b) : ∀ (f : Nat) (m : Int), b ∉ L → L.length < f → leastF ps b f k m = L.foldl min m := by
 induction h with
 | none a =>
  intro f m _ hf
  obtain ⟨f, rfl⟩ : ∃ g, f = g + 1 := ⟨f - 1, by simp at hf; omega⟩
  unfold leastF
  rw [if_pos rfl]; rfl
 | @step a L b h0 _ ih =>
  intro f m hb hf
  rw [List.length_cons] at hf
  obtain ⟨f, rfl⟩ : ∃ g, f = g + 1 := ⟨f - 1, by omega⟩
  unfold leastF
  rw [if_neg (fun e => hb (by rw [← e]; exact List.mem_cons_self ..))]
  rw [ih f (min m a) (fun h => hb (List.mem_cons_of_mem _ h)) (by omega)]
  rfl
theorem foldl_min : ∀ (L : List Int) (m : Int), (L.foldl min m = m ∨ L.foldl min m ∈ L) ∧ L.foldl min m ≤ m ∧ ∀ x ∈ L, L.foldl min m ≤ x
 | [], m => ⟨.inl rfl, Int.le_refl _, fun x hx => by cases hx⟩
 | a :: L, m => by
  obtain ⟨h1, h2, h3⟩ := foldl_min L (min m a)
  rw [List.foldl_cons]
  refine ⟨?_, by omega, ?_⟩
  ·rcases h1 with h1 | h1
   ·by_cases c : m ≤ a
    ·left; omega
    ·right; rw [h1, show min m a = a by omega]; exact List.mem_cons_self ..
   ·right; exact List.mem_cons_of_mem _ h1
  ·intro x hx
   rcases List.mem_cons.1 hx with e | e
   ·subst e; omega
   ·exact h3 x e
theorem Cyc.tail {ps : List Int} {L : List Int} {b : Int} (h : Cyc ps L b) : ∃ L2, L = b :: L2 ∧ Walk ps (rd ps b) L2 b ∧ b ∉ L2 ∧ 0 ≤ b := by
 obtain ⟨hw, hm, nd⟩ := h
 cases hw with
 | none => cases hm
 | @step _ L2 _ h0 hw2 => exact ⟨L2, rfl, hw2, (List.nodup_cons.1 nd).1, h0⟩
theorem leastC_spec {n : Nat} {ps : List Int} (hp : inR n ps) {L : List Int} {b : Int} (h : Cyc ps L b) (h1 : b < n) : leastC ps b ∈ L ∧ ∀ x ∈ L, leastC ps b ≤ x := by
 obtain ⟨L2, rfl, hw, hn, h0⟩ := h.tail
 have hl := (h.len hp h1).2
 rw [List.length_cons] at hl
 have e : leastC ps b = L2.foldl min b := leastF_walk hw _ _ hn (by rw [hp.1]; omega)
 obtain ⟨f1, f2, f3⟩ := foldl_min L2 b
 rw [e]
 refine ⟨?_, fun x hx => ?_⟩
 ·rcases f1 with f | f
  ·rw [f]; exact List.mem_cons_self ..
  ·exact List.mem_cons_of_mem _ f
 ·rcases List.mem_cons.1 hx with e | e
  ·rw [e]; exact f2
  ·exact f3 x e
theorem loL_of {ps : List Int} {L : List Int} {c : Int} (h : Cyc ps L c) (i : Int) (hi : ∀ x ∈ L, i ≤ x) : ∀ (f : Nat) {a : Int}, a ∈ L → loL ps i f a = true
 | 0, a, _ => rfl
 | f + 1, a, ha => by
  have hn := (h.next ha).2
  have := hi _ hn
  unfold loL
  split
  ·rfl
  ·rw [if_neg (by omega)]
   exact loL_of h i hi f hn
theorem loL_all {ps : List Int} {i : Int} : ∀ {k : Int} {L : List Int}, Walk ps k L i → ∀ (f : Nat) (a : Int), rd ps a = k → i ∉ L → L.length ≤ f → loL ps i f a = true → ∀ x ∈ L, i ≤ x := by
 intro k L h
 induction h with
 | none a => intro f _ _ _ _ _ x hx; cases hx
 | @step k L b h0 hw ih =>
  intro f a ha hb hf hlo x hx
  rw [List.length_cons] at hf
  obtain ⟨f, rfl⟩ : ∃ g, f = g + 1 := ⟨f - 1, by omega⟩
  unfold loL at hlo
  rw [ha, if_neg (fun e => hb (by rw [← e]; exact List.mem_cons_self ..))] at hlo
  by_cases c : k < b
  ·rw [if_pos c] at hlo; cases hlo
  ·rw [if_neg c] at hlo
   rcases List.mem_cons.1 hx with e | e
   ·omega
   ·exact ih f k rfl (fun h => hb (List.mem_cons_of_mem _ h)) (by omega) hlo x e
def losers (ps : List Int) : List Int := (cycZ ps ps.length).2.map (leastC ps)
theorem losers_in {ps : List Int} (hp : inR ps.length ps) : ∀ i ∈ losers ps, 0 ≤ i ∧ i < ps.length := by
 intro i hi
 obtain ⟨b, hb, rfl⟩ := List.mem_map.1 hi
 obtain ⟨h1, L, hL⟩ := (cal_inv hp ps.length (Nat.le_refl _)).cyc b hb
 exact (hL.len hp h1).1 _ (leastC_spec hp hL h1).1
theorem lose_iff {ps : List Int} (hp : inR ps.length ps) {i : Int} (h0 : 0 ≤ i) (h1 : i < ps.length) : i ∈ losers ps ↔ (onP ps i && loL ps i ps.length i) = true := by
 have hcal := cal_inv hp ps.length (Nat.le_refl _)
 constructor
 ·intro hi
  obtain ⟨b, hb, rfl⟩ := List.mem_map.1 hi
  obtain ⟨g1, L, hL⟩ := hcal.cyc b hb
  obtain ⟨s1, s2⟩ := leastC_spec hp hL g1
  obtain ⟨L', hperm, hL'⟩ := hL.rot s1
  rw [Bool.and_eq_true]
  refine ⟨?_, loL_of hL _ s2 _ s1⟩
  have hlen := (hL'.len hp h1).2
  have hup := hL'.walk.up
  have hpos : 0 < L'.length := List.length_pos_of_mem hL'.mem
  unfold onP
  rw [List.any_eq_true]
  refine ⟨L'.length - 1, List.mem_range.2 (by omega), ?_⟩
  rw [decide_eq_true_eq, upP_upL, show L'.length - 1 + 1 = L'.length by omega]
  exact hup
 ·intro h
  rw [Bool.and_eq_true] at h
  obtain ⟨hon, hlo⟩ := h
  unfold onP at hon
  rw [List.any_eq_true] at hon
  obtain ⟨m, _, hm⟩ := hon
  rw [decide_eq_true_eq, upP_upL] at hm
  obtain ⟨L, hL⟩ := cyc_of_up h0 (Nat.succ_pos m) hm
  obtain ⟨L2, eL, hw, hn, _⟩ := hL.tail
  have hlen := (hL.len hp h1).2
  have hall : ∀ x ∈ L, i ≤ x := by
   intro x hx
   rw [eL] at hx
   rcases List.mem_cons.1 hx with e | e
   ·omega
   ·exact loL_all hw ps.length i rfl hn (by rw [eL, List.length_cons] at hlen; omega) hlo x e
  have h2 := (cyc_inv hp ps.length (Nat.le_refl _)).2 i h0 h1
  rcases hcal.reach i h0 h1 h2 with hE | ⟨b, hb, k, hk⟩
  ·exact absurd hE (hL.no_end hL.mem)
  ·have hbL : b ∈ L := by rw [← hk]; exact hL.up k hL.mem
   have hbn := (hL.len hp h1).1 b hbL
   obtain ⟨L', hperm, hL'⟩ := hL.rot hbL
   obtain ⟨s1, s2⟩ := leastC_spec hp hL' hbn.2
   have e1 := s2 i (hperm.mem_iff.2 hL.mem)
   have e2 := hall _ (hperm.mem_iff.1 s1)
   exact List.mem_map.2 ⟨b, hb, by omega⟩
theorem mark_par {ps : List Int} (hp : inR ps.length ps) : mark (-1) (losers ps) ps = (List.range ps.length).map (fun i : Nat => parAt ps i) := by
 apply List.ext_getElem
 ·rw [mark_len]; simp
 ·intro j h1 h2
  rw [mark_len] at h1
  have hr := rd_mark (-1) (losers ps) ps (losers_in hp) (j : Int) (by omega)
  have e : rd (mark (-1) (losers ps) ps) (j : Int) = (mark (-1) (losers ps) ps)[j]'(by rw [mark_len]; exact h1) := by
   simp [rd, List.getD, mark_len, h1]
  rw [← e, hr]
  simp only [List.getElem_map, List.getElem_range]
  unfold parAt
  have hi := lose_iff hp (i := (j : Int)) (by omega) (by omega)
  by_cases c : (j : Int) ∈ losers ps
  ·rw [if_pos c, if_pos (hi.1 c)]
  ·rw [if_neg c, if_neg (fun h => c (hi.2 h))]
end Go.Proofs.YtgknjgionicncaaGreat.L
namespace Go.Proofs.YtgknjgionicncaaGreat.L
open Go.RowKit Go.Proofs.YtgknjgionicncaaGreat.Q Go.Proofs.YtgknjgionicncaaGreatW.PrintWords Go.Proofs.YtgknjgionicncaaGreatW.PrintLast Go.Proofs.YtgknjgionicncaaGreatW.PrintMore Go.Proofs.YtgknjgionicncaaGreatW.Lib Go.Proofs.YtgknjgionicncaaGreatW.MapB
set_option linter.unusedVariables false
set_option linter.unusedSimpArgs false
theorem rowB_lt {W : World} {g : Nat} {st : List Int} (h : rowB W g st) : g < W.heap.size := (Array.getElem?_eq_some_iff.1 h).1
theorem rowB_heap {W W' : World} {g : Nat} {st : List Int} (h : rowB W g st) (e : W'.heap[g]? = W.heap[g]?) : rowB W' g st := e.trans h
structure OfSt (w0 : World) (gp Bo Bl : Nat) (ps xs : List Int) (ok : Nat → Prop) (W : World) : Prop where
 row : rowB W gp ps
 out : Boxed W Bo 43 (.slice (some ⟨gp, 0, none⟩) ps.length ps.length)
 lose : ∃ v, Boxed W Bl 43 v ∧ Kd.R (Kd.int .i64) 3 W w0.heap.size ok v xs
 below : Below w0.heap.size w0 W
section
variable {w0 W W' : World} {gp Bo Bl : Nat} {ps xs : List Int} {ok : Nat → Prop}
theorem OfSt.lts (h : OfSt w0 gp Bo Bl ps xs ok W) : gp < W.heap.size ∧ Bo < W.heap.size ∧ Bl < W.heap.size := by
 obtain ⟨v, h1, _⟩ := h.lose
 exact ⟨rowB_lt h.row, h.out.lt, h1.lt⟩
theorem OfSt.alloc (h : OfSt w0 gp Bo Bl ps xs ok W) (o : Obj) : OfSt w0 gp Bo Bl ps xs ok (W.alloc o) := by
 obtain ⟨v, h1, h2⟩ := h.lose
 exact ⟨rowB_kept h.row (World.grownBy_alloc W o none) (by simp), h.out.alloc o, ⟨v, h1.alloc o, Kd.R_alloc h2 o⟩, below_alloc h.below o⟩
theorem OfSt.kept {g : Nat} (h : OfSt w0 gp Bo Bl ps xs ok W) (hg : W.grownBy W' (some g)) (h1 : gp ≠ g) (h2 : Bo ≠ g) (h3 : Bl ≠ g) (hok : ∀ k, ok k → k ≠ g) (hs : w0.heap.size ≤ g) : OfSt w0 gp Bo Bl ps xs ok W' := by
 obtain ⟨v, g1, g2⟩ := h.lose
 exact ⟨rowB_kept h.row hg (fun e => h1 (Option.some.inj e)), h.out.kept hg (fun e => h2 (Option.some.inj e)), ⟨v, g1.kept hg (fun e => h3 (Option.some.inj e)), Kd.R_grown g2 hg (fun k hk e => hok k hk (Option.some.inj e))⟩, h.below.grown hg h.below.size (fun j hj => by cases hj; exact hs)⟩
end
theorem cyc_len (ps : List Int) : ∀ k, (cycZ ps k).2.length ≤ k
 | 0 => by simp [cycZ]
 | k + 1 => by
  have := cyc_len ps k
  show (roundC ps (cycZ ps k) (k : Int)).2.length ≤ k + 1
  unfold roundC
  dsimp only
  split
  ·rw [List.length_append, List.length_singleton]; omega
  ·omega
theorem infoI : (Tryz.prog.info? 3).map (fun i => (i.zero, i.size, i.bytes)) = some (some (.int .i64 0), 1, 8) := by kernel_rfl
attribute [local go_sem] min2_int min_two
set_option maxHeartbeats 1000000 in
set_option maxRecDepth 100000 in
theorem of1_calls (ps : List Int) (hp : inR ps.length ps) (hl : ps.length ≤ 1000000) (gp Bo Bl g : Nat) (w0 : World) (b : Int) (h0 : 0 ≤ b) (h1 : b < ps.length) (hc : ∃ L, Cyc ps L b) (xs : List Int) (hxl : xs.length ≤ 1000000) (w : World) (hgp : gp < g ∧ Bo < g ∧ Bl < g ∧ Bo ≠ Bl ∧ gp ≠ Bl) (hwl : w0.heap.size ≤ Bl) (hgs : g < w.heap.size) (hst : OfSt w0 gp Bo Bl ps xs (fun k => g < k) w) :
  Calls Tryz.prog 107 #[.int .i64 b, .pointer (some ⟨Bo, 0, none⟩), .pointer (some ⟨Bl, 0, none⟩)] w fun e w' => e = .returned (.tuple #[]) ∧ OfSt w0 gp Bo Bl ps (xs ++ [leastC ps b]) (fun k => g < k) w' ∧ w'.heap[g]? = w.heap[g]? := by
 obtain ⟨L, hL⟩ := hc
 obtain ⟨L2, eL, hW, hn, _⟩ := hL.tail
 obtain ⟨hin, hlen⟩ := hL.len hp h1
 rw [eL, List.length_cons] at hlen
 have hM : L2.foldl min b = leastC ps b := (leastF_walk hW _ _ hn (by omega)).symm
 have hin2 : ∀ x ∈ L2, 0 ≤ x ∧ x < (ps.length : Int) := fun x hx => hin x (by rw [eL]; exact List.mem_cons_of_mem _ hx)
 obtain ⟨v, hb, hR⟩ := hst.lose
 obtain ⟨Al, cl, rfl⟩ := Kd.R_slice hR
 have HSt := Aside0.mk hst
 have HR := Aside0.mk hR
 have HBx := Aside0.mk hb
 have hbo := hst.out.cell
 have hbl := hb.cell
 have hx := rowB_cell hst.row h0 h1
 have HXl := Aside0.mk hxl
 have HG := Aside0.mk hgp
 have HGs := Aside0.mk hgs
 have HWl := Aside0.mk hwl
 have H1 := Aside0.mk h1
 have HA0 := Aside0.mk (show Walk ps (rd ps b) L2 b ∧ b ∉ L2 ∧ L2.foldl min b = leastC ps b ∧ L2.length + 1 = L2.length + 1 ∧ ∀ x ∈ L2, 0 ≤ x ∧ x < (ps.length : Int) from ⟨hW, hn, hM, rfl, hin2⟩)
 clear hst hb hR hgp hgs hwl hxl hW hn hM hin2 hL eL hin hlen hp hl
 replace h0 := eq_true h0
 replace h1 := eq_true h1
 generalize leastC ps b = M at *
 go_enter Tryz.func107, Tryz.ntmps107
 go_wp2_with fail
 go_loopg [4, 5] (L2.length + 1) (fun kq v4 v5 w' => ∃ (m k : Int) (L' : List Int), v4 = .int .i64 m ∧ v5 = .int .i64 k ∧ Aside0 (Walk ps k L' b ∧ b ∉ L' ∧ L'.foldl min m = M ∧ L'.length + 1 = kq ∧ ∀ x ∈ L', 0 ≤ x ∧ x < (ps.length : Int)) ∧ Aside0 (w' = w))
 case atStart => exact ⟨b, rd ps b, L2, rfl, rfl, ⟨HA0.out.1, HA0.out.2.1, HA0.out.2.2.1, rfl, HA0.out.2.2.2.2⟩, ⟨rfl⟩⟩
 case round =>
  clear HA0
  obtain ⟨m, k, L', rfl, rfl, HA, HW⟩ := hrel
  obtain rfl := HW.out
  by_cases c1 : k = b
  ·have HE := Aside0.mk (show L' = [] ∧ m = M from by
    obtain ⟨a1, a2, a3, _⟩ := HA.out
    cases a1 with
    | none => exact ⟨rfl, a3⟩
    | step _ _ => exact absurd (by rw [c1]; exact List.mem_cons_self ..) a2)
   have c1b : (k != b) = false := by rw [c1]; simp
   have c1e : (k == b) = true := by rw [c1]; simp
   have c1d := decide_eq_true c1
   clear c1
   go_wp2_with ((with_reducible refine gate_builtin (b := .append) (xs := #[.tmp 21, .tmp 23]) rfl ?_); at_builtin; refine Kd.R_append (Kd.int .i64) (w0 := w0) w0.heap.size rfl (.tmp 21) (.tmp 23) 43 3 (.int .i64 0) 8 rfl Tryz.underlying43 infoI rfl (by decide) (by omega) (.slice Al xs.length cl) xs m [.int .i64 m] (fun k_ => g < k_) (fun _ => False) rfl rfl ?aP (fun _ hk => hk.elim) ?aF ?aO ?aB ?aS ?aL ?_; (case aP => exact rfl); (case aB => exact HSt.out.below); (case aF => exact (fun k_ hk => by have := HGs.out; omega)); (case aO => exact HR.out); (case aS => exact HSt.out.below.size); (case aL => have := HXl.out; omega); intro v1 w1 ho hb hg hat; obtain ⟨A1, d1, rfl⟩ := Kd.R_slice ho; have HO1 := Aside0.mk ho; have HB1 := Aside0.mk hb; have HG1 := Aside0.mk hg; have HBl := Aside0.mk (HBx.out.kept hg (fun e => by have h := HR.out.1 Bl e.symm; have := HG.out; omega)); have hcl := HBl.out.cell; have hfl := HBl.out.frozen; clear ho hb hg hat)
   go_end0
   have hset := grownBy_setCell' w1 Bl (.slice A1 (xs.length + 1) d1)
   have hel : (xs ++ [m]).length = xs.length + 1 := by simp
   have hne : ∀ k_, k_ ≤ g → some k_ ≠ (Value.slice Al xs.length cl).ownBlock := fun k_ hk e => by have h := HR.out.1 k_ e.symm; omega
   have hG := HG.out
   refine ⟨rfl, ⟨?_, ?_, ⟨_, HBl.out.set _, ?_⟩, ?_⟩, ?_⟩
   ·exact rowB_kept (rowB_kept HSt.out.row HG1.out (hne gp (by omega))) hset (fun e => hG.2.2.2.2 (Option.some.inj e))
   ·exact (HSt.out.out.kept HG1.out (hne Bo (by omega))).kept hset (fun e => hG.2.2.2.1 (Option.some.inj e))
   ·have h := HO1.out
    rw [hel, HE.out.2] at h
    exact Kd.R_grown h hset (fun k_ hk e => by have := Option.some.inj e; omega)
   ·exact HB1.out.grown hset HB1.out.size (fun j hj => by cases hj; exact HWl.out)
   ·have h2 := Below.heap_setCell w1 ⟨Bl, 0, none⟩ (.slice A1 (xs.length + 1) d1) g (by show g ≠ Bl; omega)
    exact h2.trans (HG1.out.block g HGs.out (hne g (Nat.le_refl _)))
  ·have c1b : (k != b) = true := by rw [bne_iff_ne]; exact c1
   have c1e : (k == b) = false := by rw [beq_eq_false_iff_ne]; exact c1
   have c1d := decide_eq_false c1
   obtain ⟨a1, a2, a3, a4, a5⟩ := HA.out
   cases a1 with
   | none => exact absurd rfl c1
   | @step _ L'' _ k0 hw =>
    have HN := Aside0.mk (show Walk ps (rd ps k) L'' b ∧ b ∉ L'' ∧ L''.foldl min (min m k) = M ∧ L''.length + 1 = gk - 1 ∧ ∀ x ∈ L'', 0 ≤ x ∧ x < (ps.length : Int) from ⟨hw, fun h => a2 (List.mem_cons_of_mem _ h), a3, by rw [List.length_cons] at a4; omega, fun x hx => a5 x (List.mem_cons_of_mem _ hx)⟩)
    have hk := a5 k (List.mem_cons_self ..)
    have hy := rowB_cell HSt.out.row hk.1 hk.2
    obtain ⟨k1, rfl⟩ : ∃ k1, gk = k1 + 1 := ⟨gk - 1, by omega⟩
    have e0 := eq_true hk.1
    have e1 := eq_true hk.2
    clear a2 a3 a4 a5 hw k0 hk c1 HA
    by_cases c2 : k < m
    ·have HMn := Aside0.mk (show min m k = k by omega)
     have c2b := decide_eq_true c2
     replace c2 := eq_true c2
     go_wp2_with fail
     go_roundg k1
     case measure => omega
     case rel => exact ⟨k, rd ps k, L'', rfl, rfl, ⟨by have h := HN.out; rw [HMn.out] at h; exact ⟨h.1, h.2.1, h.2.2.1, by omega, h.2.2.2.2⟩⟩, ⟨rfl⟩⟩
    ·have HMn := Aside0.mk (show min m k = m by omega)
     have c2b := decide_eq_false c2
     replace c2 := eq_false c2
     go_wp2_with fail
     go_roundg k1
     case measure => omega
     case rel => exact ⟨m, rd ps k, L'', rfl, rfl, ⟨by have h := HN.out; rw [HMn.out] at h; exact ⟨h.1, h.2.1, h.2.2.1, by omega, h.2.2.2.2⟩⟩, ⟨rfl⟩⟩
set_option maxHeartbeats 1000000 in
set_option maxRecDepth 100000 in
theorem cycles_of (ps : List Int) (hp : inR ps.length ps) (hl : ps.length ≤ 1000000) (gp Bo Bl : Nat) (w0 w : World) (hne : Bo ≠ Bl ∧ gp ≠ Bl) (hwl : w0.heap.size ≤ Bl) (hst : OfSt w0 gp Bo Bl ps [] (fun k => w.heap.size < k) w) :
  Calls Tryz.prog 106 #[.slice (some ⟨gp, 0, none⟩) ps.length ps.length, .func (.func 107) #[] #[.pointer (some ⟨Bo, 0, none⟩), .pointer (some ⟨Bl, 0, none⟩)]] w fun e w' => e = .returned (.tuple #[]) ∧ OfSt w0 gp Bo Bl ps (losers ps) (fun k => w.heap.size < k) w' := by
 have hmk := print_make 43 3 .i64 8 Tryz.underlying43 (by kernel_rfl) (by omega) ps.length (by omega)
 have HX := Aside0.mk (fun o => hst.alloc o)
 have HPg := Aside0.mk hst.lts
 have HWs := Aside0.mk hst.below.size
 have HCal := Aside0.mk (cal_inv hp)
 have HNe := Aside0.mk hne
 have HWl := Aside0.mk hwl
 have HP := Aside0.mk hp
 have HL := Aside0.mk hl
 have HI := Aside0.mk (cyc_inv hp)
 have hn0 : decide ((ps.length : Int) < 0) = false := decide_eq_false (by omega)
 have hnm : decide ((9223372036854775807 : Int) < (ps.length : Int)) = false := decide_eq_false (by omega)
 clear hst hp hl hne hwl
 go_enter Tryz.func106, Tryz.ntmps106
 go_wp2_with fail
 have HG0 : Aside0 (rowB (w.alloc (.cells (madeCells #[Value.int .i64 0] ps.length) 3)) w.heap.size (cycZ ps 0).1) := ⟨by
  show _ = some (Obj.cells ((List.replicate ps.length (0 : Int)).map (Value.int .i64)).toArray 3 (0, 0))
  rw [List.map_replicate]
  exact heap_made w _ _ _⟩
 generalize hgg : w.heap.size = g at *
 have HWg := Aside0.mk (show w0.heap.size ≤ g from HWs.out)
 go_loopg [12] ps.length (fun kq v12 w' => ∃ x : Nat, v12 = .int .i64 (x : Int) ∧ Aside0 (x + kq = ps.length) ∧ Aside0 (rowB w' g (cycZ ps x).1) ∧ Aside0 (OfSt w0 gp Bo Bl ps ((cycZ ps x).2.map (leastC ps)) (fun k => g < k) w'))
 case atStart => exact ⟨0, rfl, ⟨by omega⟩, HG0, ⟨HX.out _⟩⟩
 case round =>
  clear HG0 HX
  obtain ⟨x, rfl, HK, HG, HX⟩ := hrel
  by_cases c1 : (x : Int) < (ps.length : Int)
  ·have c1b := decide_eq_true c1
   have HI1 := Aside0.mk (HI.out x (by omega)).1
   have HW1 := Aside0.mk (show wrap64 ((x : Int) + 1) = ((x + 1 : Nat) : Int) from by unfold wrap64; have := HL.out; omega)
   have HN := Aside0.mk (show cycZ ps (x + 1) = roundC ps (cycZ ps x) (x : Int) from rfl)
   have C1 := Aside0.mk c1
   replace c1 := eq_true c1
   obtain ⟨k1, rfl⟩ : ∃ k1, gk = k1 + 1 := ⟨gk - 1, by have := HK.out; have := C1.out; omega⟩
   go_wp2_with fail
   apply wp_scope_straight
   go_wp2_with fail
   apply wp_label
   rename_i hK
   refine hK _ _ ?_
   clear hK
   apply wp_seq_k
   intro _ _
   go_cut [6] (fun v6 wc => ∃ (a : Int) (st : List Int), v6 = .int .i64 a ∧ Aside0 (go1 ps (ps.length + 1) (cycZ ps x).1 (x : Int) = (st, a)) ∧ Aside0 (rowB wc g st) ∧ Aside0 (OfSt w0 gp Bo Bl ps ((roundC ps (cycZ ps x) (x : Int)).2.map (leastC ps)) (fun k => g < k) wc))
   case first =>
    go_wp2_with fail
    go_loopg [6] (ps.length + 1) (fun kq v6 w' => ∃ (a : Int) (st : List Int), v6 = .int .i64 a ∧ Aside0 (go1 ps kq st a = go1 ps (ps.length + 1) (cycZ ps x).1 (x : Int) ∧ a < ps.length ∧ st.length = ps.length ∧ zeros st < kq ∧ ∀ j : Int, 0 ≤ j → j < ps.length → rd st j = 0 ∨ rd st j = 1 ∨ rd st j = 2) ∧ Aside0 (rowB w' g st) ∧ Aside0 (OfSt w0 gp Bo Bl ps ((cycZ ps x).2.map (leastC ps)) (fun k => g < k) w'))
    case atStart => exact ⟨x, _, rfl, ⟨rfl, by have := C1.out; omega, HI1.out.len, by have := zeros_le (cycZ ps x).1; have := HI1.out.len; omega, fun j j0 j1 => (HI1.out.two j j0 j1).elim .inl (fun h => .inr (.inr h))⟩, HG, HX⟩
    case round =>
     clear HG HX
     obtain ⟨a, st, rfl, HA, HG, HX⟩ := hrel
     obtain ⟨kf, rfl⟩ : ∃ kf, gk = kf + 1 := ⟨gk - 1, by have := HA.out.2.2.2.1; omega⟩
     by_cases c2 : a < 0
     ·have c2b := decide_eq_true c2
      have H1 : Aside0 (go1 ps (ps.length + 1) (cycZ ps x).1 (x : Int) = (st, a)) := ⟨by rw [← HA.out.1]; unfold go1; rw [if_neg (by omega)]⟩
      have H2 : Aside0 ((roundC ps (cycZ ps x) (x : Int)).2 = (cycZ ps x).2) := ⟨by unfold roundC; dsimp only; rw [H1.out]; dsimp only; rw [if_neg (by omega)]⟩
      replace c2 := eq_true c2
      go_wp2_with fail
      go_meet
      case rel => exact ⟨a, st, rfl, H1, HG, ⟨by rw [H2.out]; exact HX.out⟩⟩
     ·have c2b := decide_eq_false c2
      have p2 : 0 ≤ a := by omega
      have c3 : a < (ps.length : Int) := HA.out.2.1
      have hcell := rowB_cell HG.out p2 (by rw [HA.out.2.2.1]; exact c3)
      have hcol := HA.out.2.2.2.2 a p2 c3
      replace c2 := eq_false c2
      replace p2 := eq_true p2
      replace c3 := eq_true c3
      rcases hcol with hv | hv | hv
      ·have H1 : Aside0 (go1 ps kf (st.set a.toNat 1) (rd ps a) = go1 ps (ps.length + 1) (cycZ ps x).1 (x : Int)) := ⟨by rw [← HA.out.1, go1_on ⟨of_eq_true p2, hv⟩]⟩
       have HZ := Aside0.mk (zeros_set (of_eq_true p2) (by rw [HA.out.2.2.1]; exact of_eq_true c3) hv)
       have HR := Aside0.mk (inR_rd HP.out (of_eq_true p2) (of_eq_true c3))
       have HS := Aside0.mk (rowB_set HG.out a.toNat 1)
       have hgs := grownBy_set wr g a.toNat (.int .i64 1)
       have HXs := Aside0.mk (HX.out.kept hgs (by have := HPg.out; omega) (by have := HPg.out; omega) (by have := HPg.out; omega) (fun k hk => by omega) HWg.out)
       have hfz := rowB_frozen HG.out a.toNat
       have HSet := Aside0.mk (fun (j : Int) (hj : 0 ≤ j) => rdC_set st a j 1 (of_eq_true p2) (by rw [HA.out.2.2.1]; exact of_eq_true c3) hj)
       have hx := rowB_cell HXs.out.row (of_eq_true p2) (of_eq_true c3)
       clear hgs
       rw [hv] at hcell
       go_wp2_with fail
       go_roundg kf
       case measure => omega
       case rel => exact ⟨rd ps a, st.set a.toNat 1, rfl, ⟨H1.out, HR.out.2, by rw [List.length_set]; exact HA.out.2.2.1, by have := HZ.out; have := HA.out.2.2.2.1; omega, fun j j0 j1 => by
        rw [HSet.out j j0]
        split
        ·exact .inr (.inl rfl)
        ·exact HA.out.2.2.2.2 j j0 j1⟩, HS, HXs⟩
      ·have H1 : Aside0 (go1 ps (ps.length + 1) (cycZ ps x).1 (x : Int) = (st, a)) := ⟨by rw [← HA.out.1, go1_stop (by omega)]⟩
       have H2 : Aside0 ((roundC ps (cycZ ps x) (x : Int)).2 = (cycZ ps x).2 ++ [a]) := ⟨by unfold roundC; dsimp only; rw [H1.out]; dsimp only; rw [if_pos ⟨of_eq_true p2, hv⟩]⟩
       have HCy := Aside0.mk (show ∃ L, Cyc ps L a from ((HCal.out (x + 1) (by have := C1.out; omega)).cyc a (by rw [HN.out, H2.out]; simp)).2)
       have QA := Aside0.mk (of1_calls ps HP.out HL.out gp Bo Bl g w0 a (of_eq_true p2) (of_eq_true c3) HCy.out ((cycZ ps x).2.map (leastC ps)) (by have := cyc_len ps x; have := HL.out; have := C1.out; rw [List.length_map]; omega) wr ⟨by have := HPg.out; omega, by have := HPg.out; omega, by have := HPg.out; omega, HNe.out.1, HNe.out.2⟩ HWl.out (rowB_lt HG.out) HX.out)
       rw [hv] at hcell
       go_wp2_with (go_at_call 107; refine QA.out.mono ?_; rintro e w3 ⟨rfl, hb3, hg3⟩; have HX3 := Aside0.mk hb3; have HG3 := Aside0.mk (rowB_heap HG.out hg3); clear hb3 hg3)
       go_meet
       case rel => exact ⟨a, st, rfl, H1, HG3, ⟨by rw [H2.out, List.map_append]; exact HX3.out⟩⟩
      ·have H1 : Aside0 (go1 ps (ps.length + 1) (cycZ ps x).1 (x : Int) = (st, a)) := ⟨by rw [← HA.out.1, go1_stop (by omega)]⟩
       have H2 : Aside0 ((roundC ps (cycZ ps x) (x : Int)).2 = (cycZ ps x).2) := ⟨by unfold roundC; dsimp only; rw [H1.out]; dsimp only; rw [if_neg (by omega)]⟩
       rw [hv] at hcell
       go_wp2_with fail
       go_meet
       case rel => exact ⟨a, st, rfl, H1, HG, ⟨by rw [H2.out]; exact HX.out⟩⟩
   case rest =>
    obtain ⟨a, st, rfl, H1, HG2, HX2⟩ := hcut
    obtain ⟨w5, rfl⟩ : ∃ w5 : World, w5 = wc := ⟨_, rfl⟩
    have HLen := Aside0.mk (show st.length = ps.length by have h := go1_len ps (ps.length + 1) (cycZ ps x).1 (x : Int); rw [H1.out] at h; exact h.trans HI1.out.len)
    clear HG HX
    go_wp2_with fail
    go_loopg [6] (ps.length + 1) (fun kq v6 w' => ∃ (a : Int) (sb : List Int), v6 = .int .i64 a ∧ Aside0 (go2 ps kq sb a = go2 ps (ps.length + 1) st (x : Int) ∧ a < ps.length ∧ sb.length = ps.length ∧ ones sb < kq) ∧ Aside0 (rowB w' g sb) ∧ Aside0 (OfSt w0 gp Bo Bl ps ((roundC ps (cycZ ps x) (x : Int)).2.map (leastC ps)) (fun k => g < k) w'))
    case atStart => exact ⟨x, st, rfl, ⟨rfl, by have := C1.out; omega, HLen.out, by have : ones st ≤ st.length := List.countP_le_length; have := HLen.out; omega⟩, HG2, HX2⟩
    case round =>
     clear HG2 HX2
     obtain ⟨a, sb, rfl, HA, HG, HX⟩ := hrel
     obtain ⟨kf, rfl⟩ : ∃ kf, gk = kf + 1 := ⟨gk - 1, by have := HA.out.2.2.2; omega⟩
     by_cases c2 : a < 0
     ·have c2b := decide_eq_true c2
      have HE := Aside0.mk (show (cycZ ps (x + 1)).1 = sb from by rw [HN.out]; unfold roundC; dsimp only; rw [H1.out]; dsimp only; rw [← HA.out.1, go2_stop (fun h => by omega)])
      have c2g : decide (0 ≤ a) = false := decide_eq_false (by omega)
      have c2h : (0 ≤ a) = False := eq_false (by omega)
      clear c2 c2b
      go_wp2_with fail
      rw [Exit.noGoto_normal]
      go_wp2_with fail
      go_roundg k1
      case measure => omega
      case rel => exact ⟨x + 1, by rw [HW1.out], ⟨by have := HK.out; omega⟩, ⟨by rw [HE.out]; exact HG.out⟩, ⟨by rw [HN.out]; exact HX.out⟩⟩
     ·have c2b := decide_eq_false c2
      have p2 : 0 ≤ a := by omega
      have c3 : a < (ps.length : Int) := HA.out.2.1
      have hcell := rowB_cell HG.out p2 (by rw [HA.out.2.2.1]; exact c3)
      by_cases hv : rd sb a = 1
      ·have H3 : Aside0 (go2 ps kf (sb.set a.toNat 2) (rd ps a) = go2 ps (ps.length + 1) st (x : Int)) := ⟨by rw [← HA.out.1, go2_on ⟨p2, hv⟩]⟩
       have HZ := Aside0.mk (ones_set p2 (by rw [HA.out.2.2.1]; exact c3) hv)
       have HR := Aside0.mk (inR_rd HP.out p2 c3)
       have HS := Aside0.mk (rowB_set HG.out a.toNat 2)
       have hgs := grownBy_set wr g a.toNat (.int .i64 2)
       have HXs := Aside0.mk (HX.out.kept hgs (by have := HPg.out; omega) (by have := HPg.out; omega) (by have := HPg.out; omega) (fun k hk => by omega) HWg.out)
       have hfz := rowB_frozen HG.out a.toNat
       have hx := rowB_cell HXs.out.row p2 c3
       clear hgs
       replace c2 := eq_false c2
       replace p2 := eq_true p2
       replace c3 := eq_true c3
       rw [hv] at hcell
       go_wp2_with fail
       go_roundg kf
       case measure => omega
       case rel => exact ⟨rd ps a, sb.set a.toNat 2, rfl, ⟨H3.out, HR.out.2, by rw [List.length_set]; exact HA.out.2.2.1, by have := HZ.out; have := HA.out.2.2.2; omega⟩, HS, HXs⟩
      ·have hvb := decide_eq_false hv
       have HE := Aside0.mk (show (cycZ ps (x + 1)).1 = sb from by rw [HN.out]; unfold roundC; dsimp only; rw [H1.out]; dsimp only; rw [← HA.out.1, go2_stop (fun h => hv h.2)])
       replace c2 := eq_false c2
       replace p2 := eq_true p2
       replace c3 := eq_true c3
       generalize hq : rd sb a = q at *
       go_wp2_with fail
       rw [Exit.noGoto_normal]
       go_wp2_with fail
       go_roundg k1
       case measure => omega
       case rel => exact ⟨x + 1, by rw [HW1.out], ⟨by have := HK.out; omega⟩, ⟨by rw [HE.out]; exact HG.out⟩, ⟨by rw [HN.out]; exact HX.out⟩⟩
  ·have c1b := decide_eq_false c1
   have hx : x = ps.length := by have := HK.out; omega
   subst hx
   go_wp2
   go_end0
   exact ⟨rfl, HX.out⟩
end Go.Proofs.YtgknjgionicncaaGreat.L
namespace Go.Proofs.YtgknjgionicncaaGreat.L
open Go.RowKit Go.Proofs.YtgknjgionicncaaGreat.Q Go.Proofs.YtgknjgionicncaaGreatW.PrintWords Go.Proofs.YtgknjgionicncaaGreatW.PrintLast Go.Proofs.YtgknjgionicncaaGreatW.PrintMore Go.Proofs.YtgknjgionicncaaGreatW.Lib Go.Proofs.YtgknjgionicncaaGreatW.MapB Go.Maps
open Go.WideMaps hiding rd
set_option linter.unusedVariables false
def fstI (l : List S36) (i : Int) : Nat → Int
 | 0 => -1
 | k + 1 => if fstI l i k < 0 then (if (rd_T36 l (k : Int)).f1 = i then (k : Int) else -1) else fstI l i k
theorem fstI_in (l : List S36) (i : Int) : ∀ k, -1 ≤ fstI l i k ∧ fstI l i k < k
 | 0 => by simp [fstI]
 | k + 1 => by
  have := fstI_in l i k
  unfold fstI
  split
  ·split <;> omega
  ·omega
def fstM (l : List S36) : Nat → DataW Unit
 | 0 => .map []
 | k + 1 => if fstI l (rd_T36 l (k : Int)).f1 k < 0 then (fstM l k).put (keyI (rd_T36 l (k : Int)).f1) (.lit (.int .i64 k)) else fstM l k
theorem fstM_tidy (l : List S36) : ∀ k, Tidy (fstM l k)
 | 0 => tidy_empty
 | k + 1 => by
  unfold fstM
  split
  ·exact (fstM_tidy l k).put (keyI_is _) _
  ·exact fstM_tidy l k
theorem fstM_spec (l : List S36) (i : Int) (z : DataW Unit) : ∀ k, has (fstM l k) (keyI i) = decide (0 ≤ fstI l i k) ∧ (fstM l k).atKey (keyI i) z = if 0 ≤ fstI l i k then .lit (.int .i64 (fstI l i k)) else z
 | 0 => by
  refine ⟨by simp [fstM, fstI, has], ?_⟩
  rw [if_neg (by simp [fstI])]
  rfl
 | k + 1 => by
  obtain ⟨h1, h2⟩ := fstM_spec l i z k
  have hin := fstI_in l i k
  unfold fstM
  by_cases e : (rd_T36 l (k : Int)).f1 = i
  ·rw [e]
   by_cases c : fstI l i k < 0
   ·have e2 : fstI l i (k + 1) = (k : Int) := by
     show (if _ then _ else _) = _
     rw [if_pos c, if_pos e]
    rw [if_pos c, e2, has_put_same (fstM_tidy l k).isMap (keyI_is _), atKey_put_same (fstM_tidy l k).isMap (keyI_is _), if_pos (by omega)]
    exact ⟨by simp, rfl⟩
   ·have e2 : fstI l i (k + 1) = fstI l i k := by
     show (if _ then _ else _) = _
     rw [if_neg c]
    rw [if_neg c, e2]
    exact ⟨h1, h2⟩
  ·have e2 : fstI l i (k + 1) = fstI l i k := by
    show (if _ then _ else _) = _
    by_cases c : fstI l i k < 0
    ·rw [if_pos c, if_neg e]; omega
    ·rw [if_neg c]
   rw [e2]
   split
   ·have hk : keyI i ≠ keyI (rd_T36 l (k : Int)).f1 := fun h => e (keyI_inj _ _ h).symm
    rw [has_put_other hk, atKey_put_other hk]
    exact ⟨h1, h2⟩
   ·exact ⟨h1, h2⟩
theorem scan_fst (l : List S36) (id : Int) (hid : id ≠ 0) : ∀ (j : Nat) (p : Int), scanD l id j p = if 0 ≤ fstI l id j then fstI l id j else p
 | 0, p => by rw [if_neg (by simp [fstI])]; rfl
 | j + 1, p => by
  have hin := fstI_in l id j
  unfold scanD
  rw [scan_fst l id hid j]
  show _ = if 0 ≤ (if fstI l id j < 0 then (if (rd_T36 l (j : Int)).f1 = id then (j : Int) else -1) else fstI l id j) then _ else p
  by_cases c : fstI l id j < 0
  ·rw [if_neg (by omega), if_pos c]
   show _ = if _ then (if fstI l id j < 0 then (if (rd_T36 l (j : Int)).f1 = id then (j : Int) else -1) else fstI l id j) else p
   rw [if_pos c]
   by_cases e : (rd_T36 l (j : Int)).f1 = id
   ·rw [if_pos ⟨hid, e⟩, if_pos e, if_pos (by omega)]
   ·rw [if_neg (fun h => e h.2), if_neg e, if_neg (by omega)]
  ·rw [if_pos (by omega), if_neg c, if_pos (by omega)]
   show _ = (if fstI l id j < 0 then (if (rd_T36 l (j : Int)).f1 = id then (j : Int) else -1) else fstI l id j)
   rw [if_neg c]
theorem scan_zero (l : List S36) : ∀ (j : Nat) (p : Int), scanD l 0 j p = p
 | 0, p => rfl
 | j + 1, p => by
  unfold scanD
  rw [if_neg (fun h => h.1 rfl)]
  exact scan_zero l j p
theorem raw_at (l : List S36) (i : Nat) (hi : i < l.length) : rd (rawL l) (i : Int) = if (rd_T36 l (i : Int)).f2 = 0 ∨ fstI l (rd_T36 l (i : Int)).f2 l.length < 0 then -1 else fstI l (rd_T36 l (i : Int)).f2 l.length := by
 have hr : rd_T36 l (i : Int) = l[i] := by simp [rd_T36, List.getD, hi]
 have e : rd (rawL l) (i : Int) = scanD l l[i].f2 l.length (-1) := by simp [rd, List.getD, rawL, hi]
 rw [e, hr]
 by_cases c : l[i].f2 = 0
 ·rw [c, scan_zero, if_pos (.inl rfl)]
 ·rw [scan_fst l _ c]
  have hin := fstI_in l l[i].f2 l.length
  by_cases d : 0 ≤ fstI l l[i].f2 l.length
  ·rw [if_pos d, if_neg (fun h => h.elim c (fun h => by omega))]
  ·rw [if_neg d, if_pos (.inr (by omega))]
theorem rawL_inR (l : List S36) : inR (rawL l).length (rawL l) := ⟨rfl, by rw [rawL_length]; exact rawL_in l (by omega)⟩
theorem parL_mark (l : List S36) : mark (-1) (losers (rawL l)) (rawL l) = parL l := by
 rw [mark_par (rawL_inR l), rawL_length]
 rfl
def fillL (l : List S36) (k : Nat) : List Int := (rawL l).take k ++ List.replicate (l.length - k) 0
theorem fillL_len (l : List S36) (k : Nat) (h : k ≤ l.length) : (fillL l k).length = l.length := by
 simp [fillL, rawL_length]; omega
theorem fillL_set (l : List S36) (k : Nat) (h : k < l.length) : (fillL l k).set k (rd (rawL l) (k : Int)) = fillL l (k + 1) := by
 have hx : k < (rawL l).length := by rw [rawL_length]; exact h
 have hr : rd (rawL l) (k : Int) = (rawL l)[k] := by simp [rd, List.getD, hx]
 have hl : ((rawL l).take k).length = k := by rw [List.length_take, rawL_length]; omega
 unfold fillL
 rw [hr, List.set_append, if_neg (by omega), hl, Nat.sub_self, List.take_succ_eq_append_getElem hx, List.append_assoc]
 congr 1
 obtain ⟨m, hm⟩ : ∃ m, l.length - k = m + 1 := ⟨l.length - k - 1, by omega⟩
 rw [hm, show l.length - (k + 1) = m by omega, List.replicate_succ]
 rfl
theorem fillL_end (l : List S36) : fillL l l.length = rawL l := by
 unfold fillL
 rw [Nat.sub_self, List.take_of_length_le (by rw [rawL_length]; exact Nat.le_refl _)]
 simp
set_option linter.unusedSimpArgs false
def fitP (s : S36) : Prop := (Lit.int .u64 s.f1).wf = true ∧ (Lit.int .u64 s.f2).wf = true
instance : DecidablePred fitP := fun s => by unfold fitP; infer_instance
theorem lawU : Keyed Tryz.prog 23 := int_keyed Tryz.underlying23
theorem zeroI (w : World) : (zeroValue 3).run Tryz.prog w = .ok (.int .i64 0) w := by kernel_rfl
theorem at_S {l : List S36} {x : Nat} (h : x < l.length) : rd_T36 l (x : Int) ∈ l := by
 rw [show rd_T36 l (x : Int) = l[x] by simp [rd_T36, List.getD, h]]
 exact List.getElem_mem _
theorem rowB_R {W : World} {g base : Nat} {st : List Int} (h : rowB W g st) (hb : base ≤ g) (hl : st.length ≤ 1000000) : Kd.R (Kd.int .i64) 3 W base (fun _ => True) (.slice (some ⟨g, 0, none⟩) st.length st.length) st := by
 refine ⟨fun _ _ => trivial, st.map (Value.int .i64), ⟨by show _ = st.length * 1; simp, .inr ⟨g, st.length, _, rfl, hb, h, Nat.le_refl _, by unfold maxLen; omega, by show _ = st.length * 1; simp, ?_⟩⟩, ?_⟩
 ·show List.take (st.length * 1) _ = _
  rw [Nat.mul_one]
  show List.take st.length (st.map (Value.int .i64)) = _
  exact List.take_of_length_le (by simp)
 ·refine ⟨by show _ = st.length * 1; simp, fun j p hp => ?_⟩
  show (((st.map (Value.int .i64)).drop (j * 1)).take 1) = [.int .i64 p]
  rw [Nat.mul_one]
  obtain ⟨hj, rfl⟩ := List.getElem?_eq_some_iff.1 hp
  rw [List.drop_eq_getElem_cons (by simpa using hj)]
  simp
set_option maxHeartbeats 2000000 in
set_option maxRecDepth 100000 in
theorem parents_calls (l : List S36) (hl : l.length ≤ 1000000) (hf : ∀ s ∈ l, fitP s) (A0 : Option Addr) (c0 : Nat) (w : World) (hr0 : Kd.C k36 w A0 l.length l) :
  Calls Tryz.prog 60 #[.slice A0 l.length c0] w fun e w' => ∃ v : Value, e = .returned v ∧ Kd.R (Kd.int .i64) 3 w' w.heap.size (fun _ => True) v (parL l) ∧ Below w.heap.size w w' := by
 have hmm := @run_makeMap Tryz.prog
 have hmf : ∀ (fn : Fn) (first cap : Array Value) (w : World), (Instr.makeFunc fn first cap).run Tryz.prog w = .ok (.func fn first cap) w := fun _ _ _ _ => rfl
 have hmk := print_make 43 3 .i64 8 Tryz.underlying43 (by kernel_rfl) (by omega) l.length (by omega)
 have HR0 := Aside0.mk hr0
 have HL := Aside0.mk hl
 have HF := Aside0.mk hf
 have hn0 : decide ((l.length : Int) < 0) = false := decide_eq_false (by omega)
 have hnm : decide ((9223372036854775807 : Int) < (l.length : Int)) = false := decide_eq_false (by omega)
 have HB0 := Aside0.mk (Below.refl w.heap.size w)
 clear hr0 hl hf
 go_enter Tryz.func60, Tryz.ntmps60
 go_wp2_with fail
 go_loopg [19] l.length (fun kq v19 w' => ∃ x : Nat, v19 = .int .i64 (x : Int) ∧ Aside0 (x + kq = l.length) ∧ Aside0 (∃ c, c ≤ x ∧ w'.ownsMap Tryz.prog 23 (plainElem Tryz.prog 3) w.heap.size c (fstM l x)) ∧ Aside0 (Below w.heap.size w w'))
 case atStart => exact ⟨0, rfl, ⟨by omega⟩, ⟨0, Nat.le_refl _, World.ownsMap_made _ _ _ _⟩, ⟨(Below.refl _ _).alloc (Nat.le_refl _) _⟩⟩
 case round =>
  obtain ⟨x, rfl, HK, HM0, HB⟩ := hrel
  obtain ⟨c, hcx, hm⟩ := HM0.out
  have HC := Aside0.mk hcx
  have HM := Aside0.mk hm
  clear HM0 hcx hm
  by_cases c1 : (x : Int) < (l.length : Int)
  ·have c1b := decide_eq_true c1
   have p1 : (0 : Int) ≤ (x : Int) := by omega
   have hxl : x < l.length := by omega
   have HFx := Aside0.mk (HF.out _ (at_S hxl))
   obtain ⟨ad1, e1, hx1⟩ := at_T36 HR0.out (x : Int) p1 c1
   cases e1
   obtain ⟨hx1_0, hx1_1, hx1_2, hx1_3, hx1_4, hx1_5, hx1_6, hx1_7⟩ := zc8 HB.out hx1
   rw [Int.toNat_natCast] at hx1_0 hx1_1 hx1_2 hx1_3 hx1_4 hx1_5 hx1_6 hx1_7
   have HSp := Aside0.mk (fstM_spec l (rd_T36 l (x : Int)).f1 (.lit (.int .i64 0)) x)
   have HNx := Aside0.mk (show fstM l (x + 1) = if fstI l (rd_T36 l (x : Int)).f1 x < 0 then (fstM l x).put (keyI (rd_T36 l (x : Int)).f1) (.lit (.int .i64 x)) else fstM l x from rfl)
   generalize rd_T36 l (x : Int) = s at *
   have HKey := Aside0.mk (keyOf_int_mk Tryz.underlying23 HFx.out.1)
   have W1 := Aside0.mk (show wrap64 ((x : Int) + 1) = ((x + 1 : Nat) : Int) from by unfold wrap64; have := HL.out; omega)
   have HXl := Aside0.mk hxl
   obtain ⟨k1, rfl⟩ : ∃ k1, gk = k1 + 1 := ⟨gk - 1, by have := HK.out; omega⟩
   clear hxl
   replace p1 := eq_true p1
   replace c1 := eq_true c1
   by_cases c2 : fstI l s.f1 x < 0
   ·have HV := Aside0.mk (show has (fstM l x) (keyI s.f1) = false ∧ (fstM l x).atKey (keyI s.f1) (.lit (.int .i64 0)) = .lit (.int .i64 0) from by
     obtain ⟨h1, h2⟩ := HSp.out
     rw [h1, h2, if_neg (by omega)]
     exact ⟨decide_eq_false (by omega), rfl⟩)
    rw [if_pos c2] at HNx
    clear c2 HSp
    go_wp2_with (first
     | (at_lookup; refine lookup_ok_known _ rfl _ _ 41 rfl 23 3 .i64 lawU Tryz.underlying41 Tryz.underlying3 (zeroI _) w.heap.size c (fstM l x) rfl (HM.out.alloc _) _ _ rfl HKey.out 0 HV.out.2 false HV.out.1 ?_)
     | (at_mapUpdate; refine wpList_mapUpdate_own _ rfl _ _ _ 41 rfl 23 3 lawU Tryz.underlying41 _ w.heap.size c _ rfl (HM.out.alloc _) ?mN _ _ _ rfl rfl HKey.out _ [] (plainElem_int Tryz.underlying3 ?mW) ?_; (case mN => have := HC.out; have := HL.out; have := HXl.out; show c < 9223372036854775807; omega); (case mW => exact WalkArith.wf_i64 (by have := HL.out; have := HXl.out; omega)); intro w2 hown2 hgrow2; have HM2 := Aside0.mk hown2; have HB2 := Aside0.mk (below_map (below_alloc HB.out _) hgrow2 (Nat.le_refl _) (below_alloc HB.out _).size); clear hown2 hgrow2))
    go_roundg k1
    case measure => omega
    case rel => exact ⟨x + 1, by rw [W1.out], ⟨by have := HK.out; omega⟩, ⟨c + 1, by have := HC.out; omega, by rw [HNx.out]; exact HM2.out⟩, HB2⟩
   ·have HV := Aside0.mk (show has (fstM l x) (keyI s.f1) = true ∧ (fstM l x).atKey (keyI s.f1) (.lit (.int .i64 0)) = .lit (.int .i64 (fstI l s.f1 x)) from by
     obtain ⟨h1, h2⟩ := HSp.out
     rw [h1, h2, if_pos (by omega)]
     exact ⟨decide_eq_true (by omega), rfl⟩)
    rw [if_neg c2] at HNx
    clear c2 HSp
    go_wp2_with ((at_lookup; refine lookup_ok_known _ rfl _ _ 41 rfl 23 3 .i64 lawU Tryz.underlying41 Tryz.underlying3 (zeroI _) w.heap.size c (fstM l x) rfl (HM.out.alloc _) _ _ rfl HKey.out (fstI l s.f1 x) HV.out.2 true HV.out.1 ?_))
    go_roundg k1
    case measure => omega
    case rel => exact ⟨x + 1, by rw [W1.out], ⟨by have := HK.out; omega⟩, ⟨c, by have := HC.out; omega, by rw [HNx.out]; exact HM.out.alloc _⟩, ⟨below_alloc HB.out _⟩⟩
  ·have c1b := decide_eq_false c1
   have ex : x = l.length := by have := HK.out; omega
   subst ex
   clear c1
   go_wp2_with fail
   have HMc := Aside0.mk (show ∃ c, w.heap.size < wr.heap.size ∧ wr.ownsMap Tryz.prog 23 (plainElem Tryz.prog 3) w.heap.size c (fstM l l.length) from ⟨c, HM.out.lt, HM.out⟩)
   have HG0 : Aside0 (rowB ((wr.alloc (.cells (madeCells #[Value.int .i64 0] l.length) 3)).alloc (.cells #[.slice (some ⟨wr.heap.size, 0, none⟩) l.length l.length] 43)) wr.heap.size (fillL l 0)) := ⟨by
    refine rowB_kept (row := none) ?_ (World.grownBy_alloc _ _ none) (by simp)
    show _ = some (Obj.cells ((fillL l 0).map (Value.int .i64)).toArray 3 (0, 0))
    rw [show fillL l 0 = List.replicate l.length 0 by simp [fillL], List.map_replicate]
    exact heap_made wr _ _ _⟩
   have HX0 : Aside0 (Boxed ((wr.alloc (.cells (madeCells #[Value.int .i64 0] l.length) 3)).alloc (.cells #[.slice (some ⟨wr.heap.size, 0, none⟩) l.length l.length] 43)) (wr.heap.size + 1) 43 (.slice (some ⟨wr.heap.size, 0, none⟩) l.length l.length)) := ⟨by
    have h := Boxed.new (wr.alloc (.cells (madeCells #[Value.int .i64 0] l.length) 3)) 43 (.slice (some ⟨wr.heap.size, 0, none⟩) l.length l.length)
    rw [show (wr.alloc (.cells (madeCells #[Value.int .i64 0] l.length) 3)).heap.size = wr.heap.size + 1 by simp] at h
    exact h⟩
   obtain ⟨c', hlt, hm2⟩ := HMc.out
   have HM2 := Aside0.mk ((hm2.alloc (.cells (madeCells #[Value.int .i64 0] l.length) 3)).alloc (.cells #[.slice (some ⟨wr.heap.size, 0, none⟩) l.length l.length] 43))
   have HB2 := Aside0.mk (below_alloc (below_alloc HB.out (.cells (madeCells #[Value.int .i64 0] l.length) 3)) (.cells #[.slice (some ⟨wr.heap.size, 0, none⟩) l.length l.length] 43))
   have HLt := Aside0.mk hlt
   clear HMc hm2 hlt HM HB HC HK
   generalize wr.heap.size = gp at *
   go_loopg [43] l.length (fun kq v43 w' => ∃ x : Nat, v43 = .int .i64 (x : Int) ∧ Aside0 (x + kq = l.length) ∧ Aside0 (rowB w' gp (fillL l x)) ∧ Aside0 (Boxed w' (gp + 1) 43 (.slice (some ⟨gp, 0, none⟩) l.length l.length)) ∧ Aside0 (w'.ownsMap Tryz.prog 23 (plainElem Tryz.prog 3) w.heap.size c' (fstM l l.length)) ∧ Aside0 (Below w.heap.size w w'))
   case atStart => exact ⟨0, rfl, ⟨by omega⟩, HG0, HX0, HM2, HB2⟩
   case round =>
    clear HG0 HX0 HM2 HB2
    obtain ⟨x, rfl, HK, HG, HX, HM, HB⟩ := hrel
    by_cases c1 : (x : Int) < (l.length : Int)
    ·have c1b := decide_eq_true c1
     have p1 : (0 : Int) ≤ (x : Int) := by omega
     have hxl : x < l.length := by omega
     have HFx := Aside0.mk (HF.out _ (at_S hxl))
     obtain ⟨ad1, e1, hx1⟩ := at_T36 HR0.out (x : Int) p1 c1
     cases e1
     obtain ⟨hx1_0, hx1_1, hx1_2, hx1_3, hx1_4, hx1_5, hx1_6, hx1_7⟩ := zc8 HB.out hx1
     rw [Int.toNat_natCast] at hx1_0 hx1_1 hx1_2 hx1_3 hx1_4 hx1_5 hx1_6 hx1_7
     have HSp := Aside0.mk (fstM_spec l (rd_T36 l (x : Int)).f2 (.lit (.int .i64 0)) l.length)
     have HRaw := Aside0.mk (raw_at l x hxl)
     have HFill := Aside0.mk (fillL_set l x hxl)
     have HFl := Aside0.mk (fillL_len l x (by omega))
     generalize rd_T36 l (x : Int) = s at *
     have HKey := Aside0.mk (keyOf_int_mk Tryz.underlying23 HFx.out.2)
     have W1 := Aside0.mk (show wrap64 ((x : Int) + 1) = ((x + 1 : Nat) : Int) from by unfold wrap64; have := HL.out; omega)
     obtain ⟨k1, rfl⟩ : ∃ k1, gk = k1 + 1 := ⟨gk - 1, by have := HK.out; omega⟩
     have hcell : ∀ o, (wr.alloc o).cell? ⟨gp, x, none⟩ = some (.int .i64 (rd (fillL l x) (x : Int))) := fun o => by
      have h := rowB_cell (rowB_kept HG.out (World.grownBy_alloc wr o none) (by simp)) p1 (by rw [HFl.out]; exact c1)
      rw [Int.toNat_natCast] at h
      exact h
     have hfz := fun o => rowB_frozen (rowB_kept HG.out (World.grownBy_alloc wr o none) (by simp)) x
     have hbx := fun o => (HX.out.alloc o).cell
     have HXl := Aside0.mk hxl
     have HSet := Aside0.mk (fun (v : Int) (W : World) (h : rowB W gp (fillL l x)) => rowB_set h x v)
     clear hxl
     replace p1 := eq_true p1
     replace c1 := eq_true c1
     have fin : ∀ (v : Int) (W : World), rd (rawL l) (x : Int) = v → Aside0 (rowB W gp (fillL l x)) → Aside0 (Boxed W (gp + 1) 43 (.slice (some ⟨gp, 0, none⟩) l.length l.length)) → Aside0 (W.ownsMap Tryz.prog 23 (plainElem Tryz.prog 3) w.heap.size c' (fstM l l.length)) → Aside0 (Below w.heap.size w W) → Aside0 (rowB (W.setCell ⟨gp, x, none⟩ (.int .i64 v)) gp (fillL l (x + 1))) ∧ Aside0 (Boxed (W.setCell ⟨gp, x, none⟩ (.int .i64 v)) (gp + 1) 43 (.slice (some ⟨gp, 0, none⟩) l.length l.length)) ∧ Aside0 ((W.setCell ⟨gp, x, none⟩ (.int .i64 v)).ownsMap Tryz.prog 23 (plainElem Tryz.prog 3) w.heap.size c' (fstM l l.length)) ∧ Aside0 (Below w.heap.size w (W.setCell ⟨gp, x, none⟩ (.int .i64 v))) := by
      intro v W hv h1 h2 h3 h4
      have hgs := grownBy_set W gp x (.int .i64 v)
      refine ⟨⟨?_⟩, ⟨h2.out.kept hgs (by simp)⟩, ⟨h3.out.kept hgs (by have := HLt.out; intro e; have := Option.some.inj e; omega)⟩, ⟨h4.out.grown hgs h4.out.size (fun j hj => by cases hj; have := HLt.out; omega)⟩⟩
      rw [← HFill.out, hv]
      exact rowB_set h1.out x v
     have FIN := Aside0.mk fin
     clear fin
     by_cases c2 : fstI l s.f2 l.length < 0
     ·have HV := Aside0.mk (show has (fstM l l.length) (keyI s.f2) = false ∧ (fstM l l.length).atKey (keyI s.f2) (.lit (.int .i64 0)) = .lit (.int .i64 0) from by
       obtain ⟨h1, h2⟩ := HSp.out
       rw [h1, h2, if_neg (by omega)]
       exact ⟨decide_eq_false (by omega), rfl⟩)
      rw [if_pos (.inr c2)] at HRaw
      clear c2 HSp
      go_wp2_with ((at_lookup; refine lookup_ok_known _ rfl _ _ 41 rfl 23 3 .i64 lawU Tryz.underlying41 Tryz.underlying3 (zeroI _) w.heap.size c' (fstM l l.length) rfl (HM.out.alloc _) _ _ rfl HKey.out 0 HV.out.2 false HV.out.1 ?_))
      go_roundg k1
      case measure => omega
      case rel =>
       obtain ⟨q1, q2, q3, q4⟩ := FIN.out _ _ HRaw.out ⟨rowB_kept HG.out (World.grownBy_alloc _ _ none) (by simp)⟩ ⟨HX.out.alloc _⟩ ⟨HM.out.alloc _⟩ ⟨below_alloc HB.out _⟩
       exact ⟨x + 1, by rw [W1.out], ⟨by have := HK.out; omega⟩, q1, q2, q3, q4⟩
     ·have HV := Aside0.mk (show has (fstM l l.length) (keyI s.f2) = true ∧ (fstM l l.length).atKey (keyI s.f2) (.lit (.int .i64 0)) = .lit (.int .i64 (fstI l s.f2 l.length)) from by
       obtain ⟨h1, h2⟩ := HSp.out
       rw [h1, h2, if_pos (by omega)]
       exact ⟨decide_eq_true (by omega), rfl⟩)
      by_cases c3 : s.f2 = 0
      ·rw [if_pos (.inl c3)] at HRaw
       have c3b : (s.f2 == 0) = true := by rw [c3]; rfl
       have c3d := decide_eq_true c3
       clear c2 HSp c3
       go_wp2_with ((at_lookup; refine lookup_ok_known _ rfl _ _ 41 rfl 23 3 .i64 lawU Tryz.underlying41 Tryz.underlying3 (zeroI _) w.heap.size c' (fstM l l.length) rfl (HM.out.alloc _) _ _ rfl HKey.out (fstI l s.f2 l.length) HV.out.2 true HV.out.1 ?_))
       go_roundg k1
       case measure => omega
       case rel =>
        obtain ⟨q1, q2, q3, q4⟩ := FIN.out _ _ HRaw.out ⟨rowB_kept HG.out (World.grownBy_alloc _ _ none) (by simp)⟩ ⟨HX.out.alloc _⟩ ⟨HM.out.alloc _⟩ ⟨below_alloc HB.out _⟩
        exact ⟨x + 1, by rw [W1.out], ⟨by have := HK.out; omega⟩, q1, q2, q3, q4⟩
      ·rw [if_neg (fun h => h.elim c3 c2)] at HRaw
       have c3b : (s.f2 == 0) = false := by rw [beq_eq_false_iff_ne]; exact c3
       have c3d := decide_eq_false c3
       clear c2 HSp c3
       go_wp2_with ((at_lookup; refine lookup_ok_known _ rfl _ _ 41 rfl 23 3 .i64 lawU Tryz.underlying41 Tryz.underlying3 (zeroI _) w.heap.size c' (fstM l l.length) rfl (HM.out.alloc _) _ _ rfl HKey.out (fstI l s.f2 l.length) HV.out.2 true HV.out.1 ?_))
       go_roundg k1
       case measure => omega
       case rel =>
        obtain ⟨q1, q2, q3, q4⟩ := FIN.out _ _ HRaw.out ⟨rowB_kept HG.out (World.grownBy_alloc _ _ none) (by simp)⟩ ⟨HX.out.alloc _⟩ ⟨HM.out.alloc _⟩ ⟨below_alloc HB.out _⟩
        exact ⟨x + 1, by rw [W1.out], ⟨by have := HK.out; omega⟩, q1, q2, q3, q4⟩
    ·have c1b := decide_eq_false c1
     have ex : x = l.length := by have := HK.out; omega
     subst ex
     clear c1
     have HG1 : Aside0 (rowB wr gp (rawL l)) := ⟨by have h := HG.out; rw [fillL_end] at h; exact h⟩
     have hbx := fun o => (HX.out.alloc o).cell
     have hst : OfSt w gp (gp + 1) wr.heap.size (rawL l) [] (fun k => (wr.alloc (.cells #[.slice none 0 0] 43)).heap.size < k) (wr.alloc (.cells #[.slice none 0 0] 43)) := by
      refine ⟨rowB_kept HG1.out (World.grownBy_alloc _ _ none) (by simp), ?_, ⟨_, Boxed.new _ _ _, Kd.R_nil _ _ _ _ _⟩, below_alloc HB.out _⟩
      rw [rawL_length]
      exact HX.out.alloc _
     have QC := cycles_of (rawL l) (rawL_inR l) (by rw [rawL_length]; exact HL.out) gp (gp + 1) wr.heap.size w _ ⟨by have := HX.out.lt; omega, by have := rowB_lt HG1.out; omega⟩ HB.out.size hst
     rw [show (#[Value.slice (some ⟨gp, 0, none⟩) (rawL l).length (rawL l).length, .func (.func 107) #[] #[.pointer (some ⟨gp + 1, 0, none⟩), .pointer (some ⟨wr.heap.size, 0, none⟩)]] : Array Value) = #[.slice (some ⟨gp, 0, none⟩) l.length l.length, .func (.func 107) #[] #[.pointer (some ⟨gp + 1, 0, none⟩), .pointer (some ⟨wr.heap.size, 0, none⟩)]] from by rw [rawL_length]] at QC
     have QC2 := Aside0.mk QC
     have HWl := Aside0.mk (show gp < (wr.alloc (.cells #[.slice none 0 0] 43)).heap.size from by have := rowB_lt HG1.out; simp; omega)
     clear QC hst
     go_wp2_with (go_at_call 106; refine QC2.out.mono ?_; rintro e w2 ⟨rfl, hst⟩; obtain ⟨v, hb, hR⟩ := hst.lose; obtain ⟨Al, cl, rfl⟩ := Kd.R_slice hR; have hbl := hb.cell; have hbo := hst.out.cell; have HSt := Aside0.mk hst; have HR := Aside0.mk hR; clear hst hb hR)
     generalize (wr.alloc (.cells #[.slice none 0 0] 43)).heap.size = gb at *
     have HG2 := Aside0.mk (show rowB w2 gp (mark (-1) ((losers (rawL l)).take 0) (rawL l)) from HSt.out.row)
     have HX2 : Aside0 (Boxed w2 (gp + 1) 43 (.slice (some ⟨gp, 0, none⟩) l.length l.length)) := ⟨by have h := HSt.out.out; rw [rawL_length] at h; exact h⟩
     have HB3 := Aside0.mk HSt.out.below
     have HIn := Aside0.mk (losers_in (rawL_inR l))
     have HLl := Aside0.mk (show (losers (rawL l)).length ≤ l.length from by
      have h := cyc_len (rawL l) (rawL l).length
      rw [rawL_length] at h
      unfold losers
      rw [List.length_map, rawL_length]
      exact h)
     have HMk := Aside0.mk (parL_mark l)
     have HRl := Aside0.mk (rawL_length l)
     clear HSt HG1 HX HM HB hbo
     generalize losers (rawL l) = L at *
     go_loopg [72] L.length (fun kq v72 w' => ∃ x : Nat, v72 = .int .i64 (x : Int) ∧ Aside0 (x + kq = L.length) ∧ Aside0 (rowB w' gp (mark (-1) (L.take x) (rawL l))) ∧ Aside0 (Boxed w' (gp + 1) 43 (.slice (some ⟨gp, 0, none⟩) l.length l.length)) ∧ Aside0 (Kd.R (Kd.int .i64) 3 w' w.heap.size (fun k => gb < k) (.slice Al L.length cl) L) ∧ Aside0 (Below w.heap.size w w'))
     case atStart => exact ⟨0, rfl, ⟨by omega⟩, HG2, HX2, HR, HB3⟩
     case round =>
      clear HG2 HX2 HR HB3 hbl
      obtain ⟨x, rfl, HK, HG, HX, HR, HB⟩ := hrel
      by_cases c1 : (x : Int) < (L.length : Int)
      ·have c1b := decide_eq_true c1
       have p1 : (0 : Int) ≤ (x : Int) := by omega
       have hxl : x < L.length := by omega
       obtain ⟨ad1, e1, hx⟩ := Kd.at_int (Kd.R_reads' HR.out).2.2 (x : Int) p1 c1
       cases e1
       rw [Int.toNat_natCast] at hx
       have hr : rd L (x : Int) = L[x] := by simp [rd, List.getD, hxl]
       have hi := HIn.out _ (List.getElem_mem hxl)
       rw [HRl.out, ← hr] at hi
       have HMx := Aside0.mk (show mark (-1) (L.take (x + 1)) (rawL l) = (mark (-1) (L.take x) (rawL l)).set (rd L (x : Int)).toNat (-1) from by
        rw [List.take_succ_eq_append_getElem hxl, hr]
        unfold mark
        rw [List.foldl_append]
        rfl)
       have W1 := Aside0.mk (show wrap64 ((x : Int) + 1) = ((x + 1 : Nat) : Int) from by unfold wrap64; have := HLl.out; have := HL.out; omega)
       obtain ⟨k1, rfl⟩ : ∃ k1, gk = k1 + 1 := ⟨gk - 1, by have := HK.out; omega⟩
       generalize rd L (x : Int) = i at *
       have hbx := HX.out.cell
       have hcell := rowB_cell HG.out hi.1 (by rw [mark_len, HRl.out]; exact hi.2)
       have hfz := rowB_frozen HG.out i.toNat
       have i0 := eq_true hi.1
       have i1 := eq_true hi.2
       clear hi hr hxl
       replace p1 := eq_true p1
       replace c1 := eq_true c1
       go_wp2_with fail
       go_roundg k1
       case measure => omega
       case rel =>
        have hgs := grownBy_set wr gp i.toNat (.int .i64 (-1))
        refine ⟨x + 1, by rw [W1.out], ⟨by have := HK.out; omega⟩, ⟨by rw [HMx.out]; exact rowB_set HG.out i.toNat (-1)⟩, ⟨HX.out.kept hgs (by simp)⟩, ⟨Kd.R_grown HR.out hgs (fun k hk e => by have := Option.some.inj e; have := HWl.out; omega)⟩, ⟨HB.out.grown hgs HB.out.size (fun j hj => by cases hj; have := HLt.out; omega)⟩⟩
      ·have c1b := decide_eq_false c1
       have ex : x = L.length := by have := HK.out; omega
       subst ex
       have hg := HG.out
       rw [List.take_length, HMk.out] at hg
       have HF2 := Aside0.mk (rowB_R hg (show w.heap.size ≤ gp from by have := HLt.out; omega) (by rw [parL_length]; exact HL.out))
       have hbx := HX.out.cell
       clear hg c1
       go_wp2_with fail
       go_ret
       refine ⟨_, rfl, ?_, HB.out⟩
       have h := HF2.out
       rw [parL_length] at h
       exact h
end Go.Proofs.YtgknjgionicncaaGreat.L
