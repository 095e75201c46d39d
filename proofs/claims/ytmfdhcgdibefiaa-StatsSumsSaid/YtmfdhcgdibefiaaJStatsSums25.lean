/- Texts joined by wip/tools/merge.py: Open QOpens Qx4 Qx2 Qx3 Qx5 Qx6 SpanA MayS TalP Shelf TalS TalG ArrP CovP CovA CovS CovG CovH FunV OwnC RcovP RcovW CycP CycA CycG CycL. -/
import Derived.Test.YtmfdhcgdibefiaaJStatsSums2
import Derived.Test.YtmfdhcgdibefiaaJStatsSums22
import Derived.Test.YtmfdhcgdibefiaaJStatsSums24
import Derived.WalkKit
import Derived.ProofKit
import Derived.OpenShut
import Derived.Deep.Slices
import Derived.DataElems
import Derived.Test.YtmfdhcgdibefiaaJStatsSums23
import Derived.KernelRfl
import Derived.Shelf.SlSortCmp.NoneTotal
import Derived.Test.YtmfdhcgdibefiaaProg
import Derived.Test.YtmfdhcgdibefiaaJStatsSums20
import Derived.StillTailTactics
import Derived.Sort.Grow
import Derived.Lib.Strings
import Derived.Maps.RangeWalk
import Derived.StringKeys
import Derived.WalkArith
import Derived.Deep.RegionHeld3
import Derived.Sort.KeysCollected
import Derived.Test.YtmfdhcgdibefiaaJStatsSums0
import Derived.Lib.OwnBridge
import Derived.Lib.SliceRun
import Derived.Deep.QuietTactic
import Derived.BigQuiet
import Derived.RangeFuncBox
import Derived.WalkMore
/- How an argument that came in is read by kind: from the row's reading (DataW.trod) to the printer's kinds (Kd). -/
namespace Go.Proofs.YtmfdhcgdibefiaaW.Open
open Go.RowKit Go.Proofs.YtmfdhcgdibefiaaW.PrintWords Go.ChangeShapes Go.WideShapes
set_option linter.unusedVariables false

/-- A type's readings are a kind's, and what is known of what is read. -/
structure Opens {α : Type} (P : Program) (t : TypeId) (k : Kd α) (wf : α → Prop) : Prop where
  sz : P.cellsOf t = k.sz
  K : ∀ {H : Type} {enc : TypeId × Value → H} {W : World} {base : Nat} {spare : Nat → Bool} {held : Bool} {fuel : Nat} {cs : List Value} {d : DataW H} {ps : List MemPlace},
    DataW.trod enc P W base spare held fuel t cs = some (d, ps) → (∀ n ∈ d.weights P t, n ≤ reachBytes) → ∃ x, k.K W x cs ∧ wf x

section
variable {P : Program} {t e : TypeId}

theorem Opens.int {k : IntKind} (ht : P.underlying t = some (.int k)) (hc : P.cellsOf t = 1) : Opens P t (Kd.int k) (fun x => (Lit.int k x).wf = true) := by
  refine ⟨hc, ?_⟩
  intro H enc W base spare held fuel cs d ps h _
  obtain ⟨n, rfl, _, hw⟩ := DataW.trod_int ht h
  exact ⟨n, rfl, hw⟩

theorem Opens.bool (ht : P.underlying t = some .bool) (hc : P.cellsOf t = 1) : Opens P t Kd.bool (fun _ => True) := by
  refine ⟨hc, ?_⟩
  intro H enc W base spare held fuel cs d ps h _
  obtain ⟨b, rfl, _⟩ := DataW.trod_bool ht h
  exact ⟨b, rfl, trivial⟩

theorem Opens.string (ht : P.underlying t = some .string) (hc : P.cellsOf t = 1) : Opens P t Kd.string (fun s => s.size ≤ reachBytes) := by
  refine ⟨hc, ?_⟩
  intro H enc W base spare held fuel cs d ps h hs
  obtain ⟨s, rfl, hx, _⟩ := DataW.trod_string ht h
  obtain ⟨rfl, rfl⟩ := Prod.mk.inj hx
  refine ⟨s, rfl, ?_⟩
  have := hs s.data.toList.length (by simp [DataW.weights])
  simpa using this

theorem Opens.iso {α β : Type} {k : Kd α} {wf : α → Prop} (f : β → α) (g : α → β) (hfg : ∀ x, f (g x) = x) (h : Opens P t k wf) : Opens P t (Kd.iso k f) (fun y => wf (f y)) := by
  refine ⟨h.sz, ?_⟩
  intro H enc W base spare held fuel cs d ps h1 hs
  obtain ⟨x, hK, hw⟩ := h.K h1 hs
  exact ⟨g x, by show k.K W (f (g x)) cs; rw [hfg]; exact hK, by show wf (f (g x)); rw [hfg]; exact hw⟩

theorem Opens.imp {α : Type} {k : Kd α} {wf wf' : α → Prop} (h : Opens P t k wf) (hw : ∀ x, wf x → wf' x) : Opens P t k wf' := by
  refine ⟨h.sz, ?_⟩
  intro H enc W base spare held fuel cs d ps h1 hs
  obtain ⟨x, hK, hx⟩ := h.K h1 hs
  exact ⟨x, hK, hw x hx⟩

/-- Fields, one behind the other, from a place on. -/
def OpensF {α : Type} (P : Program) (fs : List Field) (o : Nat) (k : Kd α) (wf : α → Prop) : Prop :=
  ∀ {H : Type} {enc : TypeId × Value → H} {W : World} {base : Nat} {spare : Nat → Bool} {held : Bool} {n : Nat} {cs : List Value} {xs : List (DataW H × List MemPlace)},
    xs.length = fs.length → (∀ (i : Nat) (f : Field), fs[i]? = some f → DataW.trod enc P W base spare held n f.type ((cs.drop f.offset).take (P.cellsOf f.type)) = xs[i]?) → cs.length = o + k.sz →
    (∀ m ∈ DataW.weightsEach P (fs.map (·.type)) (xs.map (·.1)), m ≤ reachBytes) → ∃ x, k.K W x (cs.drop o) ∧ wf x

theorem OpensF.one {α : Type} {f : Field} {o : Nat} {k : Kd α} {wf : α → Prop} (ho : f.offset = o) (h : Opens P f.type k wf) : OpensF P [f] o k wf := by
  intro H enc W base spare held n cs xs hl hx hc hs
  match xs, hl with
  | [y], _ =>
    have h1 := hx 0 f rfl
    rw [ho, h.sz, List.take_of_length_le (by rw [List.length_drop]; omega)] at h1
    exact h.K (d := y.1) (ps := y.2) h1 (fun m hm => hs m (by simp [DataW.weightsEach, hm]))

theorem OpensF.cons {α β : Type} {f : Field} {fs : List Field} {o o' : Nat} {a : Kd α} {b : Kd β} {wa : α → Prop} {wb : β → Prop} (ho : f.offset = o) (ho' : o' = o + a.sz) (h : Opens P f.type a wa) (hr : OpensF P fs o' b wb) :
    OpensF P (f :: fs) o (Kd.pair a b) (fun x => wa x.1 ∧ wb x.2) := by
  intro H enc W base spare held n cs xs hl hx hc hs
  subst ho'
  match xs, hl with
  | y :: ys, hl =>
    have h1 := hx 0 f rfl
    rw [ho, h.sz] at h1
    obtain ⟨x, hK, hw⟩ := h.K (d := y.1) (ps := y.2) h1 (fun m hm => hs m (by simp [DataW.weightsEach, hm]))
    obtain ⟨z, hK2, hw2⟩ := hr (xs := ys) (cs := cs) (by simpa using hl) (fun i g hg => by have := hx (i + 1) g (by simpa using hg); simpa using this) (by rw [hc]; show o + (a.sz + b.sz) = _; omega) (fun m hm => hs m (by simp [DataW.weightsEach, hm]))
    refine ⟨(x, z), ⟨(cs.drop o).take a.sz, cs.drop (o + a.sz), ?_, hK, hK2⟩, hw, hw2⟩
    rw [← List.drop_drop, List.take_append_drop]

theorem Opens.struct {α : Type} {fs : Array Field} {k : Kd α} {wf : α → Prop} (ht : P.underlying t = some (.struct fs)) (hc : P.cellsOf t = k.sz) (h : OpensF P fs.toList 0 k wf) : Opens P t k wf := by
  refine ⟨hc, ?_⟩
  intro H enc W base spare held fuel cs d ps h1 hs
  obtain ⟨xs, n, _, hx, hl, hlen, hf⟩ := DataW.trod_struct ht h1
  obtain ⟨rfl, rfl⟩ := Prod.mk.inj hx
  have := h (cs := cs) (xs := xs) (by simpa using hlen) (fun i f hif => hf i f (by simpa using hif)) (by omega) (fun m hm => hs m (by simpa [DataW.weights, ht] using hm))
  simpa using this

theorem weightsAll_mem {H : Type} {e : TypeId} : ∀ {l : List (DataW H)} {d : DataW H}, d ∈ l → ∀ n ∈ d.weights P e, n ∈ DataW.weightsAll P e l
  | d0 :: l, d, h, n, hn => by
    simp only [DataW.weightsAll, List.mem_append]
    rcases List.mem_cons.1 h with rfl | h
    · exact .inl hn
    · exact .inr (weightsAll_mem h n hn)

theorem Opens.slice {α : Type} {k : Kd α} {wf : α → Prop} {B : Nat} (ht : P.underlying t = some (.slice e)) (hc : P.cellsOf t = 1) (hB : P.bytesOf e = B) (h : Opens P e k wf) :
    Opens P t (Kd.slice e k) (fun l => l.length ≤ maxLen ∧ l.length * B ≤ reachBytes ∧ ∀ x ∈ l, wf x) := by
  refine ⟨hc, ?_⟩
  intro H enc W base spare held fuel cs d ps h1 hs
  rcases Go.Deep.open_slice ht h1 with ⟨rfl, hx⟩ | ⟨a, len, cap, m, n, D, Pl, rfl, hb, hl, hm, hmm, hx, hel⟩
  · refine ⟨[], ⟨none, 0, rfl, by simp, Kd.C_nil _ _⟩, by simp [maxLen], by simp, by simp⟩
  · obtain ⟨rfl, rfl⟩ := Prod.mk.inj hx
    have hle : len ≤ m := by rw [hmm]; split <;> omega
    have hw : ∀ j, j < len → ∃ x, (∃ c, c.length = k.sz ∧ k.K W x c ∧ ∀ i u, c[i]? = some u → W.cell? (a.add (j * k.sz + i)) = some u) ∧ wf x := by
      intro j hj
      obtain ⟨cs', h2, h3⟩ := hel j (by omega)
      obtain ⟨x, hK, hx⟩ := h.K h3 (fun q hq => hs q (by
        simp only [DataW.weights, ht, List.mem_cons, List.mem_append]
        exact .inr (.inl (weightsAll_mem (List.mem_map.2 ⟨j, by simpa using hj, rfl⟩) q hq))))
      obtain ⟨_, hlen, hcell⟩ := World.cells?_some h2
      refine ⟨x, ⟨cs', by rw [hlen, h.sz], hK, fun i u hu => ?_⟩, hx⟩
      have hi : i < cs'.length := (List.getElem?_eq_some_iff.1 hu).1
      have := hcell i (by omega)
      rw [hu, h.sz] at this
      rw [← this, Addr.add_add]
    obtain ⟨X, hX⟩ : ∃ X : Fin len → α, ∀ j : Fin len, (∃ c, c.length = k.sz ∧ k.K W (X j) c ∧ ∀ i u, c[i]? = some u → W.cell? (a.add (j.1 * k.sz + i)) = some u) ∧ wf (X j) :=
      ⟨fun j => Classical.choose (hw j.1 j.2), fun j => Classical.choose_spec (hw j.1 j.2)⟩
    have hml : (9223372036854775807 : Nat) = maxLen := rfl
    refine ⟨List.ofFn X, ⟨some a, cap, by simp, by simpa using hl, ?_⟩, ?_, ?_, ?_⟩
    · refine ⟨rfl, by rw [hml]; simpa using Nat.le_trans hl hm, fun _ => ⟨a, rfl, fun j p hp => ?_⟩⟩
      obtain ⟨hj, rfl⟩ := List.getElem?_eq_some_iff.1 hp
      have hj' : j < len := by simpa using hj
      have := (hX ⟨j, hj'⟩).1
      simpa using this
    · simpa using Nat.le_trans hl hm
    · have := hs ((len + (m - len)) * P.bytesOf e) (by simp [DataW.weights, ht])
      rw [hB] at this
      rw [List.length_ofFn]
      exact Nat.le_trans (Nat.mul_le_mul_right _ (by omega)) this
    · intro x hx
      obtain ⟨j, rfl⟩ := (List.mem_ofFn).1 hx
      exact (hX j).2

theorem weights_le {H : Type} {ts : List TypeId} {ds : List (DataW H)} {j : Nat} {t : TypeId} {d : DataW H} (h : (DataW.weightsEach P ts ds).all (· ≤ reachBytes) = true) (ht : ts[j]? = some t) (hd : ds[j]? = some d) : ∀ n ∈ d.weights P t, n ≤ reachBytes := by
  intro n hn
  simpa using List.all_eq_true.1 h n (DataW.weights_mem_each ht hd n hn)
end

/-- A slice that came in. -/
theorem open_row {P : Program} {t e : TypeId} {α : Type} {k : Kd α} {wf : List α → Prop} (ho : Opens P t (Kd.slice e k) wf) {H : Type} {enc : TypeId × Value → H} {W : World} {base : Nat} {spare : Nat → Bool} {held : Bool} {a : Option Addr} {n c : Nat} {d : DataW H} {ps : List MemPlace}
    (h : DataW.Trod enc P W base spare held t (.slice a n c) d ps) (hs : ∀ m ∈ d.weights P t, m ≤ reachBytes) : ∃ l, n = l.length ∧ l.length ≤ c ∧ k.C W a l.length l ∧ wf l := by
  obtain ⟨fuel, hf⟩ := h
  obtain ⟨l, ⟨A, c', he, hl, hC⟩, hw⟩ := ho.K hf hs
  simp [Value.cells] at he
  obtain ⟨rfl, rfl, rfl⟩ := he
  exact ⟨l, rfl, hl, hC, hw⟩

end Go.Proofs.YtmfdhcgdibefiaaW.Open

-- Written by wip/tools/row.py, a program of this session. Lean checks it.
namespace Go.Proofs.Ytmfdhcgdibefiaa.Q
open Go.RowKit Go.Proofs.YtmfdhcgdibefiaaW.PrintWords Go.Proofs.YtmfdhcgdibefiaaW.Open
set_option linter.unusedVariables false
def wf37 (x : S37) : Prop := ((Lit.int .u64 x.f0).wf = true) ∧ ((Lit.int .u64 x.f1).wf = true) ∧ ((Lit.int .u64 x.f2).wf = true) ∧ ((Lit.int .u8 x.f3).wf = true) ∧ (x.f4.size ≤ reachBytes) ∧ (x.f5.size ≤ reachBytes) ∧ ((Lit.int .i64 x.f6).wf = true) ∧ ((Lit.int .i64 x.f7).wf = true)
set_option maxRecDepth 100000 in
theorem opens37 : Opens Try.prog 37 k37 wf37 := by
  refine (Opens.iso _ (fun x => (⟨x.1, x.2.1, x.2.2.1, x.2.2.2.1, x.2.2.2.2.1, x.2.2.2.2.2.1, x.2.2.2.2.2.2.1, x.2.2.2.2.2.2.2⟩ : S37)) (fun _ => rfl) (Opens.struct Try.underlying37 (by kernel_rfl) (OpensF.cons rfl rfl (Opens.int Try.underlying24 (by kernel_rfl)) (OpensF.cons rfl rfl (Opens.int Try.underlying24 (by kernel_rfl)) (OpensF.cons rfl rfl (Opens.int Try.underlying24 (by kernel_rfl)) (OpensF.cons rfl rfl (Opens.int Try.underlying5 (by kernel_rfl)) (OpensF.cons rfl rfl (Opens.string Try.underlying9 (by kernel_rfl)) (OpensF.cons rfl rfl (Opens.string Try.underlying9 (by kernel_rfl)) (OpensF.cons rfl rfl (Opens.int Try.underlying2 (by kernel_rfl)) (OpensF.one rfl (Opens.int Try.underlying2 (by kernel_rfl)))))))))))).imp ?_
  exact fun _ h => h
end Go.Proofs.Ytmfdhcgdibefiaa.Q

-- Written by wip/tools/gp.py, a program of this session round the kit's printer. Lean checks it.
namespace Go.Proofs.Ytmfdhcgdibefiaa.Q
open Go.RowKit Go.Proofs.YtmfdhcgdibefiaaW.PrintWords Go.Proofs.YtmfdhcgdibefiaaW.PrintLast Go.Proofs.YtmfdhcgdibefiaaW.PrintMore
attribute [local go_sem] max2_int min2_int max_two min_two max_three min_three max_four min_four   -- for this text's walks alone
set_option linter.unusedVariables false
set_option linter.unusedSimpArgs false
end Go.Proofs.Ytmfdhcgdibefiaa.Q

-- Written by wip/tools/gp.py, a program of this session round the kit's printer. Lean checks it.
namespace Go.Proofs.Ytmfdhcgdibefiaa.Q
open Go.RowKit Go.Proofs.YtmfdhcgdibefiaaW.PrintWords Go.Proofs.YtmfdhcgdibefiaaW.PrintLast Go.Proofs.YtmfdhcgdibefiaaW.PrintMore
attribute [local go_sem] max2_int min2_int max_two min_two max_three min_three max_four min_four   -- for this text's walks alone
set_option linter.unusedVariables false
set_option linter.unusedSimpArgs false

/-! ### merkhetlaw04_Great: function 15 -/
def merkhetlaw04_Great.l0 : Nat → List (S37) → Int → Int → Option (Bool)
  | 0, _, _, _ => none
  | k + 1, x8, x9, x10 => if x10 < x9 then (if 0 ≤ x10 then (if x10 < (x8.length : Int) then (if (((rd_T37 x8 x10).f4).size : Int) > 100 then (some true) else (if (((rd_T37 x8 x10).f5).size : Int) > 100 then (some true) else (merkhetlaw04_Great.l0 k x8 x9 (wrap64 (x10 + 1))))) else (none)) else (none)) else (some false)
def merkhetlaw04_Great.f (k : Nat) (l0 : List (S37)) : Option (Bool) := if (l0.length : Int) > 60 then (some true) else (merkhetlaw04_Great.l0 k l0 (l0.length : Int) 0)
theorem merkhetlaw04_Great.mono_l : ∀ k, (∀ y0 y1 y2, LeO (merkhetlaw04_Great.l0 k y0 y1 y2) (merkhetlaw04_Great.l0 (k + 1) y0 y1 y2))
  | 0 => fun _ _ _ r h => by simp [merkhetlaw04_Great.l0] at h
  | k + 1 => by
    have ih0 := merkhetlaw04_Great.mono_l k
    · intro y0 y1 y2
      unfold merkhetlaw04_Great.l0
      repeat' first
      | (with_reducible exact ih0 _ _ _)
      | (with_reducible exact LeO.refl _)
      | (with_reducible exact LeO.none _)
      | (with_reducible refine LeO.ite ?_ ?_)
      | (with_reducible refine LeO.bind ?_ (fun _ => ?_))
      | exact ih0 _ _ _
      | exact LeO.none _
      | refine LeO.ite ?_ ?_
      | refine LeO.bind ?_ (fun _ => ?_)
theorem merkhetlaw04_Great.mono : ∀ a0 k, LeO (merkhetlaw04_Great.f k a0) (merkhetlaw04_Great.f (k + 1) a0) := by
  intro a0 k
  have ih0 := merkhetlaw04_Great.mono_l k
  unfold merkhetlaw04_Great.f
  repeat' first
      | (with_reducible exact ih0 _ _ _)
      | (with_reducible exact LeO.refl _)
      | (with_reducible exact LeO.none _)
      | (with_reducible refine LeO.ite ?_ ?_)
      | (with_reducible refine LeO.bind ?_ (fun _ => ?_))
      | exact ih0 _ _ _
      | exact LeO.none _
      | refine LeO.ite ?_ ?_
      | refine LeO.bind ?_ (fun _ => ?_)
set_option maxHeartbeats 8000000 in
set_option maxRecDepth 100000 in
theorem merkhetlaw04_Great.calls (k : Nat) (A0 : Option Addr) (c0 : Nat) (l0 : List (S37)) (r : Bool) (w : World) (hr0 : Kd.C k37 w A0 l0.length l0) (hc0 : l0.length ≤ c0) (h : merkhetlaw04_Great.f k l0 = some r) :
    Calls Try.prog 15 #[.slice A0 l0.length c0] w fun e w' => e = .returned (.bool r) ∧ Below w.heap.size w w' := by
  have hu37 := Try.underlying37
  have HR0 := Aside0.mk hr0
  have HC0 := Aside0.mk hc0
  clear hr0 hc0
  have HB := Aside0.mk (Below.refl w.heap.size w)
  have H : (if (l0.length : Int) > 60 then (some true) else (merkhetlaw04_Great.l0 k l0 (l0.length : Int) 0)) = some r := h
  clear h
  by_cases c2 : (l0.length : Int) > 60
  · rw [if_pos c2] at H
    have c2b0 : decide (60 < (l0.length : Int)) = true := decide_eq_true c2
    have c2b1 : decide (60 < l0.length) = true := decide_eq_true (by omega)
    clear c2
    obtain rfl := Option.some.inj H
    go_enter Try.func15, Try.ntmps15
    go_wp2
    go_ret
    exact ⟨by first | rfl | (simp [errW_none, errW_some] <;> rfl) | (simp [*, errW_none, errW_some] <;> rfl), by repeat (first | (with_reducible first | exact HB.out | apply below_alloc | apply pw_below_drewN | apply below_drew1) | exact HB.out)⟩
  · rw [if_neg c2] at H
    have c2b0 : decide (60 < (l0.length : Int)) = false := decide_eq_false c2
    have c2b1 : decide (60 < l0.length) = false := decide_eq_false (by omega)
    clear c2
    have H' := Aside0.mk H
    clear H
    go_enter Try.func15, Try.ntmps15
    go_wp2
    go_loopg [10] k (fun kq v10 w' => ∃ (x10_1 : Int), v10 = .int .i64 x10_1 ∧ Aside0 (merkhetlaw04_Great.l0 kq l0 (l0.length : Int) x10_1 = some r) ∧ Aside0 (kq ≤ k) ∧ Aside0 (Below w.heap.size w w'))
    case atStart => exact ⟨(0), (by first | rfl | (simp; done) | (simp [*]; done)), H', ⟨Nat.le_refl _⟩, ⟨by repeat (first | (with_reducible first | exact HB.out | apply below_alloc | apply pw_below_drewN | apply below_drew1) | exact HB.out)⟩⟩
    case round =>
      clear H'
      (try clear c1); (try clear c2); (try clear c2b0); (try clear c2b1); (try clear p2)
      obtain ⟨x10_1, rfl, HA, HK1, HB⟩ := hrel
      cases gk with
      | zero => exact absurd HA.out (by simp [merkhetlaw04_Great.l0])
      | succ k1 =>
        have H := HA.out
        clear HA
        simp only [merkhetlaw04_Great.l0] at H
        by_cases c3 : x10_1 < (l0.length : Int)
        · rw [if_pos c3] at H
          have c3b0 : decide (x10_1 < (l0.length : Int)) = true := decide_eq_true c3
          clear c3
          by_cases c4 : 0 ≤ x10_1
          · rw [if_pos c4] at H
            have c4b0 : decide (0 ≤ x10_1) = true := decide_eq_true c4
            clear c4
            by_cases c5 : x10_1 < (l0.length : Int)
            · rw [if_pos c5] at H
              have c5b0 : decide (x10_1 < (l0.length : Int)) = true := decide_eq_true c5
              clear c5
              by_cases c6 : (((rd_T37 l0 x10_1).f4).size : Int) > 100
              · rw [if_pos c6] at H
                have c6b0 : decide (100 < (((rd_T37 l0 x10_1).f4).size : Int)) = true := decide_eq_true c6
                have c6b1 : decide (100 < ((rd_T37 l0 x10_1).f4).size) = true := decide_eq_true (by omega)
                clear c6
                obtain rfl := Option.some.inj H
                have p101 : 0 ≤ (x10_1 : Int) := of_decide_eq_true (by first | (with_reducible assumption) | assumption)
                have q101 : x10_1 < (l0.length : Int) := of_decide_eq_true (by first | (with_reducible assumption) | assumption)
                obtain ⟨ad101, e101, hx101_0, hx101_1, hx101_2, hx101_3, hx101_4, hx101_5, hx101_6, hx101_7⟩ := at_T37 HR0.out x10_1 p101 q101
                cases e101
                replace hx101_0 := (HB.out.cell (World.block_lt_of_cell? w _ hx101_0)).trans hx101_0
                replace hx101_1 := (HB.out.cell (World.block_lt_of_cell? w _ hx101_1)).trans hx101_1
                replace hx101_2 := (HB.out.cell (World.block_lt_of_cell? w _ hx101_2)).trans hx101_2
                replace hx101_3 := (HB.out.cell (World.block_lt_of_cell? w _ hx101_3)).trans hx101_3
                replace hx101_4 := (HB.out.cell (World.block_lt_of_cell? w _ hx101_4)).trans hx101_4
                replace hx101_5 := (HB.out.cell (World.block_lt_of_cell? w _ hx101_5)).trans hx101_5
                replace hx101_6 := (HB.out.cell (World.block_lt_of_cell? w _ hx101_6)).trans hx101_6
                replace hx101_7 := (HB.out.cell (World.block_lt_of_cell? w _ hx101_7)).trans hx101_7
                replace p101 := eq_true p101
                replace q101 := eq_true q101
                go_wp2_with (first | ((with_reducible refine gate_dst (N := 4) rfl ?_); (try (refine gate_guard (by rfl) ?_; dsimp only)); refine box_event ?hg (N := 4) ?hd (cs := #[.int .u64 0, .int .u64 0, .int .u64 0, .int .u8 0, .string (⟨#[]⟩ : ByteArray), .string (⟨#[]⟩ : ByteArray), .int .i64 0, .int .i64 0]) (t := 37) ?hr ?_; (case hd => rfl); (case hg => rfl); (case hr => first | (go_simp; done) | (go_simp; rfl)); intro gb102 hg w7 hbox hb; have n0_ := Aside0.mk (below_step (by repeat (first | (with_reducible first | exact HB.out | apply below_alloc | apply pw_below_drewN | apply below_drew1) | exact HB.out)) hb); have n1_ := Aside0.mk (hbox); have n2_ := Aside0.mk ((by rw [hg]; exact (below_size (by repeat (first | (with_reducible first | exact HB.out | apply below_alloc | apply pw_below_drewN | apply below_drew1) | exact HB.out))) : w.heap.size ≤ gb102)); have n3_ := Aside0.mk ((by rw [hg]; exact (below_size (by repeat (first | (with_reducible first | exact HB.out | apply below_alloc | apply pw_below_drewN | apply below_drew1) | exact HB.out))) : w.heap.size ≤ gb102)); clear HB; have HB := n0_; have BK102 := n1_; have GW102 := n2_; have GE102 := n3_; clear n0_ n1_ n2_ n3_; clear hb hbox hg; have hcz8_0 : w7.cell? ⟨gb102, 0, none⟩ = some (.int .u64 0) := (blk_cell BK102.out 0).trans rfl; have hcz8_1 : w7.cell? ⟨gb102, 1, none⟩ = some (.int .u64 0) := (blk_cell BK102.out 1).trans rfl; have hcz8_2 : w7.cell? ⟨gb102, 2, none⟩ = some (.int .u64 0) := (blk_cell BK102.out 2).trans rfl; have hcz8_3 : w7.cell? ⟨gb102, 3, none⟩ = some (.int .u8 0) := (blk_cell BK102.out 3).trans rfl; have hcz8_4 : w7.cell? ⟨gb102, 4, none⟩ = some (.string (⟨#[]⟩ : ByteArray)) := (blk_cell BK102.out 4).trans rfl; have hcz8_5 : w7.cell? ⟨gb102, 5, none⟩ = some (.string (⟨#[]⟩ : ByteArray)) := (blk_cell BK102.out 5).trans rfl; have hcz8_6 : w7.cell? ⟨gb102, 6, none⟩ = some (.int .i64 0) := (blk_cell BK102.out 6).trans rfl; have hcz8_7 : w7.cell? ⟨gb102, 7, none⟩ = some (.int .i64 0) := (blk_cell BK102.out 7).trans rfl; have hfz8_0 := blk_frozen BK102.out 0; have hfz8_1 := blk_frozen BK102.out 1; have hfz8_2 := blk_frozen BK102.out 2; have hfz8_3 := blk_frozen BK102.out 3; have hfz8_4 := blk_frozen BK102.out 4; have hfz8_5 := blk_frozen BK102.out 5; have hfz8_6 := blk_frozen BK102.out 6; have hfz8_7 := blk_frozen BK102.out 7))
                go_ret
                exact ⟨by first | rfl | (simp [errW_none, errW_some] <;> rfl) | (simp [*, errW_none, errW_some] <;> rfl), by repeat (first | (with_reducible first | exact HB.out | apply below_alloc | apply pw_below_drewN | apply below_drew1 | refine below_set ?_ GE102.out) | exact HB.out)⟩
              · rw [if_neg c6] at H
                have c6b0 : decide (100 < (((rd_T37 l0 x10_1).f4).size : Int)) = false := decide_eq_false c6
                have c6b1 : decide (100 < ((rd_T37 l0 x10_1).f4).size) = false := decide_eq_false (by omega)
                clear c6
                by_cases c9 : (((rd_T37 l0 x10_1).f5).size : Int) > 100
                · rw [if_pos c9] at H
                  have c9b0 : decide (100 < (((rd_T37 l0 x10_1).f5).size : Int)) = true := decide_eq_true c9
                  have c9b1 : decide (100 < ((rd_T37 l0 x10_1).f5).size) = true := decide_eq_true (by omega)
                  clear c9
                  obtain rfl := Option.some.inj H
                  have p101 : 0 ≤ (x10_1 : Int) := of_decide_eq_true (by first | (with_reducible assumption) | assumption)
                  have q101 : x10_1 < (l0.length : Int) := of_decide_eq_true (by first | (with_reducible assumption) | assumption)
                  obtain ⟨ad101, e101, hx101_0, hx101_1, hx101_2, hx101_3, hx101_4, hx101_5, hx101_6, hx101_7⟩ := at_T37 HR0.out x10_1 p101 q101
                  cases e101
                  replace hx101_0 := (HB.out.cell (World.block_lt_of_cell? w _ hx101_0)).trans hx101_0
                  replace hx101_1 := (HB.out.cell (World.block_lt_of_cell? w _ hx101_1)).trans hx101_1
                  replace hx101_2 := (HB.out.cell (World.block_lt_of_cell? w _ hx101_2)).trans hx101_2
                  replace hx101_3 := (HB.out.cell (World.block_lt_of_cell? w _ hx101_3)).trans hx101_3
                  replace hx101_4 := (HB.out.cell (World.block_lt_of_cell? w _ hx101_4)).trans hx101_4
                  replace hx101_5 := (HB.out.cell (World.block_lt_of_cell? w _ hx101_5)).trans hx101_5
                  replace hx101_6 := (HB.out.cell (World.block_lt_of_cell? w _ hx101_6)).trans hx101_6
                  replace hx101_7 := (HB.out.cell (World.block_lt_of_cell? w _ hx101_7)).trans hx101_7
                  replace p101 := eq_true p101
                  replace q101 := eq_true q101
                  go_wp2_with (first | ((with_reducible refine gate_dst (N := 4) rfl ?_); (try (refine gate_guard (by rfl) ?_; dsimp only)); refine box_event ?hg (N := 4) ?hd (cs := #[.int .u64 0, .int .u64 0, .int .u64 0, .int .u8 0, .string (⟨#[]⟩ : ByteArray), .string (⟨#[]⟩ : ByteArray), .int .i64 0, .int .i64 0]) (t := 37) ?hr ?_; (case hd => rfl); (case hg => rfl); (case hr => first | (go_simp; done) | (go_simp; rfl)); intro gb102 hg w10 hbox hb; have n0_ := Aside0.mk (below_step (by repeat (first | (with_reducible first | exact HB.out | apply below_alloc | apply pw_below_drewN | apply below_drew1) | exact HB.out)) hb); have n1_ := Aside0.mk (hbox); have n2_ := Aside0.mk ((by rw [hg]; exact (below_size (by repeat (first | (with_reducible first | exact HB.out | apply below_alloc | apply pw_below_drewN | apply below_drew1) | exact HB.out))) : w.heap.size ≤ gb102)); have n3_ := Aside0.mk ((by rw [hg]; exact (below_size (by repeat (first | (with_reducible first | exact HB.out | apply below_alloc | apply pw_below_drewN | apply below_drew1) | exact HB.out))) : w.heap.size ≤ gb102)); clear HB; have HB := n0_; have BK102 := n1_; have GW102 := n2_; have GE102 := n3_; clear n0_ n1_ n2_ n3_; clear hb hbox hg; have hcz11_0 : w10.cell? ⟨gb102, 0, none⟩ = some (.int .u64 0) := (blk_cell BK102.out 0).trans rfl; have hcz11_1 : w10.cell? ⟨gb102, 1, none⟩ = some (.int .u64 0) := (blk_cell BK102.out 1).trans rfl; have hcz11_2 : w10.cell? ⟨gb102, 2, none⟩ = some (.int .u64 0) := (blk_cell BK102.out 2).trans rfl; have hcz11_3 : w10.cell? ⟨gb102, 3, none⟩ = some (.int .u8 0) := (blk_cell BK102.out 3).trans rfl; have hcz11_4 : w10.cell? ⟨gb102, 4, none⟩ = some (.string (⟨#[]⟩ : ByteArray)) := (blk_cell BK102.out 4).trans rfl; have hcz11_5 : w10.cell? ⟨gb102, 5, none⟩ = some (.string (⟨#[]⟩ : ByteArray)) := (blk_cell BK102.out 5).trans rfl; have hcz11_6 : w10.cell? ⟨gb102, 6, none⟩ = some (.int .i64 0) := (blk_cell BK102.out 6).trans rfl; have hcz11_7 : w10.cell? ⟨gb102, 7, none⟩ = some (.int .i64 0) := (blk_cell BK102.out 7).trans rfl; have hfz11_0 := blk_frozen BK102.out 0; have hfz11_1 := blk_frozen BK102.out 1; have hfz11_2 := blk_frozen BK102.out 2; have hfz11_3 := blk_frozen BK102.out 3; have hfz11_4 := blk_frozen BK102.out 4; have hfz11_5 := blk_frozen BK102.out 5; have hfz11_6 := blk_frozen BK102.out 6; have hfz11_7 := blk_frozen BK102.out 7))
                  go_ret
                  exact ⟨by first | rfl | (simp [errW_none, errW_some] <;> rfl) | (simp [*, errW_none, errW_some] <;> rfl), by repeat (first | (with_reducible first | exact HB.out | apply below_alloc | apply pw_below_drewN | apply below_drew1 | refine below_set ?_ GE102.out) | exact HB.out)⟩
                · rw [if_neg c9] at H
                  have c9b0 : decide (100 < (((rd_T37 l0 x10_1).f5).size : Int)) = false := decide_eq_false c9
                  have c9b1 : decide (100 < ((rd_T37 l0 x10_1).f5).size) = false := decide_eq_false (by omega)
                  clear c9
                  have H' := Aside0.mk H
                  clear H
                  have p101 : 0 ≤ (x10_1 : Int) := of_decide_eq_true (by first | (with_reducible assumption) | assumption)
                  have q101 : x10_1 < (l0.length : Int) := of_decide_eq_true (by first | (with_reducible assumption) | assumption)
                  obtain ⟨ad101, e101, hx101_0, hx101_1, hx101_2, hx101_3, hx101_4, hx101_5, hx101_6, hx101_7⟩ := at_T37 HR0.out x10_1 p101 q101
                  cases e101
                  replace hx101_0 := (HB.out.cell (World.block_lt_of_cell? w _ hx101_0)).trans hx101_0
                  replace hx101_1 := (HB.out.cell (World.block_lt_of_cell? w _ hx101_1)).trans hx101_1
                  replace hx101_2 := (HB.out.cell (World.block_lt_of_cell? w _ hx101_2)).trans hx101_2
                  replace hx101_3 := (HB.out.cell (World.block_lt_of_cell? w _ hx101_3)).trans hx101_3
                  replace hx101_4 := (HB.out.cell (World.block_lt_of_cell? w _ hx101_4)).trans hx101_4
                  replace hx101_5 := (HB.out.cell (World.block_lt_of_cell? w _ hx101_5)).trans hx101_5
                  replace hx101_6 := (HB.out.cell (World.block_lt_of_cell? w _ hx101_6)).trans hx101_6
                  replace hx101_7 := (HB.out.cell (World.block_lt_of_cell? w _ hx101_7)).trans hx101_7
                  replace p101 := eq_true p101
                  replace q101 := eq_true q101
                  go_wp2_with (first | ((with_reducible refine gate_dst (N := 4) rfl ?_); (try (refine gate_guard (by rfl) ?_; dsimp only)); refine box_event ?hg (N := 4) ?hd (cs := #[.int .u64 0, .int .u64 0, .int .u64 0, .int .u8 0, .string (⟨#[]⟩ : ByteArray), .string (⟨#[]⟩ : ByteArray), .int .i64 0, .int .i64 0]) (t := 37) ?hr ?_; (case hd => rfl); (case hg => rfl); (case hr => first | (go_simp; done) | (go_simp; rfl)); intro gb102 hg w12 hbox hb; have n0_ := Aside0.mk (below_step (by repeat (first | (with_reducible first | exact HB.out | apply below_alloc | apply pw_below_drewN | apply below_drew1) | exact HB.out)) hb); have n1_ := Aside0.mk (hbox); have n2_ := Aside0.mk ((by rw [hg]; exact (below_size (by repeat (first | (with_reducible first | exact HB.out | apply below_alloc | apply pw_below_drewN | apply below_drew1) | exact HB.out))) : w.heap.size ≤ gb102)); have n3_ := Aside0.mk ((by rw [hg]; exact (below_size (by repeat (first | (with_reducible first | exact HB.out | apply below_alloc | apply pw_below_drewN | apply below_drew1) | exact HB.out))) : w.heap.size ≤ gb102)); clear HB; have HB := n0_; have BK102 := n1_; have GW102 := n2_; have GE102 := n3_; clear n0_ n1_ n2_ n3_; clear hb hbox hg; have hcz13_0 : w12.cell? ⟨gb102, 0, none⟩ = some (.int .u64 0) := (blk_cell BK102.out 0).trans rfl; have hcz13_1 : w12.cell? ⟨gb102, 1, none⟩ = some (.int .u64 0) := (blk_cell BK102.out 1).trans rfl; have hcz13_2 : w12.cell? ⟨gb102, 2, none⟩ = some (.int .u64 0) := (blk_cell BK102.out 2).trans rfl; have hcz13_3 : w12.cell? ⟨gb102, 3, none⟩ = some (.int .u8 0) := (blk_cell BK102.out 3).trans rfl; have hcz13_4 : w12.cell? ⟨gb102, 4, none⟩ = some (.string (⟨#[]⟩ : ByteArray)) := (blk_cell BK102.out 4).trans rfl; have hcz13_5 : w12.cell? ⟨gb102, 5, none⟩ = some (.string (⟨#[]⟩ : ByteArray)) := (blk_cell BK102.out 5).trans rfl; have hcz13_6 : w12.cell? ⟨gb102, 6, none⟩ = some (.int .i64 0) := (blk_cell BK102.out 6).trans rfl; have hcz13_7 : w12.cell? ⟨gb102, 7, none⟩ = some (.int .i64 0) := (blk_cell BK102.out 7).trans rfl; have hfz13_0 := blk_frozen BK102.out 0; have hfz13_1 := blk_frozen BK102.out 1; have hfz13_2 := blk_frozen BK102.out 2; have hfz13_3 := blk_frozen BK102.out 3; have hfz13_4 := blk_frozen BK102.out 4; have hfz13_5 := blk_frozen BK102.out 5; have hfz13_6 := blk_frozen BK102.out 6; have hfz13_7 := blk_frozen BK102.out 7))
                  go_roundg k1
                  case measure => have := HK1.out; omega
                  case rel => exact ⟨(wrap64 (x10_1 + 1)), (by first | rfl | (simp; done) | (simp [*]; done)), H', ⟨by have := HK1.out; omega⟩, ⟨by repeat (first | (with_reducible first | exact HB.out | apply below_alloc | apply pw_below_drewN | apply below_drew1 | refine below_set ?_ GE102.out) | exact HB.out)⟩⟩
            · rw [if_neg c5] at H
              exact absurd H (by simp)
          · rw [if_neg c4] at H
            exact absurd H (by simp)
        · rw [if_neg c3] at H
          have c3b0 : decide (x10_1 < (l0.length : Int)) = false := decide_eq_false c3
          clear c3
          obtain rfl := Option.some.inj H
          go_wp2
          go_ret
          exact ⟨by first | rfl | (simp [errW_none, errW_some] <;> rfl) | (simp [*, errW_none, errW_some] <;> rfl), by repeat (first | (with_reducible first | exact HB.out | apply below_alloc | apply pw_below_drewN | apply below_drew1) | exact HB.out)⟩

/-! ### merkhetref15_Same: function 19 -/
def merkhetref15_Same.l0 : Nat → List Int → List Int → Int → Option (Bool)
  | 0, _, _, _ => none
  | k + 1, x0, x1, x5 => if x5 < (x0.length : Int) then (if 0 ≤ x5 then (if x5 < (x1.length : Int) then (if (rd x0 x5) = (rd x1 x5) then (merkhetref15_Same.l0 k x0 x1 (wrap64 (x5 + 1))) else (some false)) else (none)) else (none)) else (some true)
def merkhetref15_Same.f (k : Nat) (l0 : List Int) (l1 : List Int) : Option (Bool) := if (l0.length : Int) = (l1.length : Int) then (merkhetref15_Same.l0 k l0 l1 0) else (some false)
theorem merkhetref15_Same.mono_l : ∀ k, (∀ y0 y1 y2, LeO (merkhetref15_Same.l0 k y0 y1 y2) (merkhetref15_Same.l0 (k + 1) y0 y1 y2))
  | 0 => fun _ _ _ r h => by simp [merkhetref15_Same.l0] at h
  | k + 1 => by
    have ih0 := merkhetref15_Same.mono_l k
    · intro y0 y1 y2
      unfold merkhetref15_Same.l0
      repeat' first
      | (with_reducible exact ih0 _ _ _)
      | (with_reducible exact LeO.refl _)
      | (with_reducible exact LeO.none _)
      | (with_reducible refine LeO.ite ?_ ?_)
      | (with_reducible refine LeO.bind ?_ (fun _ => ?_))
      | exact ih0 _ _ _
      | exact LeO.none _
      | refine LeO.ite ?_ ?_
      | refine LeO.bind ?_ (fun _ => ?_)
theorem merkhetref15_Same.mono : ∀ a0 a1 k, LeO (merkhetref15_Same.f k a0 a1) (merkhetref15_Same.f (k + 1) a0 a1) := by
  intro a0 a1 k
  have ih0 := merkhetref15_Same.mono_l k
  unfold merkhetref15_Same.f
  repeat' first
      | (with_reducible exact ih0 _ _ _)
      | (with_reducible exact LeO.refl _)
      | (with_reducible exact LeO.none _)
      | (with_reducible refine LeO.ite ?_ ?_)
      | (with_reducible refine LeO.bind ?_ (fun _ => ?_))
      | exact ih0 _ _ _
      | exact LeO.none _
      | refine LeO.ite ?_ ?_
      | refine LeO.bind ?_ (fun _ => ?_)
set_option maxHeartbeats 8000000 in
set_option maxRecDepth 100000 in
theorem merkhetref15_Same.calls (k : Nat) (A0 : Option Addr) (c0 : Nat) (l0 : List Int) (A1 : Option Addr) (c1 : Nat) (l1 : List Int) (r : Bool) (w : World) (hr0 : Kd.C (Kd.int .i64) w A0 l0.length l0) (hc0 : l0.length ≤ c0) (hr1 : Kd.C (Kd.int .i64) w A1 l1.length l1) (hc1 : l1.length ≤ c1) (h : merkhetref15_Same.f k l0 l1 = some r) :
    Calls Try.prog 19 #[.slice A0 l0.length c0, .slice A1 l1.length c1] w fun e w' => e = .returned (.bool r) ∧ Drawn0 w w' := by
  have HR0 := Aside0.mk hr0
  have HC0 := Aside0.mk hc0
  clear hr0 hc0
  have HR1 := Aside0.mk hr1
  have HC1 := Aside0.mk hc1
  clear hr1 hc1
  have H : (if (l0.length : Int) = (l1.length : Int) then (merkhetref15_Same.l0 k l0 l1 0) else (some false)) = some r := h
  clear h
  by_cases c3 : (l0.length : Int) = (l1.length : Int)
  · rw [if_pos c3] at H
    have c3b0 : ((l0.length : Int) == (l1.length : Int)) = true := beq_iff_eq.mpr c3
    have c3b1 : ((l0.length : Int) != (l1.length : Int)) = false := bne_eq_false_iff_eq.mpr c3
    have c3b2 : (l0.length == l1.length) = true := by first | simpa using c3 | (simp at c3 ⊢; omega)
    clear c3
    have H' := Aside0.mk H
    clear H
    go_enter Try.func19, Try.ntmps19
    go_wp2
    repeat (go_quiet (fail); try go_wp2)
    go_loopg [5] k (fun kq v5 w' => ∃ (x5_1 : Int), v5 = .int .i64 x5_1 ∧ Aside0 (merkhetref15_Same.l0 kq l0 l1 x5_1 = some r) ∧ Aside0 (kq ≤ k) ∧ Drawn0 w w')
    case atStart => exact ⟨(0), (by first | rfl | (simp; done) | (simp [*]; done)), H', ⟨Nat.le_refl _⟩, by repeat (first | exact Drawn0.refl _ | apply Drawn0.step)⟩
    case round =>
      clear H'
      (try clear c1); (try clear p2); (try clear c3); (try clear c3b0); (try clear c3b1); (try clear c3b2)
      obtain ⟨x5_1, rfl, HA, HK1, ⟨m1, rfl⟩⟩ := hrel
      cases gk with
      | zero => exact absurd HA.out (by simp [merkhetref15_Same.l0])
      | succ k1 =>
        have H := HA.out
        clear HA
        simp only [merkhetref15_Same.l0] at H
        by_cases c4 : x5_1 < (l0.length : Int)
        · rw [if_pos c4] at H
          have c4b0 : decide (x5_1 < (l0.length : Int)) = true := decide_eq_true c4
          clear c4
          by_cases c5 : 0 ≤ x5_1
          · rw [if_pos c5] at H
            have c5b0 : decide (0 ≤ x5_1) = true := decide_eq_true c5
            clear c5
            by_cases c6 : x5_1 < (l1.length : Int)
            · rw [if_pos c6] at H
              have c6b0 : decide (x5_1 < (l1.length : Int)) = true := decide_eq_true c6
              clear c6
              by_cases c7 : (rd l0 x5_1) = (rd l1 x5_1)
              · rw [if_pos c7] at H
                have c7b0 : ((rd l0 x5_1) == (rd l1 x5_1)) = true := beq_iff_eq.mpr c7
                have c7b1 : ((rd l0 x5_1) != (rd l1 x5_1)) = false := bne_eq_false_iff_eq.mpr c7
                clear c7
                have H' := Aside0.mk H
                clear H
                have p103 : 0 ≤ (x5_1 : Int) := of_decide_eq_true (by first | (with_reducible assumption) | assumption)
                have q103 : x5_1 < (l0.length : Int) := of_decide_eq_true (by first | (with_reducible assumption) | assumption)
                obtain ⟨ad103, e103, hx103_0⟩ := Kd.at_int HR0.out x5_1 p103 q103
                cases e103
                replace p103 := eq_true p103
                replace q103 := eq_true q103
                have p104 : 0 ≤ (x5_1 : Int) := of_decide_eq_true (by first | (with_reducible assumption) | assumption)
                have q104 : x5_1 < (l1.length : Int) := of_decide_eq_true (by first | (with_reducible assumption) | assumption)
                obtain ⟨ad104, e104, hx104_0⟩ := Kd.at_int HR1.out x5_1 p104 q104
                cases e104
                replace p104 := eq_true p104
                replace q104 := eq_true q104
                go_wp2
                repeat (go_quiet (fail); try go_wp2)
                go_roundg k1
                case measure => have := HK1.out; omega
                case rel => exact ⟨(wrap64 (x5_1 + 1)), (by first | rfl | (simp; done) | (simp [*]; done)), H', ⟨by have := HK1.out; omega⟩, by repeat (first | exact Drawn0.refl _ | apply Drawn0.step)⟩
              · rw [if_neg c7] at H
                have c7b0 : ((rd l0 x5_1) == (rd l1 x5_1)) = false := beq_eq_false_iff_ne.mpr c7
                have c7b1 : ((rd l0 x5_1) != (rd l1 x5_1)) = true := bne_iff_ne.mpr c7
                obtain rfl := Option.some.inj H
                have p103 : 0 ≤ (x5_1 : Int) := of_decide_eq_true (by first | (with_reducible assumption) | assumption)
                have q103 : x5_1 < (l0.length : Int) := of_decide_eq_true (by first | (with_reducible assumption) | assumption)
                obtain ⟨ad103, e103, hx103_0⟩ := Kd.at_int HR0.out x5_1 p103 q103
                cases e103
                replace p103 := eq_true p103
                replace q103 := eq_true q103
                have p104 : 0 ≤ (x5_1 : Int) := of_decide_eq_true (by first | (with_reducible assumption) | assumption)
                have q104 : x5_1 < (l1.length : Int) := of_decide_eq_true (by first | (with_reducible assumption) | assumption)
                obtain ⟨ad104, e104, hx104_0⟩ := Kd.at_int HR1.out x5_1 p104 q104
                cases e104
                replace p104 := eq_true p104
                replace q104 := eq_true q104
                go_wp2
                repeat (go_quiet (fail); try go_wp2)
                go_ret
                exact ⟨by first | rfl | (simp; done) | (simp [*]; done), by repeat (first | exact Drawn0.refl _ | apply Drawn0.step)⟩
            · rw [if_neg c6] at H
              exact absurd H (by simp)
          · rw [if_neg c5] at H
            exact absurd H (by simp)
        · rw [if_neg c4] at H
          have c4b0 : decide (x5_1 < (l0.length : Int)) = false := decide_eq_false c4
          clear c4
          obtain rfl := Option.some.inj H
          go_wp2
          repeat (go_quiet (fail); try go_wp2)
          go_ret
          exact ⟨by first | rfl | (simp; done) | (simp [*]; done), by repeat (first | exact Drawn0.refl _ | apply Drawn0.step)⟩
  · rw [if_neg c3] at H
    have c3b0 : ((l0.length : Int) == (l1.length : Int)) = false := beq_eq_false_iff_ne.mpr c3
    have c3b1 : ((l0.length : Int) != (l1.length : Int)) = true := bne_iff_ne.mpr c3
    have c3b2 : (l0.length == l1.length) = false := by first | simpa using c3 | (simp at c3 ⊢; omega)
    obtain rfl := Option.some.inj H
    go_enter Try.func19, Try.ntmps19
    go_wp2
    repeat (go_quiet (fail); try go_wp2)
    go_ret
    exact ⟨by first | rfl | (simp; done) | (simp [*]; done), by repeat (first | exact Drawn0.refl _ | apply Drawn0.step)⟩

end Go.Proofs.Ytmfdhcgdibefiaa.Q

-- Written by wip/tools/gp.py, a program of this session round the kit's printer. Lean checks it.
namespace Go.Proofs.Ytmfdhcgdibefiaa.Q
open Go.RowKit Go.Proofs.YtmfdhcgdibefiaaW.PrintWords Go.Proofs.YtmfdhcgdibefiaaW.PrintLast Go.Proofs.YtmfdhcgdibefiaaW.PrintMore
attribute [local go_sem] max2_int min2_int max_two min_two max_three min_three max_four min_four   -- for this text's walks alone
set_option linter.unusedVariables false
set_option linter.unusedSimpArgs false
end Go.Proofs.Ytmfdhcgdibefiaa.Q

-- Written by wip/tools/gp.py, a program of this session round the kit's printer. Lean checks it.
namespace Go.Proofs.Ytmfdhcgdibefiaa.Q
open Go.RowKit Go.Proofs.YtmfdhcgdibefiaaW.PrintWords Go.Proofs.YtmfdhcgdibefiaaW.PrintLast Go.Proofs.YtmfdhcgdibefiaaW.PrintMore
attribute [local go_sem] max2_int min2_int max_two min_two max_three min_three max_four min_four   -- for this text's walks alone
set_option linter.unusedVariables false
set_option linter.unusedSimpArgs false
/-! ### forest_Kids: function 44 -/
def forest_Kids.l0 : Nat → Int → List Int → List Int → Int → Int → Option (List Int)
  | 0, _, _, _, _, _ => none
  | k + 1, x1, x5, x8, x9, x10 => if x10 < x9 then (if 0 ≤ x10 then (if x10 < (x8.length : Int) then (if (rd x8 x10) = x1 then (if x5.length < 17592186044416 then (forest_Kids.l0 k x1 (x5 ++ [x10]) x8 x9 (wrap64 (x10 + 1))) else (none)) else (forest_Kids.l0 k x1 x5 x8 x9 (wrap64 (x10 + 1)))) else (none)) else (none)) else (some x5)
def forest_Kids.f (k : Nat) (l0 : List Int) (a1 : Int) : Option (List Int) := forest_Kids.l0 k a1 ([] : List Int) l0 (l0.length : Int) 0
theorem forest_Kids.mono_l : ∀ k, (∀ y0 y1 y2 y3 y4, LeO (forest_Kids.l0 k y0 y1 y2 y3 y4) (forest_Kids.l0 (k + 1) y0 y1 y2 y3 y4))
  | 0 => fun _ _ _ _ _ r h => by simp [forest_Kids.l0] at h
  | k + 1 => by
    have ih0 := forest_Kids.mono_l k
    · intro y0 y1 y2 y3 y4
      unfold forest_Kids.l0
      repeat' first
      | (with_reducible exact ih0 _ _ _ _ _)
      | (with_reducible exact LeO.refl _)
      | (with_reducible exact LeO.none _)
      | (with_reducible refine LeO.ite ?_ ?_)
      | (with_reducible refine LeO.bind ?_ (fun _ => ?_))
      | exact ih0 _ _ _ _ _
      | exact LeO.none _
      | refine LeO.ite ?_ ?_
      | refine LeO.bind ?_ (fun _ => ?_)
theorem forest_Kids.mono : ∀ a0 a1 k, LeO (forest_Kids.f k a0 a1) (forest_Kids.f (k + 1) a0 a1) := by
  intro a0 a1 k
  have ih0 := forest_Kids.mono_l k
  unfold forest_Kids.f
  repeat' first
      | (with_reducible exact ih0 _ _ _ _ _)
      | (with_reducible exact LeO.refl _)
      | (with_reducible exact LeO.none _)
      | (with_reducible refine LeO.ite ?_ ?_)
      | (with_reducible refine LeO.bind ?_ (fun _ => ?_))
      | exact ih0 _ _ _ _ _
      | exact LeO.none _
      | refine LeO.ite ?_ ?_
      | refine LeO.bind ?_ (fun _ => ?_)
set_option maxHeartbeats 8000000 in
set_option maxRecDepth 100000 in
theorem forest_Kids.calls (k : Nat) (A0 : Option Addr) (c0 : Nat) (l0 : List Int) (a1 : Int) (r : List Int) (w : World) (hr0 : Kd.C (Kd.int .i64) w A0 l0.length l0) (hc0 : l0.length ≤ c0) (h : forest_Kids.f k l0 a1 = some r) :
    Calls Try.prog 44 #[.slice A0 l0.length c0, .int .i64 a1] w fun e w' => ∃ v0_ : Value, e = .returned (v0_) ∧ Kd.R (Kd.int .i64) 3 w' w.heap.size (fun _ => True) v0_ r ∧ Below w.heap.size w w' := by
  have HR0 := Aside0.mk hr0
  have HC0 := Aside0.mk hc0
  clear hr0 hc0
  have HB := Aside0.mk (Below.refl w.heap.size w)
  have H : (forest_Kids.l0 k a1 ([] : List Int) l0 (l0.length : Int) 0) = some r := h
  clear h
  have H' := Aside0.mk H
  clear H
  go_enter Try.func44, Try.ntmps44
  go_wp2
  go_loopg [5, 10] k (fun kq v5 v10 w' => ∃ (x5_1 : List Int) (x10_1 : Int), v10 = .int .i64 x10_1 ∧ Aside0 (forest_Kids.l0 kq a1 x5_1 l0 (l0.length : Int) x10_1 = some r) ∧ Aside0 (kq ≤ k) ∧ Aside0 (Kd.R (Kd.int .i64) 3 w' w.heap.size (fun _ => True) v5 x5_1) ∧ Aside0 (Below w.heap.size w w'))
  case atStart => exact ⟨(([] : List Int)), (0), (by first | rfl | (simp; done) | (simp [*]; done)), H', ⟨Nat.le_refl _⟩, ⟨by first | exact Kd.R_nil _ _ _ _ _ | exact Kd.N_nil _ _ _ _ _ | exact Kd.V_nil _ _ _ _ _ | exact Kd.Q_nil _ _ _ _ _ | exact Kd.S_nil _ _ _ _ _⟩, ⟨by repeat (first | (with_reducible first | exact HB.out | apply below_alloc | apply pw_below_drewN | apply below_drew1) | exact HB.out)⟩⟩
  case round =>
    clear H'
    (try clear p2)
    obtain ⟨x5_1, x10_1, rfl, HA, HK1, HO_5, HB⟩ := hrel
    cases gk with
    | zero => exact absurd HA.out (by simp [forest_Kids.l0])
    | succ k1 =>
      have H := HA.out
      clear HA
      simp only [forest_Kids.l0] at H
      by_cases c3 : x10_1 < (l0.length : Int)
      · rw [if_pos c3] at H
        have c3b0 : decide (x10_1 < (l0.length : Int)) = true := decide_eq_true c3
        clear c3
        by_cases c4 : 0 ≤ x10_1
        · rw [if_pos c4] at H
          have c4b0 : decide (0 ≤ x10_1) = true := decide_eq_true c4
          clear c4
          by_cases c5 : x10_1 < (l0.length : Int)
          · rw [if_pos c5] at H
            have c5b0 : decide (x10_1 < (l0.length : Int)) = true := decide_eq_true c5
            clear c5
            by_cases c6 : (rd l0 x10_1) = a1
            · rw [if_pos c6] at H
              have c6b0 : ((rd l0 x10_1) == a1) = true := beq_iff_eq.mpr c6
              have c6b1 : ((rd l0 x10_1) != a1) = false := bne_eq_false_iff_eq.mpr c6
              clear c6
              by_cases c7 : x5_1.length < 17592186044416
              · rw [if_pos c7] at H
                have LMc7 := Aside0.mk c7
                clear c7
                obtain ⟨y140, hy140⟩ : ∃ y_ : List Int, y_ = (x5_1 ++ [x10_1]) := ⟨_, rfl⟩
                replace H : (forest_Kids.l0 k1 a1 y140 l0 (l0.length : Int) (wrap64 (x10_1 + 1))) = some r := by first | (rw [hy140]; with_reducible exact H) | (have H2_ := (Option.bind_some _ _).symm.trans H; rw [hy140]; with_reducible exact H2_) | (have H2_ := (Option.bind_some _ _).symm.trans H; with_reducible exact H2_) | with_reducible exact H | (rw [hy140]; exact H) | exact H
                have Ny140 := Aside0.mk hy140
                clear hy140
                have H' := Aside0.mk H
                clear H
                have p139 : 0 ≤ (x10_1 : Int) := of_decide_eq_true (by first | (with_reducible assumption) | assumption)
                have q139 : x10_1 < (l0.length : Int) := of_decide_eq_true (by first | (with_reducible assumption) | assumption)
                obtain ⟨ad139, e139, hx139_0⟩ := Kd.at_int HR0.out x10_1 p139 q139
                cases e139
                replace hx139_0 := (HB.out.cell (World.block_lt_of_cell? w _ hx139_0)).trans hx139_0
                replace p139 := eq_true p139
                replace q139 := eq_true q139
                go_wp2_with (first | ((with_reducible refine gate_builtin (b := .append) (xs := #[.tmp 18, .tmp 20]) rfl ?_); at_builtin; refine Kd.R_append (Kd.int .i64) (w0 := w) w.heap.size rfl (.tmp 18) (.tmp 20) 29 3 (.int .i64 0) 8 rfl Try.underlying29 info3 rfl (by decide) (by omega) u5 x5_1 x10_1 [.int .i64 x10_1] (fun _ => True) (fun _ => False) rfl rfl ?aP (fun _ hk => hk.elim) ?aF ?aO ?aB ?aS ?aL ?_; (case aP => exact rfl); (case aB => exact (by repeat (first | (with_reducible first | exact HB.out | apply below_alloc | apply pw_below_drewN | apply below_drew1) | exact HB.out))); (case aF => exact (fun _ _ => trivial)); (case aO => exact (by (with_reducible repeat (first | apply Kd.R_alloc | apply Kd.R_drewN | apply Kd.R_drew)); exact HO_5.out)); (case aS => exact (below_size (by repeat (first | (with_reducible first | exact HB.out | apply below_alloc | apply pw_below_drewN | apply below_drew1) | exact HB.out)))); (case aL => have := LMc7.out; omega); intro v141 w8 ho hb hg hat; rw [← Ny140.out] at ho; have n0_ := Aside0.mk (hb); have n1_ := Aside0.mk (ho); clear HB; clear HO_5; have HB := n0_; have HO142 := n1_; clear n0_ n1_; clear ho hb hg hat))
                go_roundg k1
                case measure => have := HK1.out; omega
                case rel => exact ⟨(y140), (wrap64 (x10_1 + 1)), (by first | rfl | (simp; done) | (simp [*]; done)), H', ⟨by have := HK1.out; omega⟩, ⟨by (with_reducible repeat (first | apply Kd.R_alloc | apply Kd.R_drewN | apply Kd.R_drew)); exact HO142.out⟩, ⟨by repeat (first | (with_reducible first | exact HB.out | apply below_alloc | apply pw_below_drewN | apply below_drew1) | exact HB.out)⟩⟩
              · rw [if_neg c7] at H
                exact absurd H (by simp)
            · rw [if_neg c6] at H
              have c6b0 : ((rd l0 x10_1) == a1) = false := beq_eq_false_iff_ne.mpr c6
              have c6b1 : ((rd l0 x10_1) != a1) = true := bne_iff_ne.mpr c6
              have H' := Aside0.mk H
              clear H
              have p139 : 0 ≤ (x10_1 : Int) := of_decide_eq_true (by first | (with_reducible assumption) | assumption)
              have q139 : x10_1 < (l0.length : Int) := of_decide_eq_true (by first | (with_reducible assumption) | assumption)
              obtain ⟨ad139, e139, hx139_0⟩ := Kd.at_int HR0.out x10_1 p139 q139
              cases e139
              replace hx139_0 := (HB.out.cell (World.block_lt_of_cell? w _ hx139_0)).trans hx139_0
              replace p139 := eq_true p139
              replace q139 := eq_true q139
              go_wp2
              go_roundg k1
              case measure => have := HK1.out; omega
              case rel => exact ⟨(x5_1), (wrap64 (x10_1 + 1)), (by first | rfl | (simp; done) | (simp [*]; done)), H', ⟨by have := HK1.out; omega⟩, ⟨by (with_reducible repeat (first | apply Kd.R_alloc | apply Kd.R_drewN | apply Kd.R_drew)); exact HO_5.out⟩, ⟨by repeat (first | (with_reducible first | exact HB.out | apply below_alloc | apply pw_below_drewN | apply below_drew1) | exact HB.out)⟩⟩
          · rw [if_neg c5] at H
            exact absurd H (by simp)
        · rw [if_neg c4] at H
          exact absurd H (by simp)
      · rw [if_neg c3] at H
        have c3b0 : decide (x10_1 < (l0.length : Int)) = false := decide_eq_false c3
        clear c3
        obtain rfl := Option.some.inj H
        go_wp2
        go_ret
        exact ⟨_, by first | rfl | (simp [errW_none, errW_some] <;> rfl) | (simp [*, errW_none, errW_some] <;> rfl), by (with_reducible repeat (first | apply Kd.R_alloc | apply Kd.R_drewN | apply Kd.R_drew)); exact HO_5.out, by repeat (first | (with_reducible first | exact HB.out | apply below_alloc | apply pw_below_drewN | apply below_drew1) | exact HB.out)⟩

/-! ### span_letter: function 143 -/
def span_letter.f (a0 : Int) : Option (Bool) := if a0 ≥ 97 then (if a0 ≤ 122 then (some true) else (if a0 ≥ 48 then (if a0 ≤ 57 then (some true) else (if a0 = 45 then (some true) else (if a0 = 46 then (some true) else (some (a0 == 95))))) else (if a0 = 45 then (some true) else (if a0 = 46 then (some true) else (some (a0 == 95)))))) else (if a0 ≥ 48 then (if a0 ≤ 57 then (some true) else (if a0 = 45 then (some true) else (if a0 = 46 then (some true) else (some (a0 == 95))))) else (if a0 = 45 then (some true) else (if a0 = 46 then (some true) else (some (a0 == 95)))))
set_option maxHeartbeats 8000000 in
set_option maxRecDepth 100000 in
theorem span_letter.calls (a0 : Int) (r : Bool) (w : World) (h : span_letter.f a0 = some r) :
    Calls Try.prog 143 #[.int .u8 a0] w fun e w' => e = .returned (.bool r) ∧ Drawn0 w w' := by
  have H : (if a0 ≥ 97 then (if a0 ≤ 122 then (some true) else (if a0 ≥ 48 then (if a0 ≤ 57 then (some true) else (if a0 = 45 then (some true) else (if a0 = 46 then (some true) else (some (a0 == 95))))) else (if a0 = 45 then (some true) else (if a0 = 46 then (some true) else (some (a0 == 95)))))) else (if a0 ≥ 48 then (if a0 ≤ 57 then (some true) else (if a0 = 45 then (some true) else (if a0 = 46 then (some true) else (some (a0 == 95))))) else (if a0 = 45 then (some true) else (if a0 = 46 then (some true) else (some (a0 == 95)))))) = some r := h
  clear h
  by_cases c2 : a0 ≥ 97
  · rw [if_pos c2] at H
    have c2b0 : decide (97 ≤ a0) = true := decide_eq_true c2
    clear c2
    by_cases c3 : a0 ≤ 122
    · rw [if_pos c3] at H
      have c3b0 : decide (a0 ≤ 122) = true := decide_eq_true c3
      clear c3
      obtain rfl := Option.some.inj H
      go_enter Try.func143, Try.ntmps143
      go_wp2
      go_ret
      exact ⟨by first | rfl | (simp; done) | (simp [*]; done), by repeat (first | exact Drawn0.refl _ | apply Drawn0.step)⟩
    · rw [if_neg c3] at H
      have c3b0 : decide (a0 ≤ 122) = false := decide_eq_false c3
      clear c3
      by_cases c4 : a0 ≥ 48
      · rw [if_pos c4] at H
        have c4b0 : decide (48 ≤ a0) = true := decide_eq_true c4
        clear c4
        by_cases c5 : a0 ≤ 57
        · rw [if_pos c5] at H
          have c5b0 : decide (a0 ≤ 57) = true := decide_eq_true c5
          clear c5
          obtain rfl := Option.some.inj H
          go_enter Try.func143, Try.ntmps143
          go_wp2
          go_ret
          exact ⟨by first | rfl | (simp; done) | (simp [*]; done), by repeat (first | exact Drawn0.refl _ | apply Drawn0.step)⟩
        · rw [if_neg c5] at H
          have c5b0 : decide (a0 ≤ 57) = false := decide_eq_false c5
          clear c5
          by_cases c6 : a0 = 45
          · rw [if_pos c6] at H
            have c6b0 : (a0 == 45) = true := beq_iff_eq.mpr c6
            have c6b1 : (a0 != 45) = false := bne_eq_false_iff_eq.mpr c6
            clear c6
            obtain rfl := Option.some.inj H
            go_enter Try.func143, Try.ntmps143
            go_wp2
            go_ret
            exact ⟨by first | rfl | (simp; done) | (simp [*]; done), by repeat (first | exact Drawn0.refl _ | apply Drawn0.step)⟩
          · rw [if_neg c6] at H
            have c6b0 : (a0 == 45) = false := beq_eq_false_iff_ne.mpr c6
            have c6b1 : (a0 != 45) = true := bne_iff_ne.mpr c6
            by_cases c7 : a0 = 46
            · rw [if_pos c7] at H
              have c7b0 : (a0 == 46) = true := beq_iff_eq.mpr c7
              have c7b1 : (a0 != 46) = false := bne_eq_false_iff_eq.mpr c7
              clear c7
              obtain rfl := Option.some.inj H
              go_enter Try.func143, Try.ntmps143
              go_wp2
              go_ret
              exact ⟨by first | rfl | (simp; done) | (simp [*]; done), by repeat (first | exact Drawn0.refl _ | apply Drawn0.step)⟩
            · rw [if_neg c7] at H
              have c7b0 : (a0 == 46) = false := beq_eq_false_iff_ne.mpr c7
              have c7b1 : (a0 != 46) = true := bne_iff_ne.mpr c7
              obtain rfl := Option.some.inj H
              go_enter Try.func143, Try.ntmps143
              go_wp2
              go_ret
              exact ⟨by first | rfl | (simp; done) | (simp [*]; done), by repeat (first | exact Drawn0.refl _ | apply Drawn0.step)⟩
      · rw [if_neg c4] at H
        have c4b0 : decide (48 ≤ a0) = false := decide_eq_false c4
        clear c4
        by_cases c8 : a0 = 45
        · rw [if_pos c8] at H
          have c8b0 : (a0 == 45) = true := beq_iff_eq.mpr c8
          have c8b1 : (a0 != 45) = false := bne_eq_false_iff_eq.mpr c8
          clear c8
          obtain rfl := Option.some.inj H
          go_enter Try.func143, Try.ntmps143
          go_wp2
          go_ret
          exact ⟨by first | rfl | (simp; done) | (simp [*]; done), by repeat (first | exact Drawn0.refl _ | apply Drawn0.step)⟩
        · rw [if_neg c8] at H
          have c8b0 : (a0 == 45) = false := beq_eq_false_iff_ne.mpr c8
          have c8b1 : (a0 != 45) = true := bne_iff_ne.mpr c8
          by_cases c9 : a0 = 46
          · rw [if_pos c9] at H
            have c9b0 : (a0 == 46) = true := beq_iff_eq.mpr c9
            have c9b1 : (a0 != 46) = false := bne_eq_false_iff_eq.mpr c9
            clear c9
            obtain rfl := Option.some.inj H
            go_enter Try.func143, Try.ntmps143
            go_wp2
            go_ret
            exact ⟨by first | rfl | (simp; done) | (simp [*]; done), by repeat (first | exact Drawn0.refl _ | apply Drawn0.step)⟩
          · rw [if_neg c9] at H
            have c9b0 : (a0 == 46) = false := beq_eq_false_iff_ne.mpr c9
            have c9b1 : (a0 != 46) = true := bne_iff_ne.mpr c9
            obtain rfl := Option.some.inj H
            go_enter Try.func143, Try.ntmps143
            go_wp2
            go_ret
            exact ⟨by first | rfl | (simp; done) | (simp [*]; done), by repeat (first | exact Drawn0.refl _ | apply Drawn0.step)⟩
  · rw [if_neg c2] at H
    have c2b0 : decide (97 ≤ a0) = false := decide_eq_false c2
    clear c2
    by_cases c10 : a0 ≥ 48
    · rw [if_pos c10] at H
      have c10b0 : decide (48 ≤ a0) = true := decide_eq_true c10
      clear c10
      by_cases c11 : a0 ≤ 57
      · rw [if_pos c11] at H
        have c11b0 : decide (a0 ≤ 57) = true := decide_eq_true c11
        clear c11
        obtain rfl := Option.some.inj H
        go_enter Try.func143, Try.ntmps143
        go_wp2
        go_ret
        exact ⟨by first | rfl | (simp; done) | (simp [*]; done), by repeat (first | exact Drawn0.refl _ | apply Drawn0.step)⟩
      · rw [if_neg c11] at H
        have c11b0 : decide (a0 ≤ 57) = false := decide_eq_false c11
        clear c11
        by_cases c12 : a0 = 45
        · rw [if_pos c12] at H
          have c12b0 : (a0 == 45) = true := beq_iff_eq.mpr c12
          have c12b1 : (a0 != 45) = false := bne_eq_false_iff_eq.mpr c12
          clear c12
          obtain rfl := Option.some.inj H
          go_enter Try.func143, Try.ntmps143
          go_wp2
          go_ret
          exact ⟨by first | rfl | (simp; done) | (simp [*]; done), by repeat (first | exact Drawn0.refl _ | apply Drawn0.step)⟩
        · rw [if_neg c12] at H
          have c12b0 : (a0 == 45) = false := beq_eq_false_iff_ne.mpr c12
          have c12b1 : (a0 != 45) = true := bne_iff_ne.mpr c12
          by_cases c13 : a0 = 46
          · rw [if_pos c13] at H
            have c13b0 : (a0 == 46) = true := beq_iff_eq.mpr c13
            have c13b1 : (a0 != 46) = false := bne_eq_false_iff_eq.mpr c13
            clear c13
            obtain rfl := Option.some.inj H
            go_enter Try.func143, Try.ntmps143
            go_wp2
            go_ret
            exact ⟨by first | rfl | (simp; done) | (simp [*]; done), by repeat (first | exact Drawn0.refl _ | apply Drawn0.step)⟩
          · rw [if_neg c13] at H
            have c13b0 : (a0 == 46) = false := beq_eq_false_iff_ne.mpr c13
            have c13b1 : (a0 != 46) = true := bne_iff_ne.mpr c13
            obtain rfl := Option.some.inj H
            go_enter Try.func143, Try.ntmps143
            go_wp2
            go_ret
            exact ⟨by first | rfl | (simp; done) | (simp [*]; done), by repeat (first | exact Drawn0.refl _ | apply Drawn0.step)⟩
    · rw [if_neg c10] at H
      have c10b0 : decide (48 ≤ a0) = false := decide_eq_false c10
      clear c10
      by_cases c14 : a0 = 45
      · rw [if_pos c14] at H
        have c14b0 : (a0 == 45) = true := beq_iff_eq.mpr c14
        have c14b1 : (a0 != 45) = false := bne_eq_false_iff_eq.mpr c14
        clear c14
        obtain rfl := Option.some.inj H
        go_enter Try.func143, Try.ntmps143
        go_wp2
        go_ret
        exact ⟨by first | rfl | (simp; done) | (simp [*]; done), by repeat (first | exact Drawn0.refl _ | apply Drawn0.step)⟩
      · rw [if_neg c14] at H
        have c14b0 : (a0 == 45) = false := beq_eq_false_iff_ne.mpr c14
        have c14b1 : (a0 != 45) = true := bne_iff_ne.mpr c14
        by_cases c15 : a0 = 46
        · rw [if_pos c15] at H
          have c15b0 : (a0 == 46) = true := beq_iff_eq.mpr c15
          have c15b1 : (a0 != 46) = false := bne_eq_false_iff_eq.mpr c15
          clear c15
          obtain rfl := Option.some.inj H
          go_enter Try.func143, Try.ntmps143
          go_wp2
          go_ret
          exact ⟨by first | rfl | (simp; done) | (simp [*]; done), by repeat (first | exact Drawn0.refl _ | apply Drawn0.step)⟩
        · rw [if_neg c15] at H
          have c15b0 : (a0 == 46) = false := beq_eq_false_iff_ne.mpr c15
          have c15b1 : (a0 != 46) = true := bne_iff_ne.mpr c15
          obtain rfl := Option.some.inj H
          go_enter Try.func143, Try.ntmps143
          go_wp2
          go_ret
          exact ⟨by first | rfl | (simp; done) | (simp [*]; done), by repeat (first | exact Drawn0.refl _ | apply Drawn0.step)⟩

/-! ### span_Name: function 96 -/
mutual
def span_Name.j0 : Nat → ByteArray → Bool → Option (Bool)
  | 0, _, _ => none
  | k + 1, x0, x11 => if x11 = true then (some false) else (span_Name.l0 k x0 (x0.size : Int) 0)
def span_Name.l0 : Nat → ByteArray → Int → Int → Option (Bool)
  | 0, _, _, _ => none
  | k + 1, x0, x13, x14 => if x14 < x13 then (if 0 ≤ x14 then (if x14 < (x0.size : Int) then ((span_letter.f (bt x0 x14)).bind fun t143 => (if t143 = true then (span_Name.l0 k x0 x13 (wrap64 (x14 + 1))) else (some false))) else (none)) else (none)) else (some true)
end
def span_Name.f (k : Nat) (a0 : ByteArray) : Option (Bool) := if (a0.size : Int) < 1 then (span_Name.j0 k a0 true) else (span_Name.j0 k a0 (decide ((a0.size : Int) > 16)))
theorem span_Name.mono_l : ∀ k, (∀ y0 y1, LeO (span_Name.j0 k y0 y1) (span_Name.j0 (k + 1) y0 y1)) ∧ (∀ y0 y1 y2, LeO (span_Name.l0 k y0 y1 y2) (span_Name.l0 (k + 1) y0 y1 y2))
  | 0 => ⟨fun _ _ r h => by simp [span_Name.j0] at h, fun _ _ _ r h => by simp [span_Name.l0] at h⟩
  | k + 1 => by
    obtain ⟨ih0, ih1⟩ := span_Name.mono_l k
    refine ⟨?_, ?_⟩
    · intro y0 y1
      unfold span_Name.j0
      repeat' first
      | (with_reducible exact ih0 _ _)
      | (with_reducible exact ih1 _ _ _)
      | (with_reducible exact LeO.refl _)
      | (with_reducible exact LeO.none _)
      | (with_reducible refine LeO.ite ?_ ?_)
      | (with_reducible refine LeO.bind ?_ (fun _ => ?_))
      | exact ih0 _ _
      | exact ih1 _ _ _
      | exact LeO.none _
      | refine LeO.ite ?_ ?_
      | refine LeO.bind ?_ (fun _ => ?_)
    · intro y0 y1 y2
      unfold span_Name.l0
      repeat' first
      | (with_reducible exact ih0 _ _)
      | (with_reducible exact ih1 _ _ _)
      | (with_reducible exact LeO.refl _)
      | (with_reducible exact LeO.none _)
      | (with_reducible refine LeO.ite ?_ ?_)
      | (with_reducible refine LeO.bind ?_ (fun _ => ?_))
      | exact ih0 _ _
      | exact ih1 _ _ _
      | exact LeO.none _
      | refine LeO.ite ?_ ?_
      | refine LeO.bind ?_ (fun _ => ?_)
theorem span_Name.mono : ∀ a0 k, LeO (span_Name.f k a0) (span_Name.f (k + 1) a0) := by
  intro a0 k
  obtain ⟨ih0, ih1⟩ := span_Name.mono_l k
  unfold span_Name.f
  repeat' first
      | (with_reducible exact ih0 _ _)
      | (with_reducible exact ih1 _ _ _)
      | (with_reducible exact LeO.refl _)
      | (with_reducible exact LeO.none _)
      | (with_reducible refine LeO.ite ?_ ?_)
      | (with_reducible refine LeO.bind ?_ (fun _ => ?_))
      | exact ih0 _ _
      | exact ih1 _ _ _
      | exact LeO.none _
      | refine LeO.ite ?_ ?_
      | refine LeO.bind ?_ (fun _ => ?_)
set_option maxHeartbeats 8000000 in
set_option maxRecDepth 100000 in
theorem span_Name.calls (k : Nat) (a0 : ByteArray) (r : Bool) (w : World) (h : span_Name.f k a0 = some r) :
    Calls Try.prog 96 #[.string a0] w fun e w' => e = .returned (.bool r) ∧ Drawn0 w w' := by
  have H : (if (a0.size : Int) < 1 then (span_Name.j0 k a0 true) else (span_Name.j0 k a0 (decide ((a0.size : Int) > 16)))) = some r := h
  clear h
  have HC2 := Aside0.mk H
  clear H
  go_enter Try.func96, Try.ntmps96
  go_upto_region 1 with (fail)
  go_cut [11] (fun v11 wc => ∃ (kq : Nat) (x11_1 : Bool), v11 = .bool x11_1 ∧ Aside0 (span_Name.j0 kq a0 x11_1 = some r) ∧ Aside0 (kq ≤ k) ∧ Drawn0 w wc)
  case first =>
    have H := HC2.out
    clear HC2
    by_cases c3 : (a0.size : Int) < 1
    · rw [if_pos c3] at H
      have c3b0 : decide ((a0.size : Int) < 1) = true := decide_eq_true c3
      have c3b1 : decide (a0.size < 1) = true := decide_eq_true (by omega)
      clear c3
      (first | rw [c3b0] | (simp only [i64_w, i32_w]; rw [c3b0]) | skip)
      have H' := Aside0.mk H
      clear H
      go_wp2
      go_meet
      case rel => exact ⟨_, (true), (by first | rfl | (simp; done) | (simp [*]; done)), H', ⟨by first | omega | exact Nat.le_refl _⟩, by repeat (first | exact Drawn0.refl _ | apply Drawn0.step)⟩
    · rw [if_neg c3] at H
      have c3b0 : decide ((a0.size : Int) < 1) = false := decide_eq_false c3
      have c3b1 : decide (a0.size < 1) = false := decide_eq_false (by omega)
      clear c3
      (first | rw [c3b0] | (simp only [i64_w, i32_w]; rw [c3b0]) | skip)
      have H' := Aside0.mk H
      clear H
      go_wp2
      go_meet
      case rel => exact ⟨_, (decide ((a0.size : Int) > 16)), (by first | rfl | (simp; done) | (simp [*]; done)), H', ⟨by first | omega | exact Nat.le_refl _⟩, by repeat (first | exact Drawn0.refl _ | apply Drawn0.step)⟩
  case rest =>
    clear HC2
    (try clear p2); (try clear c3); (try clear c3b0); (try clear c3b1)
    obtain ⟨kq, x11_1, rfl, HA, HJ1, ⟨mc1, rfl⟩⟩ := hcut
    cases kq with
    | zero => exact absurd HA.out (by simp [span_Name.j0])
    | succ kj1 =>
      have H := HA.out
      clear HA
      simp only [span_Name.j0] at H
      by_cases c4 : x11_1 = true
      · subst c4
        have H1 : (some false) = some r := by rw [if_pos rfl] at H; exact H
        clear H
        have H := H1
        clear H1
        obtain rfl := Option.some.inj H
        go_wp2
        go_ret
        exact ⟨by first | rfl | (simp; done) | (simp [*]; done), by repeat (first | exact Drawn0.refl _ | apply Drawn0.step)⟩
      · replace c4 := Bool.eq_false_iff.mpr c4
        subst c4
        have H1 : (span_Name.l0 kj1 a0 (a0.size : Int) 0) = some r := by rw [if_neg (show ¬ (false = true) by decide)] at H; exact H
        clear H
        have H := H1
        clear H1
        have H' := Aside0.mk H
        clear H
        go_wp2
        go_loopg [14] kj1 (fun kq v14 w' => ∃ (x14_2 : Int), v14 = .int .i64 x14_2 ∧ Aside0 (span_Name.l0 kq a0 (a0.size : Int) x14_2 = some r) ∧ Aside0 (kq ≤ kj1) ∧ Drawn0 w w')
        case atStart => exact ⟨(0), (by first | rfl | (simp; done) | (simp [*]; done)), H', ⟨Nat.le_refl _⟩, by repeat (first | exact Drawn0.refl _ | apply Drawn0.step)⟩
        case round =>
          clear H'
          (try clear c1); (try clear p2); (try clear c3); (try clear c3b0); (try clear c3b1); (try clear c4); (try clear p2)
          obtain ⟨x14_2, rfl, HA, HK2, ⟨m2, rfl⟩⟩ := hrel
          cases gk with
          | zero => exact absurd HA.out (by simp [span_Name.l0])
          | succ k2 =>
            have H := HA.out
            clear HA
            simp only [span_Name.l0] at H
            by_cases c5 : x14_2 < (a0.size : Int)
            · rw [if_pos c5] at H
              have c5b0 : decide (x14_2 < (a0.size : Int)) = true := decide_eq_true c5
              clear c5
              by_cases c6 : 0 ≤ x14_2
              · rw [if_pos c6] at H
                have c6b0 : decide (0 ≤ x14_2) = true := decide_eq_true c6
                clear c6
                by_cases c7 : x14_2 < (a0.size : Int)
                · rw [if_pos c7] at H
                  have c7b0 : decide (x14_2 < (a0.size : Int)) = true := decide_eq_true c7
                  clear c7
                  replace H := Option.bind_eq_some_iff.mp H
                  obtain ⟨t143, A90, H⟩ := H
                  replace H : (if t143 = true then (span_Name.l0 k2 a0 (a0.size : Int) (wrap64 (x14_2 + 1))) else (some false)) = some r := H
                  have A9 := Aside0.mk A90
                  clear A90
                  by_cases c10 : t143 = true
                  · subst c10
                    have H1 : (span_Name.l0 k2 a0 (a0.size : Int) (wrap64 (x14_2 + 1))) = some r := by rw [if_pos rfl] at H; exact H
                    clear H
                    have H := H1
                    clear H1
                    have H' := Aside0.mk H
                    clear H
                    have p8 : 0 ≤ (x14_2 : Int) := of_decide_eq_true (by first | (with_reducible assumption) | assumption)
                    have q8 : x14_2 < (a0.size : Int) := of_decide_eq_true (by first | (with_reducible assumption) | assumption)
                    have hx8 := bt_at a0 x14_2
                    replace p8 := eq_true p8
                    replace q8 := eq_true q8
                    go_wp2_with (first | ((with_reducible refine gate_callee (f := 143) rfl ?_); refine goesL_ (some 20) rfl rfl Try.func143 (by kernel_rfl) rfl #[.int .u8 (bt a0 x14_2)] rfl (by (try simp only [List.map_toArray, List.map_cons, List.map_nil]); first | done | rfl | (simp only [List.length_drop, List.length_take]; rfl)) ?_; (with_reducible refine (span_letter.calls (bt a0 x14_2) true _ A9.out).mono ?_); rintro e w' ⟨rfl, ⟨nd, rfl⟩⟩; refine ⟨_, rfl, ?_⟩))
                    go_roundg k2
                    case measure => have := HJ1.out; have := HK2.out; omega
                    case rel => exact ⟨(wrap64 (x14_2 + 1)), (by first | rfl | (simp; done) | (simp [*]; done)), H', ⟨by have := HJ1.out; have := HK2.out; omega⟩, by repeat (first | exact Drawn0.refl _ | apply Drawn0.step)⟩
                  · replace c10 := Bool.eq_false_iff.mpr c10
                    subst c10
                    have H1 : (some false) = some r := by rw [if_neg (show ¬ (false = true) by decide)] at H; exact H
                    clear H
                    have H := H1
                    clear H1
                    obtain rfl := Option.some.inj H
                    have p8 : 0 ≤ (x14_2 : Int) := of_decide_eq_true (by first | (with_reducible assumption) | assumption)
                    have q8 : x14_2 < (a0.size : Int) := of_decide_eq_true (by first | (with_reducible assumption) | assumption)
                    have hx8 := bt_at a0 x14_2
                    replace p8 := eq_true p8
                    replace q8 := eq_true q8
                    go_wp2_with (first | ((with_reducible refine gate_callee (f := 143) rfl ?_); refine goesL_ (some 20) rfl rfl Try.func143 (by kernel_rfl) rfl #[.int .u8 (bt a0 x14_2)] rfl (by (try simp only [List.map_toArray, List.map_cons, List.map_nil]); first | done | rfl | (simp only [List.length_drop, List.length_take]; rfl)) ?_; (with_reducible refine (span_letter.calls (bt a0 x14_2) false _ A9.out).mono ?_); rintro e w' ⟨rfl, ⟨nd, rfl⟩⟩; refine ⟨_, rfl, ?_⟩))
                    go_ret
                    exact ⟨by first | rfl | (simp; done) | (simp [*]; done), by repeat (first | exact Drawn0.refl _ | apply Drawn0.step)⟩
                · rw [if_neg c7] at H
                  exact absurd H (by simp)
              · rw [if_neg c6] at H
                exact absurd H (by simp)
            · rw [if_neg c5] at H
              have c5b0 : decide (x14_2 < (a0.size : Int)) = false := decide_eq_false c5
              clear c5
              obtain rfl := Option.some.inj H
              go_wp2
              go_ret
              exact ⟨by first | rfl | (simp; done) | (simp [*]; done), by repeat (first | exact Drawn0.refl _ | apply Drawn0.step)⟩

end Go.Proofs.Ytmfdhcgdibefiaa.Q

-- Written by wip/tools/gp.py, a program of this session round the kit's printer. Lean checks it.
namespace Go.Proofs.Ytmfdhcgdibefiaa.Q
open Go.RowKit Go.Proofs.YtmfdhcgdibefiaaW.PrintWords Go.Proofs.YtmfdhcgdibefiaaW.PrintLast Go.Proofs.YtmfdhcgdibefiaaW.PrintMore
attribute [local go_sem] max2_int min2_int max_two min_two max_three min_three max_four min_four   -- for this text's walks alone
set_option linter.unusedVariables false
set_option linter.unusedSimpArgs false

/-! ### span_May: function 43 -/
mutual
def span_May.j0 : Nat → Bool → Int → Int → Int → Int → ByteArray → ByteArray → Int → Int → Option (Bool)
  | 0, _, _, _, _, _, _, _, _, _ => none
  | k + 1, x3, x145000, x145001, x145002, x145003, x145004, x145005, x145006, x145007 => if x3 = true then (some false) else (if x145006 < 0 then (span_May.j1 k (decide (x145006 < 0)) x145000 x145001 x145002 x145003 x145004 x145005 x145006 x145007) else (if x145006 ≥ 1125899906842624 then (span_May.j1 k (decide (x145006 ≥ 1125899906842624)) x145000 x145001 x145002 x145003 x145004 x145005 x145006 x145007) else (if x145007 < 0 then (span_May.j1 k (decide (x145007 < 0)) x145000 x145001 x145002 x145003 x145004 x145005 x145006 x145007) else (span_May.j1 k (decide (x145007 > 1125899906842624)) x145000 x145001 x145002 x145003 x145004 x145005 x145006 x145007))))
def span_May.j1 : Nat → Bool → Int → Int → Int → Int → ByteArray → ByteArray → Int → Int → Option (Bool)
  | 0, _, _, _, _, _, _, _, _, _ => none
  | k + 1, x18, x145000, x145001, x145002, x145003, x145004, x145005, x145006, x145007 => if x18 = true then (some false) else ((span_Name.f k x145004).bind fun t145 => (if t145 = true then ((span_Name.f k x145005).bind fun t146 => (some t146)) else (some false)))
end
def span_May.f (k : Nat) (a0_0 : Int) (a0_1 : Int) (a0_2 : Int) (a0_3 : Int) (a0_4 : ByteArray) (a0_5 : ByteArray) (a0_6 : Int) (a0_7 : Int) : Option (Bool) := if a0_0 = 0 then (span_May.j0 k (a0_0 == 0) a0_0 a0_1 a0_2 a0_3 a0_4 a0_5 a0_6 a0_7) else (if a0_1 = 0 then (span_May.j0 k (a0_1 == 0) a0_0 a0_1 a0_2 a0_3 a0_4 a0_5 a0_6 a0_7) else (if a0_2 = a0_1 then (span_May.j0 k (a0_2 == a0_1) a0_0 a0_1 a0_2 a0_3 a0_4 a0_5 a0_6 a0_7) else (span_May.j0 k (decide (a0_3 > 2)) a0_0 a0_1 a0_2 a0_3 a0_4 a0_5 a0_6 a0_7)))
theorem span_May.mono_l : ∀ k, (∀ y0 y1 y2 y3 y4 y5 y6 y7 y8, LeO (span_May.j0 k y0 y1 y2 y3 y4 y5 y6 y7 y8) (span_May.j0 (k + 1) y0 y1 y2 y3 y4 y5 y6 y7 y8)) ∧ (∀ y0 y1 y2 y3 y4 y5 y6 y7 y8, LeO (span_May.j1 k y0 y1 y2 y3 y4 y5 y6 y7 y8) (span_May.j1 (k + 1) y0 y1 y2 y3 y4 y5 y6 y7 y8))
  | 0 => ⟨fun _ _ _ _ _ _ _ _ _ r h => by simp [span_May.j0] at h, fun _ _ _ _ _ _ _ _ _ r h => by simp [span_May.j1] at h⟩
  | k + 1 => by
    obtain ⟨ih0, ih1⟩ := span_May.mono_l k
    refine ⟨?_, ?_⟩
    · intro y0 y1 y2 y3 y4 y5 y6 y7 y8
      unfold span_May.j0
      repeat' first
      | (with_reducible exact ih0 _ _ _ _ _ _ _ _ _)
      | (with_reducible exact ih1 _ _ _ _ _ _ _ _ _)
      | (with_reducible exact span_Name.mono _ _)
      | (with_reducible exact LeO.refl _)
      | (with_reducible exact LeO.none _)
      | (with_reducible refine LeO.ite ?_ ?_)
      | (with_reducible refine LeO.bind ?_ (fun _ => ?_))
      | exact ih0 _ _ _ _ _ _ _ _ _
      | exact ih1 _ _ _ _ _ _ _ _ _
      | exact span_Name.mono _ _
      | exact LeO.none _
      | refine LeO.ite ?_ ?_
      | refine LeO.bind ?_ (fun _ => ?_)
    · intro y0 y1 y2 y3 y4 y5 y6 y7 y8
      unfold span_May.j1
      repeat' first
      | (with_reducible exact ih0 _ _ _ _ _ _ _ _ _)
      | (with_reducible exact ih1 _ _ _ _ _ _ _ _ _)
      | (with_reducible exact span_Name.mono _ _)
      | (with_reducible exact LeO.refl _)
      | (with_reducible exact LeO.none _)
      | (with_reducible refine LeO.ite ?_ ?_)
      | (with_reducible refine LeO.bind ?_ (fun _ => ?_))
      | exact ih0 _ _ _ _ _ _ _ _ _
      | exact ih1 _ _ _ _ _ _ _ _ _
      | exact span_Name.mono _ _
      | exact LeO.none _
      | refine LeO.ite ?_ ?_
      | refine LeO.bind ?_ (fun _ => ?_)
theorem span_May.mono : ∀ a0 a1 a2 a3 a4 a5 a6 a7 k, LeO (span_May.f k a0 a1 a2 a3 a4 a5 a6 a7) (span_May.f (k + 1) a0 a1 a2 a3 a4 a5 a6 a7) := by
  intro a0 a1 a2 a3 a4 a5 a6 a7 k
  obtain ⟨ih0, ih1⟩ := span_May.mono_l k
  unfold span_May.f
  repeat' first
      | (with_reducible exact ih0 _ _ _ _ _ _ _ _ _)
      | (with_reducible exact ih1 _ _ _ _ _ _ _ _ _)
      | (with_reducible exact span_Name.mono _ _)
      | (with_reducible exact LeO.refl _)
      | (with_reducible exact LeO.none _)
      | (with_reducible refine LeO.ite ?_ ?_)
      | (with_reducible refine LeO.bind ?_ (fun _ => ?_))
      | exact ih0 _ _ _ _ _ _ _ _ _
      | exact ih1 _ _ _ _ _ _ _ _ _
      | exact span_Name.mono _ _
      | exact LeO.none _
      | refine LeO.ite ?_ ?_
      | refine LeO.bind ?_ (fun _ => ?_)
set_option maxHeartbeats 8000000 in
set_option maxRecDepth 100000 in
theorem span_May.calls (k : Nat) (a0_0 : Int) (a0_1 : Int) (a0_2 : Int) (a0_3 : Int) (a0_4 : ByteArray) (a0_5 : ByteArray) (a0_6 : Int) (a0_7 : Int) (r : Bool) (w : World) (h : span_May.f k a0_0 a0_1 a0_2 a0_3 a0_4 a0_5 a0_6 a0_7 = some r) :
    Calls Try.prog 43 #[.agg #[.int .u64 a0_0, .int .u64 a0_1, .int .u64 a0_2, .int .u8 a0_3, .string a0_4, .string a0_5, .int .i64 a0_6, .int .i64 a0_7]] w fun e w' => e = .returned (.bool r) ∧ Below w.heap.size w w' := by
  have hu37 := Try.underlying37
  have HB := Aside0.mk (Below.refl w.heap.size w)
  have H : (if a0_0 = 0 then (span_May.j0 k (a0_0 == 0) a0_0 a0_1 a0_2 a0_3 a0_4 a0_5 a0_6 a0_7) else (if a0_1 = 0 then (span_May.j0 k (a0_1 == 0) a0_0 a0_1 a0_2 a0_3 a0_4 a0_5 a0_6 a0_7) else (if a0_2 = a0_1 then (span_May.j0 k (a0_2 == a0_1) a0_0 a0_1 a0_2 a0_3 a0_4 a0_5 a0_6 a0_7) else (span_May.j0 k (decide (a0_3 > 2)) a0_0 a0_1 a0_2 a0_3 a0_4 a0_5 a0_6 a0_7)))) = some r := h
  clear h
  have HC2 := Aside0.mk H
  clear H
  go_enter Try.func43, Try.ntmps43
  go_upto_if 3 with (first | ((with_reducible refine gate_dst (N := 1) rfl ?_); refine box_event ?hg (N := 1) ?hd (cs := #[.int .u64 a0_0, .int .u64 a0_1, .int .u64 a0_2, .int .u8 a0_3, .string a0_4, .string a0_5, .int .i64 a0_6, .int .i64 a0_7]) (t := 37) ?hr ?_; (case hd => rfl); (case hg => rfl); (case hr => first | (go_simp; done) | (go_simp; rfl)); intro gb144 hg w3 hbox hb; have n0_ := Aside0.mk (below_step (by repeat (first | (with_reducible first | exact HB.out | apply below_alloc | apply pw_below_drewN | apply below_drew1) | exact HB.out)) hb); have n1_ := Aside0.mk (hbox); have n2_ := Aside0.mk ((by rw [hg]; exact (below_size (by repeat (first | (with_reducible first | exact HB.out | apply below_alloc | apply pw_below_drewN | apply below_drew1) | exact HB.out))) : w.heap.size ≤ gb144)); have n3_ := Aside0.mk ((by rw [hg]; exact (below_size (by repeat (first | (with_reducible first | exact HB.out | apply below_alloc | apply pw_below_drewN | apply below_drew1) | exact HB.out))) : w.heap.size ≤ gb144)); clear HB; have HB := n0_; have BK144 := n1_; have GW144 := n2_; have GE144 := n3_; clear n0_ n1_ n2_ n3_; clear hb hbox hg; have hcz4_0 : w3.cell? ⟨gb144, 0, none⟩ = some (.int .u64 a0_0) := (blk_cell BK144.out 0).trans rfl; have hcz4_1 : w3.cell? ⟨gb144, 1, none⟩ = some (.int .u64 a0_1) := (blk_cell BK144.out 1).trans rfl; have hcz4_2 : w3.cell? ⟨gb144, 2, none⟩ = some (.int .u64 a0_2) := (blk_cell BK144.out 2).trans rfl; have hcz4_3 : w3.cell? ⟨gb144, 3, none⟩ = some (.int .u8 a0_3) := (blk_cell BK144.out 3).trans rfl; have hcz4_4 : w3.cell? ⟨gb144, 4, none⟩ = some (.string a0_4) := (blk_cell BK144.out 4).trans rfl; have hcz4_5 : w3.cell? ⟨gb144, 5, none⟩ = some (.string a0_5) := (blk_cell BK144.out 5).trans rfl; have hcz4_6 : w3.cell? ⟨gb144, 6, none⟩ = some (.int .i64 a0_6) := (blk_cell BK144.out 6).trans rfl; have hcz4_7 : w3.cell? ⟨gb144, 7, none⟩ = some (.int .i64 a0_7) := (blk_cell BK144.out 7).trans rfl; have hfz4_0 := blk_frozen BK144.out 0; have hfz4_1 := blk_frozen BK144.out 1; have hfz4_2 := blk_frozen BK144.out 2; have hfz4_3 := blk_frozen BK144.out 3; have hfz4_4 := blk_frozen BK144.out 4; have hfz4_5 := blk_frozen BK144.out 5; have hfz4_6 := blk_frozen BK144.out 6; have hfz4_7 := blk_frozen BK144.out 7))
  (try simp only [Act.put, List.setIfInBounds_toArray, List.set_cons_zero, List.set_cons_succ])
  go_cut [3] (fun v3 wc => ∃ (kq : Nat) (x3_1 : Bool), v3 = .bool x3_1 ∧ Aside0 (span_May.j0 kq x3_1 a0_0 a0_1 a0_2 a0_3 a0_4 a0_5 a0_6 a0_7 = some r) ∧ Aside0 (kq ≤ k) ∧ Aside0 (wc.heap[gb144]? = some (.cells #[.int .u64 a0_0, .int .u64 a0_1, .int .u64 a0_2, .int .u8 a0_3, .string a0_4, .string a0_5, .int .i64 a0_6, .int .i64 a0_7] 37 (0, 0))) ∧ Aside0 (Below w.heap.size w wc))
  case first =>
    have H := HC2.out
    clear HC2
    by_cases c5 : a0_0 = 0
    · rw [if_pos c5] at H
      have c5b0 : (a0_0 == 0) = true := beq_iff_eq.mpr c5
      have c5b1 : (a0_0 != 0) = false := bne_eq_false_iff_eq.mpr c5
      clear c5
      (first | rw [c5b0] | (simp only [i64_w, i32_w]; rw [c5b0]) | skip)
      have H' := Aside0.mk H
      clear H
      go_wp2
      go_meet
      case rel => exact ⟨_, ((a0_0 == 0)), (by first | rfl | (simp; done) | (simp [*]; done)), H', ⟨by first | omega | exact Nat.le_refl _⟩, ⟨by (with_reducible repeat (first | refine blk_drewN ?_ _ | refine blk_drew ?_ | refine blk_alloc ?_ _)); exact BK144.out⟩, ⟨by repeat (first | (with_reducible first | exact HB.out | apply below_alloc | apply pw_below_drewN | apply below_drew1 | refine below_set ?_ GE144.out) | exact HB.out)⟩⟩
    · rw [if_neg c5] at H
      have c5b0 : (a0_0 == 0) = false := beq_eq_false_iff_ne.mpr c5
      have c5b1 : (a0_0 != 0) = true := bne_iff_ne.mpr c5
      (first | rw [c5b0] | (simp only [i64_w, i32_w]; rw [c5b0]) | skip)
      by_cases c6 : a0_1 = 0
      · rw [if_pos c6] at H
        have c6b0 : (a0_1 == 0) = true := beq_iff_eq.mpr c6
        have c6b1 : (a0_1 != 0) = false := bne_eq_false_iff_eq.mpr c6
        clear c6
        have H' := Aside0.mk H
        clear H
        have hcz7_0 : w3.cell? ⟨gb144, 0, none⟩ = some (.int .u64 a0_0) := (blk_cell BK144.out 0).trans rfl
        have hcz7_1 : w3.cell? ⟨gb144, 1, none⟩ = some (.int .u64 a0_1) := (blk_cell BK144.out 1).trans rfl
        have hcz7_2 : w3.cell? ⟨gb144, 2, none⟩ = some (.int .u64 a0_2) := (blk_cell BK144.out 2).trans rfl
        have hcz7_3 : w3.cell? ⟨gb144, 3, none⟩ = some (.int .u8 a0_3) := (blk_cell BK144.out 3).trans rfl
        have hcz7_4 : w3.cell? ⟨gb144, 4, none⟩ = some (.string a0_4) := (blk_cell BK144.out 4).trans rfl
        have hcz7_5 : w3.cell? ⟨gb144, 5, none⟩ = some (.string a0_5) := (blk_cell BK144.out 5).trans rfl
        have hcz7_6 : w3.cell? ⟨gb144, 6, none⟩ = some (.int .i64 a0_6) := (blk_cell BK144.out 6).trans rfl
        have hcz7_7 : w3.cell? ⟨gb144, 7, none⟩ = some (.int .i64 a0_7) := (blk_cell BK144.out 7).trans rfl
        have hfz7_0 := blk_frozen BK144.out 0
        have hfz7_1 := blk_frozen BK144.out 1
        have hfz7_2 := blk_frozen BK144.out 2
        have hfz7_3 := blk_frozen BK144.out 3
        have hfz7_4 := blk_frozen BK144.out 4
        have hfz7_5 := blk_frozen BK144.out 5
        have hfz7_6 := blk_frozen BK144.out 6
        have hfz7_7 := blk_frozen BK144.out 7
        go_wp2
        go_meet
        case rel => exact ⟨_, ((a0_1 == 0)), (by first | rfl | (simp; done) | (simp [*]; done)), H', ⟨by first | omega | exact Nat.le_refl _⟩, ⟨by (with_reducible repeat (first | refine blk_drewN ?_ _ | refine blk_drew ?_ | refine blk_alloc ?_ _)); exact BK144.out⟩, ⟨by repeat (first | (with_reducible first | exact HB.out | apply below_alloc | apply pw_below_drewN | apply below_drew1 | refine below_set ?_ GE144.out) | exact HB.out)⟩⟩
      · rw [if_neg c6] at H
        have c6b0 : (a0_1 == 0) = false := beq_eq_false_iff_ne.mpr c6
        have c6b1 : (a0_1 != 0) = true := bne_iff_ne.mpr c6
        by_cases c8 : a0_2 = a0_1
        · rw [if_pos c8] at H
          have c8b0 : (a0_2 == a0_1) = true := beq_iff_eq.mpr c8
          have c8b1 : (a0_2 != a0_1) = false := bne_eq_false_iff_eq.mpr c8
          clear c8
          have H' := Aside0.mk H
          clear H
          have hcz9_0 : w3.cell? ⟨gb144, 0, none⟩ = some (.int .u64 a0_0) := (blk_cell BK144.out 0).trans rfl
          have hcz9_1 : w3.cell? ⟨gb144, 1, none⟩ = some (.int .u64 a0_1) := (blk_cell BK144.out 1).trans rfl
          have hcz9_2 : w3.cell? ⟨gb144, 2, none⟩ = some (.int .u64 a0_2) := (blk_cell BK144.out 2).trans rfl
          have hcz9_3 : w3.cell? ⟨gb144, 3, none⟩ = some (.int .u8 a0_3) := (blk_cell BK144.out 3).trans rfl
          have hcz9_4 : w3.cell? ⟨gb144, 4, none⟩ = some (.string a0_4) := (blk_cell BK144.out 4).trans rfl
          have hcz9_5 : w3.cell? ⟨gb144, 5, none⟩ = some (.string a0_5) := (blk_cell BK144.out 5).trans rfl
          have hcz9_6 : w3.cell? ⟨gb144, 6, none⟩ = some (.int .i64 a0_6) := (blk_cell BK144.out 6).trans rfl
          have hcz9_7 : w3.cell? ⟨gb144, 7, none⟩ = some (.int .i64 a0_7) := (blk_cell BK144.out 7).trans rfl
          have hfz9_0 := blk_frozen BK144.out 0
          have hfz9_1 := blk_frozen BK144.out 1
          have hfz9_2 := blk_frozen BK144.out 2
          have hfz9_3 := blk_frozen BK144.out 3
          have hfz9_4 := blk_frozen BK144.out 4
          have hfz9_5 := blk_frozen BK144.out 5
          have hfz9_6 := blk_frozen BK144.out 6
          have hfz9_7 := blk_frozen BK144.out 7
          go_wp2
          go_meet
          case rel => exact ⟨_, ((a0_2 == a0_1)), (by first | rfl | (simp; done) | (simp [*]; done)), H', ⟨by first | omega | exact Nat.le_refl _⟩, ⟨by (with_reducible repeat (first | refine blk_drewN ?_ _ | refine blk_drew ?_ | refine blk_alloc ?_ _)); exact BK144.out⟩, ⟨by repeat (first | (with_reducible first | exact HB.out | apply below_alloc | apply pw_below_drewN | apply below_drew1 | refine below_set ?_ GE144.out) | exact HB.out)⟩⟩
        · rw [if_neg c8] at H
          have c8b0 : (a0_2 == a0_1) = false := beq_eq_false_iff_ne.mpr c8
          have c8b1 : (a0_2 != a0_1) = true := bne_iff_ne.mpr c8
          have H' := Aside0.mk H
          clear H
          have hcz10_0 : w3.cell? ⟨gb144, 0, none⟩ = some (.int .u64 a0_0) := (blk_cell BK144.out 0).trans rfl
          have hcz10_1 : w3.cell? ⟨gb144, 1, none⟩ = some (.int .u64 a0_1) := (blk_cell BK144.out 1).trans rfl
          have hcz10_2 : w3.cell? ⟨gb144, 2, none⟩ = some (.int .u64 a0_2) := (blk_cell BK144.out 2).trans rfl
          have hcz10_3 : w3.cell? ⟨gb144, 3, none⟩ = some (.int .u8 a0_3) := (blk_cell BK144.out 3).trans rfl
          have hcz10_4 : w3.cell? ⟨gb144, 4, none⟩ = some (.string a0_4) := (blk_cell BK144.out 4).trans rfl
          have hcz10_5 : w3.cell? ⟨gb144, 5, none⟩ = some (.string a0_5) := (blk_cell BK144.out 5).trans rfl
          have hcz10_6 : w3.cell? ⟨gb144, 6, none⟩ = some (.int .i64 a0_6) := (blk_cell BK144.out 6).trans rfl
          have hcz10_7 : w3.cell? ⟨gb144, 7, none⟩ = some (.int .i64 a0_7) := (blk_cell BK144.out 7).trans rfl
          have hfz10_0 := blk_frozen BK144.out 0
          have hfz10_1 := blk_frozen BK144.out 1
          have hfz10_2 := blk_frozen BK144.out 2
          have hfz10_3 := blk_frozen BK144.out 3
          have hfz10_4 := blk_frozen BK144.out 4
          have hfz10_5 := blk_frozen BK144.out 5
          have hfz10_6 := blk_frozen BK144.out 6
          have hfz10_7 := blk_frozen BK144.out 7
          go_wp2
          go_meet
          case rel => exact ⟨_, (decide (a0_3 > 2)), (by first | rfl | (simp; done) | (simp [*]; done)), H', ⟨by first | omega | exact Nat.le_refl _⟩, ⟨by (with_reducible repeat (first | refine blk_drewN ?_ _ | refine blk_drew ?_ | refine blk_alloc ?_ _)); exact BK144.out⟩, ⟨by repeat (first | (with_reducible first | exact HB.out | apply below_alloc | apply pw_below_drewN | apply below_drew1 | refine below_set ?_ GE144.out) | exact HB.out)⟩⟩
  case rest =>
    clear HC2
    (try clear p2); (try clear c4); (try clear c5); (try clear c5b0); (try clear c5b1); (try clear c6); (try clear c6b0); (try clear c6b1); (try clear c8); (try clear c8b0); (try clear c8b1); (try clear hcz10_0); (try clear hcz10_1); (try clear hcz10_2); (try clear hcz10_3); (try clear hcz10_4); (try clear hcz10_5); (try clear hcz10_6); (try clear hcz10_7); (try clear hcz4_0); (try clear hcz4_1); (try clear hcz4_2); (try clear hcz4_3); (try clear hcz4_4); (try clear hcz4_5); (try clear hcz4_6); (try clear hcz4_7); (try clear hcz7_0); (try clear hcz7_1); (try clear hcz7_2); (try clear hcz7_3); (try clear hcz7_4); (try clear hcz7_5); (try clear hcz7_6); (try clear hcz7_7); (try clear hcz9_0); (try clear hcz9_1); (try clear hcz9_2); (try clear hcz9_3); (try clear hcz9_4); (try clear hcz9_5); (try clear hcz9_6); (try clear hcz9_7); (try clear hfz10_0); (try clear hfz10_1); (try clear hfz10_2); (try clear hfz10_3); (try clear hfz10_4); (try clear hfz10_5); (try clear hfz10_6); (try clear hfz10_7); (try clear hfz4_0); (try clear hfz4_1); (try clear hfz4_2); (try clear hfz4_3); (try clear hfz4_4); (try clear hfz4_5); (try clear hfz4_6); (try clear hfz4_7); (try clear hfz7_0); (try clear hfz7_1); (try clear hfz7_2); (try clear hfz7_3); (try clear hfz7_4); (try clear hfz7_5); (try clear hfz7_6); (try clear hfz7_7); (try clear hfz9_0); (try clear hfz9_1); (try clear hfz9_2); (try clear hfz9_3); (try clear hfz9_4); (try clear hfz9_5); (try clear hfz9_6); (try clear hfz9_7)
    obtain ⟨kq, x3_1, rfl, HA, HJ1, BK144, HB⟩ := hcut
    cases kq with
    | zero => exact absurd HA.out (by simp [span_May.j0])
    | succ kj1 =>
      have H := HA.out
      clear HA
      simp only [span_May.j0] at H
      by_cases c11 : x3_1 = true
      · subst c11
        have H1 : (some false) = some r := by rw [if_pos rfl] at H; exact H
        clear H
        have H := H1
        clear H1
        obtain rfl := Option.some.inj H
        go_wp2
        go_ret
        exact ⟨by first | rfl | (simp [errW_none, errW_some] <;> rfl) | (simp [*, errW_none, errW_some] <;> rfl), by repeat (first | (with_reducible first | exact HB.out | apply below_alloc | apply pw_below_drewN | apply below_drew1 | refine below_set ?_ GE144.out) | exact HB.out)⟩
      · replace c11 := Bool.eq_false_iff.mpr c11
        subst c11
        have H1 : (if a0_6 < 0 then (span_May.j1 kj1 (decide (a0_6 < 0)) a0_0 a0_1 a0_2 a0_3 a0_4 a0_5 a0_6 a0_7) else (if a0_6 ≥ 1125899906842624 then (span_May.j1 kj1 (decide (a0_6 ≥ 1125899906842624)) a0_0 a0_1 a0_2 a0_3 a0_4 a0_5 a0_6 a0_7) else (if a0_7 < 0 then (span_May.j1 kj1 (decide (a0_7 < 0)) a0_0 a0_1 a0_2 a0_3 a0_4 a0_5 a0_6 a0_7) else (span_May.j1 kj1 (decide (a0_7 > 1125899906842624)) a0_0 a0_1 a0_2 a0_3 a0_4 a0_5 a0_6 a0_7)))) = some r := by rw [if_neg (show ¬ (false = true) by decide)] at H; exact H
        clear H
        have H := H1
        clear H1
        have HC12 := Aside0.mk H
        clear H
        have hcz13_0 : wc.cell? ⟨gb144, 0, none⟩ = some (.int .u64 a0_0) := (blk_cell BK144.out 0).trans rfl
        have hcz13_1 : wc.cell? ⟨gb144, 1, none⟩ = some (.int .u64 a0_1) := (blk_cell BK144.out 1).trans rfl
        have hcz13_2 : wc.cell? ⟨gb144, 2, none⟩ = some (.int .u64 a0_2) := (blk_cell BK144.out 2).trans rfl
        have hcz13_3 : wc.cell? ⟨gb144, 3, none⟩ = some (.int .u8 a0_3) := (blk_cell BK144.out 3).trans rfl
        have hcz13_4 : wc.cell? ⟨gb144, 4, none⟩ = some (.string a0_4) := (blk_cell BK144.out 4).trans rfl
        have hcz13_5 : wc.cell? ⟨gb144, 5, none⟩ = some (.string a0_5) := (blk_cell BK144.out 5).trans rfl
        have hcz13_6 : wc.cell? ⟨gb144, 6, none⟩ = some (.int .i64 a0_6) := (blk_cell BK144.out 6).trans rfl
        have hcz13_7 : wc.cell? ⟨gb144, 7, none⟩ = some (.int .i64 a0_7) := (blk_cell BK144.out 7).trans rfl
        have hfz13_0 := blk_frozen BK144.out 0
        have hfz13_1 := blk_frozen BK144.out 1
        have hfz13_2 := blk_frozen BK144.out 2
        have hfz13_3 := blk_frozen BK144.out 3
        have hfz13_4 := blk_frozen BK144.out 4
        have hfz13_5 := blk_frozen BK144.out 5
        have hfz13_6 := blk_frozen BK144.out 6
        have hfz13_7 := blk_frozen BK144.out 7
        go_upto_if 18 with (fail)
        go_cut [18] (fun v18 wc => ∃ (kq : Nat) (x18_11 : Bool), v18 = .bool x18_11 ∧ Aside0 (span_May.j1 kq x18_11 a0_0 a0_1 a0_2 a0_3 a0_4 a0_5 a0_6 a0_7 = some r) ∧ Aside0 (kq ≤ kj1) ∧ Aside0 (wc.heap[gb144]? = some (.cells #[.int .u64 a0_0, .int .u64 a0_1, .int .u64 a0_2, .int .u8 a0_3, .string a0_4, .string a0_5, .int .i64 a0_6, .int .i64 a0_7] 37 (0, 0))) ∧ Aside0 (Below w.heap.size w wc))
        case first =>
          have H := HC12.out
          clear HC12
          by_cases c14 : a0_6 < 0
          · rw [if_pos c14] at H
            have c14b0 : decide (a0_6 < 0) = true := decide_eq_true c14
            clear c14
            (first | rw [c14b0] | (simp only [i64_w, i32_w]; rw [c14b0]) | skip)
            have H' := Aside0.mk H
            clear H
            go_wp2
            go_meet
            case rel => exact ⟨_, (decide (a0_6 < 0)), (by first | rfl | (simp; done) | (simp [*]; done)), H', ⟨by have := HJ1.out; first | omega | exact Nat.le_refl _⟩, ⟨by (with_reducible repeat (first | refine blk_drewN ?_ _ | refine blk_drew ?_ | refine blk_alloc ?_ _)); exact BK144.out⟩, ⟨by repeat (first | (with_reducible first | exact HB.out | apply below_alloc | apply pw_below_drewN | apply below_drew1 | refine below_set ?_ GE144.out) | exact HB.out)⟩⟩
          · rw [if_neg c14] at H
            have c14b0 : decide (a0_6 < 0) = false := decide_eq_false c14
            clear c14
            (first | rw [c14b0] | (simp only [i64_w, i32_w]; rw [c14b0]) | skip)
            by_cases c15 : a0_6 ≥ 1125899906842624
            · rw [if_pos c15] at H
              have c15b0 : decide (1125899906842624 ≤ a0_6) = true := decide_eq_true c15
              clear c15
              have H' := Aside0.mk H
              clear H
              have hcz16_0 : wc.cell? ⟨gb144, 0, none⟩ = some (.int .u64 a0_0) := (blk_cell BK144.out 0).trans rfl
              have hcz16_1 : wc.cell? ⟨gb144, 1, none⟩ = some (.int .u64 a0_1) := (blk_cell BK144.out 1).trans rfl
              have hcz16_2 : wc.cell? ⟨gb144, 2, none⟩ = some (.int .u64 a0_2) := (blk_cell BK144.out 2).trans rfl
              have hcz16_3 : wc.cell? ⟨gb144, 3, none⟩ = some (.int .u8 a0_3) := (blk_cell BK144.out 3).trans rfl
              have hcz16_4 : wc.cell? ⟨gb144, 4, none⟩ = some (.string a0_4) := (blk_cell BK144.out 4).trans rfl
              have hcz16_5 : wc.cell? ⟨gb144, 5, none⟩ = some (.string a0_5) := (blk_cell BK144.out 5).trans rfl
              have hcz16_6 : wc.cell? ⟨gb144, 6, none⟩ = some (.int .i64 a0_6) := (blk_cell BK144.out 6).trans rfl
              have hcz16_7 : wc.cell? ⟨gb144, 7, none⟩ = some (.int .i64 a0_7) := (blk_cell BK144.out 7).trans rfl
              have hfz16_0 := blk_frozen BK144.out 0
              have hfz16_1 := blk_frozen BK144.out 1
              have hfz16_2 := blk_frozen BK144.out 2
              have hfz16_3 := blk_frozen BK144.out 3
              have hfz16_4 := blk_frozen BK144.out 4
              have hfz16_5 := blk_frozen BK144.out 5
              have hfz16_6 := blk_frozen BK144.out 6
              have hfz16_7 := blk_frozen BK144.out 7
              go_wp2
              go_meet
              case rel => exact ⟨_, (decide (a0_6 ≥ 1125899906842624)), (by first | rfl | (simp; done) | (simp [*]; done)), H', ⟨by have := HJ1.out; first | omega | exact Nat.le_refl _⟩, ⟨by (with_reducible repeat (first | refine blk_drewN ?_ _ | refine blk_drew ?_ | refine blk_alloc ?_ _)); exact BK144.out⟩, ⟨by repeat (first | (with_reducible first | exact HB.out | apply below_alloc | apply pw_below_drewN | apply below_drew1 | refine below_set ?_ GE144.out) | exact HB.out)⟩⟩
            · rw [if_neg c15] at H
              have c15b0 : decide (1125899906842624 ≤ a0_6) = false := decide_eq_false c15
              clear c15
              by_cases c17 : a0_7 < 0
              · rw [if_pos c17] at H
                have c17b0 : decide (a0_7 < 0) = true := decide_eq_true c17
                clear c17
                have H' := Aside0.mk H
                clear H
                have hcz18_0 : wc.cell? ⟨gb144, 0, none⟩ = some (.int .u64 a0_0) := (blk_cell BK144.out 0).trans rfl
                have hcz18_1 : wc.cell? ⟨gb144, 1, none⟩ = some (.int .u64 a0_1) := (blk_cell BK144.out 1).trans rfl
                have hcz18_2 : wc.cell? ⟨gb144, 2, none⟩ = some (.int .u64 a0_2) := (blk_cell BK144.out 2).trans rfl
                have hcz18_3 : wc.cell? ⟨gb144, 3, none⟩ = some (.int .u8 a0_3) := (blk_cell BK144.out 3).trans rfl
                have hcz18_4 : wc.cell? ⟨gb144, 4, none⟩ = some (.string a0_4) := (blk_cell BK144.out 4).trans rfl
                have hcz18_5 : wc.cell? ⟨gb144, 5, none⟩ = some (.string a0_5) := (blk_cell BK144.out 5).trans rfl
                have hcz18_6 : wc.cell? ⟨gb144, 6, none⟩ = some (.int .i64 a0_6) := (blk_cell BK144.out 6).trans rfl
                have hcz18_7 : wc.cell? ⟨gb144, 7, none⟩ = some (.int .i64 a0_7) := (blk_cell BK144.out 7).trans rfl
                have hfz18_0 := blk_frozen BK144.out 0
                have hfz18_1 := blk_frozen BK144.out 1
                have hfz18_2 := blk_frozen BK144.out 2
                have hfz18_3 := blk_frozen BK144.out 3
                have hfz18_4 := blk_frozen BK144.out 4
                have hfz18_5 := blk_frozen BK144.out 5
                have hfz18_6 := blk_frozen BK144.out 6
                have hfz18_7 := blk_frozen BK144.out 7
                go_wp2
                go_meet
                case rel => exact ⟨_, (decide (a0_7 < 0)), (by first | rfl | (simp; done) | (simp [*]; done)), H', ⟨by have := HJ1.out; first | omega | exact Nat.le_refl _⟩, ⟨by (with_reducible repeat (first | refine blk_drewN ?_ _ | refine blk_drew ?_ | refine blk_alloc ?_ _)); exact BK144.out⟩, ⟨by repeat (first | (with_reducible first | exact HB.out | apply below_alloc | apply pw_below_drewN | apply below_drew1 | refine below_set ?_ GE144.out) | exact HB.out)⟩⟩
              · rw [if_neg c17] at H
                have c17b0 : decide (a0_7 < 0) = false := decide_eq_false c17
                clear c17
                have H' := Aside0.mk H
                clear H
                have hcz19_0 : wc.cell? ⟨gb144, 0, none⟩ = some (.int .u64 a0_0) := (blk_cell BK144.out 0).trans rfl
                have hcz19_1 : wc.cell? ⟨gb144, 1, none⟩ = some (.int .u64 a0_1) := (blk_cell BK144.out 1).trans rfl
                have hcz19_2 : wc.cell? ⟨gb144, 2, none⟩ = some (.int .u64 a0_2) := (blk_cell BK144.out 2).trans rfl
                have hcz19_3 : wc.cell? ⟨gb144, 3, none⟩ = some (.int .u8 a0_3) := (blk_cell BK144.out 3).trans rfl
                have hcz19_4 : wc.cell? ⟨gb144, 4, none⟩ = some (.string a0_4) := (blk_cell BK144.out 4).trans rfl
                have hcz19_5 : wc.cell? ⟨gb144, 5, none⟩ = some (.string a0_5) := (blk_cell BK144.out 5).trans rfl
                have hcz19_6 : wc.cell? ⟨gb144, 6, none⟩ = some (.int .i64 a0_6) := (blk_cell BK144.out 6).trans rfl
                have hcz19_7 : wc.cell? ⟨gb144, 7, none⟩ = some (.int .i64 a0_7) := (blk_cell BK144.out 7).trans rfl
                have hfz19_0 := blk_frozen BK144.out 0
                have hfz19_1 := blk_frozen BK144.out 1
                have hfz19_2 := blk_frozen BK144.out 2
                have hfz19_3 := blk_frozen BK144.out 3
                have hfz19_4 := blk_frozen BK144.out 4
                have hfz19_5 := blk_frozen BK144.out 5
                have hfz19_6 := blk_frozen BK144.out 6
                have hfz19_7 := blk_frozen BK144.out 7
                go_wp2
                go_meet
                case rel => exact ⟨_, (decide (a0_7 > 1125899906842624)), (by first | rfl | (simp; done) | (simp [*]; done)), H', ⟨by have := HJ1.out; first | omega | exact Nat.le_refl _⟩, ⟨by (with_reducible repeat (first | refine blk_drewN ?_ _ | refine blk_drew ?_ | refine blk_alloc ?_ _)); exact BK144.out⟩, ⟨by repeat (first | (with_reducible first | exact HB.out | apply below_alloc | apply pw_below_drewN | apply below_drew1 | refine below_set ?_ GE144.out) | exact HB.out)⟩⟩
        case rest =>
          clear HC12
          (try clear c1); (try clear p2); (try clear c4); (try clear c5); (try clear c5b0); (try clear c5b1); (try clear c6); (try clear c6b0); (try clear c6b1); (try clear c8); (try clear c8b0); (try clear c8b1); (try clear c11); (try clear c14); (try clear c14b0); (try clear c15); (try clear c15b0); (try clear c17); (try clear c17b0); (try clear hcz10_0); (try clear hcz10_1); (try clear hcz10_2); (try clear hcz10_3); (try clear hcz10_4); (try clear hcz10_5); (try clear hcz10_6); (try clear hcz10_7); (try clear hcz13_0); (try clear hcz13_1); (try clear hcz13_2); (try clear hcz13_3); (try clear hcz13_4); (try clear hcz13_5); (try clear hcz13_6); (try clear hcz13_7); (try clear hcz16_0); (try clear hcz16_1); (try clear hcz16_2); (try clear hcz16_3); (try clear hcz16_4); (try clear hcz16_5); (try clear hcz16_6); (try clear hcz16_7); (try clear hcz18_0); (try clear hcz18_1); (try clear hcz18_2); (try clear hcz18_3); (try clear hcz18_4); (try clear hcz18_5); (try clear hcz18_6); (try clear hcz18_7); (try clear hcz19_0); (try clear hcz19_1); (try clear hcz19_2); (try clear hcz19_3); (try clear hcz19_4); (try clear hcz19_5); (try clear hcz19_6); (try clear hcz19_7); (try clear hcz4_0); (try clear hcz4_1); (try clear hcz4_2); (try clear hcz4_3); (try clear hcz4_4); (try clear hcz4_5); (try clear hcz4_6); (try clear hcz4_7); (try clear hcz7_0); (try clear hcz7_1); (try clear hcz7_2); (try clear hcz7_3); (try clear hcz7_4); (try clear hcz7_5); (try clear hcz7_6); (try clear hcz7_7); (try clear hcz9_0); (try clear hcz9_1); (try clear hcz9_2); (try clear hcz9_3); (try clear hcz9_4); (try clear hcz9_5); (try clear hcz9_6); (try clear hcz9_7); (try clear hfz10_0); (try clear hfz10_1); (try clear hfz10_2); (try clear hfz10_3); (try clear hfz10_4); (try clear hfz10_5); (try clear hfz10_6); (try clear hfz10_7); (try clear hfz13_0); (try clear hfz13_1); (try clear hfz13_2); (try clear hfz13_3); (try clear hfz13_4); (try clear hfz13_5); (try clear hfz13_6); (try clear hfz13_7); (try clear hfz16_0); (try clear hfz16_1); (try clear hfz16_2); (try clear hfz16_3); (try clear hfz16_4); (try clear hfz16_5); (try clear hfz16_6); (try clear hfz16_7); (try clear hfz18_0); (try clear hfz18_1); (try clear hfz18_2); (try clear hfz18_3); (try clear hfz18_4); (try clear hfz18_5); (try clear hfz18_6); (try clear hfz18_7); (try clear hfz19_0); (try clear hfz19_1); (try clear hfz19_2); (try clear hfz19_3); (try clear hfz19_4); (try clear hfz19_5); (try clear hfz19_6); (try clear hfz19_7); (try clear hfz4_0); (try clear hfz4_1); (try clear hfz4_2); (try clear hfz4_3); (try clear hfz4_4); (try clear hfz4_5); (try clear hfz4_6); (try clear hfz4_7); (try clear hfz7_0); (try clear hfz7_1); (try clear hfz7_2); (try clear hfz7_3); (try clear hfz7_4); (try clear hfz7_5); (try clear hfz7_6); (try clear hfz7_7); (try clear hfz9_0); (try clear hfz9_1); (try clear hfz9_2); (try clear hfz9_3); (try clear hfz9_4); (try clear hfz9_5); (try clear hfz9_6); (try clear hfz9_7); (try clear p2)
          obtain ⟨kq, x18_11, rfl, HA, HJ11, BK144, HB⟩ := hcut
          cases kq with
          | zero => exact absurd HA.out (by simp [span_May.j1])
          | succ kj11 =>
            have H := HA.out
            clear HA
            simp only [span_May.j1] at H
            by_cases c20 : x18_11 = true
            · subst c20
              have H1 : (some false) = some r := by rw [if_pos rfl] at H; exact H
              clear H
              have H := H1
              clear H1
              obtain rfl := Option.some.inj H
              go_wp2
              go_ret
              exact ⟨by first | rfl | (simp [errW_none, errW_some] <;> rfl) | (simp [*, errW_none, errW_some] <;> rfl), by repeat (first | (with_reducible first | exact HB.out | apply below_alloc | apply pw_below_drewN | apply below_drew1 | refine below_set ?_ GE144.out) | exact HB.out)⟩
            · replace c20 := Bool.eq_false_iff.mpr c20
              subst c20
              have H1 : ((span_Name.f kj11 a0_4).bind fun t145 => (if t145 = true then ((span_Name.f kj11 a0_5).bind fun t146 => (some t146)) else (some false))) = some r := by rw [if_neg (show ¬ (false = true) by decide)] at H; exact H
              clear H
              have H := H1
              clear H1
              replace H := Option.bind_eq_some_iff.mp H
              obtain ⟨t145, A210, H⟩ := H
              replace H : (if t145 = true then ((span_Name.f kj11 a0_5).bind fun t146 => (some t146)) else (some false)) = some r := H
              have A21 := Aside0.mk A210
              clear A210
              by_cases c22 : t145 = true
              · subst c22
                have H1 : ((span_Name.f kj11 a0_5).bind fun t146 => (some t146)) = some r := by rw [if_pos rfl] at H; exact H
                clear H
                have H := H1
                clear H1
                replace H := Option.bind_eq_some_iff.mp H
                obtain ⟨t146, A230, H⟩ := H
                replace H : (some t146) = some r := H
                have A23 := Aside0.mk A230
                clear A230
                obtain rfl := Option.some.inj H
                have hcz24_0 : wc.cell? ⟨gb144, 0, none⟩ = some (.int .u64 a0_0) := (blk_cell BK144.out 0).trans rfl
                have hcz24_1 : wc.cell? ⟨gb144, 1, none⟩ = some (.int .u64 a0_1) := (blk_cell BK144.out 1).trans rfl
                have hcz24_2 : wc.cell? ⟨gb144, 2, none⟩ = some (.int .u64 a0_2) := (blk_cell BK144.out 2).trans rfl
                have hcz24_3 : wc.cell? ⟨gb144, 3, none⟩ = some (.int .u8 a0_3) := (blk_cell BK144.out 3).trans rfl
                have hcz24_4 : wc.cell? ⟨gb144, 4, none⟩ = some (.string a0_4) := (blk_cell BK144.out 4).trans rfl
                have hcz24_5 : wc.cell? ⟨gb144, 5, none⟩ = some (.string a0_5) := (blk_cell BK144.out 5).trans rfl
                have hcz24_6 : wc.cell? ⟨gb144, 6, none⟩ = some (.int .i64 a0_6) := (blk_cell BK144.out 6).trans rfl
                have hcz24_7 : wc.cell? ⟨gb144, 7, none⟩ = some (.int .i64 a0_7) := (blk_cell BK144.out 7).trans rfl
                have hfz24_0 := blk_frozen BK144.out 0
                have hfz24_1 := blk_frozen BK144.out 1
                have hfz24_2 := blk_frozen BK144.out 2
                have hfz24_3 := blk_frozen BK144.out 3
                have hfz24_4 := blk_frozen BK144.out 4
                have hfz24_5 := blk_frozen BK144.out 5
                have hfz24_6 := blk_frozen BK144.out 6
                have hfz24_7 := blk_frozen BK144.out 7
                go_wp2_with (first | ((with_reducible refine gate_callee (f := 96) rfl ?_); refine goesL_ (some 33) rfl rfl Try.func96 (by kernel_rfl) rfl #[.string a0_4] rfl (by (try simp only [List.map_toArray, List.map_cons, List.map_nil]); first | done | rfl | (simp only [List.length_drop, List.length_take]; rfl)) ?_; (with_reducible refine (span_Name.calls kj11 a0_4 true _ A21.out).mono ?_); rintro e w' ⟨rfl, ⟨nd, rfl⟩⟩; refine ⟨_, rfl, ?_⟩) | (go_at_call 96; (with_reducible refine (span_Name.calls kj11 a0_5 t146 _ A23.out).mono ?_); rintro e w' ⟨rfl, ⟨nd, rfl⟩⟩))
                go_ret
                exact ⟨by first | rfl | (simp [errW_none, errW_some] <;> rfl) | (simp [*, errW_none, errW_some] <;> rfl), by repeat (first | (with_reducible first | exact HB.out | apply below_alloc | apply pw_below_drewN | apply below_drew1 | refine below_set ?_ GE144.out) | exact HB.out)⟩
              · replace c22 := Bool.eq_false_iff.mpr c22
                subst c22
                have H1 : (some false) = some r := by rw [if_neg (show ¬ (false = true) by decide)] at H; exact H
                clear H
                have H := H1
                clear H1
                obtain rfl := Option.some.inj H
                have hcz25_0 : wc.cell? ⟨gb144, 0, none⟩ = some (.int .u64 a0_0) := (blk_cell BK144.out 0).trans rfl
                have hcz25_1 : wc.cell? ⟨gb144, 1, none⟩ = some (.int .u64 a0_1) := (blk_cell BK144.out 1).trans rfl
                have hcz25_2 : wc.cell? ⟨gb144, 2, none⟩ = some (.int .u64 a0_2) := (blk_cell BK144.out 2).trans rfl
                have hcz25_3 : wc.cell? ⟨gb144, 3, none⟩ = some (.int .u8 a0_3) := (blk_cell BK144.out 3).trans rfl
                have hcz25_4 : wc.cell? ⟨gb144, 4, none⟩ = some (.string a0_4) := (blk_cell BK144.out 4).trans rfl
                have hcz25_5 : wc.cell? ⟨gb144, 5, none⟩ = some (.string a0_5) := (blk_cell BK144.out 5).trans rfl
                have hcz25_6 : wc.cell? ⟨gb144, 6, none⟩ = some (.int .i64 a0_6) := (blk_cell BK144.out 6).trans rfl
                have hcz25_7 : wc.cell? ⟨gb144, 7, none⟩ = some (.int .i64 a0_7) := (blk_cell BK144.out 7).trans rfl
                have hfz25_0 := blk_frozen BK144.out 0
                have hfz25_1 := blk_frozen BK144.out 1
                have hfz25_2 := blk_frozen BK144.out 2
                have hfz25_3 := blk_frozen BK144.out 3
                have hfz25_4 := blk_frozen BK144.out 4
                have hfz25_5 := blk_frozen BK144.out 5
                have hfz25_6 := blk_frozen BK144.out 6
                have hfz25_7 := blk_frozen BK144.out 7
                go_wp2_with (first | ((with_reducible refine gate_callee (f := 96) rfl ?_); refine goesL_ (some 33) rfl rfl Try.func96 (by kernel_rfl) rfl #[.string a0_4] rfl (by (try simp only [List.map_toArray, List.map_cons, List.map_nil]); first | done | rfl | (simp only [List.length_drop, List.length_take]; rfl)) ?_; (with_reducible refine (span_Name.calls kj11 a0_4 false _ A21.out).mono ?_); rintro e w' ⟨rfl, ⟨nd, rfl⟩⟩; refine ⟨_, rfl, ?_⟩))
                go_ret
                exact ⟨by first | rfl | (simp [errW_none, errW_some] <;> rfl) | (simp [*, errW_none, errW_some] <;> rfl), by repeat (first | (with_reducible first | exact HB.out | apply below_alloc | apply pw_below_drewN | apply below_drew1 | refine below_set ?_ GE144.out) | exact HB.out)⟩

end Go.Proofs.Ytmfdhcgdibefiaa.Q

/- What layer 1 comes to, as plain Lean: names, which spans may be. -/
namespace Go.Proofs.Ytmfdhcgdibefiaa.L
open Go.RowKit Go.Proofs.Ytmfdhcgdibefiaa.Q Go.Proofs.YtmfdhcgdibefiaaW.PrintWords Go.Proofs.YtmfdhcgdibefiaaW.PrintLast Go.Proofs.YtmfdhcgdibefiaaW.PrintMore Go.Proofs.YtmfdhcgdibefiaaW.Lib
set_option linter.unusedVariables false

def letterB (c : Int) : Bool := (decide (97 ≤ c) && decide (c ≤ 122)) || (decide (48 ≤ c) && decide (c ≤ 57)) || decide (c = 45) || decide (c = 46) || decide (c = 95)
theorem letter_f (c : Int) : span_letter.f c = some (letterB c) := by
  unfold span_letter.f letterB
  repeat' split
  all_goals (rw [Option.some.injEq, Bool.eq_iff_iff]; simp; omega)
def nameB (s : ByteArray) : Bool := decide (1 ≤ s.size) && decide (s.size ≤ 16) && (bytesOf s).all letterB

theorem name_l0 (s : ByteArray) (hs : s.size ≤ 140737488351232) : ∀ (d i : Nat), s.size - i = d → i ≤ s.size → Ev (fun k => span_Name.l0 k s (s.size : Int) (i : Int)) (((bytesOf s).drop i).all letterB)
  | 0, i, hd, hi => by
    refine Ev.step (f := fun _ => some true) (fun k => ?_) (Ev.cast (Ev.now true) ?_)
    · simp only [span_Name.l0]; rw [if_neg (by omega)]
    · rw [List.drop_of_length_le (by rw [bytesOf_size]; omega)]; rfl
  | d + 1, i, hd, hi => by
    have ih := name_l0 s hs d (i + 1) (by omega) (by omega)
    rw [bytesOf_drop s i (by omega), List.all_cons]
    refine Ev.step (f := fun k => if letterB (bt s i) = true then span_Name.l0 k s (s.size : Int) ((i + 1 : Nat) : Int) else some false) (fun k => ?_) ?_
    · simp only [span_Name.l0]
      rw [if_pos (by omega), if_pos (by omega), if_pos (by omega), letter_f]
      simp only [Option.bind_some]
      rw [wrap_id (by omega) (by omega)]; rfl
    · refine Ev.ite (fun h => ?_) (fun h => ?_)
      · rw [h, Bool.true_and]; exact ih
      · rw [Bool.not_eq_true] at h; rw [h, Bool.false_and]; exact Ev.now _

theorem name_ev (s : ByteArray) (hs : s.size ≤ 140737488351232) : Ev (fun k => span_Name.f k s) (nameB s) := by
  unfold span_Name.f nameB
  refine Ev.ite (fun h => ?_) (fun h => ?_)
  · refine Ev.step (f := fun _ => some false) (fun k => by simp [span_Name.j0]) (Ev.cast (Ev.now _) ?_)
    rw [decide_eq_false (by omega : ¬ 1 ≤ s.size)]; rfl
  · refine Ev.step (f := fun k => if decide ((s.size : Int) > 16) = true then some false else span_Name.l0 k s (s.size : Int) 0) (fun k => by simp only [span_Name.j0]) ?_
    refine Ev.ite (fun h2 => ?_) (fun h2 => ?_)
    · have h3 := of_decide_eq_true h2
      refine Ev.cast (Ev.now _) ?_
      rw [decide_eq_false (by omega : ¬ s.size ≤ 16)]; simp
    · have h3 : ¬ ((s.size : Int) > 16) := fun h4 => h2 (decide_eq_true h4)
      have := name_l0 s hs s.size 0 (by omega) (by omega)
      rw [decide_eq_true (by omega : 1 ≤ s.size), decide_eq_true (by omega : s.size ≤ 16)]
      simpa using this

end Go.Proofs.Ytmfdhcgdibefiaa.L
namespace Go.Proofs.Ytmfdhcgdibefiaa.L
open Go.RowKit Go.Proofs.Ytmfdhcgdibefiaa.Q Go.Proofs.YtmfdhcgdibefiaaW.PrintWords Go.Proofs.YtmfdhcgdibefiaaW.PrintLast Go.Proofs.YtmfdhcgdibefiaaW.PrintMore Go.Proofs.YtmfdhcgdibefiaaW.Lib
set_option linter.unusedVariables false

def mayB (t i p k : Int) (h n : ByteArray) (s d : Int) : Bool :=
  !(decide (t = 0) || decide (i = 0) || decide (p = i) || decide (k > 2)) && (!(decide (s < 0) || decide (s ≥ 1125899906842624) || decide (d < 0) || decide (d > 1125899906842624)) && (nameB h && nameB n))

theorem may_j1 (b : Bool) (t i p k : Int) (h n : ByteArray) (s d : Int) (hh : h.size ≤ 140737488351232) (hn : n.size ≤ 140737488351232) :
    Ev (fun m => span_May.j1 m b t i p k h n s d) (!b && (nameB h && nameB n)) := by
  refine Ev.step (f := fun m => if b = true then some false else (span_Name.f m h).bind fun x => if x = true then (span_Name.f m n).bind fun y => some y else some false) (fun m => by simp only [span_May.j1]) ?_
  refine Ev.ite (fun e => ?_) (fun e => ?_)
  · exact Ev.cast (Ev.now _) (by rw [e]; rfl)
  · refine Ev.bind (name_ev h hh) (Ev.ite (fun e1 => ?_) (fun e1 => ?_))
    · refine Ev.cast (Ev.bind (name_ev n hn) (Ev.now _)) ?_
      rw [Bool.not_eq_true] at e; rw [e, e1]; rfl
    · exact Ev.cast (Ev.now _) (by rw [Bool.not_eq_true] at e1; rw [e1]; simp)

theorem may_j0 (b : Bool) (t i p k : Int) (h n : ByteArray) (s d : Int) (hh : h.size ≤ 140737488351232) (hn : n.size ≤ 140737488351232) :
    Ev (fun m => span_May.j0 m b t i p k h n s d) (!b && (!(decide (s < 0) || decide (s ≥ 1125899906842624) || decide (d < 0) || decide (d > 1125899906842624)) && (nameB h && nameB n))) := by
  refine Ev.step (f := fun m => if b = true then some false else if s < 0 then span_May.j1 m (decide (s < 0)) t i p k h n s d else if s ≥ 1125899906842624 then span_May.j1 m (decide (s ≥ 1125899906842624)) t i p k h n s d else if d < 0 then span_May.j1 m (decide (d < 0)) t i p k h n s d else span_May.j1 m (decide (d > 1125899906842624)) t i p k h n s d) (fun m => by simp only [span_May.j0]) ?_
  refine Ev.ite (fun e => Ev.cast (Ev.now _) (by rw [e]; rfl)) (fun e => ?_)
  rw [Bool.not_eq_true] at e
  rw [e]
  refine Ev.ite (fun e1 => Ev.cast (may_j1 _ t i p k h n s d hh hn) (by simp [e1])) (fun e1 => ?_)
  refine Ev.ite (fun e2 => Ev.cast (may_j1 _ t i p k h n s d hh hn) (by simp [e2])) (fun e2 => ?_)
  refine Ev.ite (fun e3 => Ev.cast (may_j1 _ t i p k h n s d hh hn) (by simp [e3])) (fun e3 => ?_)
  exact Ev.cast (may_j1 _ t i p k h n s d hh hn) (by simp [e1, e2, e3])

theorem may_ev (t i p k : Int) (h n : ByteArray) (s d : Int) (hh : h.size ≤ 140737488351232) (hn : n.size ≤ 140737488351232) :
    Ev (fun m => span_May.f m t i p k h n s d) (mayB t i p k h n s d) := by
  unfold span_May.f mayB
  refine Ev.ite (fun e1 => Ev.cast (may_j0 _ t i p k h n s d hh hn) (by simp [e1])) (fun e1 => ?_)
  refine Ev.ite (fun e2 => Ev.cast (may_j0 _ t i p k h n s d hh hn) (by simp [e2])) (fun e2 => ?_)
  refine Ev.ite (fun e3 => Ev.cast (may_j0 _ t i p k h n s d hh hn) (by simp [e3])) (fun e3 => ?_)
  exact Ev.cast (may_j0 _ t i p k h n s d hh hn) (by simp [e1, e2, e3])

theorem mayB_le {t i p k : Int} {h n : ByteArray} {s d : Int} (hm : mayB t i p k h n s d = true) : 0 ≤ s ∧ s < 1125899906842624 ∧ 0 ≤ d ∧ d ≤ 1125899906842624 := by
  simp [mayB] at hm; omega
end Go.Proofs.Ytmfdhcgdibefiaa.L

/- Which spans may be, as one function of a span; the document's too. -/
namespace Go.Proofs.Ytmfdhcgdibefiaa.L
open Go.RowKit Go.Proofs.Ytmfdhcgdibefiaa.Q Go.Proofs.YtmfdhcgdibefiaaW.PrintWords Go.Proofs.YtmfdhcgdibefiaaW.PrintLast Go.Proofs.YtmfdhcgdibefiaaW.PrintMore Go.Proofs.YtmfdhcgdibefiaaW.Lib
set_option linter.unusedVariables false
def mayS (s : S37) : Bool := mayB s.f0 s.f1 s.f2 s.f3 s.f4 s.f5 s.f6 s.f7
def mayA (l : List S37) : Bool := l.all mayS
def fitR (x : S37) : Prop := fitS x ∧ 0 ≤ x.f3
instance : DecidablePred fitR := fun x => by unfold fitR; infer_instance
end Go.Proofs.Ytmfdhcgdibefiaa.L

/- The hosts' tallies, plain: one span more; the map of hosts to tallies as it is read; tallies in the order of their hosts. -/
namespace Go.Proofs.Ytmfdhcgdibefiaa.L
open Go.RowKit Go.Proofs.Ytmfdhcgdibefiaa.Q Go.Proofs.YtmfdhcgdibefiaaW.PrintWords Go.Maps Go.WideMaps
set_option linter.unusedVariables false

/-- A tally: the host, its spans, their durations, the calls made, the calls served. -/
abbrev Tal := S44
def tal0 (h : ByteArray) : Tal := ⟨h, 0, 0, 0, 0⟩
def talStep (t : Tal) (s : S37) : Tal :=
  ⟨s.f4, t.f1 + 1, if t.f2 > 9223372036854775807 - s.f7 then 9223372036854775807 else t.f2 + s.f7, if s.f3 = 1 then t.f3 + 1 else t.f3, if s.f3 = 2 then t.f4 + 1 else t.f4⟩
/-- The tally of a host among some spans. -/
def talOf (g : List S37) (h : ByteArray) : Tal := (g.filter (fun s => decide (s.f4 = h))).foldl talStep (tal0 h)
theorem talOf_snoc (g : List S37) (s : S37) (h : ByteArray) : talOf (g ++ [s]) h = if s.f4 = h then talStep (talOf g h) s else talOf g h := by
  unfold talOf
  rw [List.filter_append]
  by_cases e : s.f4 = h
  · rw [if_pos e, List.filter_cons_of_pos (by simpa using e), List.filter_nil, List.foldl_append]; rfl
  · rw [if_neg e, List.filter_cons_of_neg (by simpa using e), List.filter_nil, List.append_nil]
/-- Within which bounds a tally stands. -/
structure TalIn (k : Int) (t : Tal) : Prop where
  n0 : 0 ≤ t.f1
  n1 : t.f1 ≤ k
  d0 : 0 ≤ t.f2
  d1 : t.f2 ≤ 9223372036854775807
  c0 : 0 ≤ t.f3
  s0 : 0 ≤ t.f4
  cs : t.f3 + t.f4 ≤ t.f1
theorem tal0_in (h : ByteArray) : TalIn 0 (tal0 h) := by constructor <;> simp [tal0]
theorem talStep_in {k : Int} {t : Tal} (ht : TalIn k t) (s : S37) (h : 0 ≤ s.f7) : TalIn (k + 1) (talStep t s) := by
  obtain ⟨h1, h2, h3, h4, h5, h6, h7⟩ := ht
  constructor <;> simp only [talStep] <;> (repeat' split) <;> omega
theorem foldTal_in : ∀ (g : List S37) (k : Int) (t : Tal), TalIn k t → (∀ s ∈ g, 0 ≤ s.f7) → TalIn (k + g.length) (g.foldl talStep t)
  | [], k, t, ht, _ => by simpa using ht
  | s :: g, k, t, ht, h => by
    have := foldTal_in g (k + 1) (talStep t s) (talStep_in ht s (h s (by simp))) (fun x hx => h x (by simp [hx]))
    rw [List.foldl_cons, List.length_cons]
    rw [show k + ((g.length + 1 : Nat) : Int) = k + 1 + g.length by omega]
    exact this
theorem TalIn.mono {k m : Int} {t : Tal} (h : TalIn k t) (hk : k ≤ m) : TalIn m t := { h with n1 := by have := h.n1; omega }
theorem talOf_in (g : List S37) (h : ByteArray) (hd : ∀ s ∈ g, 0 ≤ s.f7) : TalIn g.length (talOf g h) := by
  have := foldTal_in (g.filter (fun s => decide (s.f4 = h))) 0 (tal0 h) (tal0_in h) (fun s hs => hd s (List.mem_filter.1 hs).1)
  refine TalIn.mono this ?_
  have := List.length_filter_le (fun s => decide (s.f4 = h)) g
  omega
theorem foldTal_host {h : ByteArray} : ∀ (g : List S37) (t : Tal), t.f0 = h → (∀ s ∈ g, s.f4 = h) → (g.foldl talStep t).f0 = h
  | [], t, ht, _ => ht
  | s :: g, t, ht, hg => foldTal_host g (talStep t s) (hg s (by simp)) (fun x hx => hg x (by simp [hx]))
theorem talOf_host (g : List S37) (h : ByteArray) : (talOf g h).f0 = h :=
  foldTal_host _ _ rfl (fun s hs => by simpa using (List.mem_filter.1 hs).2)
/-- As the code says it: with the least of two numbers. -/
theorem talStep_min {t : Tal} {s : S37} (h0 : 0 ≤ t.f2) (h1 : t.f2 ≤ 9223372036854775807) (h2 : 0 ≤ s.f7) : (talStep t s).f2 = t.f2 + min s.f7 (9223372036854775807 - t.f2) := by
  simp only [talStep]
  split <;> omega

/-! The map. -/
abbrev hs4 (g : List S37) : List ByteArray := g.map fun s => s.f4
theorem snoc_ind {α : Type} {P : List α → Prop} (h0 : P []) (h1 : ∀ g s, P g → P (g ++ [s])) (l : List α) : P l := by
  have : ∀ r : List α, P r.reverse := by
    intro r
    induction r with
    | nil => exact h0
    | cons a r ih => rw [List.reverse_cons]; exact h1 _ _ ih
  have h := this l.reverse
  rwa [List.reverse_reverse] at h
instance memDec (h : ByteArray) (l : List ByteArray) : Decidable (h ∈ l) := @List.instDecidableMemOfLawfulBEq ByteArray instBEqOfDecidableEq inferInstance h l
theorem nodup_lenT {α : Type} [DecidableEq α] {a : List α} : ∀ {b : List α}, a.Nodup → (∀ x ∈ a, x ∈ b) → a.length ≤ b.length := by
  induction a with
  | nil => intro b _ _; simp
  | cons x a ih =>
    intro b nd h
    have nd' := List.nodup_cons.1 nd
    have hx := h x (by simp)
    have h1 := ih (b := b.erase x) nd'.2 (fun y hy => (List.mem_erase_of_ne (fun e => nd'.1 (by rw [← e]; exact hy))).2 (h y (by simp [hy])))
    rw [List.length_erase_of_mem hx] at h1
    have := List.length_pos_of_mem hx
    rw [List.length_cons]
    omega
def dT (t : Tal) : DataW Unit := .agg [.lit (.string t.f0.data.toList), .lit (.int .i64 t.f1), .lit (.int .i64 t.f2), .lit (.int .i64 t.f3), .lit (.int .i64 t.f4)]
theorem dT_inj {s t : Tal} (h : dT s = dT t) : s = t := by
  cases s; cases t
  simp only [dT, DataW.agg.injEq, List.cons.injEq, DataW.lit.injEq, Lit.int.injEq, Lit.string.injEq, true_and, and_true] at h
  obtain ⟨h0, h1, h2, h3, h4⟩ := h
  rw [key_inj (congrArg Lit.string h0), h1, h2, h3, h4]
def vT (t : Tal) : Value := .agg #[.string t.f0, .int .i64 t.f1, .int .i64 t.f2, .int .i64 t.f3, .int .i64 t.f4]
theorem vT_inj {s t : Tal} (h : vT s = vT t) : s = t := by
  cases s; cases t
  simp only [vT, Value.agg.injEq, Array.mk.injEq, List.cons.injEq, Value.int.injEq, Value.string.injEq, true_and, and_true] at h
  obtain ⟨h0, h1, h2, h3, h4⟩ := h
  rw [h0, h1, h2, h3, h4]
open Classical in
/-- How a tally in a map reads. -/
noncomputable def elemT (v : Value) : Option (DataW Unit × List MemPlace) := if h : ∃ s : Tal, v = vT s then some (dT h.choose, []) else none
theorem elemT_mk (s : Tal) : elemT (vT s) = some (dT s, []) := by
  have h : ∃ t : Tal, vT s = vT t := ⟨s, rfl⟩
  unfold elemT
  rw [dif_pos h, ← vT_inj h.choose_spec]
theorem elemT_some {v : Value} {y : DataW Unit × List MemPlace} (h : elemT v = some y) : ∃ s : Tal, v = vT s ∧ y = (dT s, []) := by
  unfold elemT at h
  split at h
  · rename_i hv
    exact ⟨hv.choose, hv.choose_spec, (Option.some.inj h).symm⟩
  · cases h
theorem elemT_inv {v : Value} {s : Tal} {ps : List MemPlace} (h : elemT v = some (dT s, ps)) : v = vT s := by
  obtain ⟨t, rfl, e⟩ := elemT_some h
  rw [dT_inj (Prod.mk.inj e).1]
/-- The map behind some spans. -/
def mapT (g : List S37) : DataW Unit := (g.foldl (fun (p : DataW Unit × List S37) s => (p.1.put (key s.f4) (dT (talOf (p.2 ++ [s]) s.f4)), p.2 ++ [s])) (.map [], [])).1
theorem mapT_two (g a : List S37) (D : DataW Unit) : (g.foldl (fun (p : DataW Unit × List S37) s => (p.1.put (key s.f4) (dT (talOf (p.2 ++ [s]) s.f4)), p.2 ++ [s])) (D, a)).2 = a ++ g := by
  induction g generalizing a D with
  | nil => simp
  | cons s g ih => rw [List.foldl_cons, ih, List.append_assoc]; rfl
theorem mapT_nil : mapT [] = .map [] := rfl
theorem mapT_snoc (g : List S37) (s : S37) : mapT (g ++ [s]) = (mapT g).put (key s.f4) (dT (talOf (g ++ [s]) s.f4)) := by
  unfold mapT
  rw [List.foldl_append, List.foldl_cons, List.foldl_nil, mapT_two, List.nil_append]
theorem mapT_tidy (g : List S37) : Tidy (mapT g) := by
  refine snoc_ind (P := fun g => Tidy (mapT g)) tidy_empty (fun g s ih => ?_) g
  show Tidy (mapT (g ++ [s]))
  rw [mapT_snoc]
  exact Tidy.put ih (key_is _) _
/-- What the map answers at a host. -/
theorem mapT_at (g : List S37) (h : ByteArray) (z : DataW Unit) : (mapT g).atKey (key h) z = (if h ∈ hs4 g then dT (talOf g h) else z) ∧ (has (mapT g) (key h) = true ↔ h ∈ hs4 g) := by
  refine snoc_ind (P := fun g => (mapT g).atKey (key h) z = (if h ∈ hs4 g then dT (talOf g h) else z) ∧ (has (mapT g) (key h) = true ↔ h ∈ hs4 g)) ?_ ?_ g
  · simp [mapT_nil, has, DataW.atKey]
  · intro g s ih
    show (mapT (g ++ [s])).atKey (key h) z = (if h ∈ hs4 (g ++ [s]) then dT (talOf (g ++ [s]) h) else z) ∧ (has (mapT (g ++ [s])) (key h) = true ↔ h ∈ hs4 (g ++ [s]))
    rw [mapT_snoc, talOf_snoc g s h]
    by_cases e : s.f4 = h
    · subst e
      rw [atKey_put_same (mapT_tidy g).isMap (key_is _), has_put_same (mapT_tidy g).isMap (key_is _), if_pos rfl, talOf_snoc, if_pos rfl]
      simp
    · rw [if_neg e, atKey_put_other (fun h3 => e (key_inj h3).symm), has_put_other (fun h3 => e (key_inj h3).symm), ih.1, ih.2]
      have : h ∈ hs4 (g ++ [s]) ↔ h ∈ hs4 g := by
        simp only [List.map_append, List.mem_append, List.map_cons, List.map_nil, List.mem_singleton]
        exact ⟨fun q => q.elim id (fun q => absurd q.symm e), .inl⟩
      simp only [this, and_self]
/-- The tally that stands there, or that of none: what the code goes on from. -/
def talAt (g : List S37) (h : ByteArray) : Tal := if h ∈ hs4 g then talOf g h else tal0 ByteArray.empty
theorem mapT_get (g : List S37) (h : ByteArray) : (mapT g).atKey (key h) (dT (tal0 ByteArray.empty)) = dT (talAt g h) := by
  rw [(mapT_at g h _).1]
  unfold talAt
  split <;> rfl
theorem talOf_none {g : List S37} {h : ByteArray} (hn : h ∉ hs4 g) : talOf g h = tal0 h := by
  unfold talOf
  rw [List.filter_eq_nil_iff.2]
  · rfl
  · intro s hs he
    exact hn (List.mem_map.2 ⟨s, hs, of_decide_eq_true he⟩)
theorem talAt_rest (g : List S37) (h : ByteArray) : (talAt g h).f1 = (talOf g h).f1 ∧ (talAt g h).f2 = (talOf g h).f2 ∧ (talAt g h).f3 = (talOf g h).f3 ∧ (talAt g h).f4 = (talOf g h).f4 := by
  unfold talAt
  by_cases e : h ∈ hs4 g
  · rw [if_pos e]; exact ⟨rfl, rfl, rfl, rfl⟩
  · rw [if_neg e, talOf_none e]; exact ⟨rfl, rfl, rfl, rfl⟩
theorem talAt_step (g : List S37) (s : S37) : talOf (g ++ [s]) s.f4 = talStep (talAt g s.f4) s := by
  obtain ⟨h1, h2, h3, h4⟩ := talAt_rest g s.f4
  rw [talOf_snoc, if_pos rfl]
  unfold talStep
  rw [h1, h2, h3, h4]
theorem talAt_in (g : List S37) (h : ByteArray) (hd : ∀ s ∈ g, 0 ≤ s.f7) : TalIn g.length (talAt g h) := by
  obtain ⟨h1, h2, h3, h4⟩ := talAt_rest g h
  obtain ⟨q1, q2, q3, q4, q5, q6, q7⟩ := talOf_in g h hd
  constructor <;> omega

/-! The spans that may be; the tallies. -/
def goodL (l : List S37) : List S37 := l.filter mayS
def talsL (l : List S37) : List Tal := (hostsB (goodL l)).map (talOf (goodL l))
theorem goodL_next (l : List S37) (x : Int) (h0 : 0 ≤ x) (h1 : x < l.length) : goodL (l.take (x + 1).toNat) = if mayS (rd_T37 l x) = true then goodL (l.take x.toNat) ++ [rd_T37 l x] else goodL (l.take x.toNat) := by
  have hlt : x.toNat < l.length := by omega
  have e : rd_T37 l x = l[x.toNat] := by simp [rd_T37, List.getD, hlt]
  rw [show (x + 1).toNat = x.toNat + 1 by omega, List.take_succ_eq_append_getElem hlt, e]
  unfold goodL
  rw [List.filter_append]
  by_cases h : mayS l[x.toNat] = true
  · rw [if_pos h, List.filter_cons_of_pos h, List.filter_nil]
  · rw [if_neg h, List.filter_cons_of_neg h, List.filter_nil, List.append_nil]
theorem goodL_length (l : List S37) : (goodL l).length ≤ l.length := List.length_filter_le _ _
theorem goodL_mem {l : List S37} {s : S37} (h : s ∈ goodL l) : s ∈ l ∧ mayS s = true := List.mem_filter.1 h
theorem goodL_dur {l : List S37} : ∀ s ∈ goodL l, 0 ≤ s.f7 := fun s hs => (mayB_le (goodL_mem hs).2).2.2.1
/-- What has been laid out while the keys of 'left' are still to come: each tally of the rest, once. -/
structure Laid (g : List S37) (left : Lit → Bool) (out : List Tal) : Prop where
  one : (out.map (·.f0)).Nodup
  is : ∀ t ∈ out, t = talOf g t.f0 ∧ t.f0 ∈ hs4 g ∧ left (key t.f0) = false
  all : ∀ h ∈ hs4 g, left (key h) = false → ∃ t ∈ out, t.f0 = h
theorem laid_start (g : List S37) : Laid g (has (mapT g)) [] := by
  refine ⟨by simp, by simp, fun h hh hf => ?_⟩
  have := (mapT_at g h .nil).2.2 hh
  rw [hf] at this
  cases this
theorem keyEq (a b : ByteArray) : (key a).sameKey (key b) = decide (a = b) := by
  by_cases h : a = b
  · subst h
    rw [decide_eq_true rfl]; exact WideAt.sameKey_self (key_is a)
  · rw [decide_eq_false h]
    exact sameKey_ne (fun e => h (key_inj e))
theorem laid_step {g : List S37} {left : Lit → Bool} {out : List Tal} (H : Laid g left out) {h : ByteArray} (hh : h ∈ hs4 g) (hl : left (key h) = true) : Laid g (fun z => left z && !z.sameKey (key h)) (out ++ [talOf g h]) := by
  obtain ⟨h1, h2, h3⟩ := H
  refine ⟨?_, ?_, ?_⟩
  · rw [List.map_append, List.nodup_append]
    refine ⟨h1, by simp, fun a ha b hb e => ?_⟩
    obtain ⟨t, ht, rfl⟩ := List.mem_map.1 ha
    simp only [List.map_cons, List.map_nil, List.mem_singleton, talOf_host] at hb
    subst hb
    have := (h2 t ht).2.2
    rw [e, hl] at this
    cases this
  · intro t ht
    rcases List.mem_append.1 ht with ht | ht
    · obtain ⟨q1, q2, q3⟩ := h2 t ht
      exact ⟨q1, q2, by simp [q3]⟩
    · rw [List.mem_singleton] at ht
      subst ht
      rw [talOf_host]
      exact ⟨rfl, hh, by rw [keyEq]; simp⟩
  · intro a ha hf
    rw [keyEq] at hf
    by_cases e : a = h
    · exact ⟨talOf g h, by simp, by rw [talOf_host, e]⟩
    · rw [decide_eq_false e] at hf
      obtain ⟨t, ht, q⟩ := h3 a ha (by simpa using hf)
      exact ⟨t, by simp [ht], q⟩
theorem laid_length {g : List S37} {left : Lit → Bool} {out : List Tal} (H : Laid g left out) : out.length ≤ g.length := by
  have h1 := nodup_lenT (b := hs4 g) H.one (fun h hh => by
    obtain ⟨t, ht, rfl⟩ := List.mem_map.1 hh
    exact (H.is t ht).2.1)
  simpa using h1
/-- Laid out whole, and put into the order of hosts: the tallies. -/
theorem laid_end {g : List S37} {left : Lit → Bool} {out m : List Tal} (H : Laid g left out) (h0 : ∀ kl, left kl = false) (hp : m.Perm out) (hs : m.Pairwise fun a b => cmpB a.f0 b.f0 ≤ 0) : m = (hostsB g).map (talOf g) := by
  have hm : ∀ t ∈ m, t = talOf g t.f0 := fun t ht => (H.is t (hp.mem_iff.1 ht)).1
  have e1 : m = (m.map (·.f0)).map (talOf g) := by
    rw [List.map_map]
    conv => lhs; rw [← List.map_id m]
    exact List.map_congr_left (fun t ht => hm t ht)
  have nd : (m.map (·.f0)).Nodup := (hp.map _).nodup_iff.2 H.one
  have hr : Rise cmpB (m.map (·.f0)) := by
    unfold Rise
    rw [List.pairwise_map]
    have nd' := List.pairwise_map.1 nd
    refine (hs.and nd').imp (fun {a b} q => ?_)
    have h3 : cmpB a.f0 b.f0 ≠ 0 := fun e => q.2 ((cmpB_is.zero _ _).1 e)
    have := q.1
    omega
  rw [e1, hr.one cmpB_is (hostsB_rise g) (fun h => ?_)]
  rw [hostsB_mem, List.mem_map]
  constructor
  · rintro ⟨t, ht, rfl⟩
    obtain ⟨x, hx, e⟩ := List.mem_map.1 (H.is t (hp.mem_iff.1 ht)).2.1
    exact ⟨x, hx, e⟩
  · rintro ⟨x, hx, rfl⟩
    obtain ⟨t, ht, e⟩ := H.all x.f4 (List.mem_map.2 ⟨x, hx, rfl⟩) (h0 _)
    exact ⟨t, hp.mem_iff.2 ht, e⟩
end Go.Proofs.Ytmfdhcgdibefiaa.L

/- Contracts of the library at this translation: for each the table of numbers, and that the bodies are those that the contract was proved of. -/
namespace Go.Proofs
open Go.Shelf
def Try.sortCov_ren : Go.Shelf.Ren := ⟨fun | 6 => 37 | 15 => 91 | 14 => 90 | 28 => 141 | 29 => 142 | 20 => 133 | 21 => 134 | 22 => 135 | 23 => 136 | 24 => 137 | 25 => 138 | 26 => 139 | 27 => 140 | 46 => 168 | 47 => 169 | 48 => 170 | 49 => 171 | 50 => 172 | 57 => 181 | n => n, fun | 22 => 22 | 24 => 26 | 25 => 78 | 3 => 3 | 39 => 151 | 0 => 0 | 53 => 198 | 55 => 24 | 4 => 4 | 46 => 192 | 45 => 191 | 50 => 169 | 5 => 5 | 9 => 9 | 66 => 220 | 70 => 224 | 76 => 231 | 77 => 232 | n => n, fun | n => n⟩
theorem Try.sortCov : Go.Proofs.SlLaysF0.n6 Try.prog Try.sortCov_ren := {
  mixed := by kernel_rfl
  f6 := ⟨Try.f37.name, by decide, Try.func37.trans (congrArg some (by kernel_rfl))⟩
  f14 := ⟨Try.f90.name, by decide, Try.func90.trans (congrArg some (by kernel_rfl))⟩
  f15 := Try.func91.trans (congrArg some (by kernel_rfl))
  f20 := ⟨Try.f133.name, by decide, Try.func133.trans (congrArg some (by kernel_rfl))⟩
  f21 := ⟨Try.f134.name, by decide, Try.func134.trans (congrArg some (by kernel_rfl))⟩
  f22 := ⟨Try.f135.name, by decide, Try.func135.trans (congrArg some (by kernel_rfl))⟩
  f23 := ⟨Try.f136.name, by decide, Try.func136.trans (congrArg some (by kernel_rfl))⟩
  f24 := ⟨Try.f137.name, by decide, Try.func137.trans (congrArg some (by kernel_rfl))⟩
  f25 := ⟨Try.f138.name, by decide, Try.func138.trans (congrArg some (by kernel_rfl))⟩
  f26 := ⟨Try.f139.name, by decide, Try.func139.trans (congrArg some (by kernel_rfl))⟩
  f27 := ⟨Try.f140.name, by decide, Try.func140.trans (congrArg some (by kernel_rfl))⟩
  f28 := Try.func141.trans (congrArg some (by kernel_rfl))
  f29 := Try.func142.trans (congrArg some (by kernel_rfl))
  f46 := ⟨Try.f168.name, by decide, Try.func168.trans (congrArg some (by kernel_rfl))⟩
  f47 := Try.func169.trans (congrArg some (by kernel_rfl))
  f48 := Try.func170.trans (congrArg some (by kernel_rfl))
  f49 := ⟨Try.f171.name, by decide, Try.func171.trans (congrArg some (by kernel_rfl))⟩
  f50 := ⟨Try.f172.name, by decide, Try.func172.trans (congrArg some (by kernel_rfl))⟩
  f57 := ⟨Try.f181.name, by decide, Try.func181.trans (congrArg some (by kernel_rfl))⟩
  t0 := Try.underlying0
  a0 := Try.isAgg0
  z0 := Try.sizeOf0
  v0 := Try.zeroValue0
  t3 := Try.underlying3
  a3 := Try.isAgg3
  z3 := Try.sizeOf3
  v3 := Try.zeroValue3
  t4 := Try.underlying4
  a4 := Try.isAgg4
  z4 := Try.sizeOf4
  v4 := Try.zeroValue4
  t5 := Try.underlying5
  a5 := Try.isAgg5
  z5 := Try.sizeOf5
  v5 := Try.zeroValue5
  t9 := Try.underlying9
  a9 := Try.isAgg9
  z9 := Try.sizeOf9
  v9 := Try.zeroValue9
  t22 := Try.underlying22
  a22 := Try.isAgg22
  z22 := Try.sizeOf22
  v22 := Try.zeroValue22
  t25 := Try.underlying78
  a25 := Try.isAgg78
  z25 := Try.sizeOf78
  v25 := Try.zeroValue78
  t39 := Try.underlying151
  a39 := Try.isAgg151
  z39 := Try.sizeOf151
  v39 := Try.zeroValue151
  t45 := Try.underlying191
  a45 := Try.isAgg191
  z45 := Try.sizeOf191
  v45 := Try.zeroValue191
  t46 := Try.underlying192
  a46 := Try.isAgg192
  z46 := Try.sizeOf192
  v46 := Try.zeroValue192
  t50 := Try.underlying169
  a50 := Try.isAgg169
  z50 := Try.sizeOf169
  v50 := Try.zeroValue169
  t53 := Try.underlying198
  a53 := Try.isAgg198
  z53 := Try.sizeOf198
  v53 := Try.zeroValue198
  t55 := Try.underlying24
  a55 := Try.isAgg24
  z55 := Try.sizeOf24
  v55 := Try.zeroValue24
  t66 := Try.underlying220
  a66 := Try.isAgg220
  z66 := Try.sizeOf220
  v66 := Try.zeroValue220
  t70 := Try.underlying224
  a70 := Try.isAgg224
  z70 := Try.sizeOf224
  v70 := Try.zeroValue224
  t76 := Try.underlying231
  a76 := Try.isAgg231
  z76 := Try.sizeOf231
  v76 := Try.zeroValue231
  t77 := Try.underlying232
  a77 := Try.isAgg232
  z77 := Try.sizeOf232
  v77 := Try.zeroValue232 }
def Try.sortTal_ren : Go.Shelf.Ren := ⟨fun | 6 => 47 | 15 => 91 | 14 => 99 | 28 => 141 | 29 => 142 | 20 => 144 | 21 => 145 | 22 => 146 | 23 => 147 | 24 => 148 | 25 => 149 | 26 => 150 | 27 => 151 | 46 => 173 | 47 => 169 | 48 => 170 | 49 => 174 | 50 => 175 | 57 => 182 | n => n, fun | 22 => 41 | 24 => 44 | 25 => 87 | 3 => 3 | 39 => 151 | 0 => 0 | 53 => 198 | 55 => 24 | 4 => 4 | 46 => 192 | 45 => 191 | 50 => 169 | 5 => 5 | 9 => 9 | 66 => 220 | 70 => 224 | 76 => 231 | 77 => 232 | n => n, fun | n => n⟩
theorem Try.sortTal : Go.Proofs.SlLaysF0.n6 Try.prog Try.sortTal_ren := {
  mixed := by kernel_rfl
  f6 := ⟨Try.f47.name, by decide, Try.func47.trans (congrArg some (by kernel_rfl))⟩
  f14 := ⟨Try.f99.name, by decide, Try.func99.trans (congrArg some (by kernel_rfl))⟩
  f15 := Try.func91.trans (congrArg some (by kernel_rfl))
  f20 := ⟨Try.f144.name, by decide, Try.func144.trans (congrArg some (by kernel_rfl))⟩
  f21 := ⟨Try.f145.name, by decide, Try.func145.trans (congrArg some (by kernel_rfl))⟩
  f22 := ⟨Try.f146.name, by decide, Try.func146.trans (congrArg some (by kernel_rfl))⟩
  f23 := ⟨Try.f147.name, by decide, Try.func147.trans (congrArg some (by kernel_rfl))⟩
  f24 := ⟨Try.f148.name, by decide, Try.func148.trans (congrArg some (by kernel_rfl))⟩
  f25 := ⟨Try.f149.name, by decide, Try.func149.trans (congrArg some (by kernel_rfl))⟩
  f26 := ⟨Try.f150.name, by decide, Try.func150.trans (congrArg some (by kernel_rfl))⟩
  f27 := ⟨Try.f151.name, by decide, Try.func151.trans (congrArg some (by kernel_rfl))⟩
  f28 := Try.func141.trans (congrArg some (by kernel_rfl))
  f29 := Try.func142.trans (congrArg some (by kernel_rfl))
  f46 := ⟨Try.f173.name, by decide, Try.func173.trans (congrArg some (by kernel_rfl))⟩
  f47 := Try.func169.trans (congrArg some (by kernel_rfl))
  f48 := Try.func170.trans (congrArg some (by kernel_rfl))
  f49 := ⟨Try.f174.name, by decide, Try.func174.trans (congrArg some (by kernel_rfl))⟩
  f50 := ⟨Try.f175.name, by decide, Try.func175.trans (congrArg some (by kernel_rfl))⟩
  f57 := ⟨Try.f182.name, by decide, Try.func182.trans (congrArg some (by kernel_rfl))⟩
  t0 := Try.underlying0
  a0 := Try.isAgg0
  z0 := Try.sizeOf0
  v0 := Try.zeroValue0
  t3 := Try.underlying3
  a3 := Try.isAgg3
  z3 := Try.sizeOf3
  v3 := Try.zeroValue3
  t4 := Try.underlying4
  a4 := Try.isAgg4
  z4 := Try.sizeOf4
  v4 := Try.zeroValue4
  t5 := Try.underlying5
  a5 := Try.isAgg5
  z5 := Try.sizeOf5
  v5 := Try.zeroValue5
  t9 := Try.underlying9
  a9 := Try.isAgg9
  z9 := Try.sizeOf9
  v9 := Try.zeroValue9
  t22 := Try.underlying41
  a22 := Try.isAgg41
  z22 := Try.sizeOf41
  v22 := Try.zeroValue41
  t25 := Try.underlying87
  a25 := Try.isAgg87
  z25 := Try.sizeOf87
  v25 := Try.zeroValue87
  t39 := Try.underlying151
  a39 := Try.isAgg151
  z39 := Try.sizeOf151
  v39 := Try.zeroValue151
  t45 := Try.underlying191
  a45 := Try.isAgg191
  z45 := Try.sizeOf191
  v45 := Try.zeroValue191
  t46 := Try.underlying192
  a46 := Try.isAgg192
  z46 := Try.sizeOf192
  v46 := Try.zeroValue192
  t50 := Try.underlying169
  a50 := Try.isAgg169
  z50 := Try.sizeOf169
  v50 := Try.zeroValue169
  t53 := Try.underlying198
  a53 := Try.isAgg198
  z53 := Try.sizeOf198
  v53 := Try.zeroValue198
  t55 := Try.underlying24
  a55 := Try.isAgg24
  z55 := Try.sizeOf24
  v55 := Try.zeroValue24
  t66 := Try.underlying220
  a66 := Try.isAgg220
  z66 := Try.sizeOf220
  v66 := Try.zeroValue220
  t70 := Try.underlying224
  a70 := Try.isAgg224
  z70 := Try.sizeOf224
  v70 := Try.zeroValue224
  t76 := Try.underlying231
  a76 := Try.isAgg231
  z76 := Try.sizeOf231
  v76 := Try.zeroValue231
  t77 := Try.underlying232
  a77 := Try.isAgg232
  z77 := Try.sizeOf232
  v77 := Try.zeroValue232 }
end Go.Proofs

/- stats.Of's sort: tallies in the order of their hosts. -/
namespace Go.Proofs.Ytmfdhcgdibefiaa.L
open Go.RowKit Go.Proofs.Ytmfdhcgdibefiaa.Q Go.Proofs.YtmfdhcgdibefiaaW.PrintWords Go.Proofs.YtmfdhcgdibefiaaW.PrintLast Go.Proofs.YtmfdhcgdibefiaaW.PrintMore Go.Proofs.YtmfdhcgdibefiaaW.Lib Go.Proofs.YtmfdhcgdibefiaaW.RowB Go.Sort Go.Lib
set_option linter.unusedVariables false

set_option maxHeartbeats 1000000 in
set_option maxRecDepth 100000 in
theorem compareT_calls (a b : ByteArray) (w : World) : Calls Try.prog 49 #[.string a, .string b] w fun e w' => e = .returned (.int .i64 (cmpB a b)) ∧ w' = w := by
  have hb : Calls Try.prog 100 #[.string a, .string b] w fun e w' => e = .returned (.int .i64 (cmpB a b)) ∧ w' = w := by
    unfold cmpB
    go_enter Try.func100, Try.ntmps100
    go_wp2
    rw [run_callFunc_extern Try.func152 (by kernel_rfl) (by kernel_rfl) (by kernel_rfl) (e := Extern.BytealgCompare.compare) (by kernel_rfl), Go.Lib.run_compareString]
    simp only [Result.andThen]
    rw [Oper.upon_value]
    go_wp2
    go_ret
    exact ⟨rfl, rfl⟩
  go_enter Try.func49, Try.ntmps49
  go_wp2_with (go_at_call 100; refine hb.mono ?_; rintro e w' ⟨rfl, rfl⟩)
  go_ret
  exact ⟨rfl, rfl⟩
/-- How tallies stand in order. -/
def cmpT (x y : Tal) : Int := cmpB x.f0 y.f0
set_option maxRecDepth 100000 in
set_option maxHeartbeats 4000000 in
theorem cmpT_grow (a b : Tal) (W : World) :
    Calls Try.prog 48 #[.agg #[.string a.f0, .int .i64 a.f1, .int .i64 a.f2, .int .i64 a.f3, .int .i64 a.f4], .agg #[.string b.f0, .int .i64 b.f1, .int .i64 b.f2, .int .i64 b.f3, .int .i64 b.f4]] W
      fun e w' => e = .returned (.int .i64 (cmpT a b)) ∧ ∃ q os', w' = Go.Sort.grow (W.drewN q) os' := by
  obtain ⟨a0, a1, a2, a3, a4⟩ := a
  obtain ⟨b0, b1, b2, b3, b4⟩ := b
  go_enter Try.func48, Try.ntmps48
  go_wp2_with (go_at_call 49; refine (compareT_calls _ _ _).mono ?_; rintro e w1 ⟨rfl, rfl⟩)
  go_ret
  obtain ⟨os, ho⟩ : ∃ os, (W.alloc (.cells #[.string a0, .int .i64 a1, .int .i64 a2, .int .i64 a3, .int .i64 a4] 44)).alloc (.cells #[.string b0, .int .i64 b1, .int .i64 b2, .int .i64 b3, .int .i64 b4] 44) = Go.Sort.grow W os := ⟨_, by rw [Go.Sort.alloc_eq_grow, Go.Sort.alloc_eq_grow, Go.Sort.grow_grow]⟩
  exact ⟨rfl, 0, os, ho⟩

def encT (x : Tal) : List Value := [.string x.f0, .int .i64 x.f1, .int .i64 x.f2, .int .i64 x.f3, .int .i64 x.f4]
theorem ltT (x y : Tal) : ltOf cmpT x y = decide (cmpB x.f0 y.f0 < 0) := rfl
theorem swoT : SWO (ltOf cmpT) := by
  refine ⟨fun x => ?_, fun x y z h1 h2 => ?_, fun x y z h1 h2 => ?_⟩
  · have := (cmpB_is.zero x.f0 x.f0).2 rfl
    simp [ltT, this]
  · simp only [ltT, decide_eq_true_eq] at *
    have t := cmpB_is.trans x.f0 y.f0 z.f0 (by omega) (by omega)
    rcases Int.lt_or_eq_of_le t with h | h
    · exact h
    · have e := (cmpB_is.zero x.f0 z.f0).1 h
      have := cmpB_is.anti x.f0 y.f0
      rw [← e] at h2
      omega
  · simp only [ltT, decide_eq_false_iff_not, Int.not_lt] at *
    have a1 := cmpB_is.anti x.f0 y.f0
    have a2 := cmpB_is.anti y.f0 z.f0
    have a3 := cmpB_is.anti x.f0 z.f0
    have t := cmpB_is.trans z.f0 y.f0 x.f0 (by omega) (by omega)
    omega
instance : Inhabited Tal := ⟨tal0 ByteArray.empty⟩
theorem cmpT_lays (blk off size : Nat) (w : World) : CmpLays Try.prog 48 #[] encT 5 cmpT blk off size w := fun _ _ _ _ x y => cmpT_grow x y _
theorem sorted_tals {l : List Tal} {d' : Array Tal} (hp : PermIn 0 l.toArray.size l.toArray d') (hs : SortedIn (ltOf cmpT) 0 l.toArray.size d') : d'.toList.Perm l ∧ d'.toList.Pairwise (fun a b => cmpB a.f0 b.f0 ≤ 0) := by
  obtain ⟨h1, _, h3⟩ := hp
  have e1 : d'.extract 0 l.toArray.size = d' := by rw [← h1]; exact Array.extract_size
  have e2 : l.toArray.extract 0 l.toArray.size = l.toArray := Array.extract_size
  rw [e1, e2] at h3
  refine ⟨h3, List.pairwise_iff_getElem.2 ?_⟩
  intro i j hi hj hij
  have h := hs i j (Nat.zero_le _) hij (by rw [← h1]; simpa using hj)
  rw [ltT, decide_eq_false_iff_not] at h
  rw [getElem!_pos d' j (by simpa using hj), getElem!_pos d' i (by simpa using hi)] at h
  have := cmpB_is.anti d'[i].f0 d'[j].f0
  simp only [Array.getElem_toList]
  omega
set_option maxHeartbeats 1000000 in
theorem sortT_calls (l : List Tal) (hl : l.length ≤ 1759218604441) (B : Nat) (v : Value) (w : World) (hR : Kd.R k44 44 w B (fun _ => True) v l) (hBs : B ≤ w.heap.size) :
    Calls Try.prog 47 #[v, .func (.func 48) #[] #[]] w fun e w' => e = .returned (.tuple #[]) ∧ ∃ l', l'.Perm l ∧ l'.Pairwise (fun a b => cmpB a.f0 b.f0 ≤ 0) ∧ Kd.R k44 44 w' B (fun _ => True) v l' ∧ Below B w w' := by
  obtain ⟨hok, inner, how, hre⟩ := hR
  have hre' : Reps (fun x c => c = encT x) 5 l inner := hre.imp_ (fun x c h => k44_openM h)
  by_cases h0 : l = []
  · subst h0
    have hv : ∃ p cap, v = .slice p 0 cap := by
      rcases how.2 with ⟨h, _⟩ | ⟨g, cap, cur, h, _⟩
      · exact ⟨none, 0, h⟩
      · exact ⟨_, cap, h⟩
    obtain ⟨p, cap, rfl⟩ := hv
    refine (AnyF.slices_SortFunc_none Try.sortTal p cap (.func (.func 48) #[] #[]) w).mono ?_
    rintro e w' ⟨rfl, rfl⟩
    exact ⟨rfl, [], List.Perm.refl _, List.Pairwise.nil, ⟨hok, inner, how, hre⟩, Below.refl _ _⟩
  · have hpos : 0 < l.length := by
      rcases Nat.eq_zero_or_pos l.length with h | h
      · exact absurd (List.length_eq_zero_iff.1 h) h0
      · exact h
    rcases how.2 with ⟨_, h⟩ | ⟨g, cap, cur, rfl, hg, hh, hcap, hcm, hcs, htake⟩
    · omega
    have hH : HoldsK encT 5 w g 0 l.toArray := holdsK_of (enc := encT) (k := 5) (l := l) (fun _ => rfl) hh htake hre'
    have hlt : g < w.heap.size := (Array.getElem?_eq_some_iff.1 hh).1
    have eg : ∀ args w, (callFunc 48 args).run Try.prog w = .ok (.enter 48 args) w := enters_of Try.func48 (by kernel_rfl) rfl
    have hcon := AnyQ.slices_SortFunc Try.sortTal 5 Try.isAgg44 Try.sizeOf44 encT (fun _ => rfl) (fun x v hv => by simp [encT] at hv; rcases hv with rfl | rfl | rfl | rfl | rfl <;> rfl) cmpT swoT 48 #[] g 0 cap l.toArray w eg (cmpT_lays g 0 l.toArray.size w) hH hlt (by simp; omega)
    have hcon2 : Calls Try.prog 47 #[.slice (some ⟨g, 0, none⟩) l.length cap, .func (.func 48) #[] #[]] w _ := hcon
    refine hcon2.mono ?_
    rintro e w' ⟨rfl, d', n, os, hp, hs, rfl⟩
    obtain ⟨q1, q2⟩ := sorted_tals hp hs
    have hds : d'.size = l.length := by have := hp.1; simpa using this
    obtain ⟨inner', how', hre2⟩ := own_sorted (n := n) (os := os) (d := d') (base := B) (enc := encT) (fun _ => rfl) hg hh (by rw [hds]; exact hcap) hcm hcs
    rw [hds] at how'
    refine ⟨rfl, d'.toList, q1, q2, ⟨fun _ _ => trivial, inner', by rw [show d'.toList.length = l.length by simpa using hds]; exact how', ?_⟩, below_sorted hg hBs⟩
    exact hre2.imp_ (fun x c h => by rw [h]; exact k44_mkM _ _ _ x)
end Go.Proofs.Ytmfdhcgdibefiaa.L

/- stats.Of: the hosts' tallies. -/
namespace Go.Proofs.Ytmfdhcgdibefiaa.L
open Go.RowKit Go.Proofs.Ytmfdhcgdibefiaa.Q Go.Proofs.YtmfdhcgdibefiaaW.PrintWords Go.Proofs.YtmfdhcgdibefiaaW.PrintLast Go.Proofs.YtmfdhcgdibefiaaW.PrintMore Go.Proofs.YtmfdhcgdibefiaaW.MapB Go.Proofs.YtmfdhcgdibefiaaW.Lib Go.Maps Go.WideMaps
set_option linter.unusedVariables false
set_option linter.unusedSimpArgs false

theorem new_blockT (w : World) (cs : Array Value) (t : TypeId) : (w.alloc (.cells cs t)).heap[w.heap.size]? = some (.cells cs t (0, 0)) := (MapKept.heap_alloc w _).1
theorem lawStrT : Keyed Try.prog 9 := string_keyed Try.underlying9
theorem rdT_mem {l : List S37} {x : Int} (h0 : 0 ≤ x) (h1 : x < l.length) : rd_T37 l x ∈ l := by
  have hlt : x.toNat < l.length := by omega
  have e : rd_T37 l x = l[x.toNat] := by simp [rd_T37, List.getD, hlt]
  rw [e]
  exact List.getElem_mem _
theorem mayT_calls (s : S37) (h : fitS s) (w : World) : Calls Try.prog 43 #[.agg #[.int .u64 s.f0, .int .u64 s.f1, .int .u64 s.f2, .int .u8 s.f3, .string s.f4, .string s.f5, .int .i64 s.f6, .int .i64 s.f7]] w fun e w' => e = .returned (.bool (mayS s)) ∧ Below w.heap.size w w' := by
  obtain ⟨k, hk⟩ := Ev.rounds (may_ev s.f0 s.f1 s.f2 s.f3 s.f4 s.f5 s.f6 s.f7 h.2.1 h.2.2)
  exact span_May.calls k _ _ _ _ _ _ _ _ _ w hk
theorem zeroTal (w : World) : (zeroValue 44).run Try.prog w = .ok (vT (tal0 ⟨#[]⟩)) w := by kernel_rfl
theorem row_iterT {H : Type} {α : Type} {d : Kd α} {t : Nat} {base : Nat} {P : Program} {k : TypeId} {R : Value → Option (DataW H × List MemPlace)} {w w1 : World} {b r n : Nat} {D : DataW H} {left : Lit → Bool} {cnt : Nat} {v : Value} {xs : List α}
    (hrg : w.ranges P k R b r n D left cnt) (hr : d.R t w base (fun _ => True) v xs) (hg : w.grownBy w1 (some r)) : d.R t w1 base (fun _ => True) v xs := by
  obtain ⟨_, _, _, _, _, _, _, _, _, hit, _⟩ := hrg
  refine Kd.R_mono (Kd.R_move (Kd.R_bound hr) (fun i hi => hg.block i hi.2.2.1 (fun e => ?_))) (fun _ _ => trivial)
  obtain ⟨_, _, _, q, _, cells, hc⟩ := hi
  obtain rfl : i = r := Option.some.inj e
  rw [hit] at hc
  cases hc
theorem range_rowT {H : Type} {α : Type} {d : Kd α} {t : Nat} {base : Nat} {ok : Nat → Prop} {P : Program} {k : TypeId} {R : Value → Option (DataW H × List MemPlace)} {w w1 : World} {b r n : Nat} {D : DataW H} {left : Lit → Bool} {cnt : Nat} {v : Value} {xs : List α}
    (hrg : w.ranges P k R b r n D left cnt) (hr : d.R t w base ok v xs) (hg : w.grownBy w1 v.ownBlock) : w1.ranges P k R b r n D left cnt := by
  have h1 := hrg
  obtain ⟨es, clock, _, _, _, hb, _, _, _, hit, _⟩ := h1
  obtain ⟨_, inner, ho, _⟩ := hr
  refine hrg.kept hg (map_ne_row hrg.owns ho) (fun e => ?_)
  obtain ⟨cells, hc⟩ := own_typed ho r e.symm
  rw [hit] at hc
  cases hc
/-- 'm[k]' at tallies, where it is known what stands there. -/
theorem lookup_tal {ops : Array Oper} {rest : List Oper} {o : Oper} {a : Act} {Q : Exit → Act → World → Prop} (w : World) (hg : o.guard = none) (m x : Operand) (t : TypeId) (hop : o.op = Op.lookup t m x false) (k : TypeId) (K : Keyed Try.prog k)
    (ht : Try.prog.underlying t = some (.map k 44)) (b n : Nat) (D : DataW Unit) (hm : a.eval m = .map (some b)) (hown : w.ownsMap Try.prog k elemT b n D) (key : Value) (kl : Lit) (hx : a.eval x = key) (hkey : keyOf Try.prog k key = some kl)
    (y : Tal) (hy : D.atKey kl (dT (tal0 ⟨#[]⟩)) = dT y)
    (hK : wpList Try.prog ops Q rest (a.put o.dst (vT y)) w) : wpList Try.prog ops Q (o :: rest) a w := by
  refine wpList_plain hg fun K' hK' => ?_
  obtain ⟨v, ps, hrun, hv⟩ := hown.lookup K ht (zeroTal w) (elemT_mk _) hkey
  rw [hy] at hv
  obtain rfl := elemT_inv hv
  unfold Oper.wp
  simp [execOp, hop, hm, hx, hrun, Result.andThen]
  exact hK' _ _ hK
set_option maxHeartbeats 8000000 in
set_option maxRecDepth 100000 in
theorem tals_calls (l0 : List S37) (hl : l0.length ≤ 1759218604441) (hf : ∀ x ∈ l0, fitS x) (A0 : Option Addr) (c0 : Nat) (w : World) (hr0 : Kd.C k37 w A0 l0.length l0) (hc0 : l0.length ≤ c0) :
    Calls Try.prog 21 #[.slice A0 l0.length c0] w fun e w' => ∃ v : Value, e = .returned v ∧ Kd.R k44 44 w' w.heap.size (fun _ => True) v (talsL l0) ∧ Below w.heap.size w w' := by
  have hmm := @run_makeMap Try.prog
  have HR0 := Aside0.mk hr0
  have HL := Aside0.mk hl
  have HF := Aside0.mk hf
  clear hr0 hc0 hl hf
  go_enter Try.func21, Try.ntmps21
  go_wp2_with fail
  go_loopg [13] l0.length (fun kq v13 w' => ∃ x13 : Int, v13 = .int .i64 x13 ∧ Aside0 (0 ≤ x13 ∧ x13 + kq = l0.length) ∧ Aside0 (w'.ownsMap Try.prog 9 elemT w.heap.size (goodL (l0.take x13.toNat)).length (mapT (goodL (l0.take x13.toNat)))) ∧ Aside0 (Below w.heap.size w w'))
  case atStart => exact ⟨0, rfl, ⟨by omega, by omega⟩, ⟨World.ownsMap_made _ _ _ _⟩, ⟨below_alloc (Below.refl _ _) _⟩⟩
  case round =>
    obtain ⟨x13, rfl, HK, HM, HB⟩ := hrel
    by_cases c1 : x13 < (l0.length : Int)
    · have c1b := decide_eq_true c1
      have p1 : 0 ≤ x13 := HK.out.1
      obtain ⟨ad1, e1, hx0, hx1, hx2, hx3, hx4, hx5, hx6, hx7⟩ := at_T37 HR0.out x13 p1 c1
      cases e1
      replace hx0 := (HB.out.cell (World.block_lt_of_cell? w _ hx0)).trans hx0
      replace hx1 := (HB.out.cell (World.block_lt_of_cell? w _ hx1)).trans hx1
      replace hx2 := (HB.out.cell (World.block_lt_of_cell? w _ hx2)).trans hx2
      replace hx3 := (HB.out.cell (World.block_lt_of_cell? w _ hx3)).trans hx3
      replace hx4 := (HB.out.cell (World.block_lt_of_cell? w _ hx4)).trans hx4
      replace hx5 := (HB.out.cell (World.block_lt_of_cell? w _ hx5)).trans hx5
      replace hx6 := (HB.out.cell (World.block_lt_of_cell? w _ hx6)).trans hx6
      replace hx7 := (HB.out.cell (World.block_lt_of_cell? w _ hx7)).trans hx7
      have HT := Aside0.mk (HF.out _ (rdT_mem p1 c1))
      have HNx := Aside0.mk (goodL_next l0 x13 p1 c1)
      have HLn := Aside0.mk (goodL_length (l0.take x13.toNat))
      have HDu := Aside0.mk (goodL_dur (l := l0.take x13.toNat))
      have P1 := Aside0.mk p1
      have Q1 := Aside0.mk c1
      have W1 := Aside0.mk (show wrap64 (x13 + 1) = x13 + 1 from by unfold wrap64; have := HL.out; have := P1.out; have := Q1.out; omega)
      generalize hgs : rd_T37 l0 x13 = s at *
      clear hgs
      generalize goodL (l0.take x13.toNat) = g at *
      replace p1 := eq_true p1
      replace c1 := eq_true c1
      obtain ⟨k1, rfl⟩ : ∃ k1, gk = k1 + 1 := ⟨gk - 1, by have := HK.out; have := Q1.out; omega⟩
      have QM := Aside0.mk (mayT_calls s HT.out)
      have HKey := Aside0.mk (keyOf_string_mk Try.underlying9 (s := s.f4) (Nat.le_trans HT.out.2.1 (by decide)))
      by_cases hm : mayS s = true
      · rw [hm] at QM
        go_wp2_with (first
          | (go_at_call 43; refine (QM.out _).mono ?_; rintro e w4 ⟨rfl, hb⟩; have HB4 := Aside0.mk (below_step (below_alloc HB.out _) hb); have HM4 := Aside0.mk (map_below (HM.out.alloc _) hb); have bk := (hb.block wr.heap.size (by simp)).trans (new_blockT wr #[.int .u64 s.f0, .int .u64 s.f1, .int .u64 s.f2, .int .u8 s.f3, .string s.f4, .string s.f5, .int .i64 s.f6, .int .i64 s.f7] 37); have hlt : wr.heap.size < w4.heap.size := Nat.lt_of_lt_of_le (by simp) hb.size; have hne1 : (wr.heap.size = w4.heap.size) = False := eq_false (by omega); have hne2 : (w4.heap.size = wr.heap.size) = False := eq_false (by omega); have hk0 : w4.cell? ⟨wr.heap.size, 0, none⟩ = some (.int .u64 s.f0) := (blk_cell bk 0).trans rfl; have hq0 : ∀ o, (w4.alloc o).cell? ⟨wr.heap.size, 0, none⟩ = some (.int .u64 s.f0) := fun o => (World.cell?_alloc_lt _ _ _ hlt).trans hk0; have hk1 : w4.cell? ⟨wr.heap.size, 1, none⟩ = some (.int .u64 s.f1) := (blk_cell bk 1).trans rfl; have hq1 : ∀ o, (w4.alloc o).cell? ⟨wr.heap.size, 1, none⟩ = some (.int .u64 s.f1) := fun o => (World.cell?_alloc_lt _ _ _ hlt).trans hk1; have hk2 : w4.cell? ⟨wr.heap.size, 2, none⟩ = some (.int .u64 s.f2) := (blk_cell bk 2).trans rfl; have hq2 : ∀ o, (w4.alloc o).cell? ⟨wr.heap.size, 2, none⟩ = some (.int .u64 s.f2) := fun o => (World.cell?_alloc_lt _ _ _ hlt).trans hk2; have hk3 : w4.cell? ⟨wr.heap.size, 3, none⟩ = some (.int .u8 s.f3) := (blk_cell bk 3).trans rfl; have hq3 : ∀ o, (w4.alloc o).cell? ⟨wr.heap.size, 3, none⟩ = some (.int .u8 s.f3) := fun o => (World.cell?_alloc_lt _ _ _ hlt).trans hk3; have hk4 : w4.cell? ⟨wr.heap.size, 4, none⟩ = some (.string s.f4) := (blk_cell bk 4).trans rfl; have hq4 : ∀ o, (w4.alloc o).cell? ⟨wr.heap.size, 4, none⟩ = some (.string s.f4) := fun o => (World.cell?_alloc_lt _ _ _ hlt).trans hk4; have hk5 : w4.cell? ⟨wr.heap.size, 5, none⟩ = some (.string s.f5) := (blk_cell bk 5).trans rfl; have hq5 : ∀ o, (w4.alloc o).cell? ⟨wr.heap.size, 5, none⟩ = some (.string s.f5) := fun o => (World.cell?_alloc_lt _ _ _ hlt).trans hk5; have hk6 : w4.cell? ⟨wr.heap.size, 6, none⟩ = some (.int .i64 s.f6) := (blk_cell bk 6).trans rfl; have hq6 : ∀ o, (w4.alloc o).cell? ⟨wr.heap.size, 6, none⟩ = some (.int .i64 s.f6) := fun o => (World.cell?_alloc_lt _ _ _ hlt).trans hk6; have hk7 : w4.cell? ⟨wr.heap.size, 7, none⟩ = some (.int .i64 s.f7) := (blk_cell bk 7).trans rfl; have hq7 : ∀ o, (w4.alloc o).cell? ⟨wr.heap.size, 7, none⟩ = some (.int .i64 s.f7) := fun o => (World.cell?_alloc_lt _ _ _ hlt).trans hk7; clear bk; clear hb)
          | (at_lookup; go_loud (refine lookup_tal _ rfl _ _ 84 rfl 9 lawStrT Try.underlying84 w.heap.size _ _ rfl HM4.out _ _ rfl HKey.out (talAt g s.f4) (mapT_get g s.f4) ?_; unfold vT))
          | (at_mapUpdate; go_loud (refine wpList_mapUpdate_own _ rfl _ _ _ 84 rfl 9 44 lawStrT Try.underlying84 elemT w.heap.size g.length _ rfl (HM4.out.alloc _) ?mN _ _ _ rfl rfl HKey.out (dT ⟨_, _, _, _, _⟩) [] (elemT_mk ⟨_, _, _, _, _⟩) ?_); (case mN => have h1 := HLn.out; have h2 := HL.out; rw [List.length_take] at h1; show g.length < 9223372036854775807; omega); intro w5 hown hgrow; have HM5 := Aside0.mk hown; have HB5 := Aside0.mk (below_map (below_alloc HB4.out _) hgrow (Nat.le_refl _) (below_alloc HB4.out _).size); clear hown hgrow))
        all_goals
          go_roundg k1
          case measure => omega
          case rel =>
            have hx := HNx.out
            rw [if_pos hm] at hx
            have hq := HM5.out
            refine ⟨x13 + 1, by rw [W1.out], ⟨by have := P1.out; omega, by have := HK.out; omega⟩, ⟨?_⟩, HB5⟩
            rw [hx, mapT_snoc, List.length_append, talAt_step]
            obtain ⟨n0, n1, d0, d1, cc0, s0, cs⟩ := talAt_in g s.f4 HDu.out
            have hd := (mayB_le hm).2.2.1
            have gl : (g.length : Int) ≤ 1759218604441 := by have h1 := HLn.out; have h2 := HL.out; rw [List.length_take] at h1; omega
            have e2 := talStep_min d0 d1 hd
            have wr1 : ∀ x : Int, -9223372036854775808 ≤ x → x < 9223372036854775808 → wrap64 x = x := fun x h1 h2 => wrap_id h1 h2
            have key2 : ∀ t : Tal, t = talStep (talAt g s.f4) s → w5.ownsMap Try.prog 9 elemT w.heap.size (g.length + 1) ((mapT g).put (key s.f4) (dT t)) → w5.ownsMap Try.prog 9 elemT w.heap.size (g.length + [s].length) ((mapT g).put (key s.f4) (dT (talStep (talAt g s.f4) s))) := fun t e h => e ▸ h
            refine key2 _ ?_ hq
            rw [wr1 (9223372036854775807 - (talAt g s.f4).f2) (by omega) (by omega), ← e2, wr1 (talStep (talAt g s.f4) s).f2 (by simp only [talStep]; split <;> omega) (by simp only [talStep]; split <;> omega)]
            try rw [wr1 ((talAt g s.f4).f1 + 1) (by omega) (by omega)]
            try rw [wr1 ((talAt g s.f4).f3 + 1) (by omega) (by omega)]
            try rw [wr1 ((talAt g s.f4).f4 + 1) (by omega) (by omega)]
            simp_all [talStep]
      · have hm' : mayS s = false := by simpa using hm
        rw [hm'] at QM
        rw [if_neg hm] at HNx
        go_wp2_with (first
          | (go_at_call 43; refine (QM.out _).mono ?_; rintro e w4 ⟨rfl, hb⟩; have HB4 := Aside0.mk (below_step (below_alloc HB.out _) hb); have HM4 := Aside0.mk (map_below (HM.out.alloc _) hb); clear hb))
        go_roundg k1
        case measure => omega
        case rel => exact ⟨x13 + 1, by rw [W1.out], ⟨by have := P1.out; omega, by have := HK.out; omega⟩, ⟨by rw [HNx.out]; exact HM4.out⟩, HB4⟩
    · have c1b := decide_eq_false c1
      have hx : x13.toNat = l0.length := by have := HK.out; omega
      have hg := HM.out
      rw [hx, List.take_length] at hg
      have HMn := Aside0.mk hg
      have HLn := Aside0.mk (Nat.le_trans (goodL_length l0) HL.out)
      have HLd := Aside0.mk (laid_start (goodL l0))
      have HEnd : Aside0 (∀ (left : Lit → Bool) (out m : List Tal), Laid (goodL l0) left out → (∀ kl, left kl = false) → m.Perm out → (m.Pairwise fun a b => cmpB a.f0 b.f0 ≤ 0) → m = talsL l0) := ⟨fun left out m H h0 hp hs => laid_end H h0 hp hs⟩
      have HFg : Aside0 (∀ h ∈ hs4 (goodL l0), h.size ≤ 4611686018427387904) := ⟨fun h hh => by
        obtain ⟨s, hs, rfl⟩ := List.mem_map.1 hh
        exact Nat.le_trans (HF.out s (goodL_mem hs).1).2.1 (by decide)⟩
      clear hg hx HM HK c1
      go_wp2_with (first
        | (at_range; refine wpList_range_own _ rfl _ 84 rfl 9 44 lawStrT Try.underlying84 _ w.heap.size (goodL l0).length _ rfl HMn.out ?_; intro w3 hrg3 hg3 hs3; have HRg := Aside0.mk hrg3; have HB3 := Aside0.mk (HB.out.grown hg3 HB.out.size (fun _ h => by cases h)); have HRs := Aside0.mk (show w.heap.size ≤ wr.heap.size from HB.out.size); clear hrg3 hg3 hs3))
      go_frame
      generalize wr.heap.size = rg at HRg HRs ⊢
      have HD : Aside0 (∀ h, has (mapT (goodL l0)) (key h) = true → h ∈ hs4 (goodL l0)) := ⟨fun h hh => (mapT_at (goodL l0) h .nil).2.1 hh⟩
      have HV : Aside0 (∀ h t, h ∈ hs4 (goodL l0) → (∀ z, (mapT (goodL l0)).atKey (key h) z = dT t) → t = talOf (goodL l0) h) := ⟨fun h t hh hz => by
        have e := (mapT_at (goodL l0) h .nil).1
        rw [hz, if_pos hh] at e
        exact dT_inj e⟩
      generalize mapT (goodL l0) = D at *
      have HO3 := Aside0.mk (Kd.R_nil k44 44 w3 w.heap.size (fun _ => True))
      go_loopg [7] (Maps.size D) (fun kq v7 w' => ∃ (left : Lit → Bool) (cnt : Nat) (out : List Tal), Aside0 (cnt ≤ kq) ∧ Aside0 (w'.ranges Try.prog 9 elemT w.heap.size rg (goodL l0).length D left cnt) ∧ Aside0 (∀ kl, left kl = true → has D kl = true) ∧ Aside0 (Laid (goodL l0) left out) ∧ Aside0 (Kd.R k44 44 w' w.heap.size (fun _ => True) v7 out) ∧ Aside0 (Below w.heap.size w w'))
      case atStart => exact ⟨has D, Maps.size D, [], ⟨Nat.le_refl _⟩, HRg, ⟨fun _ h => h⟩, HLd, HO3, HB3⟩
      case round =>
        clear HRg HLd HO3 HB3
        obtain ⟨left, cnt, out, HC, HRg, HLf, HLd, HO, HB3⟩ := hrel
        have invK : ∀ key kl, keyOf Try.prog 9 key = some kl → ∃ x : ByteArray, key = .string x := fun key kl hk => by
          obtain ⟨x, hx, _⟩ := Go.Maps.keyOf_str Try.underlying9 hk
          exact ⟨_, hx⟩
        have invV : ∀ v y, elemT v = some y → ∃ t : Tal, v = vT t := fun v y hv => by
          obtain ⟨t, h, _⟩ := elemT_some hv
          exact ⟨t, h⟩
        go_wp2_with (first
          | (at_next; refine wpList_next_ranges _ rfl _ rfl 9 lawStrT elemT Value.string vT invK invV w.heap.size rg (goodL l0).length D left cnt rfl HRg.out ?_ ?_))
        · intro _ hl0
          have HOut := Aside0.mk (Nat.le_trans (laid_length HLd.out) HLn.out)
          have HE := Aside0.mk (HEnd.out left out)
          have hq := HLd.out
          have HE2 := Aside0.mk (fun m => HEnd.out left out m hq hl0)
          have QS := Aside0.mk (sortT_calls out HOut.out w.heap.size _ _ HO.out HB3.out.size)
          go_wp2_with (first
            | (go_at_call 47; go_loud (refine QS.out.mono ?_; rintro e w5 ⟨rfl, m, hp, hs, hr, hb⟩; have he := HE2.out m hp hs; subst he; have HM := Aside0.mk hr; have HB5 := Aside0.mk (Go.RowKit.Below.trans HB3.out hb); clear hp hs hr hb)))
          go_ret
          exact ⟨_, rfl, HM.out, HB5.out⟩
        · intro x c kl d ps w4 cnt4 hkey hlk hv hat hrg4 hlt4 hg4 hsz4 hen
          obtain ⟨y, hy, hkl, hyl⟩ := Go.Maps.keyOf_str Try.underlying9 hkey
          have hkl2 : kl = key x := by
            have h1 := keyOf_string_mk Try.underlying9 (s := x) (by
              injection hy with hy
              rw [hy]
              show (y.toArray).size ≤ _
              rw [List.size_toArray]; exact hyl)
            exact Option.some.inj (hkey.symm.trans h1)
          clear hy hkl hyl y
          subst hkl2
          have hh : x ∈ hs4 (goodL l0) := HD.out x (HLf.out _ hlk)
          obtain ⟨t1, ht1, htd⟩ := elemT_some hv
          have hc1 := vT_inj ht1
          subst hc1
          obtain ⟨rfl, rfl⟩ := Prod.mk.inj htd
          have hc2 := HV.out x c hh hat
          have hld := laid_step HLd.out hh hlk
          rw [← hc2] at hld
          have HLd4 := Aside0.mk hld
          have HO4 := Aside0.mk (row_iterT HRg.out HO.out hg4)
          have HB4 := Aside0.mk (HB3.out.grown hg4 HB3.out.size (fun i hi => by cases hi; exact HRs.out))
          have HRg4 := Aside0.mk hrg4
          have HLf4 := Aside0.mk (show ∀ kl, (left kl && !kl.sameKey (key x)) = true → has D kl = true from fun kl h => HLf.out kl (Bool.and_eq_true _ _ ▸ h : left kl = true ∧ _).1)
          have HCt := Aside0.mk hlt4
          have HOl := Aside0.mk (Nat.le_trans (laid_length HLd.out) HLn.out)
          obtain ⟨A7, n7, e7⟩ := Kd.R_slice HO4.out
          subst e7
          clear hld hc2 htd ht1 hh hv hat hlk hkey hrg4 hlt4 hg4 hsz4 HRg HO HB3 HLf HLd
          obtain ⟨k1, rfl⟩ : ∃ k1, gk = k1 + 1 := ⟨gk - 1, by have := HC.out; have := HCt.out; omega⟩
          obtain ⟨c1, c2, c3, c4, c5⟩ := c
          unfold vT at hen ⊢
          go_wp2_with (first
            | ((with_reducible refine gate_builtin (b := .append) (xs := #[.tmp 66, .tmp 68]) rfl ?_); at_builtin; go_loud (refine Kd.R_append k44 (w0 := w) w.heap.size rfl (.tmp 66) (.tmp 68) 41 44 (.agg #[(.string ⟨#[]⟩), (.int .i64 0), (.int .i64 0), (.int .i64 0), (.int .i64 0)]) 48 rfl Try.underlying41 (by kernel_rfl) rfl (by decide) (by omega) (.slice A7 out.length n7) out (⟨c1, c2, c3, c4, c5⟩ : Tal) [.string c1, .int .i64 c2, .int .i64 c3, .int .i64 c4, .int .i64 c5] (fun _ => True) (fun _ => False) rfl ?aX ?aP (fun _ hk => hk.elim) ?aF ?aO ?aB ?aS ?aL ?_; (case aX => first | rfl | (go_simp; done) | (simp; done)); (case aP => exact k44_mkM _ _ _ _); (case aB => exact below_alloc HB4.out _); (case aF => exact (fun _ _ => trivial)); (case aO => exact Kd.R_alloc HO4.out _); (case aS => exact (below_alloc HB4.out _).size); (case aL => have := HOl.out; show (out.length + 1) * 48 ≤ 140737488355328; omega); intro v5 w5 ho hb hg5 hat5; have HO5 := Aside0.mk ho; have HB5 := Aside0.mk hb; have HRg5 := Aside0.mk (range_rowT (HRg4.out.alloc _) (Kd.R_alloc HO4.out _) hg5); clear ho hb hg5 hat5)))
          go_roundg k1
          case measure => omega
          case rel => exact ⟨_, cnt4, _, ⟨by have := HC.out; have := HCt.out; omega⟩, HRg5, HLf4, HLd4, HO5, HB5⟩
end Go.Proofs.Ytmfdhcgdibefiaa.L

/- Rows of arrays of two numbers. -/
namespace Go.Proofs.Ytmfdhcgdibefiaa.L
open Go.RowKit Go.Proofs.YtmfdhcgdibefiaaW.PrintWords Go.Proofs.YtmfdhcgdibefiaaW.PrintLast Go.Proofs.YtmfdhcgdibefiaaW.PrintMore
set_option linter.unusedVariables false

abbrev kP : Kd (Int × Int) := Kd.pair (Kd.int .i64) (Kd.int .i64)
theorem kP_open {w : World} {x : Int × Int} {cs : List Value} (h : kP.K w x cs) : cs = [.int .i64 x.1, .int .i64 x.2] := by
  obtain ⟨_, _, rfl, rfl, rfl⟩ := h
  exact rfl
theorem kP_openM {w : World} {base : Nat} {ok : Nat → Prop} {x : Int × Int} {cs : List Value} (h : kP.M w base ok x cs) : cs = [.int .i64 x.1, .int .i64 x.2] := by
  obtain ⟨_, _, rfl, rfl, rfl⟩ := h
  exact rfl
theorem kP_mkM (w : World) (base : Nat) (ok : Nat → Prop) (x : Int × Int) : kP.M w base ok x [.int .i64 x.1, .int .i64 x.2] := ⟨[.int .i64 x.1], [.int .i64 x.2], rfl, rfl, rfl⟩
def rdP (xs : List (Int × Int)) (i : Int) : Int × Int := xs.getD i.toNat (0, 0)
theorem at_P {w : World} {A : Option Addr} {n : Nat} {xs : List (Int × Int)} (h : Kd.C kP w A n xs) (i : Int) (h0 : 0 ≤ i) (h1 : i < n) : ∃ ad, A = some ad ∧ w.cell? (ad.add (i.toNat * 2)) = some (.int .i64 (rdP xs i).1) ∧ w.cell? ⟨(ad.add (i.toNat * 2)).block, (ad.add (i.toNat * 2)).off + 1, none⟩ = some (.int .i64 (rdP xs i).2) := by
  obtain ⟨ad, c, e, _, hK, hc0⟩ := Kd.C_get h (0, 0) i h0 h1
  have hc : ∀ j u, c[j]? = some u → w.cell? (ad.add (i.toNat * 2 + j)) = some u := hc0
  obtain rfl := kP_open hK
  exact ⟨ad, e, hc 0 _ rfl, by rw [← add_field _ _ 1 (by omega)]; exact hc 1 _ rfl⟩
end Go.Proofs.Ytmfdhcgdibefiaa.L

/- What stretches cover, plain: how many numbers; by stretches in order of their starts, and by neighbouring ends. -/
namespace Go.Proofs.Ytmfdhcgdibefiaa.L
set_option linter.unusedVariables false

/-- How many of n numbers from a on have p. -/
def cnt (p : Int → Bool) (a : Int) : Nat → Nat
  | 0 => 0
  | n + 1 => cnt p a n + if p (a + (n : Int)) = true then 1 else 0
theorem cnt_add (p : Int → Bool) (a : Int) (m : Nat) : ∀ n, cnt p a (m + n) = cnt p a m + cnt p (a + (m : Int)) n
  | 0 => rfl
  | n + 1 => by
    show cnt p a (m + n) + (if p (a + ((m + n : Nat) : Int)) = true then 1 else 0) = cnt p a m + (cnt p (a + (m : Int)) n + (if p (a + (m : Int) + (n : Int)) = true then 1 else 0))
    rw [cnt_add p a m n, show a + ((m + n : Nat) : Int) = a + (m : Int) + (n : Int) by omega]
    omega
theorem cnt_congr {p q : Int → Bool} {a : Int} : ∀ {n : Nat}, (∀ x : Int, a ≤ x → x < a + n → p x = q x) → cnt p a n = cnt q a n
  | 0, _ => rfl
  | n + 1, h => by
    simp only [cnt]
    rw [cnt_congr (n := n) (fun x h0 h1 => h x h0 (by omega)), h (a + n) (by omega) (by omega)]
theorem cnt_all {p : Int → Bool} {a : Int} : ∀ {n : Nat}, (∀ x : Int, a ≤ x → x < a + n → p x = true) → cnt p a n = n
  | 0, _ => rfl
  | n + 1, h => by
    simp only [cnt]
    rw [cnt_all (n := n) (fun x h0 h1 => h x h0 (by omega)), h (a + n) (by omega) (by omega)]
    rfl
theorem cnt_no {p : Int → Bool} {a : Int} : ∀ {n : Nat}, (∀ x : Int, a ≤ x → x < a + n → p x = false) → cnt p a n = 0
  | 0, _ => rfl
  | n + 1, h => by
    simp only [cnt]
    rw [cnt_no (n := n) (fun x h0 h1 => h x h0 (by omega)), h (a + n) (by omega) (by omega)]
    rfl
theorem cnt_le {p q : Int → Bool} {a : Int} : ∀ {n : Nat}, (∀ x : Int, p x = true → q x = true) → cnt p a n ≤ cnt q a n
  | 0, _ => Nat.le_refl _
  | n + 1, h => by
    have ih := cnt_le (n := n) (a := a) h
    have := h (a + n)
    simp only [cnt]
    by_cases c : p (a + n) = true
    · rw [if_pos c, if_pos (this c)]; omega
    · rw [if_neg c]; omega
/-- How many from a to ahead of b. -/
def btw (p : Int → Bool) (a b : Int) : Nat := cnt p a (b - a).toNat
theorem btw_add (p : Int → Bool) {a b c : Int} (h : a ≤ b) (h2 : b ≤ c) : btw p a c = btw p a b + btw p b c := by
  unfold btw
  rw [show (c - a).toNat = (b - a).toNat + (c - b).toNat by omega, cnt_add, show a + (((b - a).toNat : Nat) : Int) = b by omega]
theorem btw_congr {p q : Int → Bool} {a b : Int} (h : ∀ x, a ≤ x → x < b → p x = q x) : btw p a b = btw q a b := cnt_congr fun x h0 h1 => h x h0 (by omega)
theorem btw_all {p : Int → Bool} {a b : Int} (h : ∀ x, a ≤ x → x < b → p x = true) : btw p a b = (b - a).toNat := cnt_all fun x h0 h1 => h x h0 (by omega)
theorem btw_no {p : Int → Bool} {a b : Int} (h : ∀ x, a ≤ x → x < b → p x = false) : btw p a b = 0 := cnt_no fun x h0 h1 => h x h0 (by omega)
theorem btw_le_len (p : Int → Bool) (a b : Int) : btw p a b ≤ (b - a).toNat := by
  have h : btw (fun _ => true) a b = (b - a).toNat := btw_all (fun _ _ _ => rfl)
  rw [← h]
  exact cnt_le fun _ _ => rfl

/-- Is a number within one of the stretches? -/
def covB (l : List (Int × Int)) (x : Int) : Bool := l.any fun s => decide (s.1 ≤ x) && decide (x < s.2)
theorem covB_iff {l : List (Int × Int)} {x : Int} : covB l x = true ↔ ∃ s ∈ l, s.1 ≤ x ∧ x < s.2 := by
  unfold covB
  rw [List.any_eq_true]
  exact ⟨fun ⟨s, h, h2⟩ => ⟨s, h, by simpa using h2⟩, fun ⟨s, h, h2⟩ => ⟨s, h, by simpa using h2⟩⟩
theorem covB_snoc (l : List (Int × Int)) (s : Int × Int) (x : Int) : covB (l ++ [s]) x = (covB l x || (decide (s.1 ≤ x) && decide (x < s.2))) := by
  unfold covB; rw [List.any_append]; simp
abbrev loI : Int := -9223372036854775808
abbrev hiI : Int := 9223372036854775807
/-- How many numbers stretches cover. -/
def coverN (l : List (Int × Int)) : Nat := btw (covB l) loI hiI
def inI (s : Int × Int) : Prop := loI ≤ s.1 ∧ s.1 ≤ hiI ∧ loI ≤ s.2 ∧ s.2 ≤ hiI
instance : DecidablePred inI := fun s => by unfold inI; infer_instance
theorem coverN_lt (l : List (Int × Int)) : coverN l < 18446744073709551616 := Nat.lt_of_le_of_lt (btw_le_len _ _ _) (by decide)
/-- One more stretch, behind those that start no later: the sum, and the end. -/
def covStep (z : Int × Int) (s : Int × Int) : Int × Int := if max s.1 z.2 < s.2 then (z.1 + (s.2 - max s.1 z.2), s.2) else z
structure CovInv (pre : List (Int × Int)) (z : Int × Int) : Prop where
  sum : z.1 = (coverN pre : Int)
  lo : loI ≤ z.2
  hi : z.2 ≤ hiI
  above : ∀ x, covB pre x = true → x < z.2
  from_ : z.2 = loI ∨ ∃ t ∈ pre, t.2 = z.2
theorem covInv_nil : CovInv [] (0, loI) := by
  refine ⟨?_, by simp, by decide, ?_, .inl rfl⟩
  · show (0 : Int) = (coverN [] : Int)
    have : coverN [] = 0 := btw_no (fun _ _ _ => rfl)
    rw [this]; rfl
  · intro x h; simp [covB] at h
theorem covInv_step {pre : List (Int × Int)} {z : Int × Int} {s : Int × Int} (h : CovInv pre z) (hs : inI s) (ho : ∀ t ∈ pre, t.1 ≤ s.1) : CovInv (pre ++ [s]) (covStep z s) := by
  obtain ⟨s1, s2⟩ := s
  obtain ⟨z1, e⟩ := z
  obtain ⟨hsum, hlo, hhi, habove, hfrom⟩ := h
  obtain ⟨i1, i2, i3, i4⟩ := hs
  dsimp only at *
  have inner : ∀ x, s1 ≤ x → x < e → covB pre x = true := by
    intro x h0 h1
    rcases hfrom with h | ⟨t, ht, h⟩
    · omega
    · exact covB_iff.2 ⟨t, ht, by have := ho t ht; omega, by omega⟩
  have outer : ∀ x, e ≤ x → covB pre x = false := by
    intro x h0
    cases hc : covB pre x with
    | false => rfl
    | true => have := habove x hc; omega
  by_cases c : max s1 e < s2
  · have hst : covStep (z1, e) (s1, s2) = (z1 + (s2 - max s1 e), s2) := by unfold covStep; rw [if_pos c]
    rw [hst]
    refine ⟨?_, i3, i4, ?_, .inr ⟨(s1, s2), by simp, rfl⟩⟩
    · dsimp only
      have hn : ∀ x, covB (pre ++ [(s1, s2)]) x = (covB pre x || (decide (s1 ≤ x) && decide (x < s2))) := covB_snoc pre (s1, s2)
      have a1 : btw (covB (pre ++ [(s1, s2)])) loI e = btw (covB pre) loI e := btw_congr fun x h0 h1 => by
        rw [hn]
        by_cases d : s1 ≤ x
        · rw [inner x d h1]; rfl
        · rw [decide_eq_false d]; simp
      have a2 : btw (covB (pre ++ [(s1, s2)])) e (max s1 e) = 0 := btw_no fun x h0 h1 => by
        rw [hn, outer x h0, decide_eq_false (show ¬ s1 ≤ x by omega)]; rfl
      have a3 : btw (covB (pre ++ [(s1, s2)])) (max s1 e) s2 = (s2 - max s1 e).toNat := btw_all fun x h0 h1 => by
        rw [hn, decide_eq_true (show s1 ≤ x by omega), decide_eq_true h1]; simp
      have a4 : btw (covB (pre ++ [(s1, s2)])) s2 hiI = 0 := btw_no fun x h0 h1 => by
        rw [hn, outer x (by omega), decide_eq_false (show ¬ x < s2 by omega)]; simp
      have b1 : btw (covB pre) e hiI = 0 := btw_no fun x h0 h1 => outer x h0
      have t1 : coverN (pre ++ [(s1, s2)]) = btw (covB pre) loI e + (s2 - max s1 e).toNat := by
        unfold coverN
        rw [btw_add _ hlo hhi, a1, btw_add _ (show e ≤ max s1 e by omega) (show max s1 e ≤ hiI by omega), a2, btw_add _ (show max s1 e ≤ s2 by omega) i4, a3, a4]
        omega
      have t2 : coverN pre = btw (covB pre) loI e := by
        unfold coverN
        rw [btw_add _ hlo hhi, b1]; rfl
      rw [t1, ← t2, hsum]
      omega
    · intro x hx
      rw [covB_snoc] at hx
      cases hp : covB pre x with
      | true => have := habove x hp; dsimp only; omega
      | false =>
        rw [hp] at hx
        simp at hx
        exact hx.2
  · have hst : covStep (z1, e) (s1, s2) = (z1, e) := by unfold covStep; rw [if_neg c]
    rw [hst]
    have hn : ∀ x, covB (pre ++ [(s1, s2)]) x = covB pre x := by
      intro x
      rw [covB_snoc]
      by_cases d : s1 ≤ x ∧ x < s2
      · rw [inner x d.1 (by omega)]; rfl
      · have : (decide (s1 ≤ x) && decide (x < s2)) = false := by
          rw [Bool.eq_false_iff]; intro h; simp at h; exact d h
        dsimp only
        rw [this]; simp
    refine ⟨?_, hlo, hhi, ?_, ?_⟩
    · have : coverN (pre ++ [(s1, s2)]) = coverN pre := btw_congr fun x _ _ => hn x
      rw [this]; exact hsum
    · intro x hx; rw [hn] at hx; exact habove x hx
    · rcases hfrom with h | ⟨t, ht, h⟩
      · exact .inl h
      · exact .inr ⟨t, List.mem_append_left _ ht, h⟩
theorem fold_inv : ∀ (rest pre : List (Int × Int)) (z : Int × Int), CovInv pre z → (∀ s ∈ rest, inI s) → (pre ++ rest).Pairwise (fun a b => a.1 ≤ b.1) → CovInv (pre ++ rest) (rest.foldl covStep z)
  | [], pre, z, h, _, _ => by rw [List.append_nil]; exact h
  | s :: rest, pre, z, h, hi, hp => by
    have e : pre ++ s :: rest = (pre ++ [s]) ++ rest := by simp
    rw [e]
    refine fold_inv rest (pre ++ [s]) (covStep z s) (covInv_step h (hi s (List.mem_cons_self ..)) ?_) (fun x hx => hi x (List.mem_cons_of_mem _ hx)) (by rw [← e]; exact hp)
    intro t ht
    exact (List.pairwise_append.1 hp).2.2 t ht s (List.mem_cons_self ..)
/-- By stretches in the order of their starts. -/
theorem fold_cover {l : List (Int × Int)} (hi : ∀ s ∈ l, inI s) (hp : l.Pairwise (fun a b => a.1 ≤ b.1)) : (l.foldl covStep (0, loI)).1 = (coverN l : Int) := by
  have h := (fold_inv l [] (0, loI) covInv_nil hi (by simpa using hp)).sum
  simpa using h
/-! What StatsMore says. -/
theorem coverN_congr {l m : List (Int × Int)} (h : ∀ s, s ∈ l ↔ s ∈ m) : coverN l = coverN m := by
  refine btw_congr fun x _ _ => ?_
  rw [Bool.eq_iff_iff, covB_iff, covB_iff]
  exact ⟨fun ⟨s, a, b⟩ => ⟨s, (h s).1 a, b⟩, fun ⟨s, a, b⟩ => ⟨s, (h s).2 a, b⟩⟩
end Go.Proofs.Ytmfdhcgdibefiaa.L

/- slices.Clone of stretches; the order of stretches, as a closure; both by hand. -/
namespace Go.Proofs.Ytmfdhcgdibefiaa.L
open Go.RowKit Go.Proofs.YtmfdhcgdibefiaaW.PrintWords Go.Proofs.YtmfdhcgdibefiaaW.PrintLast Go.Proofs.YtmfdhcgdibefiaaW.PrintMore Go.Proofs.YtmfdhcgdibefiaaW.Lib Go.Proofs.YtmfdhcgdibefiaaW.MapB
set_option linter.unusedVariables false

/-- cmp.Compare of whole numbers. -/
def cmpJ (x y : Int) : Int := if x < y then -1 else if y < x then 1 else 0
theorem cmpI64_calls (x y : Int) (w : World) : Calls Try.prog 39 #[.int .i64 x, .int .i64 y] w fun e w' => e = .returned (.int .i64 (cmpJ x y)) ∧ w' = w := by
  by_cases h1 : x < y
  · have e : cmpJ x y = -1 := by unfold cmpJ; rw [if_pos h1]
    rw [e]; clear e
    go_enter Try.func39, Try.ntmps39
    go_wp2
    go_ret
    exact ⟨rfl, rfl⟩
  · by_cases h2 : y < x
    · have e : cmpJ x y = 1 := by unfold cmpJ; rw [if_neg h1, if_pos h2]
      rw [e]; clear e
      go_enter Try.func39, Try.ntmps39
      go_wp2
      go_ret
      exact ⟨rfl, rfl⟩
    · have e : cmpJ x y = 0 := by unfold cmpJ; rw [if_neg h1, if_neg h2]
      rw [e]; clear e
      go_enter Try.func39, Try.ntmps39
      go_wp2
      go_ret
      exact ⟨rfl, rfl⟩
theorem cloneP_calls (l : List (Int × Int)) (hl : l.length ≤ 1759218604441) (A : Option Addr) (c : Nat) (w : World) (hr : Kd.C kP w A l.length l) (hc : l.length ≤ c) :
    Calls Try.prog 36 #[.slice A l.length c] w fun e w' => ∃ v : Value, e = .returned v ∧ Kd.R kP 26 w' w.heap.size (fun _ => True) v l ∧ Below w.heap.size w w' := by
  have q : ∀ (w : World) (a : Option Addr) (n c n' c' : Nat), (binOp .eql 22 (.slice a n c) (.slice none n' c')).run Try.prog w = .ok (.bool a.isNone) w := fun w a n c n' c' => Go.Lib.run_eql_slice_nil w _ _ a n c n' c' Try.underlying22
  cases A with
  | none =>
    have h0 : l = [] := by
      cases l with
      | nil => rfl
      | cons x l => obtain ⟨ad, h, _⟩ := hr.2.2 (by simp); exact absurd h (by simp)
    subst h0
    go_enter Try.func36, Try.ntmps36
    go_wp2
    go_ret
    exact ⟨_, rfl, Kd.R_nil _ _ _ _ _, Below.refl _ _⟩
  | some ad =>
    have HR0 := Aside0.mk hr
    clear hr
    have HL := Aside0.mk hl
    clear hl
    go_enter Try.func36, Try.ntmps36
    go_wp2_with (first
      | ((with_reducible refine gate_dst (N := 5) rfl ?_); refine Kd.R_lit kP _ 26 ?hg (N := 5) ?hd (xs := ([] : List (Int × Int))) (inner := []) (ok := fun _ => True) (okp := fun _ => True) ?hr ?hp (fun _ hk => hk) trivial (Below.refl _ _) (Nat.le_refl _) (by simp) ?_; (case hd => rfl); (case hg => rfl); (case hr => first | (go_simp; done) | (go_simp; rfl)); (case hp => exact (Reps.none _ _)); intro v1 w1 ho hb hg_ hnew_; clear hg_ hnew_; have HO := Aside0.mk ho; have HB := Aside0.mk hb; clear ho hb)
      | ((with_reducible refine gate_builtin (b := .append) (xs := #[.tmp 5, .tmp 6]) rfl ?_); at_builtin; refine Kd.R_append_rows kP (w0 := w) w.heap.size rfl (.tmp 5) (.tmp 6) 22 26 (.agg #[(.int .i64 0), (.int .i64 0)]) 16 rfl Try.underlying22 (by kernel_rfl) rfl (by decide) (by omega) v1 [] l _ _ _ (fun _ => True) (fun _ => False) rfl rfl ?aO ?aR (fun _ _ h => h) (fun _ h => h.elim) ?aF ?aB ?aS ?aL ?_; (case aR => exact (Kd.C_below HR0.out HB.out)); (case aB => exact HB.out); (case aF => exact (fun _ _ => trivial)); (case aO => exact HO.out); (case aS => exact HB.out.size); (case aL => have := HL.out; simp only [List.length_nil]; omega); intro v2 w2 ho hb hg hat; rw [List.nil_append] at ho; have HB2 := Aside0.mk hb; have HO2 := Aside0.mk ho; clear ho hb hg hat))
    go_ret
    exact ⟨_, rfl, HO2.out, HB2.out⟩
/-- How stretches stand in order. -/
def cmpP (x y : Int × Int) : Int := cmpJ x.1 y.1
set_option maxRecDepth 100000 in
set_option maxHeartbeats 4000000 in
theorem cmpP_grow (a b : Int × Int) (W : World) :
    Calls Try.prog 38 #[.agg #[.int .i64 a.1, .int .i64 a.2], .agg #[.int .i64 b.1, .int .i64 b.2]] W
      fun e w' => e = .returned (.int .i64 (cmpP a b)) ∧ ∃ q os', w' = Go.Sort.grow (W.drewN q) os' := by
  obtain ⟨a0, a1⟩ := a
  obtain ⟨b0, b1⟩ := b
  go_enter Try.func38, Try.ntmps38
  go_wp2_with (go_at_call 39; refine (cmpI64_calls _ _ _).mono ?_; rintro e w1 ⟨rfl, rfl⟩)
  go_ret
  obtain ⟨os, ho⟩ : ∃ os, (W.alloc (.cells #[.int .i64 a0, .int .i64 a1] 26)).alloc (.cells #[.int .i64 b0, .int .i64 b1] 26) = Go.Sort.grow W os := ⟨_, by rw [Go.Sort.alloc_eq_grow, Go.Sort.alloc_eq_grow, Go.Sort.grow_grow]⟩
  exact ⟨rfl, 0, os, ho⟩
end Go.Proofs.Ytmfdhcgdibefiaa.L

/- stats.Cover: the sort of a copy, and the sum. -/
namespace Go.Proofs.Ytmfdhcgdibefiaa.L
open Go.RowKit Go.Proofs.YtmfdhcgdibefiaaW.PrintWords Go.Proofs.YtmfdhcgdibefiaaW.PrintLast Go.Proofs.YtmfdhcgdibefiaaW.PrintMore Go.Proofs.YtmfdhcgdibefiaaW.Lib Go.Proofs.YtmfdhcgdibefiaaW.RowB Go.Sort Go.Lib
set_option linter.unusedVariables false

def encP (x : Int × Int) : List Value := [.int .i64 x.1, .int .i64 x.2]
theorem ltP (x y : Int × Int) : ltOf cmpP x y = decide (x.1 < y.1) := by
  unfold ltOf cmpP cmpJ
  rw [Bool.eq_iff_iff]
  simp only [decide_eq_true_eq]
  split
  · constructor <;> intro _ <;> omega
  · split <;> constructor <;> intro _ <;> omega
theorem swoP : SWO (ltOf cmpP) := by
  refine ⟨fun x => ?_, fun x y z h1 h2 => ?_, fun x y z h1 h2 => ?_⟩
  · rw [ltP]; simp
  · rw [ltP, decide_eq_true_eq] at *; omega
  · rw [ltP, decide_eq_false_iff_not] at *; omega
theorem cmpP_lays (blk off size : Nat) (w : World) : CmpLays Try.prog 38 #[] encP 2 cmpP blk off size w := fun _ _ _ _ x y => cmpP_grow x y _
/-- Arrays that stand in order: as lists. -/
theorem sorted_list {l : List (Int × Int)} {d' : Array (Int × Int)} (hp : PermIn 0 l.toArray.size l.toArray d') (hs : SortedIn (ltOf cmpP) 0 l.toArray.size d') : d'.toList.Perm l ∧ d'.toList.Pairwise (fun a b => a.1 ≤ b.1) := by
  obtain ⟨h1, _, h3⟩ := hp
  have e1 : d'.extract 0 l.toArray.size = d' := by rw [← h1]; exact Array.extract_size
  have e2 : l.toArray.extract 0 l.toArray.size = l.toArray := Array.extract_size
  rw [e1, e2] at h3
  refine ⟨h3, List.pairwise_iff_getElem.2 ?_⟩
  intro i j hi hj hij
  have h := hs i j (Nat.zero_le _) hij (by rw [← h1]; simpa using hj)
  rw [ltP, decide_eq_false_iff_not] at h
  rw [getElem!_pos d' j (by simpa using hj), getElem!_pos d' i (by simpa using hi)] at h
  simp only [Array.getElem_toList]
  omega
set_option maxHeartbeats 1000000 in
theorem sortP_calls (l : List (Int × Int)) (hl : l.length ≤ 1759218604441) (B : Nat) (v : Value) (w : World) (hR : Kd.R kP 26 w B (fun _ => True) v l) (hBs : B ≤ w.heap.size) :
    Calls Try.prog 37 #[v, .func (.func 38) #[] #[]] w fun e w' => e = .returned (.tuple #[]) ∧ ∃ l', l'.Perm l ∧ l'.Pairwise (fun a b => a.1 ≤ b.1) ∧ Kd.R kP 26 w' B (fun _ => True) v l' ∧ Below B w w' := by
  obtain ⟨hok, inner, how, hre⟩ := hR
  have hre' : Reps (fun x c => c = encP x) 2 l inner := hre.imp_ (fun x c h => kP_openM h)
  by_cases h0 : l = []
  · subst h0
    have hv : ∃ p cap, v = .slice p 0 cap := by
      rcases how.2 with ⟨h, _⟩ | ⟨g, cap, cur, h, _⟩
      · exact ⟨none, 0, h⟩
      · exact ⟨_, cap, h⟩
    obtain ⟨p, cap, rfl⟩ := hv
    refine (AnyF.slices_SortFunc_none Try.sortCov p cap (.func (.func 38) #[] #[]) w).mono ?_
    rintro e w' ⟨rfl, rfl⟩
    exact ⟨rfl, [], List.Perm.refl _, List.Pairwise.nil, ⟨hok, inner, how, hre⟩, Below.refl _ _⟩
  · have hpos : 0 < l.length := by
      rcases Nat.eq_zero_or_pos l.length with h | h
      · exact absurd (List.length_eq_zero_iff.1 h) h0
      · exact h
    rcases how.2 with ⟨_, h⟩ | ⟨g, cap, cur, rfl, hg, hh, hcap, hcm, hcs, htake⟩
    · omega
    have hH : HoldsK encP 2 w g 0 l.toArray := holdsK_of (enc := encP) (k := 2) (l := l) (fun _ => rfl) hh htake hre'
    have hlt : g < w.heap.size := (Array.getElem?_eq_some_iff.1 hh).1
    have eg : ∀ args w, (callFunc 38 args).run Try.prog w = .ok (.enter 38 args) w := enters_of Try.func38 (by kernel_rfl) rfl
    have hcon := AnyQ.slices_SortFunc Try.sortCov 2 Try.isAgg26 Try.sizeOf26 encP (fun _ => rfl) (fun x v hv => by simp [encP] at hv; rcases hv with rfl | rfl <;> rfl) cmpP swoP 38 #[] g 0 cap l.toArray w eg (cmpP_lays g 0 l.toArray.size w) hH hlt (by simp; omega)
    have hcon2 : Calls Try.prog 37 #[.slice (some ⟨g, 0, none⟩) l.length cap, .func (.func 38) #[] #[]] w _ := hcon
    refine hcon2.mono ?_
    rintro e w' ⟨rfl, d', n, os, hp, hs, rfl⟩
    obtain ⟨q1, q2⟩ := sorted_list hp hs
    have hds : d'.size = l.length := by have := hp.1; simpa using this
    obtain ⟨inner', how', hre2⟩ := own_sorted (n := n) (os := os) (d := d') (base := B) (enc := encP) (fun _ => rfl) hg hh (by rw [hds]; exact hcap) hcm hcs
    rw [hds] at how'
    refine ⟨rfl, d'.toList, q1, q2, ⟨fun _ _ => trivial, inner', by rw [show d'.toList.length = l.length by simpa using hds]; exact how', ?_⟩, below_sorted hg hBs⟩
    exact hre2.imp_ (fun x c h => by rw [h]; exact kP_mkM _ _ _ x)
end Go.Proofs.Ytmfdhcgdibefiaa.L

/- stats.Cover: how much stretches cover. -/
namespace Go.Proofs.Ytmfdhcgdibefiaa.L
open Go.RowKit Go.Proofs.YtmfdhcgdibefiaaW.PrintWords Go.Proofs.YtmfdhcgdibefiaaW.PrintLast Go.Proofs.YtmfdhcgdibefiaaW.PrintMore Go.Proofs.YtmfdhcgdibefiaaW.Lib
set_option linter.unusedVariables false
attribute [local go_sem] max2_int min2_int max_two min_two   -- for this text's walks alone

def covZ (l : List (Int × Int)) : Int × Int := l.foldl covStep (0, loI)
theorem covZ_inv {l : List (Int × Int)} (hi : ∀ s ∈ l, inI s) (hp : l.Pairwise (fun a b => a.1 ≤ b.1)) (k : Nat) : CovInv (l.take k) (covZ (l.take k)) := by
  have h := fold_inv (l.take k) [] (0, loI) covInv_nil (fun s hs => hi s (List.mem_of_mem_take hs)) (by simpa using hp.sublist (List.take_sublist _ _))
  rw [List.nil_append] at h
  exact h
theorem covZ_next (l : List (Int × Int)) (x : Int) (h0 : 0 ≤ x) (h1 : x < l.length) : covZ (l.take (x + 1).toNat) = covStep (covZ (l.take x.toNat)) (rdP l x) := by
  have hlt : x.toNat < l.length := by omega
  rw [show (x + 1).toNat = x.toNat + 1 by omega, List.take_succ_eq_append_getElem hlt]
  unfold covZ
  rw [List.foldl_append]
  have : rdP l x = l[x.toNat] := by simp [rdP, List.getD, hlt]
  rw [this]
  rfl
theorem rdP_mem {l : List (Int × Int)} {x : Int} (h0 : 0 ≤ x) (h1 : x < l.length) : rdP l x ∈ l := by
  have hlt : x.toNat < l.length := by omega
  have : rdP l x = l[x.toNat] := by simp [rdP, List.getD, hlt]
  rw [this]
  exact List.getElem_mem _

theorem u64_sum {z m s : Int} (h0 : 0 ≤ z) (h1 : m < s) (h2 : loI ≤ m) (h3 : m ≤ hiI) (h4 : loI ≤ s) (h5 : s ≤ hiI) (h6 : z + (s - m) < 18446744073709551616) : IntKind.u64.wrap (z + IntKind.u64.wrap (IntKind.u64.wrap s - IntKind.u64.wrap m)) = z + (s - m) := by
  have hw : ∀ x : Int, IntKind.u64.wrap x = x % 18446744073709551616 := fun x => by simp [IntKind.wrap, IntKind.signed, IntKind.bits]
  rw [hw s, hw m, hw, hw]
  omega
theorem covStep_pos {z1 e s1 s2 m : Int} (hm : max s1 e = m) (c : m < s2) : covStep (z1, e) (s1, s2) = (z1 + (s2 - m), s2) := by
  unfold covStep; dsimp only; rw [hm, if_pos c]
theorem covStep_neg {z1 e s1 s2 m : Int} (hm : max s1 e = m) (c : ¬ m < s2) : covStep (z1, e) (s1, s2) = (z1, e) := by
  unfold covStep; dsimp only; rw [hm, if_neg c]

set_option maxHeartbeats 4000000 in
set_option maxRecDepth 100000 in
theorem cover_calls (l0 : List (Int × Int)) (hl : l0.length ≤ 1759218604441) (hi : ∀ s ∈ l0, inI s) (A0 : Option Addr) (c0 : Nat) (w : World) (hr0 : Kd.C kP w A0 l0.length l0) (hc0 : l0.length ≤ c0) :
    Calls Try.prog 13 #[.slice A0 l0.length c0] w fun e w' => e = .returned (.int .u64 (coverN l0 : Int)) ∧ Below w.heap.size w w' := by
  have QC := Aside0.mk (cloneP_calls l0 hl A0 c0 w hr0 hc0)
  have QS := Aside0.mk (fun v w1 h1 h2 => sortP_calls l0 hl w.heap.size v w1 h1 h2)
  have HL := Aside0.mk hl
  have HI := Aside0.mk hi
  clear hr0 hc0 hl hi
  obtain ⟨r, hr⟩ : ∃ r : Int, (coverN l0 : Int) = r := ⟨_, rfl⟩
  rw [hr]
  have HR := Aside0.mk hr
  clear hr
  go_enter Try.func13, Try.ntmps13
  go_wp2_with (first
    | (go_at_call 36; refine QC.out.mono ?_; rintro e w1 ⟨v, rfl, ho, hb⟩; have HO := Aside0.mk ho; have HB := Aside0.mk hb; clear ho hb)
    | (go_at_call 37; refine (QS.out _ _ HO.out HB.out.size).mono ?_; rintro e w2 ⟨rfl, l1, hp, hq, ho, hb⟩; have HP := Aside0.mk hp; have HQ := Aside0.mk hq; have HB2 := Aside0.mk (HB.out.trans hb); have HN := Aside0.mk hp.length_eq; obtain ⟨Av, cv, rfl⟩ := Kd.R_slice ho; have HO2 := Aside0.mk ho; clear ho hb hp hq))
  have HE := Aside0.mk ((coverN_congr (l := l1) (m := l0) (fun s => HP.out.mem_iff)).symm ▸ HR.out)
  have HI1 := Aside0.mk (fun s hs => HI.out s (HP.out.mem_iff.1 hs) : ∀ s ∈ l1, inI s)
  have HINV := Aside0.mk (fun k => covZ_inv HI1.out HQ.out k)
  have HNX := Aside0.mk (covZ_next l1)
  clear HP HQ HI HR QC QS HO
  go_loopg [4, 5, 15] l1.length (fun kq v4 v5 v15 w' => ∃ x15 : Int, v15 = .int .i64 x15 ∧ v4 = .int .u64 (covZ (l1.take x15.toNat)).1 ∧ v5 = .int .i64 (covZ (l1.take x15.toNat)).2 ∧ Aside0 (0 ≤ x15 ∧ x15 + kq = l1.length) ∧ Aside0 (Below w.heap.size w w') ∧ Aside0 (Kd.R kP 26 w' w.heap.size (fun _ => True) (.slice Av l1.length cv) l1))
  case atStart => exact ⟨0, rfl, rfl, rfl, ⟨by omega, by omega⟩, HB2, HO2⟩
  case round =>
    clear HB2 HO2 HB
    obtain ⟨x15, rfl, rfl, rfl, HK, HB, HO⟩ := hrel
    by_cases c1 : x15 < (l1.length : Int)
    · have c1b := decide_eq_true c1
      have p1 : 0 ≤ x15 := HK.out.1
      obtain ⟨ad1, e1, hx0, hx1⟩ := at_P (Kd.R_reads' HO.out).2.2 x15 p1 c1
      cases e1
      have HS := Aside0.mk (HI1.out _ (rdP_mem p1 c1))
      have HV := Aside0.mk (HINV.out x15.toNat)
      have HX := Aside0.mk (HNX.out x15 p1 c1)
      have HV2 := Aside0.mk (HINV.out (x15 + 1).toNat)
      have P1 := Aside0.mk p1
      have Q1 := Aside0.mk c1
      replace p1 := eq_true p1
      replace c1 := eq_true c1
      have W1 := Aside0.mk (show wrap64 (x15 + 1) = x15 + 1 from by unfold wrap64; have := HN.out; have := HL.out; have := P1.out; have := Q1.out; omega)
      obtain ⟨k1, rfl⟩ : ∃ k1, gk = k1 + 1 := ⟨gk - 1, by have := HK.out; have := Q1.out; omega⟩
      generalize hz : covZ (l1.take x15.toNat) = z at *
      generalize hs : rdP l1 x15 = s at *
      obtain ⟨z1, e⟩ := z
      obtain ⟨s1, s2⟩ := s
      clear hz hs
      dsimp only at hx0 hx1 ⊢
      by_cases c3 : s1 < e
      · have C3 := Aside0.mk c3
        have c3b := decide_eq_true c3
        replace c3 := eq_true c3
        by_cases c2 : e < s2
        · have HY := Aside0.mk (HX.out.trans (covStep_pos (show max s1 e = e by have := C3.out; omega) c2))
          have c2b := decide_eq_true c2
          have C2 := Aside0.mk c2
          have HU := Aside0.mk (u64_sum (z := z1) (m := e) (s := s2) (by have h : z1 = _ := HV.out.sum; omega) c2 (by have := HS.out.1; have := HV.out.lo; dsimp only at *; omega) (by have := HS.out.2.1; have := HV.out.hi; dsimp only at *; omega) HS.out.2.2.1 HS.out.2.2.2 (by have h := HV2.out.sum; rw [HY.out] at h; have h2 := coverN_lt (l1.take (x15 + 1).toNat); dsimp only at h; omega))
          replace c2 := eq_true c2
          go_wp2_with fail
          go_roundg k1
          case measure => omega
          case rel => exact ⟨x15 + 1, by rw [W1.out], by rw [HY.out, HU.out], by rw [HY.out], ⟨by have := P1.out; omega, by have := HK.out; omega⟩, ⟨below_alloc HB.out _⟩, ⟨Kd.R_alloc HO.out _⟩⟩
        · have HY := Aside0.mk (HX.out.trans (covStep_neg (show max s1 e = e by have := C3.out; omega) c2))
          have c2b := decide_eq_false c2
          replace c2 := eq_false c2
          go_wp2_with fail
          go_roundg k1
          case measure => omega
          case rel => exact ⟨x15 + 1, by rw [W1.out], by rw [HY.out], by rw [HY.out], ⟨by have := P1.out; omega, by have := HK.out; omega⟩, ⟨below_alloc HB.out _⟩, ⟨Kd.R_alloc HO.out _⟩⟩
      · have C3 := Aside0.mk c3
        have c3b := decide_eq_false c3
        replace c3 := eq_false c3
        by_cases c2 : s1 < s2
        · have HY := Aside0.mk (HX.out.trans (covStep_pos (show max s1 e = s1 by have := C3.out; omega) c2))
          have c2b := decide_eq_true c2
          have C2 := Aside0.mk c2
          have HU := Aside0.mk (u64_sum (z := z1) (m := s1) (s := s2) (by have h : z1 = _ := HV.out.sum; omega) c2 (by have := HS.out.1; have := HV.out.lo; dsimp only at *; omega) (by have := HS.out.2.1; have := HV.out.hi; dsimp only at *; omega) HS.out.2.2.1 HS.out.2.2.2 (by have h := HV2.out.sum; rw [HY.out] at h; have h2 := coverN_lt (l1.take (x15 + 1).toNat); dsimp only at h; omega))
          replace c2 := eq_true c2
          go_wp2_with fail
          go_roundg k1
          case measure => omega
          case rel => exact ⟨x15 + 1, by rw [W1.out], by rw [HY.out, HU.out], by rw [HY.out], ⟨by have := P1.out; omega, by have := HK.out; omega⟩, ⟨below_alloc HB.out _⟩, ⟨Kd.R_alloc HO.out _⟩⟩
        · have HY := Aside0.mk (HX.out.trans (covStep_neg (show max s1 e = s1 by have := C3.out; omega) c2))
          have c2b := decide_eq_false c2
          replace c2 := eq_false c2
          go_wp2_with fail
          go_roundg k1
          case measure => omega
          case rel => exact ⟨x15 + 1, by rw [W1.out], by rw [HY.out], by rw [HY.out], ⟨by have := P1.out; omega, by have := HK.out; omega⟩, ⟨below_alloc HB.out _⟩, ⟨Kd.R_alloc HO.out _⟩⟩
    · have c1b := decide_eq_false c1
      have hx : x15.toNat = l1.length := by have := HK.out; omega
      have HZ := Aside0.mk (show (covZ l1).1 = r by have h := (HINV.out l1.length).sum; rw [List.take_length] at h; exact h.trans HE.out)
      go_wp2
      go_ret
      exact ⟨by show Ending.returned (.int .u64 (covZ l1).1) = _; rw [HZ.out], HB.out⟩
end Go.Proofs.Ytmfdhcgdibefiaa.L

/- Rows of structs told by pairs. -/
namespace Go.Proofs.Ytmfdhcgdibefiaa.L
open Go.RowKit Go.Proofs.YtmfdhcgdibefiaaW.PrintWords Go.Proofs.YtmfdhcgdibefiaaW.PrintLast Go.Proofs.YtmfdhcgdibefiaaW.PrintMore
set_option linter.unusedVariables false

theorem C_iso {α β : Type} {d : Kd α} {f : β → α} {w : World} {A : Option Addr} {n : Nat} {xs : List β} (h : Kd.C (Kd.iso d f) w A n xs) : Kd.C d w A n (xs.map f) := by
  obtain ⟨h1, h2, h3⟩ := h
  refine ⟨by rw [List.length_map]; exact h1, h2, fun h0 => ?_⟩
  obtain ⟨ad, e, hc⟩ := h3 h0
  refine ⟨ad, e, fun j p hp => ?_⟩
  rw [List.getElem?_map] at hp
  cases hx : xs[j]? with
  | none => rw [hx] at hp; cases hp
  | some x =>
    rw [hx] at hp
    obtain rfl := Option.some.inj hp
    exact hc j x hx
theorem mapI {β : Type} {f : β → Int × Int} {l : List β} (h : ∀ s ∈ l, inI (f s)) : ∀ s ∈ l.map f, inI s := by
  intro s hs
  obtain ⟨x, hx, rfl⟩ := List.mem_map.1 hs
  exact h x hx
end Go.Proofs.Ytmfdhcgdibefiaa.L

/- A call of a function that lies in a variable. -/
namespace Go.Proofs.YtmfdhcgdibefiaaW.FunV
open Go.RowKit Go.Proofs.YtmfdhcgdibefiaaW.PrintWords Go.Proofs.YtmfdhcgdibefiaaW.PrintLast
section
variable {P : Program} {ops : Array Oper} {Q : Exit → Act → World → Prop}
theorem gate_value {rest : List Oper} {o : Oper} {a : Act} {W : World} {x : Operand} {ags : Array Operand} {ts : Array TypeId} (_ho : o.op = .call { callee := .value x, args := ags, argTypes := ts }) (h : wpList P ops Q (o :: rest) a W) : wpList P ops Q (o :: rest) a W := h
theorem goesV_ {rest : List Oper} {oi : Oper} {a : Act} {w : World} (N : Option Tmp) (hd : oi.dst = N) (hg : oi.guard = none) {f : FuncId} {fn : Func} {x : Operand} {ags : Array Operand} {ts : Array TypeId} (hf : P.funcs[f]? = some fn) (hname : (fn.name == "runtime.NumGoroutine") = false) (hb : fn.body.isSome = true) (args : Array Value)
    (hop : oi.op = .call { callee := .value x, args := ags, argTypes := ts }) (hx : a.eval x = .func (.func f) #[] #[]) (hargs : ags.map a.eval = args)
    (h : Calls P f args w fun e w' => ∃ v, e = .returned v ∧ wpList P ops Q rest (a.put N v) w') : wpList P ops Q (oi :: rest) a w := by
  refine wpList_plain hg fun K hK => ?_
  have he := enters_ hf hname hb args w
  have hrun : (execOp a.eval oi).run P w = .ok (.enter f args) w := by
    unfold execOp
    simp [hop, resolve, Deferred.ofValue, invoke, hx, hargs, he]
  unfold Oper.wp
  rw [hrun, Oper.upon_enter]
  refine h.mono fun e w'' hh => ?_
  obtain ⟨v, rfl, hk⟩ := hh
  subst hd
  exact hK _ _ hk
end
end Go.Proofs.YtmfdhcgdibefiaaW.FunV

/- stats.Own's closure: whether a span may not be. -/
namespace Go.Proofs.Ytmfdhcgdibefiaa.L
open Go.RowKit Go.Proofs.Ytmfdhcgdibefiaa.Q Go.Proofs.YtmfdhcgdibefiaaW.PrintWords Go.Proofs.YtmfdhcgdibefiaaW.PrintLast Go.Proofs.YtmfdhcgdibefiaaW.PrintMore Go.Proofs.YtmfdhcgdibefiaaW.MapB Go.Proofs.YtmfdhcgdibefiaaW.Lib
set_option linter.unusedVariables false
set_option linter.unusedSimpArgs false
theorem ownspan_calls (s : S37) (h : fitS s) (w : World) : Calls Try.prog 43 #[.agg #[.int .u64 s.f0, .int .u64 s.f1, .int .u64 s.f2, .int .u8 s.f3, .string s.f4, .string s.f5, .int .i64 s.f6, .int .i64 s.f7]] w fun e w' => e = .returned (.bool (mayS s)) ∧ Below w.heap.size w w' := by
  obtain ⟨k, hk⟩ := Ev.rounds (may_ev s.f0 s.f1 s.f2 s.f3 s.f4 s.f5 s.f6 s.f7 h.2.1 h.2.2)
  exact span_May.calls k _ _ _ _ _ _ _ _ _ w hk
set_option maxRecDepth 100000 in
theorem ownmay_calls (s : S37) (h : fitS s) (w : World) : Calls Try.prog 42 #[.agg #[.int .u64 s.f0, .int .u64 s.f1, .int .u64 s.f2, .int .u8 s.f3, .string s.f4, .string s.f5, .int .i64 s.f6, .int .i64 s.f7]] w fun e w' => e = .returned (.bool (!mayS s)) ∧ Below w.heap.size w w' := by
  have HB := Aside0.mk (Below.refl w.heap.size w)
  have QM := Aside0.mk (ownspan_calls s h)
  clear h
  go_enter Try.func42, Try.ntmps42
  go_wp2_with (go_at_call 43; refine (QM.out _).mono ?_; rintro e w1 ⟨rfl, hb⟩; have HB1 := Aside0.mk (below_step (below_alloc HB.out _) hb); clear hb)
  go_ret
  exact ⟨rfl, HB1.out⟩
set_option maxHeartbeats 4000000 in
set_option maxRecDepth 100000 in
theorem own_index  (es : List S37) (hn : es.length ≤ 1000000000) (A0 : Option Addr) (c0 : Nat) (w : World) (hr0 : Kd.C k37 w A0 es.length es)
    (QL0 : ∀ e ∈ es, ∀ W, Below w.heap.size w W → Calls Try.prog 42 #[.agg #[.int .u64 e.f0, .int .u64 e.f1, .int .u64 e.f2, .int .u8 e.f3, .string e.f4, .string e.f5, .int .i64 e.f6, .int .i64 e.f7]] W fun r w' => r = .returned (.bool ((fun s => !mayS s) e)) ∧ Below W.heap.size W w') :
    Calls Try.prog 95 #[.slice A0 es.length c0, .func (.func 42) #[] #[]] w fun r w' => ∃ i : Int, r = .returned (.int .i64 i) ∧ decide (0 ≤ i) = es.any (fun s => !mayS s) ∧ Below w.heap.size w w' := by
  have HB0 := Aside0.mk (Below.refl w.heap.size w)
  have HR0 := Aside0.mk hr0
  have HN := Aside0.mk hn
  have QL := Aside0.mk QL0
  clear hr0 hn QL0
  generalize hpp : (fun s => !mayS s) = pp at *
  clear hpp
  go_enter Try.func95, Try.ntmps95
  go_wp2_with fail
  go_loopg [8] es.length (fun kq v8 w' => ∃ x8 : Int, v8 = .int .i64 x8 ∧ Aside0 (0 ≤ x8 ∧ x8 + kq = es.length) ∧ Aside0 (∀ e ∈ es.take x8.toNat, pp e = false) ∧ Aside0 (Below w.heap.size w w'))
  case atStart => exact ⟨0, rfl, ⟨by omega, by omega⟩, ⟨by simp⟩, HB0⟩
  case round =>
    obtain ⟨x8, rfl, HK, HA, HB⟩ := hrel
    by_cases c1 : x8 < (es.length : Int)
    · have c1b := decide_eq_true c1
      have p1 : 0 ≤ x8 := HK.out.1
      obtain ⟨ad, e1, hx0, hx1, hx2, hx3, hx4, hx5, hx6, hx7⟩ := at_T37 HR0.out x8 p1 c1
      cases e1
      replace hx0 := (HB.out.cell (World.block_lt_of_cell? w _ hx0)).trans hx0
      replace hx1 := (HB.out.cell (World.block_lt_of_cell? w _ hx1)).trans hx1
      replace hx2 := (HB.out.cell (World.block_lt_of_cell? w _ hx2)).trans hx2
      replace hx3 := (HB.out.cell (World.block_lt_of_cell? w _ hx3)).trans hx3
      replace hx4 := (HB.out.cell (World.block_lt_of_cell? w _ hx4)).trans hx4
      replace hx5 := (HB.out.cell (World.block_lt_of_cell? w _ hx5)).trans hx5
      replace hx6 := (HB.out.cell (World.block_lt_of_cell? w _ hx6)).trans hx6
      replace hx7 := (HB.out.cell (World.block_lt_of_cell? w _ hx7)).trans hx7
      have hit : x8.toNat < es.length := by omega
      have hev : rd_T37 es x8 = es[x8.toNat] := by simp [rd_T37, List.getD, hit]
      have hem : rd_T37 es x8 ∈ es := by rw [hev]; exact List.getElem_mem _
      have HE := Aside0.mk (show es.take (x8 + 1).toNat = es.take x8.toNat ++ [rd_T37 es x8] from by
        rw [show (x8 + 1).toNat = x8.toNat + 1 by omega, List.take_succ_eq_append_getElem hit, hev])
      have QE := Aside0.mk (QL.out _ hem wr HB.out)
      have HM := Aside0.mk hem
      have P1 := Aside0.mk p1
      have Q1 := Aside0.mk c1
      have W1 := Aside0.mk (show wrap64 (x8 + 1) = x8 + 1 from by unfold wrap64; have := HN.out; have := P1.out; have := Q1.out; omega)
      clear hev hem hit
      generalize rd_T37 es x8 = e at *
      replace p1 := eq_true p1
      replace c1 := eq_true c1
      obtain ⟨k1, rfl⟩ : ∃ k1, gk = k1 + 1 := ⟨gk - 1, by have := HK.out; have := Q1.out; omega⟩
      cases hq : pp e with
      | false =>
        rw [hq] at QE
        have HQ := Aside0.mk hq
        clear hq
        go_wp2_with (go_at_call 42; refine QE.out.mono ?_; rintro r w1 ⟨rfl, hb⟩; have HB1 := Aside0.mk (below_step HB.out hb); clear hb)
        go_roundg k1
        case measure => omega
        case rel => exact ⟨x8 + 1, by rw [W1.out], ⟨by have := P1.out; omega, by have := HK.out; omega⟩, ⟨by
          rw [HE.out]
          intro y hy
          rcases List.mem_append.1 hy with h | h
          · exact HA.out y h
          · rw [List.mem_singleton.1 h]; exact HQ.out⟩, HB1⟩
      | true =>
        rw [hq] at QE
        have HQ := Aside0.mk hq
        clear hq
        go_wp2_with (go_at_call 42; refine QE.out.mono ?_; rintro r w1 ⟨rfl, hb⟩; have HB1 := Aside0.mk (below_step HB.out hb); clear hb)
        go_ret
        refine ⟨x8, rfl, ?_, HB1.out⟩
        rw [decide_eq_true P1.out]
        exact (List.any_eq_true.2 ⟨e, HM.out, HQ.out⟩).symm
    · have c1b := decide_eq_false c1
      have hx : x8.toNat = es.length := by have := HK.out; omega
      have ha := HA.out
      rw [hx, List.take_length] at ha
      have HAll := Aside0.mk ha
      clear ha hx c1
      go_wp2_with fail
      go_ret
      refine ⟨-1, rfl, ?_, HB.out⟩
      exact (List.any_eq_false.2 (fun e he => by rw [HAll.out e he]; simp)).symm
set_option maxHeartbeats 2000000 in
set_option maxRecDepth 100000 in
theorem own_contains  (es : List S37) (hn : es.length ≤ 1000000000) (A0 : Option Addr) (c0 : Nat) (w : World) (hr0 : Kd.C k37 w A0 es.length es)
    (QL0 : ∀ e ∈ es, ∀ W, Below w.heap.size w W → Calls Try.prog 42 #[.agg #[.int .u64 e.f0, .int .u64 e.f1, .int .u64 e.f2, .int .u8 e.f3, .string e.f4, .string e.f5, .int .i64 e.f6, .int .i64 e.f7]] W fun r w' => r = .returned (.bool ((fun s => !mayS s) e)) ∧ Below W.heap.size W w') :
    Calls Try.prog 41 #[.slice A0 es.length c0, .func (.func 42) #[] #[]] w fun r w' => r = .returned (.bool (es.any (fun s => !mayS s))) ∧ Below w.heap.size w w' := by
  have HB0 := Aside0.mk (Below.refl w.heap.size w)
  have QI := Aside0.mk (own_index  es hn A0 c0 w hr0 QL0)
  clear hn hr0 QL0
  go_enter Try.func41, Try.ntmps41
  go_wp2_with (go_at_call 95; refine QI.out.mono ?_; rintro r w1 ⟨i, rfl, hd, hb⟩; have HD := Aside0.mk hd; have HB2 := Aside0.mk hb; clear hb hd)
  go_ret
  refine ⟨?_, HB2.out⟩
  rw [← HD.out]
  rfl
end Go.Proofs.Ytmfdhcgdibefiaa.L

/- The document's Cover, plain: the ends in order, and the sum over neighbouring ones. -/
namespace Go.Proofs.Ytmfdhcgdibefiaa.L
open Go.RowKit Go.Proofs.YtmfdhcgdibefiaaW.PrintWords Go.Proofs.YtmfdhcgdibefiaaW.Lib
set_option linter.unusedVariables false
end Go.Proofs.Ytmfdhcgdibefiaa.L

/- The document's Cover: the walk. -/
namespace Go.Proofs.Ytmfdhcgdibefiaa.L
open Go.RowKit Go.Proofs.Ytmfdhcgdibefiaa.Q Go.Proofs.YtmfdhcgdibefiaaW.PrintWords Go.Proofs.YtmfdhcgdibefiaaW.PrintLast Go.Proofs.YtmfdhcgdibefiaaW.PrintMore Go.Proofs.YtmfdhcgdibefiaaW.Lib Go.Proofs.YtmfdhcgdibefiaaW.MapB
set_option linter.unusedVariables false
set_option linter.unusedSimpArgs false
end Go.Proofs.Ytmfdhcgdibefiaa.L

/- parent.cycles, plain: places are coloured along each walk up; none is called just if all walks up end. -/
namespace Go.Proofs.Ytmfdhcgdibefiaa.L
open Go.RowKit Go.Proofs.YtmfdhcgdibefiaaW.PrintWords
set_option linter.unusedVariables false

theorem rdC_set (l : List Int) (i j v : Int) (h0 : 0 ≤ i) (h1 : i < l.length) (hj : 0 ≤ j) : rd (l.set i.toNat v) j = if i = j then v else rd l j := by
  unfold rd
  simp only [List.getD_eq_getElem?_getD, List.getElem?_set]
  by_cases e : i = j
  · subst e
    rw [if_pos rfl, if_pos rfl, if_pos (by omega)]; rfl
  · rw [if_neg e, if_neg (by omega)]
/-- So many parents up. -/
def upL (ps : List Int) (at_ : Int) : Nat → Int
  | 0 => at_
  | k + 1 => if at_ < 0 then at_ else upL ps (rd ps at_) k
theorem upL_neg (ps : List Int) {a : Int} (h : a < 0) : ∀ k, upL ps a k = a
  | 0 => rfl
  | k + 1 => by unfold upL; rw [if_pos h]
theorem upL_more (ps : List Int) : ∀ (k : Nat) (a : Int), upL ps a k < 0 → ∀ d, upL ps a (k + d) < 0
  | 0, a, h, d => by
    have h' : a < 0 := h
    rw [upL_neg ps h']
    exact h'
  | k + 1, a, h, d => by
    rw [show k + 1 + d = (k + d) + 1 by omega]
    unfold upL at h ⊢
    split
    · assumption
    · rename_i c
      rw [if_neg c] at h
      exact upL_more ps k _ h d
def endsAt (ps : List Int) (a : Int) : Prop := ∃ k, upL ps a k < 0
/-- A walk up by these places, to another one. -/
inductive Walk (ps : List Int) : Int → List Int → Int → Prop
  | none (a : Int) : Walk ps a [] a
  | step {a : Int} {L : List Int} {b : Int} : 0 ≤ a → Walk ps (rd ps a) L b → Walk ps a (a :: L) b
theorem Walk.up {ps : List Int} {a : Int} {L : List Int} {b : Int} (h : Walk ps a L b) : upL ps a L.length = b := by
  induction h with
  | none a => rfl
  | step h0 _ ih => simp only [List.length_cons, upL]; rw [if_neg (by omega)]; exact ih
theorem Walk.ends {ps : List Int} {a : Int} {L : List Int} {b : Int} (h : Walk ps a L b) (hb : endsAt ps b) : endsAt ps a ∧ ∀ x ∈ L, endsAt ps x := by
  induction h with
  | none a => exact ⟨hb, fun x hx => by cases hx⟩
  | @step a L b h0 _ ih =>
    obtain ⟨⟨k, hk⟩, h2⟩ := ih hb
    have ha : endsAt ps a := ⟨k + 1, by unfold upL; rw [if_neg (by omega)]; exact hk⟩
    refine ⟨ha, fun x hx => ?_⟩
    rcases List.mem_cons.1 hx with e | e
    · rw [e]; exact ha
    · exact h2 x e
/-- What a walk goes on to. -/
theorem Walk.next {ps : List Int} {a : Int} {L : List Int} {b : Int} (h : Walk ps a L b) : ∀ x ∈ L, 0 ≤ x ∧ (rd ps x ∈ L ∨ rd ps x = b) := by
  induction h with
  | none a => intro x hx; cases hx
  | @step a L b h0 hw ih =>
    intro x hx
    rcases List.mem_cons.1 hx with e | e
    · subst e
      refine ⟨h0, ?_⟩
      cases hw with
      | none => exact .inr rfl
      | step _ _ => exact .inl (List.mem_cons_of_mem _ (List.mem_cons_self ..))
    · obtain ⟨h1, h2⟩ := ih x e
      exact ⟨h1, h2.elim (fun h => .inl (List.mem_cons_of_mem _ h)) .inr⟩
/-- A walk back to one of its own places: from there, and from all ahead, none ends. -/
theorem Walk.round {ps : List Int} {a : Int} {L : List Int} {b : Int} (h : Walk ps a L b) (hb : b ∈ L) : ∀ x ∈ L, ¬ endsAt ps x := by
  have hn := h.next
  have key : ∀ (k : Nat) (x : Int), x ∈ L → 0 ≤ upL ps x k := by
    intro k
    induction k with
    | zero => intro x hx; exact (hn x hx).1
    | succ k ih =>
      intro x hx
      obtain ⟨h0, h1⟩ := hn x hx
      unfold upL
      rw [if_neg (by omega)]
      rcases h1 with h1 | h1
      · exact ih _ h1
      · rw [h1]; exact ih _ hb
  rintro x hx ⟨k, hk⟩
  have := key k x hx
  omega
/-- Places, coloured. -/
def mark (v : Int) (L : List Int) (st : List Int) : List Int := L.foldl (fun s x => s.set x.toNat v) st
theorem mark_len (v : Int) : ∀ (L st : List Int), (mark v L st).length = st.length
  | [], _ => rfl
  | x :: L, st => by
    have := mark_len v L (st.set x.toNat v)
    rw [List.length_set] at this
    exact this
theorem rd_mark (v : Int) : ∀ (L st : List Int), (∀ x ∈ L, 0 ≤ x ∧ x < st.length) → ∀ j : Int, 0 ≤ j → rd (mark v L st) j = if j ∈ L then v else rd st j
  | [], st, _, j, _ => by simp [mark]
  | x :: L, st, h, j, hj => by
    have hx := h x (List.mem_cons_self ..)
    have e : mark v (x :: L) st = mark v L (st.set x.toNat v) := rfl
    rw [e, rd_mark v L _ (fun y hy => by rw [List.length_set]; exact h y (List.mem_cons_of_mem _ hy)) j hj, rdC_set st x j v hx.1 hx.2 hj]
    by_cases c : j ∈ L
    · rw [if_pos c, if_pos (List.mem_cons_of_mem _ c)]
    · rw [if_neg c]
      by_cases d : x = j
      · rw [if_pos d, if_pos (by rw [d]; exact List.mem_cons_self ..)]
      · rw [if_neg d, if_neg (fun h => (List.mem_cons.1 h).elim (fun h => d h.symm) c)]
/-- Up, as long as places are fresh. -/
def go1 (ps : List Int) : Nat → List Int → Int → List Int × Int
  | 0, st, a => (st, a)
  | f + 1, st, a => if 0 ≤ a ∧ rd st a = 0 then go1 ps f (st.set a.toNat 1) (rd ps a) else (st, a)
/-- Up, as long as places are on the walk. -/
def go2 (ps : List Int) : Nat → List Int → Int → List Int
  | 0, st, _ => st
  | f + 1, st, a => if 0 ≤ a ∧ rd st a = 1 then go2 ps f (st.set a.toNat 2) (rd ps a) else st
def inR (n : Nat) (ps : List Int) : Prop := ps.length = n ∧ ∀ p ∈ ps, -1 ≤ p ∧ p < n
theorem inR_rd {n : Nat} {ps : List Int} (h : inR n ps) {a : Int} (h0 : 0 ≤ a) (h1 : a < n) : -1 ≤ rd ps a ∧ rd ps a < n := by
  have hx : a.toNat < ps.length := by rw [h.1]; omega
  have e : rd ps a = ps[a.toNat] := by simp [rd, List.getD, hx]
  rw [e]
  exact h.2 _ (List.getElem_mem _)
def zeros (st : List Int) : Nat := st.countP (fun x => decide (x = 0))
theorem zeros_set {st : List Int} {a : Int} (h0 : 0 ≤ a) (h1 : a < st.length) (hz : rd st a = 0) : zeros (st.set a.toNat 1) + 1 = zeros st := by
  have hx : a.toNat < st.length := by omega
  have e : st[a.toNat] = 0 := by simpa [rd, List.getD, hx] using hz
  unfold zeros
  rw [List.countP_set hx, e]
  have : 0 < st.countP (fun x => decide (x = 0)) := List.countP_pos_iff.2 ⟨0, by rw [← e]; exact List.getElem_mem _, by decide⟩
  simp
  omega
theorem go1_spec {n : Nat} {ps : List Int} (hp : inR n ps) : ∀ (f : Nat) (st : List Int) (a : Int), st.length = n → zeros st < f → a < n → ∃ L b, go1 ps f st a = (mark 1 L st, b) ∧ Walk ps a L b ∧ L.Nodup ∧ (∀ x ∈ L, 0 ≤ x ∧ x < n ∧ rd st x = 0) ∧ b < n ∧ (b < 0 ∨ rd (mark 1 L st) b ≠ 0)
  | 0, st, a, hl, hz, ha => by omega
  | f + 1, st, a, hl, hz, ha => by
    unfold go1
    by_cases c : 0 ≤ a ∧ rd st a = 0
    · rw [if_pos c]
      have hzs := zeros_set c.1 (by rw [hl]; exact ha) c.2
      obtain ⟨L, b, h1, h2, h3, h4, h5, h6⟩ := go1_spec hp f (st.set a.toNat 1) (rd ps a) (by rw [List.length_set, hl]) (by omega) (inR_rd hp c.1 ha).2
      have hset : ∀ x : Int, 0 ≤ x → rd (st.set a.toNat 1) x = if a = x then 1 else rd st x := fun x hx => rdC_set st a x 1 c.1 (by rw [hl]; exact ha) hx
      have hna : ∀ x ∈ L, x ≠ a ∧ rd st x = 0 := by
        intro x hx
        obtain ⟨g0, g1, g2⟩ := h4 x hx
        rw [hset x g0] at g2
        by_cases e : a = x
        · rw [if_pos e] at g2; omega
        · rw [if_neg e] at g2; exact ⟨fun h => e h.symm, g2⟩
      refine ⟨a :: L, b, h1, .step c.1 h2, List.nodup_cons.2 ⟨fun h => (hna a h).1 rfl, h3⟩, ?_, h5, h6⟩
      intro x hx
      rcases List.mem_cons.1 hx with e | e
      · rw [e]; exact ⟨c.1, ha, c.2⟩
      · exact ⟨(h4 x e).1, (h4 x e).2.1, (hna x e).2⟩
    · rw [if_neg c]
      refine ⟨[], a, rfl, .none a, List.nodup_nil, (fun x hx => absurd hx (by simp)), ha, ?_⟩
      show a < 0 ∨ rd st a ≠ 0
      rcases Int.lt_or_le a 0 with h | h
      · exact .inl h
      · exact .inr fun e => c ⟨h, e⟩
theorem go2_spec {ps : List Int} {a : Int} {L : List Int} {b : Int} (h : Walk ps a L b) : ∀ (f : Nat) (st : List Int), L.Nodup → (∀ x ∈ L, 0 ≤ x ∧ x < st.length ∧ rd st x = 1) → (b < 0 ∨ rd (mark 2 L st) b ≠ 1) → L.length < f → go2 ps f st a = mark 2 L st := by
  induction h with
  | none a =>
    intro f st _ _ hb hf
    obtain ⟨f, rfl⟩ : ∃ g, f = g + 1 := ⟨f - 1, by simp at hf; omega⟩
    unfold go2
    rw [if_neg (fun c => hb.elim (fun h => by omega) (fun h => h c.2))]
    rfl
  | @step a L b h0 hw ih =>
    intro f st nd hx hb hf
    rw [List.length_cons] at hf
    obtain ⟨f, rfl⟩ : ∃ g, f = g + 1 := ⟨f - 1, by omega⟩
    have ha := hx a (List.mem_cons_self ..)
    have nd2 := List.nodup_cons.1 nd
    unfold go2
    rw [if_pos ⟨h0, ha.2.2⟩]
    refine ih f (st.set a.toNat 2) nd2.2 ?_ hb (by omega)
    intro x hxl
    obtain ⟨g0, g1, g2⟩ := hx x (List.mem_cons_of_mem _ hxl)
    rw [List.length_set, rdC_set st a x 2 h0 ha.2.1 g0, if_neg (show ¬ a = x from fun e => nd2.1 (by rw [e]; exact hxl))]
    exact ⟨g0, g1, g2⟩
/-- One place's round: the colours, and who is called. -/
def roundC (ps : List Int) (z : List Int × List Int) (i : Int) : List Int × List Int :=
  let r := go1 ps (ps.length + 1) z.1 i
  (go2 ps (ps.length + 1) r.1 i, if 0 ≤ r.2 ∧ rd r.1 r.2 = 1 then z.2 ++ [r.2] else z.2)
structure CycInv (n : Nat) (ps : List Int) (z : List Int × List Int) : Prop where
  len : z.1.length = n
  two : ∀ a : Int, 0 ≤ a → a < n → rd z.1 a = 0 ∨ rd z.1 a = 2
  ends : z.2 = [] → ∀ a : Int, 0 ≤ a → a < n → rd z.1 a = 2 → endsAt ps a
  bad : z.2 ≠ [] → ∃ a : Int, 0 ≤ a ∧ a < n ∧ ¬ endsAt ps a
theorem zeros_le (st : List Int) : zeros st ≤ st.length := List.countP_le_length
theorem nodup_len {n : Nat} {L : List Int} (nd : L.Nodup) (h : ∀ x ∈ L, 0 ≤ x ∧ x < n) : L.length ≤ n := by
  have key : ∀ (l m : List Int), l.Nodup → (∀ x ∈ l, x ∈ m) → l.length ≤ m.length := by
    intro l
    induction l with
    | nil => intro m _ _; exact Nat.zero_le _
    | cons a l ih =>
      intro m nd h
      have ha := h a (List.mem_cons_self ..)
      have nd2 := List.nodup_cons.1 nd
      have := ih (m.erase a) nd2.2 (fun x hx => (List.mem_erase_of_ne (show x ≠ a from fun e => nd2.1 (by rw [← e]; exact hx))).2 (h x (List.mem_cons_of_mem _ hx)))
      rw [List.length_erase_of_mem ha] at this
      have h0 : 0 < m.length := List.length_pos_of_mem ha
      rw [List.length_cons]
      omega
  have := key L ((List.range n).map fun i : Nat => (i : Int)) nd (fun x hx => List.mem_map.2 ⟨x.toNat, List.mem_range.2 (by have := h x hx; omega), by have := h x hx; omega⟩)
  simpa using this
theorem round_inv {n : Nat} {ps : List Int} (hp : inR n ps) {z : List Int × List Int} (h : CycInv n ps z) {i : Int} (h0 : 0 ≤ i) (h1 : i < n) : CycInv n ps (roundC ps z i) ∧ rd (roundC ps z i).1 i = 2 ∧ ∀ a : Int, 0 ≤ a → a < n → rd z.1 a = 2 → rd (roundC ps z i).1 a = 2 := by
  obtain ⟨st, fl⟩ := z
  obtain ⟨hlen, htwo, hends, hbad⟩ := h
  dsimp only at hlen htwo hends hbad
  have hzl := zeros_le st
  obtain ⟨L, b, g1, g2, g3, g4, g5, g6⟩ := go1_spec hp (ps.length + 1) st i hlen (by rw [hp.1]; omega) h1
  have hL : L.length ≤ n := nodup_len g3 (fun x hx => ⟨(g4 x hx).1, (g4 x hx).2.1⟩)
  have m1 : ∀ j : Int, 0 ≤ j → rd (mark 1 L st) j = if j ∈ L then 1 else rd st j := rd_mark 1 L st (fun x hx => ⟨(g4 x hx).1, by rw [hlen]; exact (g4 x hx).2.1⟩)
  have m2 : ∀ j : Int, 0 ≤ j → rd (mark 2 L (mark 1 L st)) j = if j ∈ L then 2 else rd st j := by
    intro j hj
    rw [rd_mark 2 L _ (fun x hx => ⟨(g4 x hx).1, by rw [mark_len, hlen]; exact (g4 x hx).2.1⟩) j hj, m1 j hj]
    by_cases c : j ∈ L
    · rw [if_pos c, if_pos c]
    · rw [if_neg c, if_neg c]; rw [if_neg c]
  have e2 : go2 ps (ps.length + 1) (mark 1 L st) i = mark 2 L (mark 1 L st) := by
    refine go2_spec g2 _ _ g3 (fun x hx => ⟨(g4 x hx).1, by rw [mark_len, hlen]; exact (g4 x hx).2.1, by rw [m1 x (g4 x hx).1, if_pos hx]⟩) ?_ (by rw [hp.1]; omega)
    rcases Int.lt_or_le b 0 with c | c
    · exact .inl c
    · refine .inr ?_
      rw [m2 b c]
      by_cases d : b ∈ L
      · rw [if_pos d]; decide
      · rw [if_neg d]
        rcases htwo b c g5 with e | e <;> omega
  have hround : roundC ps (st, fl) i = (mark 2 L (mark 1 L st), if 0 ≤ b ∧ b ∈ L then fl ++ [b] else fl) := by
    unfold roundC
    dsimp only
    rw [g1]
    dsimp only
    rw [e2]
    congr 1
    by_cases c : 0 ≤ b
    · rw [m1 b c]
      by_cases d : b ∈ L
      · rw [if_pos d, if_pos ⟨c, rfl⟩, if_pos ⟨c, d⟩]
      · rw [if_neg d, if_neg (show ¬ (0 ≤ b ∧ rd st b = 1) from fun h => by rcases htwo b c g5 with e | e <;> omega), if_neg (show ¬ (0 ≤ b ∧ b ∈ L) from fun h => d h.2)]
    · rw [if_neg (fun h => c h.1), if_neg (fun h => c h.1)]
  have hi2 : rd (mark 2 L (mark 1 L st)) i = 2 := by
    rw [m2 i h0]
    by_cases d : i ∈ L
    · rw [if_pos d]
    · rw [if_neg d]
      rcases htwo i h0 h1 with e | e
      · exfalso
        cases g2 with
        | none =>
          rcases g6 with h | h
          · omega
          · exact h e
        | step _ _ => exact d (List.mem_cons_self ..)
      · exact e
  rw [hround]
  refine ⟨⟨by rw [mark_len, mark_len, hlen], ?_, ?_, ?_⟩, hi2, ?_⟩
  · intro a a0 a1
    dsimp only
    rw [m2 a a0]
    by_cases d : a ∈ L
    · rw [if_pos d]; exact .inr rfl
    · rw [if_neg d]; exact htwo a a0 a1
  · intro hf a a0 a1 h2
    dsimp only at hf h2
    by_cases c : 0 ≤ b ∧ b ∈ L
    · rw [if_pos c] at hf; simp at hf
    · rw [if_neg c] at hf
      rw [m2 a a0] at h2
      by_cases d : a ∈ L
      · have hb : endsAt ps b := by
          rcases Int.lt_or_le b 0 with e | e
          · exact ⟨0, e⟩
          · have hnb : b ∉ L := fun h => c ⟨e, h⟩
            refine hends hf b e g5 ?_
            rcases htwo b e g5 with q | q
            · exfalso
              rcases g6 with g | g
              · omega
              · rw [m1 b e, if_neg hnb] at g; exact g q
            · exact q
        exact (g2.ends hb).2 a d
      · rw [if_neg d] at h2
        exact hends hf a a0 a1 h2
  · intro hf
    dsimp only at hf
    by_cases c : 0 ≤ b ∧ b ∈ L
    · exact ⟨b, c.1, g5, g2.round c.2 b c.2⟩
    · rw [if_neg c] at hf
      exact hbad hf
  · intro a a0 a1 h2
    dsimp only at h2 ⊢
    rw [m2 a a0]
    by_cases d : a ∈ L
    · rw [if_pos d]
    · rw [if_neg d]; exact h2
def cycZ (ps : List Int) : Nat → List Int × List Int
  | 0 => (List.replicate ps.length 0, [])
  | k + 1 => roundC ps (cycZ ps k) (k : Int)
theorem cyc_inv {n : Nat} {ps : List Int} (hp : inR n ps) : ∀ k : Nat, k ≤ n → CycInv n ps (cycZ ps k) ∧ ∀ a : Int, 0 ≤ a → a < k → rd (cycZ ps k).1 a = 2
  | 0, _ => by
    have hr : ∀ a : Int, 0 ≤ a → a < n → rd (List.replicate ps.length (0 : Int)) a = 0 := fun a a0 a1 => by
      have hx : a.toNat < ps.length := by rw [hp.1]; omega
      simp [rd, List.getD, hx]
    refine ⟨⟨by simp [cycZ, hp.1], fun a a0 a1 => .inl (hr a a0 a1), ?_, fun h => absurd rfl h⟩, fun a a0 a1 => by omega⟩
    intro _ a a0 a1 h
    have := hr a a0 a1
    have h' : rd (List.replicate ps.length (0 : Int)) a = 2 := h
    omega
  | k + 1, hk => by
    obtain ⟨h1, h2⟩ := cyc_inv hp k (by omega)
    obtain ⟨g1, g2, g3⟩ := round_inv hp h1 (i := (k : Int)) (by omega) (by omega)
    refine ⟨g1, fun a a0 a1 => ?_⟩
    by_cases e : a = (k : Int)
    · rw [e]; exact g2
    · exact g3 a a0 (by omega) (h2 a a0 (by omega))
/-- None is called just if all walks up end. -/
theorem cyc_none {n : Nat} {ps : List Int} (hp : inR n ps) : (cycZ ps n).2 = [] ↔ ∀ a : Int, 0 ≤ a → a < n → endsAt ps a := by
  obtain ⟨h1, h2⟩ := cyc_inv hp n (Nat.le_refl _)
  constructor
  · intro h a a0 a1
    exact h1.ends h a a0 a1 (h2 a a0 a1)
  · intro h
    cases hc : (cycZ ps n).2 with
    | nil => rfl
    | cons x l =>
      obtain ⟨a, a0, a1, hb⟩ := h1.bad (by rw [hc]; simp)
      exact absurd (h a a0 a1) hb
/-- A walk that ends does so within as many steps as there are places, and one. -/
theorem ends_in {n : Nat} {ps : List Int} (hp : inR n ps) {a : Int} (a1 : a < n) : endsAt ps a ↔ upL ps a (n + 1) < 0 := by
  refine ⟨fun h => ?_, fun h => ⟨_, h⟩⟩
  have hz := zeros_le (List.replicate n (0 : Int))
  rw [List.length_replicate] at hz
  obtain ⟨L, b, g1, g2, g3, g4, g5, g6⟩ := go1_spec hp (n + 1) (List.replicate n 0) a (by simp) (by omega) a1
  have hL : L.length ≤ n := nodup_len g3 (fun x hx => ⟨(g4 x hx).1, (g4 x hx).2.1⟩)
  rcases Int.lt_or_le b 0 with c | c
  · have := upL_more ps L.length a (by rw [g2.up]; exact c) (n + 1 - L.length)
    rw [show L.length + (n + 1 - L.length) = n + 1 by omega] at this
    exact this
  · exfalso
    have hbL : b ∈ L := by
      rcases g6 with g | g
      · omega
      · rw [rd_mark 1 L _ (fun x hx => ⟨(g4 x hx).1, by rw [List.length_replicate]; exact (g4 x hx).2.1⟩) b c] at g
        by_cases d : b ∈ L
        · exact d
        · rw [if_neg d] at g
          exfalso
          apply g
          have hx : b.toNat < n := by omega
          simp [rd, List.getD, hx]
    have hr := g2.round hbL
    cases g2 with
    | none => cases hbL
    | step _ _ => exact hr a (List.mem_cons_self ..) h
end Go.Proofs.Ytmfdhcgdibefiaa.L

/- parent.Right's closure: it says no. -/
namespace Go.Proofs.Ytmfdhcgdibefiaa.L
open Go.RowKit Go.Proofs.Ytmfdhcgdibefiaa.Q Go.Proofs.YtmfdhcgdibefiaaW.PrintWords Go.Proofs.YtmfdhcgdibefiaaW.PrintLast Go.Proofs.YtmfdhcgdibefiaaW.PrintMore Go.Proofs.YtmfdhcgdibefiaaW.Lib Go.Proofs.YtmfdhcgdibefiaaW.MapB
set_option linter.unusedVariables false

theorem no_calls (x : Int) (B : Nat) (b : Bool) (w : World) (hb : Boxed w B 4 (.bool b)) :
    Calls Try.prog 94 #[.int .i64 x, .pointer (some ⟨B, 0, none⟩)] w fun e w' => e = .returned (.tuple #[]) ∧ Boxed w' B 4 (.bool false) ∧ w.grownBy w' (some B) := by
  have hc := hb.cell
  have hf := hb.frozen
  go_enter Try.func94, Try.ntmps94
  go_wp2
  go_end0
  exact ⟨rfl, hb.set _, grownBy_setCell' _ _ _⟩
end Go.Proofs.Ytmfdhcgdibefiaa.L

/- parent.cycles : the block of colours. -/
namespace Go.Proofs.Ytmfdhcgdibefiaa.L
open Go.RowKit Go.Proofs.Ytmfdhcgdibefiaa.Q Go.Proofs.YtmfdhcgdibefiaaW.PrintWords Go.Proofs.YtmfdhcgdibefiaaW.PrintLast Go.Proofs.YtmfdhcgdibefiaaW.PrintMore Go.Proofs.YtmfdhcgdibefiaaW.Lib Go.Proofs.YtmfdhcgdibefiaaW.MapB
set_option linter.unusedVariables false

/-- A block of whole numbers. -/
def rowB (W : World) (g : Nat) (st : List Int) : Prop := W.heap[g]? = some (.cells (st.map (Value.int .i64)).toArray 3 (0, 0))
theorem rowB_cell {W : World} {g : Nat} {st : List Int} (h : rowB W g st) {a : Int} (h0 : 0 ≤ a) (h1 : a < st.length) : W.cell? ⟨g, a.toNat, none⟩ = some (.int .i64 (rd st a)) := by
  have hx : a.toNat < st.length := by omega
  unfold rowB at h
  simp [World.cell?, h, rd, List.getD, hx]
theorem rowB_frozen {W : World} {g : Nat} {st : List Int} (h : rowB W g st) (a : Nat) : W.frozen? ⟨g, a, none⟩ = false := by
  unfold rowB at h
  simp [World.frozen?, h]
theorem rowB_set {W : World} {g : Nat} {st : List Int} (h : rowB W g st) (a : Nat) (v : Int) : rowB (W.setCell ⟨g, a, none⟩ (.int .i64 v)) g (st.set a v) := by
  unfold rowB at *
  obtain ⟨hlt, hk⟩ := Array.getElem?_eq_some_iff.1 h
  show (W.heap.modify g _)[g]? = _
  rw [Array.getElem?_eq_getElem (by rw [Array.size_modify]; exact hlt), Array.getElem_modify_self, hk]
  simp [List.map_set]
theorem rowB_kept {W W' : World} {g : Nat} {st : List Int} {row : Option Nat} (h : rowB W g st) (hg : W.grownBy W' row) (hne : some g ≠ row) : rowB W' g st := (hg.block g (Array.getElem?_eq_some_iff.1 h).1 hne).trans h
theorem heap_made (W : World) (z : Value) (n : Nat) (e : TypeId) : (W.alloc (.cells (madeCells #[z] n) e)).heap[W.heap.size]? = some (.cells (List.replicate n z).toArray e (0, 0)) := by
  have h := (MapKept.heap_alloc W (.cells (madeCells #[z] n) e)).1
  have e1 : madeCells #[z] n = (List.replicate n z).toArray := by
    apply Array.ext
    · simp [madeCells]
    · intro i h1 h2
      simp [madeCells, Nat.mod_one]
  exact h.trans (by rw [e1])
end Go.Proofs.Ytmfdhcgdibefiaa.L

/- parent.cycles: small facts of its walk. -/
namespace Go.Proofs.Ytmfdhcgdibefiaa.L
open Go.RowKit Go.Proofs.Ytmfdhcgdibefiaa.Q Go.Proofs.YtmfdhcgdibefiaaW.PrintWords Go.Proofs.YtmfdhcgdibefiaaW.PrintLast Go.Proofs.YtmfdhcgdibefiaaW.PrintMore Go.Proofs.YtmfdhcgdibefiaaW.Lib Go.Proofs.YtmfdhcgdibefiaaW.MapB
set_option linter.unusedVariables false

theorem grownBy_set (W : World) (g o : Nat) (v : Value) : W.grownBy (W.setCell ⟨g, o, none⟩ v) (some g) :=
  ⟨rfl, rfl, rfl, (KeepsWalks.setCell W _ v).size, fun k _ hk => Below.heap_setCell _ _ _ k (fun e => hk (by rw [e]))⟩
theorem go1_on {ps : List Int} {f : Nat} {st : List Int} {a : Int} (c : 0 ≤ a ∧ rd st a = 0) : go1 ps (f + 1) st a = go1 ps f (st.set a.toNat 1) (rd ps a) := by
  show (if _ then _ else _) = _
  rw [if_pos c]
theorem go1_stop {ps : List Int} {f : Nat} {st : List Int} {a : Int} (c : ¬ rd st a = 0) : go1 ps (f + 1) st a = (st, a) := by
  show (if _ then _ else _) = _
  rw [if_neg (fun h => c h.2)]
theorem go1_len (ps : List Int) : ∀ (f : Nat) (st : List Int) (a : Int), (go1 ps f st a).1.length = st.length
  | 0, _, _ => rfl
  | f + 1, st, a => by
    unfold go1
    split
    · rw [go1_len ps f, List.length_set]
    · rfl
def ones (st : List Int) : Nat := st.countP (fun x => decide (x = 1))
theorem ones_set {st : List Int} {a : Int} (h0 : 0 ≤ a) (h1 : a < st.length) (hz : rd st a = 1) : ones (st.set a.toNat 2) + 1 = ones st := by
  have hx : a.toNat < st.length := by omega
  have e : st[a.toNat] = 1 := by simpa [rd, List.getD, hx] using hz
  unfold ones
  rw [List.countP_set hx, e]
  have : 0 < st.countP (fun x => decide (x = 1)) := List.countP_pos_iff.2 ⟨1, by rw [← e]; exact List.getElem_mem _, by decide⟩
  simp
  omega
theorem go2_on {ps : List Int} {f : Nat} {st : List Int} {a : Int} (c : 0 ≤ a ∧ rd st a = 1) : go2 ps (f + 1) st a = go2 ps f (st.set a.toNat 2) (rd ps a) := by
  show (if _ then _ else _) = _
  rw [if_pos c]
theorem go2_stop {ps : List Int} {f : Nat} {st : List Int} {a : Int} (c : ¬ (0 ≤ a ∧ rd st a = 1)) : go2 ps (f + 1) st a = st := by
  show (if _ then _ else _) = _
  rw [if_neg c]
end Go.Proofs.Ytmfdhcgdibefiaa.L

