/- Texts joined by wip/tools/merge.py: Open QOpens Qx4 Qx2 Qx3 Qx5 Qx6 SpanA MayS TalP. -/
import Derived.Test.YtmfdhcgdibefiaaJStatsTallies0
import Derived.Test.YtmfdhcgdibefiaaJStatsTallies21
import Derived.Test.YtmfdhcgdibefiaaJStatsTallies23
import Derived.WalkKit
import Derived.ProofKit
import Derived.OpenShut
import Derived.Deep.Slices
import Derived.DataElems
import Derived.Test.YtmfdhcgdibefiaaJStatsTallies22
import Derived.KernelRfl
/- How an argument that came in is read by kind: from the row's reading (DataW.trod) to the printer's kinds (Kd). -/
namespace Go.Proofs.YtmfdhcgdibefiaaW.Open
open Go.RowKit Go.Proofs.YtmfdhcgdibefiaaW.PrintWords Go.ChangeShapes Go.WideShapes
set_option linter.unusedVariables false

/-- A type's readings are a kind's, and what is known of what is read. -/
structure Opens {α : Type} (P : Program) (t : TypeId) (k : Kd α) (wf : α → Prop) : Prop where
  sz : P.cellsOf t = k.sz
  K : ∀ {H : Type} {enc : TypeId × Value → H} {W : World} {base : Nat} {spare : Nat → Bool} {held : Bool} {fuel : Nat} {cs : List Value} {d : DataW H} {ps : List MemPlace},
    DataW.trod enc P W base spare held fuel t cs = some (d, ps) → (∀ n ∈ d.weights P t, n ≤ reachBytes) → ∃ x, k.K W x cs ∧ wf x

section
variable {P : Program} {t e : TypeId}

theorem Opens.int {k : IntKind} (ht : P.underlying t = some (.int k)) (hc : P.cellsOf t = 1) : Opens P t (Kd.int k) (fun x => (Lit.int k x).wf = true) := by
  refine ⟨hc, ?_⟩
  intro H enc W base spare held fuel cs d ps h _
  obtain ⟨n, rfl, _, hw⟩ := DataW.trod_int ht h
  exact ⟨n, rfl, hw⟩

theorem Opens.bool (ht : P.underlying t = some .bool) (hc : P.cellsOf t = 1) : Opens P t Kd.bool (fun _ => True) := by
  refine ⟨hc, ?_⟩
  intro H enc W base spare held fuel cs d ps h _
  obtain ⟨b, rfl, _⟩ := DataW.trod_bool ht h
  exact ⟨b, rfl, trivial⟩

theorem Opens.string (ht : P.underlying t = some .string) (hc : P.cellsOf t = 1) : Opens P t Kd.string (fun s => s.size ≤ reachBytes) := by
  refine ⟨hc, ?_⟩
  intro H enc W base spare held fuel cs d ps h hs
  obtain ⟨s, rfl, hx, _⟩ := DataW.trod_string ht h
  obtain ⟨rfl, rfl⟩ := Prod.mk.inj hx
  refine ⟨s, rfl, ?_⟩
  have := hs s.data.toList.length (by simp [DataW.weights])
  simpa using this

theorem Opens.iso {α β : Type} {k : Kd α} {wf : α → Prop} (f : β → α) (g : α → β) (hfg : ∀ x, f (g x) = x) (h : Opens P t k wf) : Opens P t (Kd.iso k f) (fun y => wf (f y)) := by
  refine ⟨h.sz, ?_⟩
  intro H enc W base spare held fuel cs d ps h1 hs
  obtain ⟨x, hK, hw⟩ := h.K h1 hs
  exact ⟨g x, by show k.K W (f (g x)) cs; rw [hfg]; exact hK, by show wf (f (g x)); rw [hfg]; exact hw⟩

theorem Opens.imp {α : Type} {k : Kd α} {wf wf' : α → Prop} (h : Opens P t k wf) (hw : ∀ x, wf x → wf' x) : Opens P t k wf' := by
  refine ⟨h.sz, ?_⟩
  intro H enc W base spare held fuel cs d ps h1 hs
  obtain ⟨x, hK, hx⟩ := h.K h1 hs
  exact ⟨x, hK, hw x hx⟩

/-- Fields, one behind the other, from a place on. -/
def OpensF {α : Type} (P : Program) (fs : List Field) (o : Nat) (k : Kd α) (wf : α → Prop) : Prop :=
  ∀ {H : Type} {enc : TypeId × Value → H} {W : World} {base : Nat} {spare : Nat → Bool} {held : Bool} {n : Nat} {cs : List Value} {xs : List (DataW H × List MemPlace)},
    xs.length = fs.length → (∀ (i : Nat) (f : Field), fs[i]? = some f → DataW.trod enc P W base spare held n f.type ((cs.drop f.offset).take (P.cellsOf f.type)) = xs[i]?) → cs.length = o + k.sz →
    (∀ m ∈ DataW.weightsEach P (fs.map (·.type)) (xs.map (·.1)), m ≤ reachBytes) → ∃ x, k.K W x (cs.drop o) ∧ wf x

theorem OpensF.one {α : Type} {f : Field} {o : Nat} {k : Kd α} {wf : α → Prop} (ho : f.offset = o) (h : Opens P f.type k wf) : OpensF P [f] o k wf := by
  intro H enc W base spare held n cs xs hl hx hc hs
  match xs, hl with
  | [y], _ =>
    have h1 := hx 0 f rfl
    rw [ho, h.sz, List.take_of_length_le (by rw [List.length_drop]; omega)] at h1
    exact h.K (d := y.1) (ps := y.2) h1 (fun m hm => hs m (by simp [DataW.weightsEach, hm]))

theorem OpensF.cons {α β : Type} {f : Field} {fs : List Field} {o o' : Nat} {a : Kd α} {b : Kd β} {wa : α → Prop} {wb : β → Prop} (ho : f.offset = o) (ho' : o' = o + a.sz) (h : Opens P f.type a wa) (hr : OpensF P fs o' b wb) :
    OpensF P (f :: fs) o (Kd.pair a b) (fun x => wa x.1 ∧ wb x.2) := by
  intro H enc W base spare held n cs xs hl hx hc hs
  subst ho'
  match xs, hl with
  | y :: ys, hl =>
    have h1 := hx 0 f rfl
    rw [ho, h.sz] at h1
    obtain ⟨x, hK, hw⟩ := h.K (d := y.1) (ps := y.2) h1 (fun m hm => hs m (by simp [DataW.weightsEach, hm]))
    obtain ⟨z, hK2, hw2⟩ := hr (xs := ys) (cs := cs) (by simpa using hl) (fun i g hg => by have := hx (i + 1) g (by simpa using hg); simpa using this) (by rw [hc]; show o + (a.sz + b.sz) = _; omega) (fun m hm => hs m (by simp [DataW.weightsEach, hm]))
    refine ⟨(x, z), ⟨(cs.drop o).take a.sz, cs.drop (o + a.sz), ?_, hK, hK2⟩, hw, hw2⟩
    rw [← List.drop_drop, List.take_append_drop]

theorem Opens.struct {α : Type} {fs : Array Field} {k : Kd α} {wf : α → Prop} (ht : P.underlying t = some (.struct fs)) (hc : P.cellsOf t = k.sz) (h : OpensF P fs.toList 0 k wf) : Opens P t k wf := by
  refine ⟨hc, ?_⟩
  intro H enc W base spare held fuel cs d ps h1 hs
  obtain ⟨xs, n, _, hx, hl, hlen, hf⟩ := DataW.trod_struct ht h1
  obtain ⟨rfl, rfl⟩ := Prod.mk.inj hx
  have := h (cs := cs) (xs := xs) (by simpa using hlen) (fun i f hif => hf i f (by simpa using hif)) (by omega) (fun m hm => hs m (by simpa [DataW.weights, ht] using hm))
  simpa using this

theorem weightsAll_mem {H : Type} {e : TypeId} : ∀ {l : List (DataW H)} {d : DataW H}, d ∈ l → ∀ n ∈ d.weights P e, n ∈ DataW.weightsAll P e l
  | d0 :: l, d, h, n, hn => by
    simp only [DataW.weightsAll, List.mem_append]
    rcases List.mem_cons.1 h with rfl | h
    · exact .inl hn
    · exact .inr (weightsAll_mem h n hn)

theorem Opens.slice {α : Type} {k : Kd α} {wf : α → Prop} {B : Nat} (ht : P.underlying t = some (.slice e)) (hc : P.cellsOf t = 1) (hB : P.bytesOf e = B) (h : Opens P e k wf) :
    Opens P t (Kd.slice e k) (fun l => l.length ≤ maxLen ∧ l.length * B ≤ reachBytes ∧ ∀ x ∈ l, wf x) := by
  refine ⟨hc, ?_⟩
  intro H enc W base spare held fuel cs d ps h1 hs
  rcases Go.Deep.open_slice ht h1 with ⟨rfl, hx⟩ | ⟨a, len, cap, m, n, D, Pl, rfl, hb, hl, hm, hmm, hx, hel⟩
  · refine ⟨[], ⟨none, 0, rfl, by simp, Kd.C_nil _ _⟩, by simp [maxLen], by simp, by simp⟩
  · obtain ⟨rfl, rfl⟩ := Prod.mk.inj hx
    have hle : len ≤ m := by rw [hmm]; split <;> omega
    have hw : ∀ j, j < len → ∃ x, (∃ c, c.length = k.sz ∧ k.K W x c ∧ ∀ i u, c[i]? = some u → W.cell? (a.add (j * k.sz + i)) = some u) ∧ wf x := by
      intro j hj
      obtain ⟨cs', h2, h3⟩ := hel j (by omega)
      obtain ⟨x, hK, hx⟩ := h.K h3 (fun q hq => hs q (by
        simp only [DataW.weights, ht, List.mem_cons, List.mem_append]
        exact .inr (.inl (weightsAll_mem (List.mem_map.2 ⟨j, by simpa using hj, rfl⟩) q hq))))
      obtain ⟨_, hlen, hcell⟩ := World.cells?_some h2
      refine ⟨x, ⟨cs', by rw [hlen, h.sz], hK, fun i u hu => ?_⟩, hx⟩
      have hi : i < cs'.length := (List.getElem?_eq_some_iff.1 hu).1
      have := hcell i (by omega)
      rw [hu, h.sz] at this
      rw [← this, Addr.add_add]
    obtain ⟨X, hX⟩ : ∃ X : Fin len → α, ∀ j : Fin len, (∃ c, c.length = k.sz ∧ k.K W (X j) c ∧ ∀ i u, c[i]? = some u → W.cell? (a.add (j.1 * k.sz + i)) = some u) ∧ wf (X j) :=
      ⟨fun j => Classical.choose (hw j.1 j.2), fun j => Classical.choose_spec (hw j.1 j.2)⟩
    have hml : (9223372036854775807 : Nat) = maxLen := rfl
    refine ⟨List.ofFn X, ⟨some a, cap, by simp, by simpa using hl, ?_⟩, ?_, ?_, ?_⟩
    · refine ⟨rfl, by rw [hml]; simpa using Nat.le_trans hl hm, fun _ => ⟨a, rfl, fun j p hp => ?_⟩⟩
      obtain ⟨hj, rfl⟩ := List.getElem?_eq_some_iff.1 hp
      have hj' : j < len := by simpa using hj
      have := (hX ⟨j, hj'⟩).1
      simpa using this
    · simpa using Nat.le_trans hl hm
    · have := hs ((len + (m - len)) * P.bytesOf e) (by simp [DataW.weights, ht])
      rw [hB] at this
      rw [List.length_ofFn]
      exact Nat.le_trans (Nat.mul_le_mul_right _ (by omega)) this
    · intro x hx
      obtain ⟨j, rfl⟩ := (List.mem_ofFn).1 hx
      exact (hX j).2

theorem weights_le {H : Type} {ts : List TypeId} {ds : List (DataW H)} {j : Nat} {t : TypeId} {d : DataW H} (h : (DataW.weightsEach P ts ds).all (· ≤ reachBytes) = true) (ht : ts[j]? = some t) (hd : ds[j]? = some d) : ∀ n ∈ d.weights P t, n ≤ reachBytes := by
  intro n hn
  simpa using List.all_eq_true.1 h n (DataW.weights_mem_each ht hd n hn)
end

/-- A slice that came in. -/
theorem open_row {P : Program} {t e : TypeId} {α : Type} {k : Kd α} {wf : List α → Prop} (ho : Opens P t (Kd.slice e k) wf) {H : Type} {enc : TypeId × Value → H} {W : World} {base : Nat} {spare : Nat → Bool} {held : Bool} {a : Option Addr} {n c : Nat} {d : DataW H} {ps : List MemPlace}
    (h : DataW.Trod enc P W base spare held t (.slice a n c) d ps) (hs : ∀ m ∈ d.weights P t, m ≤ reachBytes) : ∃ l, n = l.length ∧ l.length ≤ c ∧ k.C W a l.length l ∧ wf l := by
  obtain ⟨fuel, hf⟩ := h
  obtain ⟨l, ⟨A, c', he, hl, hC⟩, hw⟩ := ho.K hf hs
  simp [Value.cells] at he
  obtain ⟨rfl, rfl, rfl⟩ := he
  exact ⟨l, rfl, hl, hC, hw⟩

end Go.Proofs.YtmfdhcgdibefiaaW.Open

-- Written by wip/tools/row.py, a program of this session. Lean checks it.
namespace Go.Proofs.Ytmfdhcgdibefiaa.Q
open Go.RowKit Go.Proofs.YtmfdhcgdibefiaaW.PrintWords Go.Proofs.YtmfdhcgdibefiaaW.Open
set_option linter.unusedVariables false
def wf37 (x : S37) : Prop := ((Lit.int .u64 x.f0).wf = true) ∧ ((Lit.int .u64 x.f1).wf = true) ∧ ((Lit.int .u64 x.f2).wf = true) ∧ ((Lit.int .u8 x.f3).wf = true) ∧ (x.f4.size ≤ reachBytes) ∧ (x.f5.size ≤ reachBytes) ∧ ((Lit.int .i64 x.f6).wf = true) ∧ ((Lit.int .i64 x.f7).wf = true)
set_option maxRecDepth 100000 in
theorem opens37 : Opens Try.prog 37 k37 wf37 := by
  refine (Opens.iso _ (fun x => (⟨x.1, x.2.1, x.2.2.1, x.2.2.2.1, x.2.2.2.2.1, x.2.2.2.2.2.1, x.2.2.2.2.2.2.1, x.2.2.2.2.2.2.2⟩ : S37)) (fun _ => rfl) (Opens.struct Try.underlying37 (by kernel_rfl) (OpensF.cons rfl rfl (Opens.int Try.underlying24 (by kernel_rfl)) (OpensF.cons rfl rfl (Opens.int Try.underlying24 (by kernel_rfl)) (OpensF.cons rfl rfl (Opens.int Try.underlying24 (by kernel_rfl)) (OpensF.cons rfl rfl (Opens.int Try.underlying5 (by kernel_rfl)) (OpensF.cons rfl rfl (Opens.string Try.underlying9 (by kernel_rfl)) (OpensF.cons rfl rfl (Opens.string Try.underlying9 (by kernel_rfl)) (OpensF.cons rfl rfl (Opens.int Try.underlying2 (by kernel_rfl)) (OpensF.one rfl (Opens.int Try.underlying2 (by kernel_rfl)))))))))))).imp ?_
  exact fun _ h => h
end Go.Proofs.Ytmfdhcgdibefiaa.Q

-- Written by wip/tools/gp.py, a program of this session round the kit's printer. Lean checks it.
namespace Go.Proofs.Ytmfdhcgdibefiaa.Q
open Go.RowKit Go.Proofs.YtmfdhcgdibefiaaW.PrintWords Go.Proofs.YtmfdhcgdibefiaaW.PrintLast Go.Proofs.YtmfdhcgdibefiaaW.PrintMore
attribute [local go_sem] max2_int min2_int max_two min_two max_three min_three max_four min_four   -- for this text's walks alone
set_option linter.unusedVariables false
set_option linter.unusedSimpArgs false

/-! ### merkhetref01_Name: function 101 -/
mutual
def merkhetref01_Name.j0 : Nat → ByteArray → Bool → Option (Bool)
  | 0, _, _ => none
  | k + 1, x0, x13 => if x13 = true then (some false) else (merkhetref01_Name.l0 k x0 (⟨#[97, 98, 99, 100, 101, 102, 103, 104, 105, 106, 107, 108, 109, 110, 111, 112, 113, 114, 115, 116, 117, 118, 119, 120, 121, 122, 48, 49, 50, 51, 52, 53, 54, 55, 56, 57, 45, 46, 95]⟩ : ByteArray) 0)
def merkhetref01_Name.l0 : Nat → ByteArray → ByteArray → Int → Option (Bool)
  | 0, _, _, _ => none
  | k + 1, x0, x3, x4 => if x4 < (x0.size : Int) then (merkhetref01_Name.l1 k x0 x3 x4 false 0) else (some true)
def merkhetref01_Name.l1 : Nat → ByteArray → ByteArray → Int → Bool → Int → Option (Bool)
  | 0, _, _, _, _, _ => none
  | k + 1, x0, x3, x4, x5, x6 => if x6 < (x3.size : Int) then (if 0 ≤ x6 then (if 0 ≤ x4 then (if x4 < (x0.size : Int) then (if (bt x3 x6) = (bt x0 x4) then (merkhetref01_Name.l1 k x0 x3 x4 true (wrap64 (x6 + 1))) else (merkhetref01_Name.l1 k x0 x3 x4 x5 (wrap64 (x6 + 1)))) else (none)) else (none)) else (none)) else (if x5 = true then (merkhetref01_Name.l0 k x0 x3 (wrap64 (x4 + 1))) else (some false))
end
def merkhetref01_Name.f (k : Nat) (a0 : ByteArray) : Option (Bool) := if a0.toList = ([] : List UInt8) then (merkhetref01_Name.j0 k a0 true) else (merkhetref01_Name.j0 k a0 (decide ((a0.size : Int) > 16)))
theorem merkhetref01_Name.mono_l : ∀ k, (∀ y0 y1, LeO (merkhetref01_Name.j0 k y0 y1) (merkhetref01_Name.j0 (k + 1) y0 y1)) ∧ (∀ y0 y1 y2, LeO (merkhetref01_Name.l0 k y0 y1 y2) (merkhetref01_Name.l0 (k + 1) y0 y1 y2)) ∧ (∀ y0 y1 y2 y3 y4, LeO (merkhetref01_Name.l1 k y0 y1 y2 y3 y4) (merkhetref01_Name.l1 (k + 1) y0 y1 y2 y3 y4))
  | 0 => ⟨fun _ _ r h => by simp [merkhetref01_Name.j0] at h, fun _ _ _ r h => by simp [merkhetref01_Name.l0] at h, fun _ _ _ _ _ r h => by simp [merkhetref01_Name.l1] at h⟩
  | k + 1 => by
    obtain ⟨ih0, ih1, ih2⟩ := merkhetref01_Name.mono_l k
    refine ⟨?_, ?_, ?_⟩
    · intro y0 y1
      unfold merkhetref01_Name.j0
      repeat' first
      | (with_reducible exact ih0 _ _)
      | (with_reducible exact ih1 _ _ _)
      | (with_reducible exact ih2 _ _ _ _ _)
      | (with_reducible exact LeO.refl _)
      | (with_reducible exact LeO.none _)
      | (with_reducible refine LeO.ite ?_ ?_)
      | (with_reducible refine LeO.bind ?_ (fun _ => ?_))
      | exact ih0 _ _
      | exact ih1 _ _ _
      | exact ih2 _ _ _ _ _
      | exact LeO.none _
      | refine LeO.ite ?_ ?_
      | refine LeO.bind ?_ (fun _ => ?_)
    · intro y0 y1 y2
      unfold merkhetref01_Name.l0
      repeat' first
      | (with_reducible exact ih0 _ _)
      | (with_reducible exact ih1 _ _ _)
      | (with_reducible exact ih2 _ _ _ _ _)
      | (with_reducible exact LeO.refl _)
      | (with_reducible exact LeO.none _)
      | (with_reducible refine LeO.ite ?_ ?_)
      | (with_reducible refine LeO.bind ?_ (fun _ => ?_))
      | exact ih0 _ _
      | exact ih1 _ _ _
      | exact ih2 _ _ _ _ _
      | exact LeO.none _
      | refine LeO.ite ?_ ?_
      | refine LeO.bind ?_ (fun _ => ?_)
    · intro y0 y1 y2 y3 y4
      unfold merkhetref01_Name.l1
      repeat' first
      | (with_reducible exact ih0 _ _)
      | (with_reducible exact ih1 _ _ _)
      | (with_reducible exact ih2 _ _ _ _ _)
      | (with_reducible exact LeO.refl _)
      | (with_reducible exact LeO.none _)
      | (with_reducible refine LeO.ite ?_ ?_)
      | (with_reducible refine LeO.bind ?_ (fun _ => ?_))
      | exact ih0 _ _
      | exact ih1 _ _ _
      | exact ih2 _ _ _ _ _
      | exact LeO.none _
      | refine LeO.ite ?_ ?_
      | refine LeO.bind ?_ (fun _ => ?_)
theorem merkhetref01_Name.mono : ∀ a0 k, LeO (merkhetref01_Name.f k a0) (merkhetref01_Name.f (k + 1) a0) := by
  intro a0 k
  obtain ⟨ih0, ih1, ih2⟩ := merkhetref01_Name.mono_l k
  unfold merkhetref01_Name.f
  repeat' first
      | (with_reducible exact ih0 _ _)
      | (with_reducible exact ih1 _ _ _)
      | (with_reducible exact ih2 _ _ _ _ _)
      | (with_reducible exact LeO.refl _)
      | (with_reducible exact LeO.none _)
      | (with_reducible refine LeO.ite ?_ ?_)
      | (with_reducible refine LeO.bind ?_ (fun _ => ?_))
      | exact ih0 _ _
      | exact ih1 _ _ _
      | exact ih2 _ _ _ _ _
      | exact LeO.none _
      | refine LeO.ite ?_ ?_
      | refine LeO.bind ?_ (fun _ => ?_)
set_option maxHeartbeats 8000000 in
set_option maxRecDepth 100000 in
theorem merkhetref01_Name.calls (k : Nat) (a0 : ByteArray) (r : Bool) (w : World) (h : merkhetref01_Name.f k a0 = some r) :
    Calls Try.prog 101 #[.string a0] w fun e w' => e = .returned (.bool r) ∧ Drawn0 w w' := by
  have H : (if a0.toList = ([] : List UInt8) then (merkhetref01_Name.j0 k a0 true) else (merkhetref01_Name.j0 k a0 (decide ((a0.size : Int) > 16)))) = some r := h
  clear h
  have HC2 := Aside0.mk H
  clear H
  go_enter Try.func101, Try.ntmps101
  go_upto_region 1 with (fail)
  repeat (go_quiet (fail); go_upto_region 1 with (fail))
  go_cut [13] (fun v13 wc => ∃ (kq : Nat) (x13_1 : Bool), v13 = .bool x13_1 ∧ Aside0 (merkhetref01_Name.j0 kq a0 x13_1 = some r) ∧ Aside0 (kq ≤ k) ∧ Drawn0 w wc)
  case first =>
    have H := HC2.out
    clear HC2
    by_cases c3 : a0.toList = ([] : List UInt8)
    · rw [if_pos c3] at H
      have c3b0 : (a0.toList == ([] : List UInt8)) = true := beq_iff_eq.mpr c3
      have c3b1 : (a0.toList != ([] : List UInt8)) = false := bne_eq_false_iff_eq.mpr c3
      clear c3
      (first | rw [c3b0] | (simp only [i64_w, i32_w]; rw [c3b0]) | skip)
      have H' := Aside0.mk H
      clear H
      go_wp2
      repeat (go_quiet (fail); try go_wp2)
      go_meet
      case rel => exact ⟨_, (true), (by first | rfl | (simp; done) | (simp [*]; done)), H', ⟨by first | omega | exact Nat.le_refl _⟩, by repeat (first | exact Drawn0.refl _ | apply Drawn0.step)⟩
    · rw [if_neg c3] at H
      have c3b0 : (a0.toList == ([] : List UInt8)) = false := beq_eq_false_iff_ne.mpr c3
      have c3b1 : (a0.toList != ([] : List UInt8)) = true := bne_iff_ne.mpr c3
      (first | rw [c3b0] | (simp only [i64_w, i32_w]; rw [c3b0]) | skip)
      have H' := Aside0.mk H
      clear H
      go_wp2
      repeat (go_quiet (fail); try go_wp2)
      go_meet
      case rel => exact ⟨_, (decide ((a0.size : Int) > 16)), (by first | rfl | (simp; done) | (simp [*]; done)), H', ⟨by first | omega | exact Nat.le_refl _⟩, by repeat (first | exact Drawn0.refl _ | apply Drawn0.step)⟩
  case rest =>
    clear HC2
    (try clear c1); (try clear p2); (try clear c3); (try clear c3b0); (try clear c3b1)
    obtain ⟨kq, x13_1, rfl, HA, HJ1, ⟨mc1, rfl⟩⟩ := hcut
    cases kq with
    | zero => exact absurd HA.out (by simp [merkhetref01_Name.j0])
    | succ kj1 =>
      have H := HA.out
      clear HA
      simp only [merkhetref01_Name.j0] at H
      by_cases c4 : x13_1 = true
      · subst c4
        have H1 : (some false) = some r := by rw [if_pos rfl] at H; exact H
        clear H
        have H := H1
        clear H1
        obtain rfl := Option.some.inj H
        go_wp2
        repeat (go_quiet (fail); try go_wp2)
        go_ret
        exact ⟨by first | rfl | (simp; done) | (simp [*]; done), by repeat (first | exact Drawn0.refl _ | apply Drawn0.step)⟩
      · replace c4 := Bool.eq_false_iff.mpr c4
        subst c4
        have H1 : (merkhetref01_Name.l0 kj1 a0 (⟨#[97, 98, 99, 100, 101, 102, 103, 104, 105, 106, 107, 108, 109, 110, 111, 112, 113, 114, 115, 116, 117, 118, 119, 120, 121, 122, 48, 49, 50, 51, 52, 53, 54, 55, 56, 57, 45, 46, 95]⟩ : ByteArray) 0) = some r := by rw [if_neg (show ¬ (false = true) by decide)] at H; exact H
        clear H
        have H := H1
        clear H1
        have H' := Aside0.mk H
        clear H
        go_wp2
        repeat (go_quiet (fail); try go_wp2)
        go_loopg [4] kj1 (fun kq v4 w' => ∃ (x4_2 : Int), v4 = .int .i64 x4_2 ∧ Aside0 (merkhetref01_Name.l0 kq a0 (⟨#[97, 98, 99, 100, 101, 102, 103, 104, 105, 106, 107, 108, 109, 110, 111, 112, 113, 114, 115, 116, 117, 118, 119, 120, 121, 122, 48, 49, 50, 51, 52, 53, 54, 55, 56, 57, 45, 46, 95]⟩ : ByteArray) x4_2 = some r) ∧ Aside0 (kq ≤ kj1) ∧ Drawn0 w w')
        case atStart => exact ⟨(0), (by first | rfl | (simp; done) | (simp [*]; done)), H', ⟨Nat.le_refl _⟩, by repeat (first | exact Drawn0.refl _ | apply Drawn0.step)⟩
        case round =>
          clear H'
          (try clear c1); (try clear p2); (try clear c3); (try clear c3b0); (try clear c3b1); (try clear c4); (try clear p2)
          obtain ⟨x4_2, rfl, HA, HK2, ⟨m2, rfl⟩⟩ := hrel
          cases gk with
          | zero => exact absurd HA.out (by simp [merkhetref01_Name.l0])
          | succ k2 =>
            have H := HA.out
            clear HA
            simp only [merkhetref01_Name.l0] at H
            by_cases c5 : x4_2 < (a0.size : Int)
            · rw [if_pos c5] at H
              have c5b0 : decide (x4_2 < (a0.size : Int)) = true := decide_eq_true c5
              clear c5
              have H' := Aside0.mk H
              clear H
              go_wp2
              repeat (go_quiet (fail); try go_wp2)
              go_loopg [5, 6] k2 (fun kq v5 v6 w' => ∃ (x5_3 : Bool) (x6_3 : Int), v5 = .bool x5_3 ∧ v6 = .int .i64 x6_3 ∧ Aside0 (merkhetref01_Name.l1 kq a0 (⟨#[97, 98, 99, 100, 101, 102, 103, 104, 105, 106, 107, 108, 109, 110, 111, 112, 113, 114, 115, 116, 117, 118, 119, 120, 121, 122, 48, 49, 50, 51, 52, 53, 54, 55, 56, 57, 45, 46, 95]⟩ : ByteArray) x4_2 x5_3 x6_3 = some r) ∧ Aside0 (kq ≤ k2) ∧ Drawn0 w w')
              case atStart => exact ⟨(false), (0), (by first | rfl | (simp; done) | (simp [*]; done)), (by first | rfl | (simp; done) | (simp [*]; done)), H', ⟨Nat.le_refl _⟩, by repeat (first | exact Drawn0.refl _ | apply Drawn0.step)⟩
              case round =>
                clear H'
                (try clear c1); (try clear p2); (try clear c3); (try clear c3b0); (try clear c3b1); (try clear c4); (try clear c5); (try clear c5b0); (try clear p2)
                obtain ⟨x5_3, x6_3, rfl, rfl, HA, HK3, ⟨m3, rfl⟩⟩ := hrel
                cases gk with
                | zero => exact absurd HA.out (by simp [merkhetref01_Name.l1])
                | succ k3 =>
                  have H := HA.out
                  clear HA
                  simp only [merkhetref01_Name.l1] at H
                  by_cases c6 : x6_3 < ((⟨#[97, 98, 99, 100, 101, 102, 103, 104, 105, 106, 107, 108, 109, 110, 111, 112, 113, 114, 115, 116, 117, 118, 119, 120, 121, 122, 48, 49, 50, 51, 52, 53, 54, 55, 56, 57, 45, 46, 95]⟩ : ByteArray).size : Int)
                  · rw [if_pos c6] at H
                    have c6b0 : decide (x6_3 < 39) = true := decide_eq_true c6
                    clear c6
                    by_cases c7 : 0 ≤ x6_3
                    · rw [if_pos c7] at H
                      have c7b0 : decide (0 ≤ x6_3) = true := decide_eq_true c7
                      clear c7
                      by_cases c9 : 0 ≤ x4_2
                      · rw [if_pos c9] at H
                        have c9b0 : decide (0 ≤ x4_2) = true := decide_eq_true c9
                        clear c9
                        by_cases c10 : x4_2 < (a0.size : Int)
                        · rw [if_pos c10] at H
                          have c10b0 : decide (x4_2 < (a0.size : Int)) = true := decide_eq_true c10
                          clear c10
                          by_cases c12 : (bt (⟨#[97, 98, 99, 100, 101, 102, 103, 104, 105, 106, 107, 108, 109, 110, 111, 112, 113, 114, 115, 116, 117, 118, 119, 120, 121, 122, 48, 49, 50, 51, 52, 53, 54, 55, 56, 57, 45, 46, 95]⟩ : ByteArray) x6_3) = (bt a0 x4_2)
                          · rw [if_pos c12] at H
                            have c12b0 : ((bt (⟨#[97, 98, 99, 100, 101, 102, 103, 104, 105, 106, 107, 108, 109, 110, 111, 112, 113, 114, 115, 116, 117, 118, 119, 120, 121, 122, 48, 49, 50, 51, 52, 53, 54, 55, 56, 57, 45, 46, 95]⟩ : ByteArray) x6_3) == (bt a0 x4_2)) = true := beq_iff_eq.mpr c12
                            have c12b1 : ((bt (⟨#[97, 98, 99, 100, 101, 102, 103, 104, 105, 106, 107, 108, 109, 110, 111, 112, 113, 114, 115, 116, 117, 118, 119, 120, 121, 122, 48, 49, 50, 51, 52, 53, 54, 55, 56, 57, 45, 46, 95]⟩ : ByteArray) x6_3) != (bt a0 x4_2)) = false := bne_eq_false_iff_eq.mpr c12
                            clear c12
                            have H' := Aside0.mk H
                            clear H
                            have p8 : 0 ≤ (x6_3 : Int) := of_decide_eq_true (by first | (with_reducible assumption) | assumption)
                            have q8 : x6_3 < (39 : Int) := of_decide_eq_true (by first | (with_reducible assumption) | assumption)
                            have hx8 := bt_at (⟨#[97, 98, 99, 100, 101, 102, 103, 104, 105, 106, 107, 108, 109, 110, 111, 112, 113, 114, 115, 116, 117, 118, 119, 120, 121, 122, 48, 49, 50, 51, 52, 53, 54, 55, 56, 57, 45, 46, 95]⟩ : ByteArray) x6_3
                            replace p8 := eq_true p8
                            replace q8 := eq_true q8
                            have p11 : 0 ≤ (x4_2 : Int) := of_decide_eq_true (by first | (with_reducible assumption) | assumption)
                            have q11 : x4_2 < (a0.size : Int) := of_decide_eq_true (by first | (with_reducible assumption) | assumption)
                            have hx11 := bt_at a0 x4_2
                            replace p11 := eq_true p11
                            replace q11 := eq_true q11
                            go_wp2
                            repeat (go_quiet (fail); try go_wp2)
                            go_roundg k3
                            case measure => have := HJ1.out; have := HK2.out; have := HK3.out; omega
                            case rel => exact ⟨(true), (wrap64 (x6_3 + 1)), (by first | rfl | (simp; done) | (simp [*]; done)), (by first | rfl | (simp; done) | (simp [*]; done)), H', ⟨by have := HJ1.out; have := HK2.out; have := HK3.out; omega⟩, by repeat (first | exact Drawn0.refl _ | apply Drawn0.step)⟩
                          · rw [if_neg c12] at H
                            have c12b0 : ((bt (⟨#[97, 98, 99, 100, 101, 102, 103, 104, 105, 106, 107, 108, 109, 110, 111, 112, 113, 114, 115, 116, 117, 118, 119, 120, 121, 122, 48, 49, 50, 51, 52, 53, 54, 55, 56, 57, 45, 46, 95]⟩ : ByteArray) x6_3) == (bt a0 x4_2)) = false := beq_eq_false_iff_ne.mpr c12
                            have c12b1 : ((bt (⟨#[97, 98, 99, 100, 101, 102, 103, 104, 105, 106, 107, 108, 109, 110, 111, 112, 113, 114, 115, 116, 117, 118, 119, 120, 121, 122, 48, 49, 50, 51, 52, 53, 54, 55, 56, 57, 45, 46, 95]⟩ : ByteArray) x6_3) != (bt a0 x4_2)) = true := bne_iff_ne.mpr c12
                            have H' := Aside0.mk H
                            clear H
                            have p8 : 0 ≤ (x6_3 : Int) := of_decide_eq_true (by first | (with_reducible assumption) | assumption)
                            have q8 : x6_3 < (39 : Int) := of_decide_eq_true (by first | (with_reducible assumption) | assumption)
                            have hx8 := bt_at (⟨#[97, 98, 99, 100, 101, 102, 103, 104, 105, 106, 107, 108, 109, 110, 111, 112, 113, 114, 115, 116, 117, 118, 119, 120, 121, 122, 48, 49, 50, 51, 52, 53, 54, 55, 56, 57, 45, 46, 95]⟩ : ByteArray) x6_3
                            replace p8 := eq_true p8
                            replace q8 := eq_true q8
                            have p11 : 0 ≤ (x4_2 : Int) := of_decide_eq_true (by first | (with_reducible assumption) | assumption)
                            have q11 : x4_2 < (a0.size : Int) := of_decide_eq_true (by first | (with_reducible assumption) | assumption)
                            have hx11 := bt_at a0 x4_2
                            replace p11 := eq_true p11
                            replace q11 := eq_true q11
                            go_wp2
                            repeat (go_quiet (fail); try go_wp2)
                            go_roundg k3
                            case measure => have := HJ1.out; have := HK2.out; have := HK3.out; omega
                            case rel => exact ⟨(x5_3), (wrap64 (x6_3 + 1)), (by first | rfl | (simp; done) | (simp [*]; done)), (by first | rfl | (simp; done) | (simp [*]; done)), H', ⟨by have := HJ1.out; have := HK2.out; have := HK3.out; omega⟩, by repeat (first | exact Drawn0.refl _ | apply Drawn0.step)⟩
                        · rw [if_neg c10] at H
                          exact absurd H (by simp)
                      · rw [if_neg c9] at H
                        exact absurd H (by simp)
                    · rw [if_neg c7] at H
                      exact absurd H (by simp)
                  · rw [if_neg c6] at H
                    have c6b0 : decide (x6_3 < 39) = false := decide_eq_false c6
                    clear c6
                    by_cases c13 : x5_3 = true
                    · subst c13
                      have H1 : (merkhetref01_Name.l0 k3 a0 (⟨#[97, 98, 99, 100, 101, 102, 103, 104, 105, 106, 107, 108, 109, 110, 111, 112, 113, 114, 115, 116, 117, 118, 119, 120, 121, 122, 48, 49, 50, 51, 52, 53, 54, 55, 56, 57, 45, 46, 95]⟩ : ByteArray) (wrap64 (x4_2 + 1))) = some r := by rw [if_pos rfl] at H; exact H
                      clear H
                      have H := H1
                      clear H1
                      have H' := Aside0.mk H
                      clear H
                      go_wp2
                      repeat (go_quiet (fail); try go_wp2)
                      go_roundg k3
                      case measure => have := HJ1.out; have := HK2.out; have := HK3.out; omega
                      case rel => exact ⟨(wrap64 (x4_2 + 1)), (by first | rfl | (simp; done) | (simp [*]; done)), H', ⟨by have := HJ1.out; have := HK2.out; have := HK3.out; omega⟩, by repeat (first | exact Drawn0.refl _ | apply Drawn0.step)⟩
                    · replace c13 := Bool.eq_false_iff.mpr c13
                      subst c13
                      have H1 : (some false) = some r := by rw [if_neg (show ¬ (false = true) by decide)] at H; exact H
                      clear H
                      have H := H1
                      clear H1
                      obtain rfl := Option.some.inj H
                      go_wp2
                      repeat (go_quiet (fail); try go_wp2)
                      go_ret
                      exact ⟨by first | rfl | (simp; done) | (simp [*]; done), by repeat (first | exact Drawn0.refl _ | apply Drawn0.step)⟩
            · rw [if_neg c5] at H
              have c5b0 : decide (x4_2 < (a0.size : Int)) = false := decide_eq_false c5
              clear c5
              obtain rfl := Option.some.inj H
              go_wp2
              repeat (go_quiet (fail); try go_wp2)
              go_ret
              exact ⟨by first | rfl | (simp; done) | (simp [*]; done), by repeat (first | exact Drawn0.refl _ | apply Drawn0.step)⟩

/-! ### merkhetref01_May: function 50 -/
mutual
def merkhetref01_May.j0 : Nat → Bool → Int → Int → Int → Int → ByteArray → ByteArray → Int → Int → Option (Bool)
  | 0, _, _, _, _, _, _, _, _, _ => none
  | k + 1, x17, x133000, x133001, x133002, x133003, x133004, x133005, x133006, x133007 => if x17 = true then (some false) else (if x133003 = 0 then (merkhetref01_May.j1 k false x133000 x133001 x133002 x133003 x133004 x133005 x133006 x133007) else (if x133003 = 1 then (merkhetref01_May.j1 k false x133000 x133001 x133002 x133003 x133004 x133005 x133006 x133007) else (merkhetref01_May.j1 k (x133003 != 2) x133000 x133001 x133002 x133003 x133004 x133005 x133006 x133007)))
def merkhetref01_May.j1 : Nat → Bool → Int → Int → Int → Int → ByteArray → ByteArray → Int → Int → Option (Bool)
  | 0, _, _, _, _, _, _, _, _, _ => none
  | k + 1, x30, x133000, x133001, x133002, x133003, x133004, x133005, x133006, x133007 => if x30 = true then (some false) else (if x133006 < 0 then (merkhetref01_May.j2 k true x133000 x133001 x133002 x133003 x133004 x133005 x133006 x133007) else (if x133006 > 1125899906842623 then (merkhetref01_May.j2 k true x133000 x133001 x133002 x133003 x133004 x133005 x133006 x133007) else (if x133007 < 0 then (merkhetref01_May.j2 k true x133000 x133001 x133002 x133003 x133004 x133005 x133006 x133007) else (merkhetref01_May.j2 k (decide (x133007 > 1125899906842624)) x133000 x133001 x133002 x133003 x133004 x133005 x133006 x133007))))
def merkhetref01_May.j2 : Nat → Bool → Int → Int → Int → Int → ByteArray → ByteArray → Int → Int → Option (Bool)
  | 0, _, _, _, _, _, _, _, _, _ => none
  | k + 1, x48, x133000, x133001, x133002, x133003, x133004, x133005, x133006, x133007 => if x48 = true then (some false) else ((merkhetref01_Name.f k x133004).bind fun t133 => (if t133 = true then ((merkhetref01_Name.f k x133005).bind fun t134 => (some t134)) else (some false)))
end
def merkhetref01_May.f (k : Nat) (a0_0 : Int) (a0_1 : Int) (a0_2 : Int) (a0_3 : Int) (a0_4 : ByteArray) (a0_5 : ByteArray) (a0_6 : Int) (a0_7 : Int) : Option (Bool) := if a0_0 = 0 then (merkhetref01_May.j0 k true a0_0 a0_1 a0_2 a0_3 a0_4 a0_5 a0_6 a0_7) else (if a0_1 = 0 then (merkhetref01_May.j0 k true a0_0 a0_1 a0_2 a0_3 a0_4 a0_5 a0_6 a0_7) else (merkhetref01_May.j0 k (a0_2 == a0_1) a0_0 a0_1 a0_2 a0_3 a0_4 a0_5 a0_6 a0_7))
theorem merkhetref01_May.mono_l : ∀ k, (∀ y0 y1 y2 y3 y4 y5 y6 y7 y8, LeO (merkhetref01_May.j0 k y0 y1 y2 y3 y4 y5 y6 y7 y8) (merkhetref01_May.j0 (k + 1) y0 y1 y2 y3 y4 y5 y6 y7 y8)) ∧ (∀ y0 y1 y2 y3 y4 y5 y6 y7 y8, LeO (merkhetref01_May.j1 k y0 y1 y2 y3 y4 y5 y6 y7 y8) (merkhetref01_May.j1 (k + 1) y0 y1 y2 y3 y4 y5 y6 y7 y8)) ∧ (∀ y0 y1 y2 y3 y4 y5 y6 y7 y8, LeO (merkhetref01_May.j2 k y0 y1 y2 y3 y4 y5 y6 y7 y8) (merkhetref01_May.j2 (k + 1) y0 y1 y2 y3 y4 y5 y6 y7 y8))
  | 0 => ⟨fun _ _ _ _ _ _ _ _ _ r h => by simp [merkhetref01_May.j0] at h, fun _ _ _ _ _ _ _ _ _ r h => by simp [merkhetref01_May.j1] at h, fun _ _ _ _ _ _ _ _ _ r h => by simp [merkhetref01_May.j2] at h⟩
  | k + 1 => by
    obtain ⟨ih0, ih1, ih2⟩ := merkhetref01_May.mono_l k
    refine ⟨?_, ?_, ?_⟩
    · intro y0 y1 y2 y3 y4 y5 y6 y7 y8
      unfold merkhetref01_May.j0
      repeat' first
      | (with_reducible exact ih0 _ _ _ _ _ _ _ _ _)
      | (with_reducible exact ih1 _ _ _ _ _ _ _ _ _)
      | (with_reducible exact ih2 _ _ _ _ _ _ _ _ _)
      | (with_reducible exact merkhetref01_Name.mono _ _)
      | (with_reducible exact LeO.refl _)
      | (with_reducible exact LeO.none _)
      | (with_reducible refine LeO.ite ?_ ?_)
      | (with_reducible refine LeO.bind ?_ (fun _ => ?_))
      | exact ih0 _ _ _ _ _ _ _ _ _
      | exact ih1 _ _ _ _ _ _ _ _ _
      | exact ih2 _ _ _ _ _ _ _ _ _
      | exact merkhetref01_Name.mono _ _
      | exact LeO.none _
      | refine LeO.ite ?_ ?_
      | refine LeO.bind ?_ (fun _ => ?_)
    · intro y0 y1 y2 y3 y4 y5 y6 y7 y8
      unfold merkhetref01_May.j1
      repeat' first
      | (with_reducible exact ih0 _ _ _ _ _ _ _ _ _)
      | (with_reducible exact ih1 _ _ _ _ _ _ _ _ _)
      | (with_reducible exact ih2 _ _ _ _ _ _ _ _ _)
      | (with_reducible exact merkhetref01_Name.mono _ _)
      | (with_reducible exact LeO.refl _)
      | (with_reducible exact LeO.none _)
      | (with_reducible refine LeO.ite ?_ ?_)
      | (with_reducible refine LeO.bind ?_ (fun _ => ?_))
      | exact ih0 _ _ _ _ _ _ _ _ _
      | exact ih1 _ _ _ _ _ _ _ _ _
      | exact ih2 _ _ _ _ _ _ _ _ _
      | exact merkhetref01_Name.mono _ _
      | exact LeO.none _
      | refine LeO.ite ?_ ?_
      | refine LeO.bind ?_ (fun _ => ?_)
    · intro y0 y1 y2 y3 y4 y5 y6 y7 y8
      unfold merkhetref01_May.j2
      repeat' first
      | (with_reducible exact ih0 _ _ _ _ _ _ _ _ _)
      | (with_reducible exact ih1 _ _ _ _ _ _ _ _ _)
      | (with_reducible exact ih2 _ _ _ _ _ _ _ _ _)
      | (with_reducible exact merkhetref01_Name.mono _ _)
      | (with_reducible exact LeO.refl _)
      | (with_reducible exact LeO.none _)
      | (with_reducible refine LeO.ite ?_ ?_)
      | (with_reducible refine LeO.bind ?_ (fun _ => ?_))
      | exact ih0 _ _ _ _ _ _ _ _ _
      | exact ih1 _ _ _ _ _ _ _ _ _
      | exact ih2 _ _ _ _ _ _ _ _ _
      | exact merkhetref01_Name.mono _ _
      | exact LeO.none _
      | refine LeO.ite ?_ ?_
      | refine LeO.bind ?_ (fun _ => ?_)
theorem merkhetref01_May.mono : ∀ a0 a1 a2 a3 a4 a5 a6 a7 k, LeO (merkhetref01_May.f k a0 a1 a2 a3 a4 a5 a6 a7) (merkhetref01_May.f (k + 1) a0 a1 a2 a3 a4 a5 a6 a7) := by
  intro a0 a1 a2 a3 a4 a5 a6 a7 k
  obtain ⟨ih0, ih1, ih2⟩ := merkhetref01_May.mono_l k
  unfold merkhetref01_May.f
  repeat' first
      | (with_reducible exact ih0 _ _ _ _ _ _ _ _ _)
      | (with_reducible exact ih1 _ _ _ _ _ _ _ _ _)
      | (with_reducible exact ih2 _ _ _ _ _ _ _ _ _)
      | (with_reducible exact merkhetref01_Name.mono _ _)
      | (with_reducible exact LeO.refl _)
      | (with_reducible exact LeO.none _)
      | (with_reducible refine LeO.ite ?_ ?_)
      | (with_reducible refine LeO.bind ?_ (fun _ => ?_))
      | exact ih0 _ _ _ _ _ _ _ _ _
      | exact ih1 _ _ _ _ _ _ _ _ _
      | exact ih2 _ _ _ _ _ _ _ _ _
      | exact merkhetref01_Name.mono _ _
      | exact LeO.none _
      | refine LeO.ite ?_ ?_
      | refine LeO.bind ?_ (fun _ => ?_)
set_option maxHeartbeats 8000000 in
set_option maxRecDepth 100000 in
theorem merkhetref01_May.calls (k : Nat) (a0_0 : Int) (a0_1 : Int) (a0_2 : Int) (a0_3 : Int) (a0_4 : ByteArray) (a0_5 : ByteArray) (a0_6 : Int) (a0_7 : Int) (r : Bool) (w : World) (h : merkhetref01_May.f k a0_0 a0_1 a0_2 a0_3 a0_4 a0_5 a0_6 a0_7 = some r) :
    Calls Try.prog 50 #[.agg #[.int .u64 a0_0, .int .u64 a0_1, .int .u64 a0_2, .int .u8 a0_3, .string a0_4, .string a0_5, .int .i64 a0_6, .int .i64 a0_7]] w fun e w' => e = .returned (.bool r) ∧ Below w.heap.size w w' := by
  have hu37 := Try.underlying37
  have HB := Aside0.mk (Below.refl w.heap.size w)
  have H : (if a0_0 = 0 then (merkhetref01_May.j0 k true a0_0 a0_1 a0_2 a0_3 a0_4 a0_5 a0_6 a0_7) else (if a0_1 = 0 then (merkhetref01_May.j0 k true a0_0 a0_1 a0_2 a0_3 a0_4 a0_5 a0_6 a0_7) else (merkhetref01_May.j0 k (a0_2 == a0_1) a0_0 a0_1 a0_2 a0_3 a0_4 a0_5 a0_6 a0_7))) = some r := h
  clear h
  have HC2 := Aside0.mk H
  clear H
  go_enter Try.func50, Try.ntmps50
  go_upto_region 1 with (first | ((with_reducible refine gate_dst (N := 1) rfl ?_); refine box_event ?hg (N := 1) ?hd (cs := #[.int .u64 a0_0, .int .u64 a0_1, .int .u64 a0_2, .int .u8 a0_3, .string a0_4, .string a0_5, .int .i64 a0_6, .int .i64 a0_7]) (t := 37) ?hr ?_; (case hd => rfl); (case hg => rfl); (case hr => first | (go_simp; done) | (go_simp; rfl)); intro gb132 hg w3 hbox hb; have n0_ := Aside0.mk (below_step (by repeat (first | (with_reducible first | exact HB.out | apply below_alloc | apply pw_below_drewN | apply below_drew1) | exact HB.out)) hb); have n1_ := Aside0.mk (hbox); have n2_ := Aside0.mk ((by rw [hg]; exact (below_size (by repeat (first | (with_reducible first | exact HB.out | apply below_alloc | apply pw_below_drewN | apply below_drew1) | exact HB.out))) : w.heap.size ≤ gb132)); have n3_ := Aside0.mk ((by rw [hg]; exact (below_size (by repeat (first | (with_reducible first | exact HB.out | apply below_alloc | apply pw_below_drewN | apply below_drew1) | exact HB.out))) : w.heap.size ≤ gb132)); clear HB; have HB := n0_; have BK132 := n1_; have GW132 := n2_; have GE132 := n3_; clear n0_ n1_ n2_ n3_; clear hb hbox hg))
  (try simp only [Act.put, List.setIfInBounds_toArray, List.set_cons_zero, List.set_cons_succ])
  go_cut [17] (fun v17 wc => ∃ (kq : Nat) (x17_1 : Bool), v17 = .bool x17_1 ∧ Aside0 (merkhetref01_May.j0 kq x17_1 a0_0 a0_1 a0_2 a0_3 a0_4 a0_5 a0_6 a0_7 = some r) ∧ Aside0 (kq ≤ k) ∧ Aside0 (wc.heap[gb132]? = some (.cells #[.int .u64 a0_0, .int .u64 a0_1, .int .u64 a0_2, .int .u8 a0_3, .string a0_4, .string a0_5, .int .i64 a0_6, .int .i64 a0_7] 37 (0, 0))) ∧ Aside0 (Below w.heap.size w wc))
  case first =>
    have H := HC2.out
    clear HC2
    by_cases c4 : a0_0 = 0
    · rw [if_pos c4] at H
      have c4b0 : (a0_0 == 0) = true := beq_iff_eq.mpr c4
      have c4b1 : (a0_0 != 0) = false := bne_eq_false_iff_eq.mpr c4
      clear c4
      (first | rw [c4b0] | (simp only [i64_w, i32_w]; rw [c4b0]) | skip)
      have H' := Aside0.mk H
      clear H
      have hcz5_0 : w3.cell? ⟨gb132, 0, none⟩ = some (.int .u64 a0_0) := (blk_cell BK132.out 0).trans rfl
      have hcz5_1 : w3.cell? ⟨gb132, 1, none⟩ = some (.int .u64 a0_1) := (blk_cell BK132.out 1).trans rfl
      have hcz5_2 : w3.cell? ⟨gb132, 2, none⟩ = some (.int .u64 a0_2) := (blk_cell BK132.out 2).trans rfl
      have hcz5_3 : w3.cell? ⟨gb132, 3, none⟩ = some (.int .u8 a0_3) := (blk_cell BK132.out 3).trans rfl
      have hcz5_4 : w3.cell? ⟨gb132, 4, none⟩ = some (.string a0_4) := (blk_cell BK132.out 4).trans rfl
      have hcz5_5 : w3.cell? ⟨gb132, 5, none⟩ = some (.string a0_5) := (blk_cell BK132.out 5).trans rfl
      have hcz5_6 : w3.cell? ⟨gb132, 6, none⟩ = some (.int .i64 a0_6) := (blk_cell BK132.out 6).trans rfl
      have hcz5_7 : w3.cell? ⟨gb132, 7, none⟩ = some (.int .i64 a0_7) := (blk_cell BK132.out 7).trans rfl
      have hfz5_0 := blk_frozen BK132.out 0
      have hfz5_1 := blk_frozen BK132.out 1
      have hfz5_2 := blk_frozen BK132.out 2
      have hfz5_3 := blk_frozen BK132.out 3
      have hfz5_4 := blk_frozen BK132.out 4
      have hfz5_5 := blk_frozen BK132.out 5
      have hfz5_6 := blk_frozen BK132.out 6
      have hfz5_7 := blk_frozen BK132.out 7
      go_wp2
      go_meet
      case rel => exact ⟨_, (true), (by first | rfl | (simp; done) | (simp [*]; done)), H', ⟨by first | omega | exact Nat.le_refl _⟩, ⟨by (with_reducible repeat (first | refine blk_drewN ?_ _ | refine blk_drew ?_ | refine blk_alloc ?_ _)); exact BK132.out⟩, ⟨by repeat (first | (with_reducible first | exact HB.out | apply below_alloc | apply pw_below_drewN | apply below_drew1 | refine below_set ?_ GE132.out) | exact HB.out)⟩⟩
    · rw [if_neg c4] at H
      have c4b0 : (a0_0 == 0) = false := beq_eq_false_iff_ne.mpr c4
      have c4b1 : (a0_0 != 0) = true := bne_iff_ne.mpr c4
      (first | rw [c4b0] | (simp only [i64_w, i32_w]; rw [c4b0]) | skip)
      by_cases c6 : a0_1 = 0
      · rw [if_pos c6] at H
        have c6b0 : (a0_1 == 0) = true := beq_iff_eq.mpr c6
        have c6b1 : (a0_1 != 0) = false := bne_eq_false_iff_eq.mpr c6
        clear c6
        have H' := Aside0.mk H
        clear H
        have hcz7_0 : w3.cell? ⟨gb132, 0, none⟩ = some (.int .u64 a0_0) := (blk_cell BK132.out 0).trans rfl
        have hcz7_1 : w3.cell? ⟨gb132, 1, none⟩ = some (.int .u64 a0_1) := (blk_cell BK132.out 1).trans rfl
        have hcz7_2 : w3.cell? ⟨gb132, 2, none⟩ = some (.int .u64 a0_2) := (blk_cell BK132.out 2).trans rfl
        have hcz7_3 : w3.cell? ⟨gb132, 3, none⟩ = some (.int .u8 a0_3) := (blk_cell BK132.out 3).trans rfl
        have hcz7_4 : w3.cell? ⟨gb132, 4, none⟩ = some (.string a0_4) := (blk_cell BK132.out 4).trans rfl
        have hcz7_5 : w3.cell? ⟨gb132, 5, none⟩ = some (.string a0_5) := (blk_cell BK132.out 5).trans rfl
        have hcz7_6 : w3.cell? ⟨gb132, 6, none⟩ = some (.int .i64 a0_6) := (blk_cell BK132.out 6).trans rfl
        have hcz7_7 : w3.cell? ⟨gb132, 7, none⟩ = some (.int .i64 a0_7) := (blk_cell BK132.out 7).trans rfl
        have hfz7_0 := blk_frozen BK132.out 0
        have hfz7_1 := blk_frozen BK132.out 1
        have hfz7_2 := blk_frozen BK132.out 2
        have hfz7_3 := blk_frozen BK132.out 3
        have hfz7_4 := blk_frozen BK132.out 4
        have hfz7_5 := blk_frozen BK132.out 5
        have hfz7_6 := blk_frozen BK132.out 6
        have hfz7_7 := blk_frozen BK132.out 7
        go_wp2
        go_meet
        case rel => exact ⟨_, (true), (by first | rfl | (simp; done) | (simp [*]; done)), H', ⟨by first | omega | exact Nat.le_refl _⟩, ⟨by (with_reducible repeat (first | refine blk_drewN ?_ _ | refine blk_drew ?_ | refine blk_alloc ?_ _)); exact BK132.out⟩, ⟨by repeat (first | (with_reducible first | exact HB.out | apply below_alloc | apply pw_below_drewN | apply below_drew1 | refine below_set ?_ GE132.out) | exact HB.out)⟩⟩
      · rw [if_neg c6] at H
        have c6b0 : (a0_1 == 0) = false := beq_eq_false_iff_ne.mpr c6
        have c6b1 : (a0_1 != 0) = true := bne_iff_ne.mpr c6
        have H' := Aside0.mk H
        clear H
        have hcz8_0 : w3.cell? ⟨gb132, 0, none⟩ = some (.int .u64 a0_0) := (blk_cell BK132.out 0).trans rfl
        have hcz8_1 : w3.cell? ⟨gb132, 1, none⟩ = some (.int .u64 a0_1) := (blk_cell BK132.out 1).trans rfl
        have hcz8_2 : w3.cell? ⟨gb132, 2, none⟩ = some (.int .u64 a0_2) := (blk_cell BK132.out 2).trans rfl
        have hcz8_3 : w3.cell? ⟨gb132, 3, none⟩ = some (.int .u8 a0_3) := (blk_cell BK132.out 3).trans rfl
        have hcz8_4 : w3.cell? ⟨gb132, 4, none⟩ = some (.string a0_4) := (blk_cell BK132.out 4).trans rfl
        have hcz8_5 : w3.cell? ⟨gb132, 5, none⟩ = some (.string a0_5) := (blk_cell BK132.out 5).trans rfl
        have hcz8_6 : w3.cell? ⟨gb132, 6, none⟩ = some (.int .i64 a0_6) := (blk_cell BK132.out 6).trans rfl
        have hcz8_7 : w3.cell? ⟨gb132, 7, none⟩ = some (.int .i64 a0_7) := (blk_cell BK132.out 7).trans rfl
        have hfz8_0 := blk_frozen BK132.out 0
        have hfz8_1 := blk_frozen BK132.out 1
        have hfz8_2 := blk_frozen BK132.out 2
        have hfz8_3 := blk_frozen BK132.out 3
        have hfz8_4 := blk_frozen BK132.out 4
        have hfz8_5 := blk_frozen BK132.out 5
        have hfz8_6 := blk_frozen BK132.out 6
        have hfz8_7 := blk_frozen BK132.out 7
        go_wp2
        go_meet
        case rel => exact ⟨_, ((a0_2 == a0_1)), (by first | rfl | (simp; done) | (simp [*]; done)), H', ⟨by first | omega | exact Nat.le_refl _⟩, ⟨by (with_reducible repeat (first | refine blk_drewN ?_ _ | refine blk_drew ?_ | refine blk_alloc ?_ _)); exact BK132.out⟩, ⟨by repeat (first | (with_reducible first | exact HB.out | apply below_alloc | apply pw_below_drewN | apply below_drew1 | refine below_set ?_ GE132.out) | exact HB.out)⟩⟩
  case rest =>
    clear HC2
    (try clear p2); (try clear c4); (try clear c4b0); (try clear c4b1); (try clear c5); (try clear c6); (try clear c6b0); (try clear c6b1); (try clear hcz5_0); (try clear hcz5_1); (try clear hcz5_2); (try clear hcz5_3); (try clear hcz5_4); (try clear hcz5_5); (try clear hcz5_6); (try clear hcz5_7); (try clear hcz7_0); (try clear hcz7_1); (try clear hcz7_2); (try clear hcz7_3); (try clear hcz7_4); (try clear hcz7_5); (try clear hcz7_6); (try clear hcz7_7); (try clear hcz8_0); (try clear hcz8_1); (try clear hcz8_2); (try clear hcz8_3); (try clear hcz8_4); (try clear hcz8_5); (try clear hcz8_6); (try clear hcz8_7); (try clear hfz5_0); (try clear hfz5_1); (try clear hfz5_2); (try clear hfz5_3); (try clear hfz5_4); (try clear hfz5_5); (try clear hfz5_6); (try clear hfz5_7); (try clear hfz7_0); (try clear hfz7_1); (try clear hfz7_2); (try clear hfz7_3); (try clear hfz7_4); (try clear hfz7_5); (try clear hfz7_6); (try clear hfz7_7); (try clear hfz8_0); (try clear hfz8_1); (try clear hfz8_2); (try clear hfz8_3); (try clear hfz8_4); (try clear hfz8_5); (try clear hfz8_6); (try clear hfz8_7)
    obtain ⟨kq, x17_1, rfl, HA, HJ1, BK132, HB⟩ := hcut
    cases kq with
    | zero => exact absurd HA.out (by simp [merkhetref01_May.j0])
    | succ kj1 =>
      have H := HA.out
      clear HA
      simp only [merkhetref01_May.j0] at H
      by_cases c9 : x17_1 = true
      · subst c9
        have H1 : (some false) = some r := by rw [if_pos rfl] at H; exact H
        clear H
        have H := H1
        clear H1
        obtain rfl := Option.some.inj H
        go_wp2
        go_ret
        exact ⟨by first | rfl | (simp [errW_none, errW_some] <;> rfl) | (simp [*, errW_none, errW_some] <;> rfl), by repeat (first | (with_reducible first | exact HB.out | apply below_alloc | apply pw_below_drewN | apply below_drew1 | refine below_set ?_ GE132.out) | exact HB.out)⟩
      · replace c9 := Bool.eq_false_iff.mpr c9
        subst c9
        have H1 : (if a0_3 = 0 then (merkhetref01_May.j1 kj1 false a0_0 a0_1 a0_2 a0_3 a0_4 a0_5 a0_6 a0_7) else (if a0_3 = 1 then (merkhetref01_May.j1 kj1 false a0_0 a0_1 a0_2 a0_3 a0_4 a0_5 a0_6 a0_7) else (merkhetref01_May.j1 kj1 (a0_3 != 2) a0_0 a0_1 a0_2 a0_3 a0_4 a0_5 a0_6 a0_7))) = some r := by rw [if_neg (show ¬ (false = true) by decide)] at H; exact H
        clear H
        have H := H1
        clear H1
        have HC10 := Aside0.mk H
        clear H
        go_upto_region 3 with (fail)
        go_cut [30] (fun v30 wc => ∃ (kq : Nat) (x30_9 : Bool), v30 = .bool x30_9 ∧ Aside0 (merkhetref01_May.j1 kq x30_9 a0_0 a0_1 a0_2 a0_3 a0_4 a0_5 a0_6 a0_7 = some r) ∧ Aside0 (kq ≤ kj1) ∧ Aside0 (wc.heap[gb132]? = some (.cells #[.int .u64 a0_0, .int .u64 a0_1, .int .u64 a0_2, .int .u8 a0_3, .string a0_4, .string a0_5, .int .i64 a0_6, .int .i64 a0_7] 37 (0, 0))) ∧ Aside0 (Below w.heap.size w wc))
        case first =>
          have H := HC10.out
          clear HC10
          by_cases c11 : a0_3 = 0
          · rw [if_pos c11] at H
            have c11b0 : (a0_3 == 0) = true := beq_iff_eq.mpr c11
            have c11b1 : (a0_3 != 0) = false := bne_eq_false_iff_eq.mpr c11
            clear c11
            (first | rw [c11b0] | (simp only [i64_w, i32_w]; rw [c11b0]) | skip)
            have H' := Aside0.mk H
            clear H
            have hcz12_0 : wc.cell? ⟨gb132, 0, none⟩ = some (.int .u64 a0_0) := (blk_cell BK132.out 0).trans rfl
            have hcz12_1 : wc.cell? ⟨gb132, 1, none⟩ = some (.int .u64 a0_1) := (blk_cell BK132.out 1).trans rfl
            have hcz12_2 : wc.cell? ⟨gb132, 2, none⟩ = some (.int .u64 a0_2) := (blk_cell BK132.out 2).trans rfl
            have hcz12_3 : wc.cell? ⟨gb132, 3, none⟩ = some (.int .u8 a0_3) := (blk_cell BK132.out 3).trans rfl
            have hcz12_4 : wc.cell? ⟨gb132, 4, none⟩ = some (.string a0_4) := (blk_cell BK132.out 4).trans rfl
            have hcz12_5 : wc.cell? ⟨gb132, 5, none⟩ = some (.string a0_5) := (blk_cell BK132.out 5).trans rfl
            have hcz12_6 : wc.cell? ⟨gb132, 6, none⟩ = some (.int .i64 a0_6) := (blk_cell BK132.out 6).trans rfl
            have hcz12_7 : wc.cell? ⟨gb132, 7, none⟩ = some (.int .i64 a0_7) := (blk_cell BK132.out 7).trans rfl
            have hfz12_0 := blk_frozen BK132.out 0
            have hfz12_1 := blk_frozen BK132.out 1
            have hfz12_2 := blk_frozen BK132.out 2
            have hfz12_3 := blk_frozen BK132.out 3
            have hfz12_4 := blk_frozen BK132.out 4
            have hfz12_5 := blk_frozen BK132.out 5
            have hfz12_6 := blk_frozen BK132.out 6
            have hfz12_7 := blk_frozen BK132.out 7
            go_wp2
            go_meet
            case rel => exact ⟨_, (false), (by first | rfl | (simp; done) | (simp [*]; done)), H', ⟨by have := HJ1.out; first | omega | exact Nat.le_refl _⟩, ⟨by (with_reducible repeat (first | refine blk_drewN ?_ _ | refine blk_drew ?_ | refine blk_alloc ?_ _)); exact BK132.out⟩, ⟨by repeat (first | (with_reducible first | exact HB.out | apply below_alloc | apply pw_below_drewN | apply below_drew1 | refine below_set ?_ GE132.out) | exact HB.out)⟩⟩
          · rw [if_neg c11] at H
            have c11b0 : (a0_3 == 0) = false := beq_eq_false_iff_ne.mpr c11
            have c11b1 : (a0_3 != 0) = true := bne_iff_ne.mpr c11
            (first | rw [c11b0] | (simp only [i64_w, i32_w]; rw [c11b0]) | skip)
            by_cases c13 : a0_3 = 1
            · rw [if_pos c13] at H
              have c13b0 : (a0_3 == 1) = true := beq_iff_eq.mpr c13
              have c13b1 : (a0_3 != 1) = false := bne_eq_false_iff_eq.mpr c13
              clear c13
              have H' := Aside0.mk H
              clear H
              have hcz14_0 : wc.cell? ⟨gb132, 0, none⟩ = some (.int .u64 a0_0) := (blk_cell BK132.out 0).trans rfl
              have hcz14_1 : wc.cell? ⟨gb132, 1, none⟩ = some (.int .u64 a0_1) := (blk_cell BK132.out 1).trans rfl
              have hcz14_2 : wc.cell? ⟨gb132, 2, none⟩ = some (.int .u64 a0_2) := (blk_cell BK132.out 2).trans rfl
              have hcz14_3 : wc.cell? ⟨gb132, 3, none⟩ = some (.int .u8 a0_3) := (blk_cell BK132.out 3).trans rfl
              have hcz14_4 : wc.cell? ⟨gb132, 4, none⟩ = some (.string a0_4) := (blk_cell BK132.out 4).trans rfl
              have hcz14_5 : wc.cell? ⟨gb132, 5, none⟩ = some (.string a0_5) := (blk_cell BK132.out 5).trans rfl
              have hcz14_6 : wc.cell? ⟨gb132, 6, none⟩ = some (.int .i64 a0_6) := (blk_cell BK132.out 6).trans rfl
              have hcz14_7 : wc.cell? ⟨gb132, 7, none⟩ = some (.int .i64 a0_7) := (blk_cell BK132.out 7).trans rfl
              have hfz14_0 := blk_frozen BK132.out 0
              have hfz14_1 := blk_frozen BK132.out 1
              have hfz14_2 := blk_frozen BK132.out 2
              have hfz14_3 := blk_frozen BK132.out 3
              have hfz14_4 := blk_frozen BK132.out 4
              have hfz14_5 := blk_frozen BK132.out 5
              have hfz14_6 := blk_frozen BK132.out 6
              have hfz14_7 := blk_frozen BK132.out 7
              go_wp2
              go_meet
              case rel => exact ⟨_, (false), (by first | rfl | (simp; done) | (simp [*]; done)), H', ⟨by have := HJ1.out; first | omega | exact Nat.le_refl _⟩, ⟨by (with_reducible repeat (first | refine blk_drewN ?_ _ | refine blk_drew ?_ | refine blk_alloc ?_ _)); exact BK132.out⟩, ⟨by repeat (first | (with_reducible first | exact HB.out | apply below_alloc | apply pw_below_drewN | apply below_drew1 | refine below_set ?_ GE132.out) | exact HB.out)⟩⟩
            · rw [if_neg c13] at H
              have c13b0 : (a0_3 == 1) = false := beq_eq_false_iff_ne.mpr c13
              have c13b1 : (a0_3 != 1) = true := bne_iff_ne.mpr c13
              have H' := Aside0.mk H
              clear H
              have hcz15_0 : wc.cell? ⟨gb132, 0, none⟩ = some (.int .u64 a0_0) := (blk_cell BK132.out 0).trans rfl
              have hcz15_1 : wc.cell? ⟨gb132, 1, none⟩ = some (.int .u64 a0_1) := (blk_cell BK132.out 1).trans rfl
              have hcz15_2 : wc.cell? ⟨gb132, 2, none⟩ = some (.int .u64 a0_2) := (blk_cell BK132.out 2).trans rfl
              have hcz15_3 : wc.cell? ⟨gb132, 3, none⟩ = some (.int .u8 a0_3) := (blk_cell BK132.out 3).trans rfl
              have hcz15_4 : wc.cell? ⟨gb132, 4, none⟩ = some (.string a0_4) := (blk_cell BK132.out 4).trans rfl
              have hcz15_5 : wc.cell? ⟨gb132, 5, none⟩ = some (.string a0_5) := (blk_cell BK132.out 5).trans rfl
              have hcz15_6 : wc.cell? ⟨gb132, 6, none⟩ = some (.int .i64 a0_6) := (blk_cell BK132.out 6).trans rfl
              have hcz15_7 : wc.cell? ⟨gb132, 7, none⟩ = some (.int .i64 a0_7) := (blk_cell BK132.out 7).trans rfl
              have hfz15_0 := blk_frozen BK132.out 0
              have hfz15_1 := blk_frozen BK132.out 1
              have hfz15_2 := blk_frozen BK132.out 2
              have hfz15_3 := blk_frozen BK132.out 3
              have hfz15_4 := blk_frozen BK132.out 4
              have hfz15_5 := blk_frozen BK132.out 5
              have hfz15_6 := blk_frozen BK132.out 6
              have hfz15_7 := blk_frozen BK132.out 7
              go_wp2
              go_meet
              case rel => exact ⟨_, ((a0_3 != 2)), (by first | rfl | (simp; done) | (simp [*]; done)), H', ⟨by have := HJ1.out; first | omega | exact Nat.le_refl _⟩, ⟨by (with_reducible repeat (first | refine blk_drewN ?_ _ | refine blk_drew ?_ | refine blk_alloc ?_ _)); exact BK132.out⟩, ⟨by repeat (first | (with_reducible first | exact HB.out | apply below_alloc | apply pw_below_drewN | apply below_drew1 | refine below_set ?_ GE132.out) | exact HB.out)⟩⟩
        case rest =>
          clear HC10
          (try clear c1); (try clear p2); (try clear c4); (try clear c4b0); (try clear c4b1); (try clear c5); (try clear c6); (try clear c6b0); (try clear c6b1); (try clear c9); (try clear c11); (try clear c11b0); (try clear c11b1); (try clear c13); (try clear c13b0); (try clear c13b1); (try clear hcz12_0); (try clear hcz12_1); (try clear hcz12_2); (try clear hcz12_3); (try clear hcz12_4); (try clear hcz12_5); (try clear hcz12_6); (try clear hcz12_7); (try clear hcz14_0); (try clear hcz14_1); (try clear hcz14_2); (try clear hcz14_3); (try clear hcz14_4); (try clear hcz14_5); (try clear hcz14_6); (try clear hcz14_7); (try clear hcz15_0); (try clear hcz15_1); (try clear hcz15_2); (try clear hcz15_3); (try clear hcz15_4); (try clear hcz15_5); (try clear hcz15_6); (try clear hcz15_7); (try clear hcz5_0); (try clear hcz5_1); (try clear hcz5_2); (try clear hcz5_3); (try clear hcz5_4); (try clear hcz5_5); (try clear hcz5_6); (try clear hcz5_7); (try clear hcz7_0); (try clear hcz7_1); (try clear hcz7_2); (try clear hcz7_3); (try clear hcz7_4); (try clear hcz7_5); (try clear hcz7_6); (try clear hcz7_7); (try clear hcz8_0); (try clear hcz8_1); (try clear hcz8_2); (try clear hcz8_3); (try clear hcz8_4); (try clear hcz8_5); (try clear hcz8_6); (try clear hcz8_7); (try clear hfz12_0); (try clear hfz12_1); (try clear hfz12_2); (try clear hfz12_3); (try clear hfz12_4); (try clear hfz12_5); (try clear hfz12_6); (try clear hfz12_7); (try clear hfz14_0); (try clear hfz14_1); (try clear hfz14_2); (try clear hfz14_3); (try clear hfz14_4); (try clear hfz14_5); (try clear hfz14_6); (try clear hfz14_7); (try clear hfz15_0); (try clear hfz15_1); (try clear hfz15_2); (try clear hfz15_3); (try clear hfz15_4); (try clear hfz15_5); (try clear hfz15_6); (try clear hfz15_7); (try clear hfz5_0); (try clear hfz5_1); (try clear hfz5_2); (try clear hfz5_3); (try clear hfz5_4); (try clear hfz5_5); (try clear hfz5_6); (try clear hfz5_7); (try clear hfz7_0); (try clear hfz7_1); (try clear hfz7_2); (try clear hfz7_3); (try clear hfz7_4); (try clear hfz7_5); (try clear hfz7_6); (try clear hfz7_7); (try clear hfz8_0); (try clear hfz8_1); (try clear hfz8_2); (try clear hfz8_3); (try clear hfz8_4); (try clear hfz8_5); (try clear hfz8_6); (try clear hfz8_7); (try clear p2)
          obtain ⟨kq, x30_9, rfl, HA, HJ9, BK132, HB⟩ := hcut
          cases kq with
          | zero => exact absurd HA.out (by simp [merkhetref01_May.j1])
          | succ kj9 =>
            have H := HA.out
            clear HA
            simp only [merkhetref01_May.j1] at H
            by_cases c16 : x30_9 = true
            · subst c16
              have H1 : (some false) = some r := by rw [if_pos rfl] at H; exact H
              clear H
              have H := H1
              clear H1
              obtain rfl := Option.some.inj H
              go_wp2
              go_ret
              exact ⟨by first | rfl | (simp [errW_none, errW_some] <;> rfl) | (simp [*, errW_none, errW_some] <;> rfl), by repeat (first | (with_reducible first | exact HB.out | apply below_alloc | apply pw_below_drewN | apply below_drew1 | refine below_set ?_ GE132.out) | exact HB.out)⟩
            · replace c16 := Bool.eq_false_iff.mpr c16
              subst c16
              have H1 : (if a0_6 < 0 then (merkhetref01_May.j2 kj9 true a0_0 a0_1 a0_2 a0_3 a0_4 a0_5 a0_6 a0_7) else (if a0_6 > 1125899906842623 then (merkhetref01_May.j2 kj9 true a0_0 a0_1 a0_2 a0_3 a0_4 a0_5 a0_6 a0_7) else (if a0_7 < 0 then (merkhetref01_May.j2 kj9 true a0_0 a0_1 a0_2 a0_3 a0_4 a0_5 a0_6 a0_7) else (merkhetref01_May.j2 kj9 (decide (a0_7 > 1125899906842624)) a0_0 a0_1 a0_2 a0_3 a0_4 a0_5 a0_6 a0_7)))) = some r := by rw [if_neg (show ¬ (false = true) by decide)] at H; exact H
              clear H
              have H := H1
              clear H1
              have HC17 := Aside0.mk H
              clear H
              go_upto_region 5 with (fail)
              go_cut [48] (fun v48 wc => ∃ (kq : Nat) (x48_16 : Bool), v48 = .bool x48_16 ∧ Aside0 (merkhetref01_May.j2 kq x48_16 a0_0 a0_1 a0_2 a0_3 a0_4 a0_5 a0_6 a0_7 = some r) ∧ Aside0 (kq ≤ kj9) ∧ Aside0 (wc.heap[gb132]? = some (.cells #[.int .u64 a0_0, .int .u64 a0_1, .int .u64 a0_2, .int .u8 a0_3, .string a0_4, .string a0_5, .int .i64 a0_6, .int .i64 a0_7] 37 (0, 0))) ∧ Aside0 (Below w.heap.size w wc))
              case first =>
                have H := HC17.out
                clear HC17
                by_cases c18 : a0_6 < 0
                · rw [if_pos c18] at H
                  have c18b0 : decide (a0_6 < 0) = true := decide_eq_true c18
                  clear c18
                  (first | rw [c18b0] | (simp only [i64_w, i32_w]; rw [c18b0]) | skip)
                  have H' := Aside0.mk H
                  clear H
                  have hcz19_0 : wc.cell? ⟨gb132, 0, none⟩ = some (.int .u64 a0_0) := (blk_cell BK132.out 0).trans rfl
                  have hcz19_1 : wc.cell? ⟨gb132, 1, none⟩ = some (.int .u64 a0_1) := (blk_cell BK132.out 1).trans rfl
                  have hcz19_2 : wc.cell? ⟨gb132, 2, none⟩ = some (.int .u64 a0_2) := (blk_cell BK132.out 2).trans rfl
                  have hcz19_3 : wc.cell? ⟨gb132, 3, none⟩ = some (.int .u8 a0_3) := (blk_cell BK132.out 3).trans rfl
                  have hcz19_4 : wc.cell? ⟨gb132, 4, none⟩ = some (.string a0_4) := (blk_cell BK132.out 4).trans rfl
                  have hcz19_5 : wc.cell? ⟨gb132, 5, none⟩ = some (.string a0_5) := (blk_cell BK132.out 5).trans rfl
                  have hcz19_6 : wc.cell? ⟨gb132, 6, none⟩ = some (.int .i64 a0_6) := (blk_cell BK132.out 6).trans rfl
                  have hcz19_7 : wc.cell? ⟨gb132, 7, none⟩ = some (.int .i64 a0_7) := (blk_cell BK132.out 7).trans rfl
                  have hfz19_0 := blk_frozen BK132.out 0
                  have hfz19_1 := blk_frozen BK132.out 1
                  have hfz19_2 := blk_frozen BK132.out 2
                  have hfz19_3 := blk_frozen BK132.out 3
                  have hfz19_4 := blk_frozen BK132.out 4
                  have hfz19_5 := blk_frozen BK132.out 5
                  have hfz19_6 := blk_frozen BK132.out 6
                  have hfz19_7 := blk_frozen BK132.out 7
                  go_wp2
                  go_meet
                  case rel => exact ⟨_, (true), (by first | rfl | (simp; done) | (simp [*]; done)), H', ⟨by have := HJ1.out; have := HJ9.out; first | omega | exact Nat.le_refl _⟩, ⟨by (with_reducible repeat (first | refine blk_drewN ?_ _ | refine blk_drew ?_ | refine blk_alloc ?_ _)); exact BK132.out⟩, ⟨by repeat (first | (with_reducible first | exact HB.out | apply below_alloc | apply pw_below_drewN | apply below_drew1 | refine below_set ?_ GE132.out) | exact HB.out)⟩⟩
                · rw [if_neg c18] at H
                  have c18b0 : decide (a0_6 < 0) = false := decide_eq_false c18
                  clear c18
                  (first | rw [c18b0] | (simp only [i64_w, i32_w]; rw [c18b0]) | skip)
                  by_cases c20 : a0_6 > 1125899906842623
                  · rw [if_pos c20] at H
                    have c20b0 : decide (1125899906842623 < a0_6) = true := decide_eq_true c20
                    clear c20
                    have H' := Aside0.mk H
                    clear H
                    have hcz21_0 : wc.cell? ⟨gb132, 0, none⟩ = some (.int .u64 a0_0) := (blk_cell BK132.out 0).trans rfl
                    have hcz21_1 : wc.cell? ⟨gb132, 1, none⟩ = some (.int .u64 a0_1) := (blk_cell BK132.out 1).trans rfl
                    have hcz21_2 : wc.cell? ⟨gb132, 2, none⟩ = some (.int .u64 a0_2) := (blk_cell BK132.out 2).trans rfl
                    have hcz21_3 : wc.cell? ⟨gb132, 3, none⟩ = some (.int .u8 a0_3) := (blk_cell BK132.out 3).trans rfl
                    have hcz21_4 : wc.cell? ⟨gb132, 4, none⟩ = some (.string a0_4) := (blk_cell BK132.out 4).trans rfl
                    have hcz21_5 : wc.cell? ⟨gb132, 5, none⟩ = some (.string a0_5) := (blk_cell BK132.out 5).trans rfl
                    have hcz21_6 : wc.cell? ⟨gb132, 6, none⟩ = some (.int .i64 a0_6) := (blk_cell BK132.out 6).trans rfl
                    have hcz21_7 : wc.cell? ⟨gb132, 7, none⟩ = some (.int .i64 a0_7) := (blk_cell BK132.out 7).trans rfl
                    have hfz21_0 := blk_frozen BK132.out 0
                    have hfz21_1 := blk_frozen BK132.out 1
                    have hfz21_2 := blk_frozen BK132.out 2
                    have hfz21_3 := blk_frozen BK132.out 3
                    have hfz21_4 := blk_frozen BK132.out 4
                    have hfz21_5 := blk_frozen BK132.out 5
                    have hfz21_6 := blk_frozen BK132.out 6
                    have hfz21_7 := blk_frozen BK132.out 7
                    go_wp2
                    go_meet
                    case rel => exact ⟨_, (true), (by first | rfl | (simp; done) | (simp [*]; done)), H', ⟨by have := HJ1.out; have := HJ9.out; first | omega | exact Nat.le_refl _⟩, ⟨by (with_reducible repeat (first | refine blk_drewN ?_ _ | refine blk_drew ?_ | refine blk_alloc ?_ _)); exact BK132.out⟩, ⟨by repeat (first | (with_reducible first | exact HB.out | apply below_alloc | apply pw_below_drewN | apply below_drew1 | refine below_set ?_ GE132.out) | exact HB.out)⟩⟩
                  · rw [if_neg c20] at H
                    have c20b0 : decide (1125899906842623 < a0_6) = false := decide_eq_false c20
                    clear c20
                    by_cases c22 : a0_7 < 0
                    · rw [if_pos c22] at H
                      have c22b0 : decide (a0_7 < 0) = true := decide_eq_true c22
                      clear c22
                      have H' := Aside0.mk H
                      clear H
                      have hcz23_0 : wc.cell? ⟨gb132, 0, none⟩ = some (.int .u64 a0_0) := (blk_cell BK132.out 0).trans rfl
                      have hcz23_1 : wc.cell? ⟨gb132, 1, none⟩ = some (.int .u64 a0_1) := (blk_cell BK132.out 1).trans rfl
                      have hcz23_2 : wc.cell? ⟨gb132, 2, none⟩ = some (.int .u64 a0_2) := (blk_cell BK132.out 2).trans rfl
                      have hcz23_3 : wc.cell? ⟨gb132, 3, none⟩ = some (.int .u8 a0_3) := (blk_cell BK132.out 3).trans rfl
                      have hcz23_4 : wc.cell? ⟨gb132, 4, none⟩ = some (.string a0_4) := (blk_cell BK132.out 4).trans rfl
                      have hcz23_5 : wc.cell? ⟨gb132, 5, none⟩ = some (.string a0_5) := (blk_cell BK132.out 5).trans rfl
                      have hcz23_6 : wc.cell? ⟨gb132, 6, none⟩ = some (.int .i64 a0_6) := (blk_cell BK132.out 6).trans rfl
                      have hcz23_7 : wc.cell? ⟨gb132, 7, none⟩ = some (.int .i64 a0_7) := (blk_cell BK132.out 7).trans rfl
                      have hfz23_0 := blk_frozen BK132.out 0
                      have hfz23_1 := blk_frozen BK132.out 1
                      have hfz23_2 := blk_frozen BK132.out 2
                      have hfz23_3 := blk_frozen BK132.out 3
                      have hfz23_4 := blk_frozen BK132.out 4
                      have hfz23_5 := blk_frozen BK132.out 5
                      have hfz23_6 := blk_frozen BK132.out 6
                      have hfz23_7 := blk_frozen BK132.out 7
                      go_wp2
                      go_meet
                      case rel => exact ⟨_, (true), (by first | rfl | (simp; done) | (simp [*]; done)), H', ⟨by have := HJ1.out; have := HJ9.out; first | omega | exact Nat.le_refl _⟩, ⟨by (with_reducible repeat (first | refine blk_drewN ?_ _ | refine blk_drew ?_ | refine blk_alloc ?_ _)); exact BK132.out⟩, ⟨by repeat (first | (with_reducible first | exact HB.out | apply below_alloc | apply pw_below_drewN | apply below_drew1 | refine below_set ?_ GE132.out) | exact HB.out)⟩⟩
                    · rw [if_neg c22] at H
                      have c22b0 : decide (a0_7 < 0) = false := decide_eq_false c22
                      clear c22
                      have H' := Aside0.mk H
                      clear H
                      have hcz24_0 : wc.cell? ⟨gb132, 0, none⟩ = some (.int .u64 a0_0) := (blk_cell BK132.out 0).trans rfl
                      have hcz24_1 : wc.cell? ⟨gb132, 1, none⟩ = some (.int .u64 a0_1) := (blk_cell BK132.out 1).trans rfl
                      have hcz24_2 : wc.cell? ⟨gb132, 2, none⟩ = some (.int .u64 a0_2) := (blk_cell BK132.out 2).trans rfl
                      have hcz24_3 : wc.cell? ⟨gb132, 3, none⟩ = some (.int .u8 a0_3) := (blk_cell BK132.out 3).trans rfl
                      have hcz24_4 : wc.cell? ⟨gb132, 4, none⟩ = some (.string a0_4) := (blk_cell BK132.out 4).trans rfl
                      have hcz24_5 : wc.cell? ⟨gb132, 5, none⟩ = some (.string a0_5) := (blk_cell BK132.out 5).trans rfl
                      have hcz24_6 : wc.cell? ⟨gb132, 6, none⟩ = some (.int .i64 a0_6) := (blk_cell BK132.out 6).trans rfl
                      have hcz24_7 : wc.cell? ⟨gb132, 7, none⟩ = some (.int .i64 a0_7) := (blk_cell BK132.out 7).trans rfl
                      have hfz24_0 := blk_frozen BK132.out 0
                      have hfz24_1 := blk_frozen BK132.out 1
                      have hfz24_2 := blk_frozen BK132.out 2
                      have hfz24_3 := blk_frozen BK132.out 3
                      have hfz24_4 := blk_frozen BK132.out 4
                      have hfz24_5 := blk_frozen BK132.out 5
                      have hfz24_6 := blk_frozen BK132.out 6
                      have hfz24_7 := blk_frozen BK132.out 7
                      go_wp2
                      go_meet
                      case rel => exact ⟨_, (decide (a0_7 > 1125899906842624)), (by first | rfl | (simp; done) | (simp [*]; done)), H', ⟨by have := HJ1.out; have := HJ9.out; first | omega | exact Nat.le_refl _⟩, ⟨by (with_reducible repeat (first | refine blk_drewN ?_ _ | refine blk_drew ?_ | refine blk_alloc ?_ _)); exact BK132.out⟩, ⟨by repeat (first | (with_reducible first | exact HB.out | apply below_alloc | apply pw_below_drewN | apply below_drew1 | refine below_set ?_ GE132.out) | exact HB.out)⟩⟩
              case rest =>
                clear HC17
                (try clear c1); (try clear c2); (try clear p2); (try clear c4); (try clear c4b0); (try clear c4b1); (try clear c5); (try clear c6); (try clear c6b0); (try clear c6b1); (try clear c9); (try clear c11); (try clear c11b0); (try clear c11b1); (try clear c13); (try clear c13b0); (try clear c13b1); (try clear c16); (try clear c18); (try clear c18b0); (try clear c20); (try clear c20b0); (try clear c22); (try clear c22b0); (try clear hcz12_0); (try clear hcz12_1); (try clear hcz12_2); (try clear hcz12_3); (try clear hcz12_4); (try clear hcz12_5); (try clear hcz12_6); (try clear hcz12_7); (try clear hcz14_0); (try clear hcz14_1); (try clear hcz14_2); (try clear hcz14_3); (try clear hcz14_4); (try clear hcz14_5); (try clear hcz14_6); (try clear hcz14_7); (try clear hcz15_0); (try clear hcz15_1); (try clear hcz15_2); (try clear hcz15_3); (try clear hcz15_4); (try clear hcz15_5); (try clear hcz15_6); (try clear hcz15_7); (try clear hcz19_0); (try clear hcz19_1); (try clear hcz19_2); (try clear hcz19_3); (try clear hcz19_4); (try clear hcz19_5); (try clear hcz19_6); (try clear hcz19_7); (try clear hcz21_0); (try clear hcz21_1); (try clear hcz21_2); (try clear hcz21_3); (try clear hcz21_4); (try clear hcz21_5); (try clear hcz21_6); (try clear hcz21_7); (try clear hcz23_0); (try clear hcz23_1); (try clear hcz23_2); (try clear hcz23_3); (try clear hcz23_4); (try clear hcz23_5); (try clear hcz23_6); (try clear hcz23_7); (try clear hcz24_0); (try clear hcz24_1); (try clear hcz24_2); (try clear hcz24_3); (try clear hcz24_4); (try clear hcz24_5); (try clear hcz24_6); (try clear hcz24_7); (try clear hcz5_0); (try clear hcz5_1); (try clear hcz5_2); (try clear hcz5_3); (try clear hcz5_4); (try clear hcz5_5); (try clear hcz5_6); (try clear hcz5_7); (try clear hcz7_0); (try clear hcz7_1); (try clear hcz7_2); (try clear hcz7_3); (try clear hcz7_4); (try clear hcz7_5); (try clear hcz7_6); (try clear hcz7_7); (try clear hcz8_0); (try clear hcz8_1); (try clear hcz8_2); (try clear hcz8_3); (try clear hcz8_4); (try clear hcz8_5); (try clear hcz8_6); (try clear hcz8_7); (try clear hfz12_0); (try clear hfz12_1); (try clear hfz12_2); (try clear hfz12_3); (try clear hfz12_4); (try clear hfz12_5); (try clear hfz12_6); (try clear hfz12_7); (try clear hfz14_0); (try clear hfz14_1); (try clear hfz14_2); (try clear hfz14_3); (try clear hfz14_4); (try clear hfz14_5); (try clear hfz14_6); (try clear hfz14_7); (try clear hfz15_0); (try clear hfz15_1); (try clear hfz15_2); (try clear hfz15_3); (try clear hfz15_4); (try clear hfz15_5); (try clear hfz15_6); (try clear hfz15_7); (try clear hfz19_0); (try clear hfz19_1); (try clear hfz19_2); (try clear hfz19_3); (try clear hfz19_4); (try clear hfz19_5); (try clear hfz19_6); (try clear hfz19_7); (try clear hfz21_0); (try clear hfz21_1); (try clear hfz21_2); (try clear hfz21_3); (try clear hfz21_4); (try clear hfz21_5); (try clear hfz21_6); (try clear hfz21_7); (try clear hfz23_0); (try clear hfz23_1); (try clear hfz23_2); (try clear hfz23_3); (try clear hfz23_4); (try clear hfz23_5); (try clear hfz23_6); (try clear hfz23_7); (try clear hfz24_0); (try clear hfz24_1); (try clear hfz24_2); (try clear hfz24_3); (try clear hfz24_4); (try clear hfz24_5); (try clear hfz24_6); (try clear hfz24_7); (try clear hfz5_0); (try clear hfz5_1); (try clear hfz5_2); (try clear hfz5_3); (try clear hfz5_4); (try clear hfz5_5); (try clear hfz5_6); (try clear hfz5_7); (try clear hfz7_0); (try clear hfz7_1); (try clear hfz7_2); (try clear hfz7_3); (try clear hfz7_4); (try clear hfz7_5); (try clear hfz7_6); (try clear hfz7_7); (try clear hfz8_0); (try clear hfz8_1); (try clear hfz8_2); (try clear hfz8_3); (try clear hfz8_4); (try clear hfz8_5); (try clear hfz8_6); (try clear hfz8_7); (try clear p2)
                obtain ⟨kq, x48_16, rfl, HA, HJ16, BK132, HB⟩ := hcut
                cases kq with
                | zero => exact absurd HA.out (by simp [merkhetref01_May.j2])
                | succ kj16 =>
                  have H := HA.out
                  clear HA
                  simp only [merkhetref01_May.j2] at H
                  by_cases c25 : x48_16 = true
                  · subst c25
                    have H1 : (some false) = some r := by rw [if_pos rfl] at H; exact H
                    clear H
                    have H := H1
                    clear H1
                    obtain rfl := Option.some.inj H
                    go_wp2
                    go_ret
                    exact ⟨by first | rfl | (simp [errW_none, errW_some] <;> rfl) | (simp [*, errW_none, errW_some] <;> rfl), by repeat (first | (with_reducible first | exact HB.out | apply below_alloc | apply pw_below_drewN | apply below_drew1 | refine below_set ?_ GE132.out) | exact HB.out)⟩
                  · replace c25 := Bool.eq_false_iff.mpr c25
                    subst c25
                    have H1 : ((merkhetref01_Name.f kj16 a0_4).bind fun t133 => (if t133 = true then ((merkhetref01_Name.f kj16 a0_5).bind fun t134 => (some t134)) else (some false))) = some r := by rw [if_neg (show ¬ (false = true) by decide)] at H; exact H
                    clear H
                    have H := H1
                    clear H1
                    replace H := Option.bind_eq_some_iff.mp H
                    obtain ⟨t133, A260, H⟩ := H
                    replace H : (if t133 = true then ((merkhetref01_Name.f kj16 a0_5).bind fun t134 => (some t134)) else (some false)) = some r := H
                    have A26 := Aside0.mk A260
                    clear A260
                    by_cases c27 : t133 = true
                    · subst c27
                      have H1 : ((merkhetref01_Name.f kj16 a0_5).bind fun t134 => (some t134)) = some r := by rw [if_pos rfl] at H; exact H
                      clear H
                      have H := H1
                      clear H1
                      replace H := Option.bind_eq_some_iff.mp H
                      obtain ⟨t134, A280, H⟩ := H
                      replace H : (some t134) = some r := H
                      have A28 := Aside0.mk A280
                      clear A280
                      obtain rfl := Option.some.inj H
                      have hcz29_0 : wc.cell? ⟨gb132, 0, none⟩ = some (.int .u64 a0_0) := (blk_cell BK132.out 0).trans rfl
                      have hcz29_1 : wc.cell? ⟨gb132, 1, none⟩ = some (.int .u64 a0_1) := (blk_cell BK132.out 1).trans rfl
                      have hcz29_2 : wc.cell? ⟨gb132, 2, none⟩ = some (.int .u64 a0_2) := (blk_cell BK132.out 2).trans rfl
                      have hcz29_3 : wc.cell? ⟨gb132, 3, none⟩ = some (.int .u8 a0_3) := (blk_cell BK132.out 3).trans rfl
                      have hcz29_4 : wc.cell? ⟨gb132, 4, none⟩ = some (.string a0_4) := (blk_cell BK132.out 4).trans rfl
                      have hcz29_5 : wc.cell? ⟨gb132, 5, none⟩ = some (.string a0_5) := (blk_cell BK132.out 5).trans rfl
                      have hcz29_6 : wc.cell? ⟨gb132, 6, none⟩ = some (.int .i64 a0_6) := (blk_cell BK132.out 6).trans rfl
                      have hcz29_7 : wc.cell? ⟨gb132, 7, none⟩ = some (.int .i64 a0_7) := (blk_cell BK132.out 7).trans rfl
                      have hfz29_0 := blk_frozen BK132.out 0
                      have hfz29_1 := blk_frozen BK132.out 1
                      have hfz29_2 := blk_frozen BK132.out 2
                      have hfz29_3 := blk_frozen BK132.out 3
                      have hfz29_4 := blk_frozen BK132.out 4
                      have hfz29_5 := blk_frozen BK132.out 5
                      have hfz29_6 := blk_frozen BK132.out 6
                      have hfz29_7 := blk_frozen BK132.out 7
                      go_wp2_with (first | ((with_reducible refine gate_callee (f := 101) rfl ?_); refine goesL_ (some 51) rfl rfl Try.func101 (by kernel_rfl) rfl #[.string a0_4] rfl (by (try simp only [List.map_toArray, List.map_cons, List.map_nil]); first | done | rfl | (simp only [List.length_drop, List.length_take]; rfl)) ?_; (with_reducible refine (merkhetref01_Name.calls kj16 a0_4 true _ A26.out).mono ?_); rintro e w' ⟨rfl, ⟨nd, rfl⟩⟩; refine ⟨_, rfl, ?_⟩) | (go_at_call 101; (with_reducible refine (merkhetref01_Name.calls kj16 a0_5 t134 _ A28.out).mono ?_); rintro e w' ⟨rfl, ⟨nd, rfl⟩⟩))
                      go_ret
                      exact ⟨by first | rfl | (simp [errW_none, errW_some] <;> rfl) | (simp [*, errW_none, errW_some] <;> rfl), by repeat (first | (with_reducible first | exact HB.out | apply below_alloc | apply pw_below_drewN | apply below_drew1 | refine below_set ?_ GE132.out) | exact HB.out)⟩
                    · replace c27 := Bool.eq_false_iff.mpr c27
                      subst c27
                      have H1 : (some false) = some r := by rw [if_neg (show ¬ (false = true) by decide)] at H; exact H
                      clear H
                      have H := H1
                      clear H1
                      obtain rfl := Option.some.inj H
                      have hcz30_0 : wc.cell? ⟨gb132, 0, none⟩ = some (.int .u64 a0_0) := (blk_cell BK132.out 0).trans rfl
                      have hcz30_1 : wc.cell? ⟨gb132, 1, none⟩ = some (.int .u64 a0_1) := (blk_cell BK132.out 1).trans rfl
                      have hcz30_2 : wc.cell? ⟨gb132, 2, none⟩ = some (.int .u64 a0_2) := (blk_cell BK132.out 2).trans rfl
                      have hcz30_3 : wc.cell? ⟨gb132, 3, none⟩ = some (.int .u8 a0_3) := (blk_cell BK132.out 3).trans rfl
                      have hcz30_4 : wc.cell? ⟨gb132, 4, none⟩ = some (.string a0_4) := (blk_cell BK132.out 4).trans rfl
                      have hcz30_5 : wc.cell? ⟨gb132, 5, none⟩ = some (.string a0_5) := (blk_cell BK132.out 5).trans rfl
                      have hcz30_6 : wc.cell? ⟨gb132, 6, none⟩ = some (.int .i64 a0_6) := (blk_cell BK132.out 6).trans rfl
                      have hcz30_7 : wc.cell? ⟨gb132, 7, none⟩ = some (.int .i64 a0_7) := (blk_cell BK132.out 7).trans rfl
                      have hfz30_0 := blk_frozen BK132.out 0
                      have hfz30_1 := blk_frozen BK132.out 1
                      have hfz30_2 := blk_frozen BK132.out 2
                      have hfz30_3 := blk_frozen BK132.out 3
                      have hfz30_4 := blk_frozen BK132.out 4
                      have hfz30_5 := blk_frozen BK132.out 5
                      have hfz30_6 := blk_frozen BK132.out 6
                      have hfz30_7 := blk_frozen BK132.out 7
                      go_wp2_with (first | ((with_reducible refine gate_callee (f := 101) rfl ?_); refine goesL_ (some 51) rfl rfl Try.func101 (by kernel_rfl) rfl #[.string a0_4] rfl (by (try simp only [List.map_toArray, List.map_cons, List.map_nil]); first | done | rfl | (simp only [List.length_drop, List.length_take]; rfl)) ?_; (with_reducible refine (merkhetref01_Name.calls kj16 a0_4 false _ A26.out).mono ?_); rintro e w' ⟨rfl, ⟨nd, rfl⟩⟩; refine ⟨_, rfl, ?_⟩))
                      go_ret
                      exact ⟨by first | rfl | (simp [errW_none, errW_some] <;> rfl) | (simp [*, errW_none, errW_some] <;> rfl), by repeat (first | (with_reducible first | exact HB.out | apply below_alloc | apply pw_below_drewN | apply below_drew1 | refine below_set ?_ GE132.out) | exact HB.out)⟩

end Go.Proofs.Ytmfdhcgdibefiaa.Q

-- Written by wip/tools/gp.py, a program of this session round the kit's printer. Lean checks it.
namespace Go.Proofs.Ytmfdhcgdibefiaa.Q
open Go.RowKit Go.Proofs.YtmfdhcgdibefiaaW.PrintWords Go.Proofs.YtmfdhcgdibefiaaW.PrintLast Go.Proofs.YtmfdhcgdibefiaaW.PrintMore
attribute [local go_sem] max2_int min2_int max_two min_two max_three min_three max_four min_four   -- for this text's walks alone
set_option linter.unusedVariables false
set_option linter.unusedSimpArgs false

/-! ### merkhetlaw04_Great: function 15 -/
def merkhetlaw04_Great.l0 : Nat → List (S37) → Int → Int → Option (Bool)
  | 0, _, _, _ => none
  | k + 1, x8, x9, x10 => if x10 < x9 then (if 0 ≤ x10 then (if x10 < (x8.length : Int) then (if (((rd_T37 x8 x10).f4).size : Int) > 100 then (some true) else (if (((rd_T37 x8 x10).f5).size : Int) > 100 then (some true) else (merkhetlaw04_Great.l0 k x8 x9 (wrap64 (x10 + 1))))) else (none)) else (none)) else (some false)
def merkhetlaw04_Great.f (k : Nat) (l0 : List (S37)) : Option (Bool) := if (l0.length : Int) > 60 then (some true) else (merkhetlaw04_Great.l0 k l0 (l0.length : Int) 0)
theorem merkhetlaw04_Great.mono_l : ∀ k, (∀ y0 y1 y2, LeO (merkhetlaw04_Great.l0 k y0 y1 y2) (merkhetlaw04_Great.l0 (k + 1) y0 y1 y2))
  | 0 => fun _ _ _ r h => by simp [merkhetlaw04_Great.l0] at h
  | k + 1 => by
    have ih0 := merkhetlaw04_Great.mono_l k
    · intro y0 y1 y2
      unfold merkhetlaw04_Great.l0
      repeat' first
      | (with_reducible exact ih0 _ _ _)
      | (with_reducible exact LeO.refl _)
      | (with_reducible exact LeO.none _)
      | (with_reducible refine LeO.ite ?_ ?_)
      | (with_reducible refine LeO.bind ?_ (fun _ => ?_))
      | exact ih0 _ _ _
      | exact LeO.none _
      | refine LeO.ite ?_ ?_
      | refine LeO.bind ?_ (fun _ => ?_)
theorem merkhetlaw04_Great.mono : ∀ a0 k, LeO (merkhetlaw04_Great.f k a0) (merkhetlaw04_Great.f (k + 1) a0) := by
  intro a0 k
  have ih0 := merkhetlaw04_Great.mono_l k
  unfold merkhetlaw04_Great.f
  repeat' first
      | (with_reducible exact ih0 _ _ _)
      | (with_reducible exact LeO.refl _)
      | (with_reducible exact LeO.none _)
      | (with_reducible refine LeO.ite ?_ ?_)
      | (with_reducible refine LeO.bind ?_ (fun _ => ?_))
      | exact ih0 _ _ _
      | exact LeO.none _
      | refine LeO.ite ?_ ?_
      | refine LeO.bind ?_ (fun _ => ?_)
set_option maxHeartbeats 8000000 in
set_option maxRecDepth 100000 in
theorem merkhetlaw04_Great.calls (k : Nat) (A0 : Option Addr) (c0 : Nat) (l0 : List (S37)) (r : Bool) (w : World) (hr0 : Kd.C k37 w A0 l0.length l0) (hc0 : l0.length ≤ c0) (h : merkhetlaw04_Great.f k l0 = some r) :
    Calls Try.prog 15 #[.slice A0 l0.length c0] w fun e w' => e = .returned (.bool r) ∧ Below w.heap.size w w' := by
  have hu37 := Try.underlying37
  have HR0 := Aside0.mk hr0
  have HC0 := Aside0.mk hc0
  clear hr0 hc0
  have HB := Aside0.mk (Below.refl w.heap.size w)
  have H : (if (l0.length : Int) > 60 then (some true) else (merkhetlaw04_Great.l0 k l0 (l0.length : Int) 0)) = some r := h
  clear h
  by_cases c2 : (l0.length : Int) > 60
  · rw [if_pos c2] at H
    have c2b0 : decide (60 < (l0.length : Int)) = true := decide_eq_true c2
    have c2b1 : decide (60 < l0.length) = true := decide_eq_true (by omega)
    clear c2
    obtain rfl := Option.some.inj H
    go_enter Try.func15, Try.ntmps15
    go_wp2
    go_ret
    exact ⟨by first | rfl | (simp [errW_none, errW_some] <;> rfl) | (simp [*, errW_none, errW_some] <;> rfl), by repeat (first | (with_reducible first | exact HB.out | apply below_alloc | apply pw_below_drewN | apply below_drew1) | exact HB.out)⟩
  · rw [if_neg c2] at H
    have c2b0 : decide (60 < (l0.length : Int)) = false := decide_eq_false c2
    have c2b1 : decide (60 < l0.length) = false := decide_eq_false (by omega)
    clear c2
    have H' := Aside0.mk H
    clear H
    go_enter Try.func15, Try.ntmps15
    go_wp2
    go_loopg [10] k (fun kq v10 w' => ∃ (x10_1 : Int), v10 = .int .i64 x10_1 ∧ Aside0 (merkhetlaw04_Great.l0 kq l0 (l0.length : Int) x10_1 = some r) ∧ Aside0 (kq ≤ k) ∧ Aside0 (Below w.heap.size w w'))
    case atStart => exact ⟨(0), (by first | rfl | (simp; done) | (simp [*]; done)), H', ⟨Nat.le_refl _⟩, ⟨by repeat (first | (with_reducible first | exact HB.out | apply below_alloc | apply pw_below_drewN | apply below_drew1) | exact HB.out)⟩⟩
    case round =>
      clear H'
      (try clear c1); (try clear c2); (try clear c2b0); (try clear c2b1); (try clear p2)
      obtain ⟨x10_1, rfl, HA, HK1, HB⟩ := hrel
      cases gk with
      | zero => exact absurd HA.out (by simp [merkhetlaw04_Great.l0])
      | succ k1 =>
        have H := HA.out
        clear HA
        simp only [merkhetlaw04_Great.l0] at H
        by_cases c3 : x10_1 < (l0.length : Int)
        · rw [if_pos c3] at H
          have c3b0 : decide (x10_1 < (l0.length : Int)) = true := decide_eq_true c3
          clear c3
          by_cases c4 : 0 ≤ x10_1
          · rw [if_pos c4] at H
            have c4b0 : decide (0 ≤ x10_1) = true := decide_eq_true c4
            clear c4
            by_cases c5 : x10_1 < (l0.length : Int)
            · rw [if_pos c5] at H
              have c5b0 : decide (x10_1 < (l0.length : Int)) = true := decide_eq_true c5
              clear c5
              by_cases c6 : (((rd_T37 l0 x10_1).f4).size : Int) > 100
              · rw [if_pos c6] at H
                have c6b0 : decide (100 < (((rd_T37 l0 x10_1).f4).size : Int)) = true := decide_eq_true c6
                have c6b1 : decide (100 < ((rd_T37 l0 x10_1).f4).size) = true := decide_eq_true (by omega)
                clear c6
                obtain rfl := Option.some.inj H
                have p101 : 0 ≤ (x10_1 : Int) := of_decide_eq_true (by first | (with_reducible assumption) | assumption)
                have q101 : x10_1 < (l0.length : Int) := of_decide_eq_true (by first | (with_reducible assumption) | assumption)
                obtain ⟨ad101, e101, hx101_0, hx101_1, hx101_2, hx101_3, hx101_4, hx101_5, hx101_6, hx101_7⟩ := at_T37 HR0.out x10_1 p101 q101
                cases e101
                replace hx101_0 := (HB.out.cell (World.block_lt_of_cell? w _ hx101_0)).trans hx101_0
                replace hx101_1 := (HB.out.cell (World.block_lt_of_cell? w _ hx101_1)).trans hx101_1
                replace hx101_2 := (HB.out.cell (World.block_lt_of_cell? w _ hx101_2)).trans hx101_2
                replace hx101_3 := (HB.out.cell (World.block_lt_of_cell? w _ hx101_3)).trans hx101_3
                replace hx101_4 := (HB.out.cell (World.block_lt_of_cell? w _ hx101_4)).trans hx101_4
                replace hx101_5 := (HB.out.cell (World.block_lt_of_cell? w _ hx101_5)).trans hx101_5
                replace hx101_6 := (HB.out.cell (World.block_lt_of_cell? w _ hx101_6)).trans hx101_6
                replace hx101_7 := (HB.out.cell (World.block_lt_of_cell? w _ hx101_7)).trans hx101_7
                replace p101 := eq_true p101
                replace q101 := eq_true q101
                go_wp2_with (first | ((with_reducible refine gate_dst (N := 4) rfl ?_); (try (refine gate_guard (by rfl) ?_; dsimp only)); refine box_event ?hg (N := 4) ?hd (cs := #[.int .u64 0, .int .u64 0, .int .u64 0, .int .u8 0, .string (⟨#[]⟩ : ByteArray), .string (⟨#[]⟩ : ByteArray), .int .i64 0, .int .i64 0]) (t := 37) ?hr ?_; (case hd => rfl); (case hg => rfl); (case hr => first | (go_simp; done) | (go_simp; rfl)); intro gb102 hg w7 hbox hb; have n0_ := Aside0.mk (below_step (by repeat (first | (with_reducible first | exact HB.out | apply below_alloc | apply pw_below_drewN | apply below_drew1) | exact HB.out)) hb); have n1_ := Aside0.mk (hbox); have n2_ := Aside0.mk ((by rw [hg]; exact (below_size (by repeat (first | (with_reducible first | exact HB.out | apply below_alloc | apply pw_below_drewN | apply below_drew1) | exact HB.out))) : w.heap.size ≤ gb102)); have n3_ := Aside0.mk ((by rw [hg]; exact (below_size (by repeat (first | (with_reducible first | exact HB.out | apply below_alloc | apply pw_below_drewN | apply below_drew1) | exact HB.out))) : w.heap.size ≤ gb102)); clear HB; have HB := n0_; have BK102 := n1_; have GW102 := n2_; have GE102 := n3_; clear n0_ n1_ n2_ n3_; clear hb hbox hg; have hcz8_0 : w7.cell? ⟨gb102, 0, none⟩ = some (.int .u64 0) := (blk_cell BK102.out 0).trans rfl; have hcz8_1 : w7.cell? ⟨gb102, 1, none⟩ = some (.int .u64 0) := (blk_cell BK102.out 1).trans rfl; have hcz8_2 : w7.cell? ⟨gb102, 2, none⟩ = some (.int .u64 0) := (blk_cell BK102.out 2).trans rfl; have hcz8_3 : w7.cell? ⟨gb102, 3, none⟩ = some (.int .u8 0) := (blk_cell BK102.out 3).trans rfl; have hcz8_4 : w7.cell? ⟨gb102, 4, none⟩ = some (.string (⟨#[]⟩ : ByteArray)) := (blk_cell BK102.out 4).trans rfl; have hcz8_5 : w7.cell? ⟨gb102, 5, none⟩ = some (.string (⟨#[]⟩ : ByteArray)) := (blk_cell BK102.out 5).trans rfl; have hcz8_6 : w7.cell? ⟨gb102, 6, none⟩ = some (.int .i64 0) := (blk_cell BK102.out 6).trans rfl; have hcz8_7 : w7.cell? ⟨gb102, 7, none⟩ = some (.int .i64 0) := (blk_cell BK102.out 7).trans rfl; have hfz8_0 := blk_frozen BK102.out 0; have hfz8_1 := blk_frozen BK102.out 1; have hfz8_2 := blk_frozen BK102.out 2; have hfz8_3 := blk_frozen BK102.out 3; have hfz8_4 := blk_frozen BK102.out 4; have hfz8_5 := blk_frozen BK102.out 5; have hfz8_6 := blk_frozen BK102.out 6; have hfz8_7 := blk_frozen BK102.out 7))
                go_ret
                exact ⟨by first | rfl | (simp [errW_none, errW_some] <;> rfl) | (simp [*, errW_none, errW_some] <;> rfl), by repeat (first | (with_reducible first | exact HB.out | apply below_alloc | apply pw_below_drewN | apply below_drew1 | refine below_set ?_ GE102.out) | exact HB.out)⟩
              · rw [if_neg c6] at H
                have c6b0 : decide (100 < (((rd_T37 l0 x10_1).f4).size : Int)) = false := decide_eq_false c6
                have c6b1 : decide (100 < ((rd_T37 l0 x10_1).f4).size) = false := decide_eq_false (by omega)
                clear c6
                by_cases c9 : (((rd_T37 l0 x10_1).f5).size : Int) > 100
                · rw [if_pos c9] at H
                  have c9b0 : decide (100 < (((rd_T37 l0 x10_1).f5).size : Int)) = true := decide_eq_true c9
                  have c9b1 : decide (100 < ((rd_T37 l0 x10_1).f5).size) = true := decide_eq_true (by omega)
                  clear c9
                  obtain rfl := Option.some.inj H
                  have p101 : 0 ≤ (x10_1 : Int) := of_decide_eq_true (by first | (with_reducible assumption) | assumption)
                  have q101 : x10_1 < (l0.length : Int) := of_decide_eq_true (by first | (with_reducible assumption) | assumption)
                  obtain ⟨ad101, e101, hx101_0, hx101_1, hx101_2, hx101_3, hx101_4, hx101_5, hx101_6, hx101_7⟩ := at_T37 HR0.out x10_1 p101 q101
                  cases e101
                  replace hx101_0 := (HB.out.cell (World.block_lt_of_cell? w _ hx101_0)).trans hx101_0
                  replace hx101_1 := (HB.out.cell (World.block_lt_of_cell? w _ hx101_1)).trans hx101_1
                  replace hx101_2 := (HB.out.cell (World.block_lt_of_cell? w _ hx101_2)).trans hx101_2
                  replace hx101_3 := (HB.out.cell (World.block_lt_of_cell? w _ hx101_3)).trans hx101_3
                  replace hx101_4 := (HB.out.cell (World.block_lt_of_cell? w _ hx101_4)).trans hx101_4
                  replace hx101_5 := (HB.out.cell (World.block_lt_of_cell? w _ hx101_5)).trans hx101_5
                  replace hx101_6 := (HB.out.cell (World.block_lt_of_cell? w _ hx101_6)).trans hx101_6
                  replace hx101_7 := (HB.out.cell (World.block_lt_of_cell? w _ hx101_7)).trans hx101_7
                  replace p101 := eq_true p101
                  replace q101 := eq_true q101
                  go_wp2_with (first | ((with_reducible refine gate_dst (N := 4) rfl ?_); (try (refine gate_guard (by rfl) ?_; dsimp only)); refine box_event ?hg (N := 4) ?hd (cs := #[.int .u64 0, .int .u64 0, .int .u64 0, .int .u8 0, .string (⟨#[]⟩ : ByteArray), .string (⟨#[]⟩ : ByteArray), .int .i64 0, .int .i64 0]) (t := 37) ?hr ?_; (case hd => rfl); (case hg => rfl); (case hr => first | (go_simp; done) | (go_simp; rfl)); intro gb102 hg w10 hbox hb; have n0_ := Aside0.mk (below_step (by repeat (first | (with_reducible first | exact HB.out | apply below_alloc | apply pw_below_drewN | apply below_drew1) | exact HB.out)) hb); have n1_ := Aside0.mk (hbox); have n2_ := Aside0.mk ((by rw [hg]; exact (below_size (by repeat (first | (with_reducible first | exact HB.out | apply below_alloc | apply pw_below_drewN | apply below_drew1) | exact HB.out))) : w.heap.size ≤ gb102)); have n3_ := Aside0.mk ((by rw [hg]; exact (below_size (by repeat (first | (with_reducible first | exact HB.out | apply below_alloc | apply pw_below_drewN | apply below_drew1) | exact HB.out))) : w.heap.size ≤ gb102)); clear HB; have HB := n0_; have BK102 := n1_; have GW102 := n2_; have GE102 := n3_; clear n0_ n1_ n2_ n3_; clear hb hbox hg; have hcz11_0 : w10.cell? ⟨gb102, 0, none⟩ = some (.int .u64 0) := (blk_cell BK102.out 0).trans rfl; have hcz11_1 : w10.cell? ⟨gb102, 1, none⟩ = some (.int .u64 0) := (blk_cell BK102.out 1).trans rfl; have hcz11_2 : w10.cell? ⟨gb102, 2, none⟩ = some (.int .u64 0) := (blk_cell BK102.out 2).trans rfl; have hcz11_3 : w10.cell? ⟨gb102, 3, none⟩ = some (.int .u8 0) := (blk_cell BK102.out 3).trans rfl; have hcz11_4 : w10.cell? ⟨gb102, 4, none⟩ = some (.string (⟨#[]⟩ : ByteArray)) := (blk_cell BK102.out 4).trans rfl; have hcz11_5 : w10.cell? ⟨gb102, 5, none⟩ = some (.string (⟨#[]⟩ : ByteArray)) := (blk_cell BK102.out 5).trans rfl; have hcz11_6 : w10.cell? ⟨gb102, 6, none⟩ = some (.int .i64 0) := (blk_cell BK102.out 6).trans rfl; have hcz11_7 : w10.cell? ⟨gb102, 7, none⟩ = some (.int .i64 0) := (blk_cell BK102.out 7).trans rfl; have hfz11_0 := blk_frozen BK102.out 0; have hfz11_1 := blk_frozen BK102.out 1; have hfz11_2 := blk_frozen BK102.out 2; have hfz11_3 := blk_frozen BK102.out 3; have hfz11_4 := blk_frozen BK102.out 4; have hfz11_5 := blk_frozen BK102.out 5; have hfz11_6 := blk_frozen BK102.out 6; have hfz11_7 := blk_frozen BK102.out 7))
                  go_ret
                  exact ⟨by first | rfl | (simp [errW_none, errW_some] <;> rfl) | (simp [*, errW_none, errW_some] <;> rfl), by repeat (first | (with_reducible first | exact HB.out | apply below_alloc | apply pw_below_drewN | apply below_drew1 | refine below_set ?_ GE102.out) | exact HB.out)⟩
                · rw [if_neg c9] at H
                  have c9b0 : decide (100 < (((rd_T37 l0 x10_1).f5).size : Int)) = false := decide_eq_false c9
                  have c9b1 : decide (100 < ((rd_T37 l0 x10_1).f5).size) = false := decide_eq_false (by omega)
                  clear c9
                  have H' := Aside0.mk H
                  clear H
                  have p101 : 0 ≤ (x10_1 : Int) := of_decide_eq_true (by first | (with_reducible assumption) | assumption)
                  have q101 : x10_1 < (l0.length : Int) := of_decide_eq_true (by first | (with_reducible assumption) | assumption)
                  obtain ⟨ad101, e101, hx101_0, hx101_1, hx101_2, hx101_3, hx101_4, hx101_5, hx101_6, hx101_7⟩ := at_T37 HR0.out x10_1 p101 q101
                  cases e101
                  replace hx101_0 := (HB.out.cell (World.block_lt_of_cell? w _ hx101_0)).trans hx101_0
                  replace hx101_1 := (HB.out.cell (World.block_lt_of_cell? w _ hx101_1)).trans hx101_1
                  replace hx101_2 := (HB.out.cell (World.block_lt_of_cell? w _ hx101_2)).trans hx101_2
                  replace hx101_3 := (HB.out.cell (World.block_lt_of_cell? w _ hx101_3)).trans hx101_3
                  replace hx101_4 := (HB.out.cell (World.block_lt_of_cell? w _ hx101_4)).trans hx101_4
                  replace hx101_5 := (HB.out.cell (World.block_lt_of_cell? w _ hx101_5)).trans hx101_5
                  replace hx101_6 := (HB.out.cell (World.block_lt_of_cell? w _ hx101_6)).trans hx101_6
                  replace hx101_7 := (HB.out.cell (World.block_lt_of_cell? w _ hx101_7)).trans hx101_7
                  replace p101 := eq_true p101
                  replace q101 := eq_true q101
                  go_wp2_with (first | ((with_reducible refine gate_dst (N := 4) rfl ?_); (try (refine gate_guard (by rfl) ?_; dsimp only)); refine box_event ?hg (N := 4) ?hd (cs := #[.int .u64 0, .int .u64 0, .int .u64 0, .int .u8 0, .string (⟨#[]⟩ : ByteArray), .string (⟨#[]⟩ : ByteArray), .int .i64 0, .int .i64 0]) (t := 37) ?hr ?_; (case hd => rfl); (case hg => rfl); (case hr => first | (go_simp; done) | (go_simp; rfl)); intro gb102 hg w12 hbox hb; have n0_ := Aside0.mk (below_step (by repeat (first | (with_reducible first | exact HB.out | apply below_alloc | apply pw_below_drewN | apply below_drew1) | exact HB.out)) hb); have n1_ := Aside0.mk (hbox); have n2_ := Aside0.mk ((by rw [hg]; exact (below_size (by repeat (first | (with_reducible first | exact HB.out | apply below_alloc | apply pw_below_drewN | apply below_drew1) | exact HB.out))) : w.heap.size ≤ gb102)); have n3_ := Aside0.mk ((by rw [hg]; exact (below_size (by repeat (first | (with_reducible first | exact HB.out | apply below_alloc | apply pw_below_drewN | apply below_drew1) | exact HB.out))) : w.heap.size ≤ gb102)); clear HB; have HB := n0_; have BK102 := n1_; have GW102 := n2_; have GE102 := n3_; clear n0_ n1_ n2_ n3_; clear hb hbox hg; have hcz13_0 : w12.cell? ⟨gb102, 0, none⟩ = some (.int .u64 0) := (blk_cell BK102.out 0).trans rfl; have hcz13_1 : w12.cell? ⟨gb102, 1, none⟩ = some (.int .u64 0) := (blk_cell BK102.out 1).trans rfl; have hcz13_2 : w12.cell? ⟨gb102, 2, none⟩ = some (.int .u64 0) := (blk_cell BK102.out 2).trans rfl; have hcz13_3 : w12.cell? ⟨gb102, 3, none⟩ = some (.int .u8 0) := (blk_cell BK102.out 3).trans rfl; have hcz13_4 : w12.cell? ⟨gb102, 4, none⟩ = some (.string (⟨#[]⟩ : ByteArray)) := (blk_cell BK102.out 4).trans rfl; have hcz13_5 : w12.cell? ⟨gb102, 5, none⟩ = some (.string (⟨#[]⟩ : ByteArray)) := (blk_cell BK102.out 5).trans rfl; have hcz13_6 : w12.cell? ⟨gb102, 6, none⟩ = some (.int .i64 0) := (blk_cell BK102.out 6).trans rfl; have hcz13_7 : w12.cell? ⟨gb102, 7, none⟩ = some (.int .i64 0) := (blk_cell BK102.out 7).trans rfl; have hfz13_0 := blk_frozen BK102.out 0; have hfz13_1 := blk_frozen BK102.out 1; have hfz13_2 := blk_frozen BK102.out 2; have hfz13_3 := blk_frozen BK102.out 3; have hfz13_4 := blk_frozen BK102.out 4; have hfz13_5 := blk_frozen BK102.out 5; have hfz13_6 := blk_frozen BK102.out 6; have hfz13_7 := blk_frozen BK102.out 7))
                  go_roundg k1
                  case measure => have := HK1.out; omega
                  case rel => exact ⟨(wrap64 (x10_1 + 1)), (by first | rfl | (simp; done) | (simp [*]; done)), H', ⟨by have := HK1.out; omega⟩, ⟨by repeat (first | (with_reducible first | exact HB.out | apply below_alloc | apply pw_below_drewN | apply below_drew1 | refine below_set ?_ GE102.out) | exact HB.out)⟩⟩
            · rw [if_neg c5] at H
              exact absurd H (by simp)
          · rw [if_neg c4] at H
            exact absurd H (by simp)
        · rw [if_neg c3] at H
          have c3b0 : decide (x10_1 < (l0.length : Int)) = false := decide_eq_false c3
          clear c3
          obtain rfl := Option.some.inj H
          go_wp2
          go_ret
          exact ⟨by first | rfl | (simp [errW_none, errW_some] <;> rfl) | (simp [*, errW_none, errW_some] <;> rfl), by repeat (first | (with_reducible first | exact HB.out | apply below_alloc | apply pw_below_drewN | apply below_drew1) | exact HB.out)⟩

/-! ### merkhetref15_Same: function 19 -/
def merkhetref15_Same.l0 : Nat → List Int → List Int → Int → Option (Bool)
  | 0, _, _, _ => none
  | k + 1, x0, x1, x5 => if x5 < (x0.length : Int) then (if 0 ≤ x5 then (if x5 < (x1.length : Int) then (if (rd x0 x5) = (rd x1 x5) then (merkhetref15_Same.l0 k x0 x1 (wrap64 (x5 + 1))) else (some false)) else (none)) else (none)) else (some true)
def merkhetref15_Same.f (k : Nat) (l0 : List Int) (l1 : List Int) : Option (Bool) := if (l0.length : Int) = (l1.length : Int) then (merkhetref15_Same.l0 k l0 l1 0) else (some false)
theorem merkhetref15_Same.mono_l : ∀ k, (∀ y0 y1 y2, LeO (merkhetref15_Same.l0 k y0 y1 y2) (merkhetref15_Same.l0 (k + 1) y0 y1 y2))
  | 0 => fun _ _ _ r h => by simp [merkhetref15_Same.l0] at h
  | k + 1 => by
    have ih0 := merkhetref15_Same.mono_l k
    · intro y0 y1 y2
      unfold merkhetref15_Same.l0
      repeat' first
      | (with_reducible exact ih0 _ _ _)
      | (with_reducible exact LeO.refl _)
      | (with_reducible exact LeO.none _)
      | (with_reducible refine LeO.ite ?_ ?_)
      | (with_reducible refine LeO.bind ?_ (fun _ => ?_))
      | exact ih0 _ _ _
      | exact LeO.none _
      | refine LeO.ite ?_ ?_
      | refine LeO.bind ?_ (fun _ => ?_)
theorem merkhetref15_Same.mono : ∀ a0 a1 k, LeO (merkhetref15_Same.f k a0 a1) (merkhetref15_Same.f (k + 1) a0 a1) := by
  intro a0 a1 k
  have ih0 := merkhetref15_Same.mono_l k
  unfold merkhetref15_Same.f
  repeat' first
      | (with_reducible exact ih0 _ _ _)
      | (with_reducible exact LeO.refl _)
      | (with_reducible exact LeO.none _)
      | (with_reducible refine LeO.ite ?_ ?_)
      | (with_reducible refine LeO.bind ?_ (fun _ => ?_))
      | exact ih0 _ _ _
      | exact LeO.none _
      | refine LeO.ite ?_ ?_
      | refine LeO.bind ?_ (fun _ => ?_)
set_option maxHeartbeats 8000000 in
set_option maxRecDepth 100000 in
theorem merkhetref15_Same.calls (k : Nat) (A0 : Option Addr) (c0 : Nat) (l0 : List Int) (A1 : Option Addr) (c1 : Nat) (l1 : List Int) (r : Bool) (w : World) (hr0 : Kd.C (Kd.int .i64) w A0 l0.length l0) (hc0 : l0.length ≤ c0) (hr1 : Kd.C (Kd.int .i64) w A1 l1.length l1) (hc1 : l1.length ≤ c1) (h : merkhetref15_Same.f k l0 l1 = some r) :
    Calls Try.prog 19 #[.slice A0 l0.length c0, .slice A1 l1.length c1] w fun e w' => e = .returned (.bool r) ∧ Drawn0 w w' := by
  have HR0 := Aside0.mk hr0
  have HC0 := Aside0.mk hc0
  clear hr0 hc0
  have HR1 := Aside0.mk hr1
  have HC1 := Aside0.mk hc1
  clear hr1 hc1
  have H : (if (l0.length : Int) = (l1.length : Int) then (merkhetref15_Same.l0 k l0 l1 0) else (some false)) = some r := h
  clear h
  by_cases c3 : (l0.length : Int) = (l1.length : Int)
  · rw [if_pos c3] at H
    have c3b0 : ((l0.length : Int) == (l1.length : Int)) = true := beq_iff_eq.mpr c3
    have c3b1 : ((l0.length : Int) != (l1.length : Int)) = false := bne_eq_false_iff_eq.mpr c3
    have c3b2 : (l0.length == l1.length) = true := by first | simpa using c3 | (simp at c3 ⊢; omega)
    clear c3
    have H' := Aside0.mk H
    clear H
    go_enter Try.func19, Try.ntmps19
    go_wp2
    repeat (go_quiet (fail); try go_wp2)
    go_loopg [5] k (fun kq v5 w' => ∃ (x5_1 : Int), v5 = .int .i64 x5_1 ∧ Aside0 (merkhetref15_Same.l0 kq l0 l1 x5_1 = some r) ∧ Aside0 (kq ≤ k) ∧ Drawn0 w w')
    case atStart => exact ⟨(0), (by first | rfl | (simp; done) | (simp [*]; done)), H', ⟨Nat.le_refl _⟩, by repeat (first | exact Drawn0.refl _ | apply Drawn0.step)⟩
    case round =>
      clear H'
      (try clear c1); (try clear p2); (try clear c3); (try clear c3b0); (try clear c3b1); (try clear c3b2)
      obtain ⟨x5_1, rfl, HA, HK1, ⟨m1, rfl⟩⟩ := hrel
      cases gk with
      | zero => exact absurd HA.out (by simp [merkhetref15_Same.l0])
      | succ k1 =>
        have H := HA.out
        clear HA
        simp only [merkhetref15_Same.l0] at H
        by_cases c4 : x5_1 < (l0.length : Int)
        · rw [if_pos c4] at H
          have c4b0 : decide (x5_1 < (l0.length : Int)) = true := decide_eq_true c4
          clear c4
          by_cases c5 : 0 ≤ x5_1
          · rw [if_pos c5] at H
            have c5b0 : decide (0 ≤ x5_1) = true := decide_eq_true c5
            clear c5
            by_cases c6 : x5_1 < (l1.length : Int)
            · rw [if_pos c6] at H
              have c6b0 : decide (x5_1 < (l1.length : Int)) = true := decide_eq_true c6
              clear c6
              by_cases c7 : (rd l0 x5_1) = (rd l1 x5_1)
              · rw [if_pos c7] at H
                have c7b0 : ((rd l0 x5_1) == (rd l1 x5_1)) = true := beq_iff_eq.mpr c7
                have c7b1 : ((rd l0 x5_1) != (rd l1 x5_1)) = false := bne_eq_false_iff_eq.mpr c7
                clear c7
                have H' := Aside0.mk H
                clear H
                have p103 : 0 ≤ (x5_1 : Int) := of_decide_eq_true (by first | (with_reducible assumption) | assumption)
                have q103 : x5_1 < (l0.length : Int) := of_decide_eq_true (by first | (with_reducible assumption) | assumption)
                obtain ⟨ad103, e103, hx103_0⟩ := Kd.at_int HR0.out x5_1 p103 q103
                cases e103
                replace p103 := eq_true p103
                replace q103 := eq_true q103
                have p104 : 0 ≤ (x5_1 : Int) := of_decide_eq_true (by first | (with_reducible assumption) | assumption)
                have q104 : x5_1 < (l1.length : Int) := of_decide_eq_true (by first | (with_reducible assumption) | assumption)
                obtain ⟨ad104, e104, hx104_0⟩ := Kd.at_int HR1.out x5_1 p104 q104
                cases e104
                replace p104 := eq_true p104
                replace q104 := eq_true q104
                go_wp2
                repeat (go_quiet (fail); try go_wp2)
                go_roundg k1
                case measure => have := HK1.out; omega
                case rel => exact ⟨(wrap64 (x5_1 + 1)), (by first | rfl | (simp; done) | (simp [*]; done)), H', ⟨by have := HK1.out; omega⟩, by repeat (first | exact Drawn0.refl _ | apply Drawn0.step)⟩
              · rw [if_neg c7] at H
                have c7b0 : ((rd l0 x5_1) == (rd l1 x5_1)) = false := beq_eq_false_iff_ne.mpr c7
                have c7b1 : ((rd l0 x5_1) != (rd l1 x5_1)) = true := bne_iff_ne.mpr c7
                obtain rfl := Option.some.inj H
                have p103 : 0 ≤ (x5_1 : Int) := of_decide_eq_true (by first | (with_reducible assumption) | assumption)
                have q103 : x5_1 < (l0.length : Int) := of_decide_eq_true (by first | (with_reducible assumption) | assumption)
                obtain ⟨ad103, e103, hx103_0⟩ := Kd.at_int HR0.out x5_1 p103 q103
                cases e103
                replace p103 := eq_true p103
                replace q103 := eq_true q103
                have p104 : 0 ≤ (x5_1 : Int) := of_decide_eq_true (by first | (with_reducible assumption) | assumption)
                have q104 : x5_1 < (l1.length : Int) := of_decide_eq_true (by first | (with_reducible assumption) | assumption)
                obtain ⟨ad104, e104, hx104_0⟩ := Kd.at_int HR1.out x5_1 p104 q104
                cases e104
                replace p104 := eq_true p104
                replace q104 := eq_true q104
                go_wp2
                repeat (go_quiet (fail); try go_wp2)
                go_ret
                exact ⟨by first | rfl | (simp; done) | (simp [*]; done), by repeat (first | exact Drawn0.refl _ | apply Drawn0.step)⟩
            · rw [if_neg c6] at H
              exact absurd H (by simp)
          · rw [if_neg c5] at H
            exact absurd H (by simp)
        · rw [if_neg c4] at H
          have c4b0 : decide (x5_1 < (l0.length : Int)) = false := decide_eq_false c4
          clear c4
          obtain rfl := Option.some.inj H
          go_wp2
          repeat (go_quiet (fail); try go_wp2)
          go_ret
          exact ⟨by first | rfl | (simp; done) | (simp [*]; done), by repeat (first | exact Drawn0.refl _ | apply Drawn0.step)⟩
  · rw [if_neg c3] at H
    have c3b0 : ((l0.length : Int) == (l1.length : Int)) = false := beq_eq_false_iff_ne.mpr c3
    have c3b1 : ((l0.length : Int) != (l1.length : Int)) = true := bne_iff_ne.mpr c3
    have c3b2 : (l0.length == l1.length) = false := by first | simpa using c3 | (simp at c3 ⊢; omega)
    obtain rfl := Option.some.inj H
    go_enter Try.func19, Try.ntmps19
    go_wp2
    repeat (go_quiet (fail); try go_wp2)
    go_ret
    exact ⟨by first | rfl | (simp; done) | (simp [*]; done), by repeat (first | exact Drawn0.refl _ | apply Drawn0.step)⟩

end Go.Proofs.Ytmfdhcgdibefiaa.Q

-- Written by wip/tools/gp.py, a program of this session round the kit's printer. Lean checks it.
namespace Go.Proofs.Ytmfdhcgdibefiaa.Q
open Go.RowKit Go.Proofs.YtmfdhcgdibefiaaW.PrintWords Go.Proofs.YtmfdhcgdibefiaaW.PrintLast Go.Proofs.YtmfdhcgdibefiaaW.PrintMore
attribute [local go_sem] max2_int min2_int max_two min_two max_three min_three max_four min_four   -- for this text's walks alone
set_option linter.unusedVariables false
set_option linter.unusedSimpArgs false
end Go.Proofs.Ytmfdhcgdibefiaa.Q

-- Written by wip/tools/gp.py, a program of this session round the kit's printer. Lean checks it.
namespace Go.Proofs.Ytmfdhcgdibefiaa.Q
open Go.RowKit Go.Proofs.YtmfdhcgdibefiaaW.PrintWords Go.Proofs.YtmfdhcgdibefiaaW.PrintLast Go.Proofs.YtmfdhcgdibefiaaW.PrintMore
attribute [local go_sem] max2_int min2_int max_two min_two max_three min_three max_four min_four   -- for this text's walks alone
set_option linter.unusedVariables false
set_option linter.unusedSimpArgs false
/-! ### forest_Kids: function 44 -/
def forest_Kids.l0 : Nat → Int → List Int → List Int → Int → Int → Option (List Int)
  | 0, _, _, _, _, _ => none
  | k + 1, x1, x5, x8, x9, x10 => if x10 < x9 then (if 0 ≤ x10 then (if x10 < (x8.length : Int) then (if (rd x8 x10) = x1 then (if x5.length < 17592186044416 then (forest_Kids.l0 k x1 (x5 ++ [x10]) x8 x9 (wrap64 (x10 + 1))) else (none)) else (forest_Kids.l0 k x1 x5 x8 x9 (wrap64 (x10 + 1)))) else (none)) else (none)) else (some x5)
def forest_Kids.f (k : Nat) (l0 : List Int) (a1 : Int) : Option (List Int) := forest_Kids.l0 k a1 ([] : List Int) l0 (l0.length : Int) 0
theorem forest_Kids.mono_l : ∀ k, (∀ y0 y1 y2 y3 y4, LeO (forest_Kids.l0 k y0 y1 y2 y3 y4) (forest_Kids.l0 (k + 1) y0 y1 y2 y3 y4))
  | 0 => fun _ _ _ _ _ r h => by simp [forest_Kids.l0] at h
  | k + 1 => by
    have ih0 := forest_Kids.mono_l k
    · intro y0 y1 y2 y3 y4
      unfold forest_Kids.l0
      repeat' first
      | (with_reducible exact ih0 _ _ _ _ _)
      | (with_reducible exact LeO.refl _)
      | (with_reducible exact LeO.none _)
      | (with_reducible refine LeO.ite ?_ ?_)
      | (with_reducible refine LeO.bind ?_ (fun _ => ?_))
      | exact ih0 _ _ _ _ _
      | exact LeO.none _
      | refine LeO.ite ?_ ?_
      | refine LeO.bind ?_ (fun _ => ?_)
theorem forest_Kids.mono : ∀ a0 a1 k, LeO (forest_Kids.f k a0 a1) (forest_Kids.f (k + 1) a0 a1) := by
  intro a0 a1 k
  have ih0 := forest_Kids.mono_l k
  unfold forest_Kids.f
  repeat' first
      | (with_reducible exact ih0 _ _ _ _ _)
      | (with_reducible exact LeO.refl _)
      | (with_reducible exact LeO.none _)
      | (with_reducible refine LeO.ite ?_ ?_)
      | (with_reducible refine LeO.bind ?_ (fun _ => ?_))
      | exact ih0 _ _ _ _ _
      | exact LeO.none _
      | refine LeO.ite ?_ ?_
      | refine LeO.bind ?_ (fun _ => ?_)
set_option maxHeartbeats 8000000 in
set_option maxRecDepth 100000 in
theorem forest_Kids.calls (k : Nat) (A0 : Option Addr) (c0 : Nat) (l0 : List Int) (a1 : Int) (r : List Int) (w : World) (hr0 : Kd.C (Kd.int .i64) w A0 l0.length l0) (hc0 : l0.length ≤ c0) (h : forest_Kids.f k l0 a1 = some r) :
    Calls Try.prog 44 #[.slice A0 l0.length c0, .int .i64 a1] w fun e w' => ∃ v0_ : Value, e = .returned (v0_) ∧ Kd.R (Kd.int .i64) 3 w' w.heap.size (fun _ => True) v0_ r ∧ Below w.heap.size w w' := by
  have HR0 := Aside0.mk hr0
  have HC0 := Aside0.mk hc0
  clear hr0 hc0
  have HB := Aside0.mk (Below.refl w.heap.size w)
  have H : (forest_Kids.l0 k a1 ([] : List Int) l0 (l0.length : Int) 0) = some r := h
  clear h
  have H' := Aside0.mk H
  clear H
  go_enter Try.func44, Try.ntmps44
  go_wp2
  go_loopg [5, 10] k (fun kq v5 v10 w' => ∃ (x5_1 : List Int) (x10_1 : Int), v10 = .int .i64 x10_1 ∧ Aside0 (forest_Kids.l0 kq a1 x5_1 l0 (l0.length : Int) x10_1 = some r) ∧ Aside0 (kq ≤ k) ∧ Aside0 (Kd.R (Kd.int .i64) 3 w' w.heap.size (fun _ => True) v5 x5_1) ∧ Aside0 (Below w.heap.size w w'))
  case atStart => exact ⟨(([] : List Int)), (0), (by first | rfl | (simp; done) | (simp [*]; done)), H', ⟨Nat.le_refl _⟩, ⟨by first | exact Kd.R_nil _ _ _ _ _ | exact Kd.N_nil _ _ _ _ _ | exact Kd.V_nil _ _ _ _ _ | exact Kd.Q_nil _ _ _ _ _ | exact Kd.S_nil _ _ _ _ _⟩, ⟨by repeat (first | (with_reducible first | exact HB.out | apply below_alloc | apply pw_below_drewN | apply below_drew1) | exact HB.out)⟩⟩
  case round =>
    clear H'
    (try clear p2)
    obtain ⟨x5_1, x10_1, rfl, HA, HK1, HO_5, HB⟩ := hrel
    cases gk with
    | zero => exact absurd HA.out (by simp [forest_Kids.l0])
    | succ k1 =>
      have H := HA.out
      clear HA
      simp only [forest_Kids.l0] at H
      by_cases c3 : x10_1 < (l0.length : Int)
      · rw [if_pos c3] at H
        have c3b0 : decide (x10_1 < (l0.length : Int)) = true := decide_eq_true c3
        clear c3
        by_cases c4 : 0 ≤ x10_1
        · rw [if_pos c4] at H
          have c4b0 : decide (0 ≤ x10_1) = true := decide_eq_true c4
          clear c4
          by_cases c5 : x10_1 < (l0.length : Int)
          · rw [if_pos c5] at H
            have c5b0 : decide (x10_1 < (l0.length : Int)) = true := decide_eq_true c5
            clear c5
            by_cases c6 : (rd l0 x10_1) = a1
            · rw [if_pos c6] at H
              have c6b0 : ((rd l0 x10_1) == a1) = true := beq_iff_eq.mpr c6
              have c6b1 : ((rd l0 x10_1) != a1) = false := bne_eq_false_iff_eq.mpr c6
              clear c6
              by_cases c7 : x5_1.length < 17592186044416
              · rw [if_pos c7] at H
                have LMc7 := Aside0.mk c7
                clear c7
                obtain ⟨y140, hy140⟩ : ∃ y_ : List Int, y_ = (x5_1 ++ [x10_1]) := ⟨_, rfl⟩
                replace H : (forest_Kids.l0 k1 a1 y140 l0 (l0.length : Int) (wrap64 (x10_1 + 1))) = some r := by first | (rw [hy140]; with_reducible exact H) | (have H2_ := (Option.bind_some _ _).symm.trans H; rw [hy140]; with_reducible exact H2_) | (have H2_ := (Option.bind_some _ _).symm.trans H; with_reducible exact H2_) | with_reducible exact H | (rw [hy140]; exact H) | exact H
                have Ny140 := Aside0.mk hy140
                clear hy140
                have H' := Aside0.mk H
                clear H
                have p139 : 0 ≤ (x10_1 : Int) := of_decide_eq_true (by first | (with_reducible assumption) | assumption)
                have q139 : x10_1 < (l0.length : Int) := of_decide_eq_true (by first | (with_reducible assumption) | assumption)
                obtain ⟨ad139, e139, hx139_0⟩ := Kd.at_int HR0.out x10_1 p139 q139
                cases e139
                replace hx139_0 := (HB.out.cell (World.block_lt_of_cell? w _ hx139_0)).trans hx139_0
                replace p139 := eq_true p139
                replace q139 := eq_true q139
                go_wp2_with (first | ((with_reducible refine gate_builtin (b := .append) (xs := #[.tmp 18, .tmp 20]) rfl ?_); at_builtin; refine Kd.R_append (Kd.int .i64) (w0 := w) w.heap.size rfl (.tmp 18) (.tmp 20) 29 3 (.int .i64 0) 8 rfl Try.underlying29 info3 rfl (by decide) (by omega) u5 x5_1 x10_1 [.int .i64 x10_1] (fun _ => True) (fun _ => False) rfl rfl ?aP (fun _ hk => hk.elim) ?aF ?aO ?aB ?aS ?aL ?_; (case aP => exact rfl); (case aB => exact (by repeat (first | (with_reducible first | exact HB.out | apply below_alloc | apply pw_below_drewN | apply below_drew1) | exact HB.out))); (case aF => exact (fun _ _ => trivial)); (case aO => exact (by (with_reducible repeat (first | apply Kd.R_alloc | apply Kd.R_drewN | apply Kd.R_drew)); exact HO_5.out)); (case aS => exact (below_size (by repeat (first | (with_reducible first | exact HB.out | apply below_alloc | apply pw_below_drewN | apply below_drew1) | exact HB.out)))); (case aL => have := LMc7.out; omega); intro v141 w8 ho hb hg hat; rw [← Ny140.out] at ho; have n0_ := Aside0.mk (hb); have n1_ := Aside0.mk (ho); clear HB; clear HO_5; have HB := n0_; have HO142 := n1_; clear n0_ n1_; clear ho hb hg hat))
                go_roundg k1
                case measure => have := HK1.out; omega
                case rel => exact ⟨(y140), (wrap64 (x10_1 + 1)), (by first | rfl | (simp; done) | (simp [*]; done)), H', ⟨by have := HK1.out; omega⟩, ⟨by (with_reducible repeat (first | apply Kd.R_alloc | apply Kd.R_drewN | apply Kd.R_drew)); exact HO142.out⟩, ⟨by repeat (first | (with_reducible first | exact HB.out | apply below_alloc | apply pw_below_drewN | apply below_drew1) | exact HB.out)⟩⟩
              · rw [if_neg c7] at H
                exact absurd H (by simp)
            · rw [if_neg c6] at H
              have c6b0 : ((rd l0 x10_1) == a1) = false := beq_eq_false_iff_ne.mpr c6
              have c6b1 : ((rd l0 x10_1) != a1) = true := bne_iff_ne.mpr c6
              have H' := Aside0.mk H
              clear H
              have p139 : 0 ≤ (x10_1 : Int) := of_decide_eq_true (by first | (with_reducible assumption) | assumption)
              have q139 : x10_1 < (l0.length : Int) := of_decide_eq_true (by first | (with_reducible assumption) | assumption)
              obtain ⟨ad139, e139, hx139_0⟩ := Kd.at_int HR0.out x10_1 p139 q139
              cases e139
              replace hx139_0 := (HB.out.cell (World.block_lt_of_cell? w _ hx139_0)).trans hx139_0
              replace p139 := eq_true p139
              replace q139 := eq_true q139
              go_wp2
              go_roundg k1
              case measure => have := HK1.out; omega
              case rel => exact ⟨(x5_1), (wrap64 (x10_1 + 1)), (by first | rfl | (simp; done) | (simp [*]; done)), H', ⟨by have := HK1.out; omega⟩, ⟨by (with_reducible repeat (first | apply Kd.R_alloc | apply Kd.R_drewN | apply Kd.R_drew)); exact HO_5.out⟩, ⟨by repeat (first | (with_reducible first | exact HB.out | apply below_alloc | apply pw_below_drewN | apply below_drew1) | exact HB.out)⟩⟩
          · rw [if_neg c5] at H
            exact absurd H (by simp)
        · rw [if_neg c4] at H
          exact absurd H (by simp)
      · rw [if_neg c3] at H
        have c3b0 : decide (x10_1 < (l0.length : Int)) = false := decide_eq_false c3
        clear c3
        obtain rfl := Option.some.inj H
        go_wp2
        go_ret
        exact ⟨_, by first | rfl | (simp [errW_none, errW_some] <;> rfl) | (simp [*, errW_none, errW_some] <;> rfl), by (with_reducible repeat (first | apply Kd.R_alloc | apply Kd.R_drewN | apply Kd.R_drew)); exact HO_5.out, by repeat (first | (with_reducible first | exact HB.out | apply below_alloc | apply pw_below_drewN | apply below_drew1) | exact HB.out)⟩

/-! ### span_letter: function 143 -/
def span_letter.f (a0 : Int) : Option (Bool) := if a0 ≥ 97 then (if a0 ≤ 122 then (some true) else (if a0 ≥ 48 then (if a0 ≤ 57 then (some true) else (if a0 = 45 then (some true) else (if a0 = 46 then (some true) else (some (a0 == 95))))) else (if a0 = 45 then (some true) else (if a0 = 46 then (some true) else (some (a0 == 95)))))) else (if a0 ≥ 48 then (if a0 ≤ 57 then (some true) else (if a0 = 45 then (some true) else (if a0 = 46 then (some true) else (some (a0 == 95))))) else (if a0 = 45 then (some true) else (if a0 = 46 then (some true) else (some (a0 == 95)))))
set_option maxHeartbeats 8000000 in
set_option maxRecDepth 100000 in
theorem span_letter.calls (a0 : Int) (r : Bool) (w : World) (h : span_letter.f a0 = some r) :
    Calls Try.prog 143 #[.int .u8 a0] w fun e w' => e = .returned (.bool r) ∧ Drawn0 w w' := by
  have H : (if a0 ≥ 97 then (if a0 ≤ 122 then (some true) else (if a0 ≥ 48 then (if a0 ≤ 57 then (some true) else (if a0 = 45 then (some true) else (if a0 = 46 then (some true) else (some (a0 == 95))))) else (if a0 = 45 then (some true) else (if a0 = 46 then (some true) else (some (a0 == 95)))))) else (if a0 ≥ 48 then (if a0 ≤ 57 then (some true) else (if a0 = 45 then (some true) else (if a0 = 46 then (some true) else (some (a0 == 95))))) else (if a0 = 45 then (some true) else (if a0 = 46 then (some true) else (some (a0 == 95)))))) = some r := h
  clear h
  by_cases c2 : a0 ≥ 97
  · rw [if_pos c2] at H
    have c2b0 : decide (97 ≤ a0) = true := decide_eq_true c2
    clear c2
    by_cases c3 : a0 ≤ 122
    · rw [if_pos c3] at H
      have c3b0 : decide (a0 ≤ 122) = true := decide_eq_true c3
      clear c3
      obtain rfl := Option.some.inj H
      go_enter Try.func143, Try.ntmps143
      go_wp2
      go_ret
      exact ⟨by first | rfl | (simp; done) | (simp [*]; done), by repeat (first | exact Drawn0.refl _ | apply Drawn0.step)⟩
    · rw [if_neg c3] at H
      have c3b0 : decide (a0 ≤ 122) = false := decide_eq_false c3
      clear c3
      by_cases c4 : a0 ≥ 48
      · rw [if_pos c4] at H
        have c4b0 : decide (48 ≤ a0) = true := decide_eq_true c4
        clear c4
        by_cases c5 : a0 ≤ 57
        · rw [if_pos c5] at H
          have c5b0 : decide (a0 ≤ 57) = true := decide_eq_true c5
          clear c5
          obtain rfl := Option.some.inj H
          go_enter Try.func143, Try.ntmps143
          go_wp2
          go_ret
          exact ⟨by first | rfl | (simp; done) | (simp [*]; done), by repeat (first | exact Drawn0.refl _ | apply Drawn0.step)⟩
        · rw [if_neg c5] at H
          have c5b0 : decide (a0 ≤ 57) = false := decide_eq_false c5
          clear c5
          by_cases c6 : a0 = 45
          · rw [if_pos c6] at H
            have c6b0 : (a0 == 45) = true := beq_iff_eq.mpr c6
            have c6b1 : (a0 != 45) = false := bne_eq_false_iff_eq.mpr c6
            clear c6
            obtain rfl := Option.some.inj H
            go_enter Try.func143, Try.ntmps143
            go_wp2
            go_ret
            exact ⟨by first | rfl | (simp; done) | (simp [*]; done), by repeat (first | exact Drawn0.refl _ | apply Drawn0.step)⟩
          · rw [if_neg c6] at H
            have c6b0 : (a0 == 45) = false := beq_eq_false_iff_ne.mpr c6
            have c6b1 : (a0 != 45) = true := bne_iff_ne.mpr c6
            by_cases c7 : a0 = 46
            · rw [if_pos c7] at H
              have c7b0 : (a0 == 46) = true := beq_iff_eq.mpr c7
              have c7b1 : (a0 != 46) = false := bne_eq_false_iff_eq.mpr c7
              clear c7
              obtain rfl := Option.some.inj H
              go_enter Try.func143, Try.ntmps143
              go_wp2
              go_ret
              exact ⟨by first | rfl | (simp; done) | (simp [*]; done), by repeat (first | exact Drawn0.refl _ | apply Drawn0.step)⟩
            · rw [if_neg c7] at H
              have c7b0 : (a0 == 46) = false := beq_eq_false_iff_ne.mpr c7
              have c7b1 : (a0 != 46) = true := bne_iff_ne.mpr c7
              obtain rfl := Option.some.inj H
              go_enter Try.func143, Try.ntmps143
              go_wp2
              go_ret
              exact ⟨by first | rfl | (simp; done) | (simp [*]; done), by repeat (first | exact Drawn0.refl _ | apply Drawn0.step)⟩
      · rw [if_neg c4] at H
        have c4b0 : decide (48 ≤ a0) = false := decide_eq_false c4
        clear c4
        by_cases c8 : a0 = 45
        · rw [if_pos c8] at H
          have c8b0 : (a0 == 45) = true := beq_iff_eq.mpr c8
          have c8b1 : (a0 != 45) = false := bne_eq_false_iff_eq.mpr c8
          clear c8
          obtain rfl := Option.some.inj H
          go_enter Try.func143, Try.ntmps143
          go_wp2
          go_ret
          exact ⟨by first | rfl | (simp; done) | (simp [*]; done), by repeat (first | exact Drawn0.refl _ | apply Drawn0.step)⟩
        · rw [if_neg c8] at H
          have c8b0 : (a0 == 45) = false := beq_eq_false_iff_ne.mpr c8
          have c8b1 : (a0 != 45) = true := bne_iff_ne.mpr c8
          by_cases c9 : a0 = 46
          · rw [if_pos c9] at H
            have c9b0 : (a0 == 46) = true := beq_iff_eq.mpr c9
            have c9b1 : (a0 != 46) = false := bne_eq_false_iff_eq.mpr c9
            clear c9
            obtain rfl := Option.some.inj H
            go_enter Try.func143, Try.ntmps143
            go_wp2
            go_ret
            exact ⟨by first | rfl | (simp; done) | (simp [*]; done), by repeat (first | exact Drawn0.refl _ | apply Drawn0.step)⟩
          · rw [if_neg c9] at H
            have c9b0 : (a0 == 46) = false := beq_eq_false_iff_ne.mpr c9
            have c9b1 : (a0 != 46) = true := bne_iff_ne.mpr c9
            obtain rfl := Option.some.inj H
            go_enter Try.func143, Try.ntmps143
            go_wp2
            go_ret
            exact ⟨by first | rfl | (simp; done) | (simp [*]; done), by repeat (first | exact Drawn0.refl _ | apply Drawn0.step)⟩
  · rw [if_neg c2] at H
    have c2b0 : decide (97 ≤ a0) = false := decide_eq_false c2
    clear c2
    by_cases c10 : a0 ≥ 48
    · rw [if_pos c10] at H
      have c10b0 : decide (48 ≤ a0) = true := decide_eq_true c10
      clear c10
      by_cases c11 : a0 ≤ 57
      · rw [if_pos c11] at H
        have c11b0 : decide (a0 ≤ 57) = true := decide_eq_true c11
        clear c11
        obtain rfl := Option.some.inj H
        go_enter Try.func143, Try.ntmps143
        go_wp2
        go_ret
        exact ⟨by first | rfl | (simp; done) | (simp [*]; done), by repeat (first | exact Drawn0.refl _ | apply Drawn0.step)⟩
      · rw [if_neg c11] at H
        have c11b0 : decide (a0 ≤ 57) = false := decide_eq_false c11
        clear c11
        by_cases c12 : a0 = 45
        · rw [if_pos c12] at H
          have c12b0 : (a0 == 45) = true := beq_iff_eq.mpr c12
          have c12b1 : (a0 != 45) = false := bne_eq_false_iff_eq.mpr c12
          clear c12
          obtain rfl := Option.some.inj H
          go_enter Try.func143, Try.ntmps143
          go_wp2
          go_ret
          exact ⟨by first | rfl | (simp; done) | (simp [*]; done), by repeat (first | exact Drawn0.refl _ | apply Drawn0.step)⟩
        · rw [if_neg c12] at H
          have c12b0 : (a0 == 45) = false := beq_eq_false_iff_ne.mpr c12
          have c12b1 : (a0 != 45) = true := bne_iff_ne.mpr c12
          by_cases c13 : a0 = 46
          · rw [if_pos c13] at H
            have c13b0 : (a0 == 46) = true := beq_iff_eq.mpr c13
            have c13b1 : (a0 != 46) = false := bne_eq_false_iff_eq.mpr c13
            clear c13
            obtain rfl := Option.some.inj H
            go_enter Try.func143, Try.ntmps143
            go_wp2
            go_ret
            exact ⟨by first | rfl | (simp; done) | (simp [*]; done), by repeat (first | exact Drawn0.refl _ | apply Drawn0.step)⟩
          · rw [if_neg c13] at H
            have c13b0 : (a0 == 46) = false := beq_eq_false_iff_ne.mpr c13
            have c13b1 : (a0 != 46) = true := bne_iff_ne.mpr c13
            obtain rfl := Option.some.inj H
            go_enter Try.func143, Try.ntmps143
            go_wp2
            go_ret
            exact ⟨by first | rfl | (simp; done) | (simp [*]; done), by repeat (first | exact Drawn0.refl _ | apply Drawn0.step)⟩
    · rw [if_neg c10] at H
      have c10b0 : decide (48 ≤ a0) = false := decide_eq_false c10
      clear c10
      by_cases c14 : a0 = 45
      · rw [if_pos c14] at H
        have c14b0 : (a0 == 45) = true := beq_iff_eq.mpr c14
        have c14b1 : (a0 != 45) = false := bne_eq_false_iff_eq.mpr c14
        clear c14
        obtain rfl := Option.some.inj H
        go_enter Try.func143, Try.ntmps143
        go_wp2
        go_ret
        exact ⟨by first | rfl | (simp; done) | (simp [*]; done), by repeat (first | exact Drawn0.refl _ | apply Drawn0.step)⟩
      · rw [if_neg c14] at H
        have c14b0 : (a0 == 45) = false := beq_eq_false_iff_ne.mpr c14
        have c14b1 : (a0 != 45) = true := bne_iff_ne.mpr c14
        by_cases c15 : a0 = 46
        · rw [if_pos c15] at H
          have c15b0 : (a0 == 46) = true := beq_iff_eq.mpr c15
          have c15b1 : (a0 != 46) = false := bne_eq_false_iff_eq.mpr c15
          clear c15
          obtain rfl := Option.some.inj H
          go_enter Try.func143, Try.ntmps143
          go_wp2
          go_ret
          exact ⟨by first | rfl | (simp; done) | (simp [*]; done), by repeat (first | exact Drawn0.refl _ | apply Drawn0.step)⟩
        · rw [if_neg c15] at H
          have c15b0 : (a0 == 46) = false := beq_eq_false_iff_ne.mpr c15
          have c15b1 : (a0 != 46) = true := bne_iff_ne.mpr c15
          obtain rfl := Option.some.inj H
          go_enter Try.func143, Try.ntmps143
          go_wp2
          go_ret
          exact ⟨by first | rfl | (simp; done) | (simp [*]; done), by repeat (first | exact Drawn0.refl _ | apply Drawn0.step)⟩

/-! ### span_Name: function 96 -/
mutual
def span_Name.j0 : Nat → ByteArray → Bool → Option (Bool)
  | 0, _, _ => none
  | k + 1, x0, x11 => if x11 = true then (some false) else (span_Name.l0 k x0 (x0.size : Int) 0)
def span_Name.l0 : Nat → ByteArray → Int → Int → Option (Bool)
  | 0, _, _, _ => none
  | k + 1, x0, x13, x14 => if x14 < x13 then (if 0 ≤ x14 then (if x14 < (x0.size : Int) then ((span_letter.f (bt x0 x14)).bind fun t143 => (if t143 = true then (span_Name.l0 k x0 x13 (wrap64 (x14 + 1))) else (some false))) else (none)) else (none)) else (some true)
end
def span_Name.f (k : Nat) (a0 : ByteArray) : Option (Bool) := if (a0.size : Int) < 1 then (span_Name.j0 k a0 true) else (span_Name.j0 k a0 (decide ((a0.size : Int) > 16)))
theorem span_Name.mono_l : ∀ k, (∀ y0 y1, LeO (span_Name.j0 k y0 y1) (span_Name.j0 (k + 1) y0 y1)) ∧ (∀ y0 y1 y2, LeO (span_Name.l0 k y0 y1 y2) (span_Name.l0 (k + 1) y0 y1 y2))
  | 0 => ⟨fun _ _ r h => by simp [span_Name.j0] at h, fun _ _ _ r h => by simp [span_Name.l0] at h⟩
  | k + 1 => by
    obtain ⟨ih0, ih1⟩ := span_Name.mono_l k
    refine ⟨?_, ?_⟩
    · intro y0 y1
      unfold span_Name.j0
      repeat' first
      | (with_reducible exact ih0 _ _)
      | (with_reducible exact ih1 _ _ _)
      | (with_reducible exact LeO.refl _)
      | (with_reducible exact LeO.none _)
      | (with_reducible refine LeO.ite ?_ ?_)
      | (with_reducible refine LeO.bind ?_ (fun _ => ?_))
      | exact ih0 _ _
      | exact ih1 _ _ _
      | exact LeO.none _
      | refine LeO.ite ?_ ?_
      | refine LeO.bind ?_ (fun _ => ?_)
    · intro y0 y1 y2
      unfold span_Name.l0
      repeat' first
      | (with_reducible exact ih0 _ _)
      | (with_reducible exact ih1 _ _ _)
      | (with_reducible exact LeO.refl _)
      | (with_reducible exact LeO.none _)
      | (with_reducible refine LeO.ite ?_ ?_)
      | (with_reducible refine LeO.bind ?_ (fun _ => ?_))
      | exact ih0 _ _
      | exact ih1 _ _ _
      | exact LeO.none _
      | refine LeO.ite ?_ ?_
      | refine LeO.bind ?_ (fun _ => ?_)
theorem span_Name.mono : ∀ a0 k, LeO (span_Name.f k a0) (span_Name.f (k + 1) a0) := by
  intro a0 k
  obtain ⟨ih0, ih1⟩ := span_Name.mono_l k
  unfold span_Name.f
  repeat' first
      | (with_reducible exact ih0 _ _)
      | (with_reducible exact ih1 _ _ _)
      | (with_reducible exact LeO.refl _)
      | (with_reducible exact LeO.none _)
      | (with_reducible refine LeO.ite ?_ ?_)
      | (with_reducible refine LeO.bind ?_ (fun _ => ?_))
      | exact ih0 _ _
      | exact ih1 _ _ _
      | exact LeO.none _
      | refine LeO.ite ?_ ?_
      | refine LeO.bind ?_ (fun _ => ?_)
set_option maxHeartbeats 8000000 in
set_option maxRecDepth 100000 in
theorem span_Name.calls (k : Nat) (a0 : ByteArray) (r : Bool) (w : World) (h : span_Name.f k a0 = some r) :
    Calls Try.prog 96 #[.string a0] w fun e w' => e = .returned (.bool r) ∧ Drawn0 w w' := by
  have H : (if (a0.size : Int) < 1 then (span_Name.j0 k a0 true) else (span_Name.j0 k a0 (decide ((a0.size : Int) > 16)))) = some r := h
  clear h
  have HC2 := Aside0.mk H
  clear H
  go_enter Try.func96, Try.ntmps96
  go_upto_region 1 with (fail)
  go_cut [11] (fun v11 wc => ∃ (kq : Nat) (x11_1 : Bool), v11 = .bool x11_1 ∧ Aside0 (span_Name.j0 kq a0 x11_1 = some r) ∧ Aside0 (kq ≤ k) ∧ Drawn0 w wc)
  case first =>
    have H := HC2.out
    clear HC2
    by_cases c3 : (a0.size : Int) < 1
    · rw [if_pos c3] at H
      have c3b0 : decide ((a0.size : Int) < 1) = true := decide_eq_true c3
      have c3b1 : decide (a0.size < 1) = true := decide_eq_true (by omega)
      clear c3
      (first | rw [c3b0] | (simp only [i64_w, i32_w]; rw [c3b0]) | skip)
      have H' := Aside0.mk H
      clear H
      go_wp2
      go_meet
      case rel => exact ⟨_, (true), (by first | rfl | (simp; done) | (simp [*]; done)), H', ⟨by first | omega | exact Nat.le_refl _⟩, by repeat (first | exact Drawn0.refl _ | apply Drawn0.step)⟩
    · rw [if_neg c3] at H
      have c3b0 : decide ((a0.size : Int) < 1) = false := decide_eq_false c3
      have c3b1 : decide (a0.size < 1) = false := decide_eq_false (by omega)
      clear c3
      (first | rw [c3b0] | (simp only [i64_w, i32_w]; rw [c3b0]) | skip)
      have H' := Aside0.mk H
      clear H
      go_wp2
      go_meet
      case rel => exact ⟨_, (decide ((a0.size : Int) > 16)), (by first | rfl | (simp; done) | (simp [*]; done)), H', ⟨by first | omega | exact Nat.le_refl _⟩, by repeat (first | exact Drawn0.refl _ | apply Drawn0.step)⟩
  case rest =>
    clear HC2
    (try clear p2); (try clear c3); (try clear c3b0); (try clear c3b1)
    obtain ⟨kq, x11_1, rfl, HA, HJ1, ⟨mc1, rfl⟩⟩ := hcut
    cases kq with
    | zero => exact absurd HA.out (by simp [span_Name.j0])
    | succ kj1 =>
      have H := HA.out
      clear HA
      simp only [span_Name.j0] at H
      by_cases c4 : x11_1 = true
      · subst c4
        have H1 : (some false) = some r := by rw [if_pos rfl] at H; exact H
        clear H
        have H := H1
        clear H1
        obtain rfl := Option.some.inj H
        go_wp2
        go_ret
        exact ⟨by first | rfl | (simp; done) | (simp [*]; done), by repeat (first | exact Drawn0.refl _ | apply Drawn0.step)⟩
      · replace c4 := Bool.eq_false_iff.mpr c4
        subst c4
        have H1 : (span_Name.l0 kj1 a0 (a0.size : Int) 0) = some r := by rw [if_neg (show ¬ (false = true) by decide)] at H; exact H
        clear H
        have H := H1
        clear H1
        have H' := Aside0.mk H
        clear H
        go_wp2
        go_loopg [14] kj1 (fun kq v14 w' => ∃ (x14_2 : Int), v14 = .int .i64 x14_2 ∧ Aside0 (span_Name.l0 kq a0 (a0.size : Int) x14_2 = some r) ∧ Aside0 (kq ≤ kj1) ∧ Drawn0 w w')
        case atStart => exact ⟨(0), (by first | rfl | (simp; done) | (simp [*]; done)), H', ⟨Nat.le_refl _⟩, by repeat (first | exact Drawn0.refl _ | apply Drawn0.step)⟩
        case round =>
          clear H'
          (try clear c1); (try clear p2); (try clear c3); (try clear c3b0); (try clear c3b1); (try clear c4); (try clear p2)
          obtain ⟨x14_2, rfl, HA, HK2, ⟨m2, rfl⟩⟩ := hrel
          cases gk with
          | zero => exact absurd HA.out (by simp [span_Name.l0])
          | succ k2 =>
            have H := HA.out
            clear HA
            simp only [span_Name.l0] at H
            by_cases c5 : x14_2 < (a0.size : Int)
            · rw [if_pos c5] at H
              have c5b0 : decide (x14_2 < (a0.size : Int)) = true := decide_eq_true c5
              clear c5
              by_cases c6 : 0 ≤ x14_2
              · rw [if_pos c6] at H
                have c6b0 : decide (0 ≤ x14_2) = true := decide_eq_true c6
                clear c6
                by_cases c7 : x14_2 < (a0.size : Int)
                · rw [if_pos c7] at H
                  have c7b0 : decide (x14_2 < (a0.size : Int)) = true := decide_eq_true c7
                  clear c7
                  replace H := Option.bind_eq_some_iff.mp H
                  obtain ⟨t143, A90, H⟩ := H
                  replace H : (if t143 = true then (span_Name.l0 k2 a0 (a0.size : Int) (wrap64 (x14_2 + 1))) else (some false)) = some r := H
                  have A9 := Aside0.mk A90
                  clear A90
                  by_cases c10 : t143 = true
                  · subst c10
                    have H1 : (span_Name.l0 k2 a0 (a0.size : Int) (wrap64 (x14_2 + 1))) = some r := by rw [if_pos rfl] at H; exact H
                    clear H
                    have H := H1
                    clear H1
                    have H' := Aside0.mk H
                    clear H
                    have p8 : 0 ≤ (x14_2 : Int) := of_decide_eq_true (by first | (with_reducible assumption) | assumption)
                    have q8 : x14_2 < (a0.size : Int) := of_decide_eq_true (by first | (with_reducible assumption) | assumption)
                    have hx8 := bt_at a0 x14_2
                    replace p8 := eq_true p8
                    replace q8 := eq_true q8
                    go_wp2_with (first | ((with_reducible refine gate_callee (f := 143) rfl ?_); refine goesL_ (some 20) rfl rfl Try.func143 (by kernel_rfl) rfl #[.int .u8 (bt a0 x14_2)] rfl (by (try simp only [List.map_toArray, List.map_cons, List.map_nil]); first | done | rfl | (simp only [List.length_drop, List.length_take]; rfl)) ?_; (with_reducible refine (span_letter.calls (bt a0 x14_2) true _ A9.out).mono ?_); rintro e w' ⟨rfl, ⟨nd, rfl⟩⟩; refine ⟨_, rfl, ?_⟩))
                    go_roundg k2
                    case measure => have := HJ1.out; have := HK2.out; omega
                    case rel => exact ⟨(wrap64 (x14_2 + 1)), (by first | rfl | (simp; done) | (simp [*]; done)), H', ⟨by have := HJ1.out; have := HK2.out; omega⟩, by repeat (first | exact Drawn0.refl _ | apply Drawn0.step)⟩
                  · replace c10 := Bool.eq_false_iff.mpr c10
                    subst c10
                    have H1 : (some false) = some r := by rw [if_neg (show ¬ (false = true) by decide)] at H; exact H
                    clear H
                    have H := H1
                    clear H1
                    obtain rfl := Option.some.inj H
                    have p8 : 0 ≤ (x14_2 : Int) := of_decide_eq_true (by first | (with_reducible assumption) | assumption)
                    have q8 : x14_2 < (a0.size : Int) := of_decide_eq_true (by first | (with_reducible assumption) | assumption)
                    have hx8 := bt_at a0 x14_2
                    replace p8 := eq_true p8
                    replace q8 := eq_true q8
                    go_wp2_with (first | ((with_reducible refine gate_callee (f := 143) rfl ?_); refine goesL_ (some 20) rfl rfl Try.func143 (by kernel_rfl) rfl #[.int .u8 (bt a0 x14_2)] rfl (by (try simp only [List.map_toArray, List.map_cons, List.map_nil]); first | done | rfl | (simp only [List.length_drop, List.length_take]; rfl)) ?_; (with_reducible refine (span_letter.calls (bt a0 x14_2) false _ A9.out).mono ?_); rintro e w' ⟨rfl, ⟨nd, rfl⟩⟩; refine ⟨_, rfl, ?_⟩))
                    go_ret
                    exact ⟨by first | rfl | (simp; done) | (simp [*]; done), by repeat (first | exact Drawn0.refl _ | apply Drawn0.step)⟩
                · rw [if_neg c7] at H
                  exact absurd H (by simp)
              · rw [if_neg c6] at H
                exact absurd H (by simp)
            · rw [if_neg c5] at H
              have c5b0 : decide (x14_2 < (a0.size : Int)) = false := decide_eq_false c5
              clear c5
              obtain rfl := Option.some.inj H
              go_wp2
              go_ret
              exact ⟨by first | rfl | (simp; done) | (simp [*]; done), by repeat (first | exact Drawn0.refl _ | apply Drawn0.step)⟩

end Go.Proofs.Ytmfdhcgdibefiaa.Q

-- Written by wip/tools/gp.py, a program of this session round the kit's printer. Lean checks it.
namespace Go.Proofs.Ytmfdhcgdibefiaa.Q
open Go.RowKit Go.Proofs.YtmfdhcgdibefiaaW.PrintWords Go.Proofs.YtmfdhcgdibefiaaW.PrintLast Go.Proofs.YtmfdhcgdibefiaaW.PrintMore
attribute [local go_sem] max2_int min2_int max_two min_two max_three min_three max_four min_four   -- for this text's walks alone
set_option linter.unusedVariables false
set_option linter.unusedSimpArgs false

/-! ### span_May: function 43 -/
mutual
def span_May.j0 : Nat → Bool → Int → Int → Int → Int → ByteArray → ByteArray → Int → Int → Option (Bool)
  | 0, _, _, _, _, _, _, _, _, _ => none
  | k + 1, x3, x145000, x145001, x145002, x145003, x145004, x145005, x145006, x145007 => if x3 = true then (some false) else (if x145006 < 0 then (span_May.j1 k (decide (x145006 < 0)) x145000 x145001 x145002 x145003 x145004 x145005 x145006 x145007) else (if x145006 ≥ 1125899906842624 then (span_May.j1 k (decide (x145006 ≥ 1125899906842624)) x145000 x145001 x145002 x145003 x145004 x145005 x145006 x145007) else (if x145007 < 0 then (span_May.j1 k (decide (x145007 < 0)) x145000 x145001 x145002 x145003 x145004 x145005 x145006 x145007) else (span_May.j1 k (decide (x145007 > 1125899906842624)) x145000 x145001 x145002 x145003 x145004 x145005 x145006 x145007))))
def span_May.j1 : Nat → Bool → Int → Int → Int → Int → ByteArray → ByteArray → Int → Int → Option (Bool)
  | 0, _, _, _, _, _, _, _, _, _ => none
  | k + 1, x18, x145000, x145001, x145002, x145003, x145004, x145005, x145006, x145007 => if x18 = true then (some false) else ((span_Name.f k x145004).bind fun t145 => (if t145 = true then ((span_Name.f k x145005).bind fun t146 => (some t146)) else (some false)))
end
def span_May.f (k : Nat) (a0_0 : Int) (a0_1 : Int) (a0_2 : Int) (a0_3 : Int) (a0_4 : ByteArray) (a0_5 : ByteArray) (a0_6 : Int) (a0_7 : Int) : Option (Bool) := if a0_0 = 0 then (span_May.j0 k (a0_0 == 0) a0_0 a0_1 a0_2 a0_3 a0_4 a0_5 a0_6 a0_7) else (if a0_1 = 0 then (span_May.j0 k (a0_1 == 0) a0_0 a0_1 a0_2 a0_3 a0_4 a0_5 a0_6 a0_7) else (if a0_2 = a0_1 then (span_May.j0 k (a0_2 == a0_1) a0_0 a0_1 a0_2 a0_3 a0_4 a0_5 a0_6 a0_7) else (span_May.j0 k (decide (a0_3 > 2)) a0_0 a0_1 a0_2 a0_3 a0_4 a0_5 a0_6 a0_7)))
theorem span_May.mono_l : ∀ k, (∀ y0 y1 y2 y3 y4 y5 y6 y7 y8, LeO (span_May.j0 k y0 y1 y2 y3 y4 y5 y6 y7 y8) (span_May.j0 (k + 1) y0 y1 y2 y3 y4 y5 y6 y7 y8)) ∧ (∀ y0 y1 y2 y3 y4 y5 y6 y7 y8, LeO (span_May.j1 k y0 y1 y2 y3 y4 y5 y6 y7 y8) (span_May.j1 (k + 1) y0 y1 y2 y3 y4 y5 y6 y7 y8))
  | 0 => ⟨fun _ _ _ _ _ _ _ _ _ r h => by simp [span_May.j0] at h, fun _ _ _ _ _ _ _ _ _ r h => by simp [span_May.j1] at h⟩
  | k + 1 => by
    obtain ⟨ih0, ih1⟩ := span_May.mono_l k
    refine ⟨?_, ?_⟩
    · intro y0 y1 y2 y3 y4 y5 y6 y7 y8
      unfold span_May.j0
      repeat' first
      | (with_reducible exact ih0 _ _ _ _ _ _ _ _ _)
      | (with_reducible exact ih1 _ _ _ _ _ _ _ _ _)
      | (with_reducible exact span_Name.mono _ _)
      | (with_reducible exact LeO.refl _)
      | (with_reducible exact LeO.none _)
      | (with_reducible refine LeO.ite ?_ ?_)
      | (with_reducible refine LeO.bind ?_ (fun _ => ?_))
      | exact ih0 _ _ _ _ _ _ _ _ _
      | exact ih1 _ _ _ _ _ _ _ _ _
      | exact span_Name.mono _ _
      | exact LeO.none _
      | refine LeO.ite ?_ ?_
      | refine LeO.bind ?_ (fun _ => ?_)
    · intro y0 y1 y2 y3 y4 y5 y6 y7 y8
      unfold span_May.j1
      repeat' first
      | (with_reducible exact ih0 _ _ _ _ _ _ _ _ _)
      | (with_reducible exact ih1 _ _ _ _ _ _ _ _ _)
      | (with_reducible exact span_Name.mono _ _)
      | (with_reducible exact LeO.refl _)
      | (with_reducible exact LeO.none _)
      | (with_reducible refine LeO.ite ?_ ?_)
      | (with_reducible refine LeO.bind ?_ (fun _ => ?_))
      | exact ih0 _ _ _ _ _ _ _ _ _
      | exact ih1 _ _ _ _ _ _ _ _ _
      | exact span_Name.mono _ _
      | exact LeO.none _
      | refine LeO.ite ?_ ?_
      | refine LeO.bind ?_ (fun _ => ?_)
theorem span_May.mono : ∀ a0 a1 a2 a3 a4 a5 a6 a7 k, LeO (span_May.f k a0 a1 a2 a3 a4 a5 a6 a7) (span_May.f (k + 1) a0 a1 a2 a3 a4 a5 a6 a7) := by
  intro a0 a1 a2 a3 a4 a5 a6 a7 k
  obtain ⟨ih0, ih1⟩ := span_May.mono_l k
  unfold span_May.f
  repeat' first
      | (with_reducible exact ih0 _ _ _ _ _ _ _ _ _)
      | (with_reducible exact ih1 _ _ _ _ _ _ _ _ _)
      | (with_reducible exact span_Name.mono _ _)
      | (with_reducible exact LeO.refl _)
      | (with_reducible exact LeO.none _)
      | (with_reducible refine LeO.ite ?_ ?_)
      | (with_reducible refine LeO.bind ?_ (fun _ => ?_))
      | exact ih0 _ _ _ _ _ _ _ _ _
      | exact ih1 _ _ _ _ _ _ _ _ _
      | exact span_Name.mono _ _
      | exact LeO.none _
      | refine LeO.ite ?_ ?_
      | refine LeO.bind ?_ (fun _ => ?_)
set_option maxHeartbeats 8000000 in
set_option maxRecDepth 100000 in
theorem span_May.calls (k : Nat) (a0_0 : Int) (a0_1 : Int) (a0_2 : Int) (a0_3 : Int) (a0_4 : ByteArray) (a0_5 : ByteArray) (a0_6 : Int) (a0_7 : Int) (r : Bool) (w : World) (h : span_May.f k a0_0 a0_1 a0_2 a0_3 a0_4 a0_5 a0_6 a0_7 = some r) :
    Calls Try.prog 43 #[.agg #[.int .u64 a0_0, .int .u64 a0_1, .int .u64 a0_2, .int .u8 a0_3, .string a0_4, .string a0_5, .int .i64 a0_6, .int .i64 a0_7]] w fun e w' => e = .returned (.bool r) ∧ Below w.heap.size w w' := by
  have hu37 := Try.underlying37
  have HB := Aside0.mk (Below.refl w.heap.size w)
  have H : (if a0_0 = 0 then (span_May.j0 k (a0_0 == 0) a0_0 a0_1 a0_2 a0_3 a0_4 a0_5 a0_6 a0_7) else (if a0_1 = 0 then (span_May.j0 k (a0_1 == 0) a0_0 a0_1 a0_2 a0_3 a0_4 a0_5 a0_6 a0_7) else (if a0_2 = a0_1 then (span_May.j0 k (a0_2 == a0_1) a0_0 a0_1 a0_2 a0_3 a0_4 a0_5 a0_6 a0_7) else (span_May.j0 k (decide (a0_3 > 2)) a0_0 a0_1 a0_2 a0_3 a0_4 a0_5 a0_6 a0_7)))) = some r := h
  clear h
  have HC2 := Aside0.mk H
  clear H
  go_enter Try.func43, Try.ntmps43
  go_upto_if 3 with (first | ((with_reducible refine gate_dst (N := 1) rfl ?_); refine box_event ?hg (N := 1) ?hd (cs := #[.int .u64 a0_0, .int .u64 a0_1, .int .u64 a0_2, .int .u8 a0_3, .string a0_4, .string a0_5, .int .i64 a0_6, .int .i64 a0_7]) (t := 37) ?hr ?_; (case hd => rfl); (case hg => rfl); (case hr => first | (go_simp; done) | (go_simp; rfl)); intro gb144 hg w3 hbox hb; have n0_ := Aside0.mk (below_step (by repeat (first | (with_reducible first | exact HB.out | apply below_alloc | apply pw_below_drewN | apply below_drew1) | exact HB.out)) hb); have n1_ := Aside0.mk (hbox); have n2_ := Aside0.mk ((by rw [hg]; exact (below_size (by repeat (first | (with_reducible first | exact HB.out | apply below_alloc | apply pw_below_drewN | apply below_drew1) | exact HB.out))) : w.heap.size ≤ gb144)); have n3_ := Aside0.mk ((by rw [hg]; exact (below_size (by repeat (first | (with_reducible first | exact HB.out | apply below_alloc | apply pw_below_drewN | apply below_drew1) | exact HB.out))) : w.heap.size ≤ gb144)); clear HB; have HB := n0_; have BK144 := n1_; have GW144 := n2_; have GE144 := n3_; clear n0_ n1_ n2_ n3_; clear hb hbox hg; have hcz4_0 : w3.cell? ⟨gb144, 0, none⟩ = some (.int .u64 a0_0) := (blk_cell BK144.out 0).trans rfl; have hcz4_1 : w3.cell? ⟨gb144, 1, none⟩ = some (.int .u64 a0_1) := (blk_cell BK144.out 1).trans rfl; have hcz4_2 : w3.cell? ⟨gb144, 2, none⟩ = some (.int .u64 a0_2) := (blk_cell BK144.out 2).trans rfl; have hcz4_3 : w3.cell? ⟨gb144, 3, none⟩ = some (.int .u8 a0_3) := (blk_cell BK144.out 3).trans rfl; have hcz4_4 : w3.cell? ⟨gb144, 4, none⟩ = some (.string a0_4) := (blk_cell BK144.out 4).trans rfl; have hcz4_5 : w3.cell? ⟨gb144, 5, none⟩ = some (.string a0_5) := (blk_cell BK144.out 5).trans rfl; have hcz4_6 : w3.cell? ⟨gb144, 6, none⟩ = some (.int .i64 a0_6) := (blk_cell BK144.out 6).trans rfl; have hcz4_7 : w3.cell? ⟨gb144, 7, none⟩ = some (.int .i64 a0_7) := (blk_cell BK144.out 7).trans rfl; have hfz4_0 := blk_frozen BK144.out 0; have hfz4_1 := blk_frozen BK144.out 1; have hfz4_2 := blk_frozen BK144.out 2; have hfz4_3 := blk_frozen BK144.out 3; have hfz4_4 := blk_frozen BK144.out 4; have hfz4_5 := blk_frozen BK144.out 5; have hfz4_6 := blk_frozen BK144.out 6; have hfz4_7 := blk_frozen BK144.out 7))
  (try simp only [Act.put, List.setIfInBounds_toArray, List.set_cons_zero, List.set_cons_succ])
  go_cut [3] (fun v3 wc => ∃ (kq : Nat) (x3_1 : Bool), v3 = .bool x3_1 ∧ Aside0 (span_May.j0 kq x3_1 a0_0 a0_1 a0_2 a0_3 a0_4 a0_5 a0_6 a0_7 = some r) ∧ Aside0 (kq ≤ k) ∧ Aside0 (wc.heap[gb144]? = some (.cells #[.int .u64 a0_0, .int .u64 a0_1, .int .u64 a0_2, .int .u8 a0_3, .string a0_4, .string a0_5, .int .i64 a0_6, .int .i64 a0_7] 37 (0, 0))) ∧ Aside0 (Below w.heap.size w wc))
  case first =>
    have H := HC2.out
    clear HC2
    by_cases c5 : a0_0 = 0
    · rw [if_pos c5] at H
      have c5b0 : (a0_0 == 0) = true := beq_iff_eq.mpr c5
      have c5b1 : (a0_0 != 0) = false := bne_eq_false_iff_eq.mpr c5
      clear c5
      (first | rw [c5b0] | (simp only [i64_w, i32_w]; rw [c5b0]) | skip)
      have H' := Aside0.mk H
      clear H
      go_wp2
      go_meet
      case rel => exact ⟨_, ((a0_0 == 0)), (by first | rfl | (simp; done) | (simp [*]; done)), H', ⟨by first | omega | exact Nat.le_refl _⟩, ⟨by (with_reducible repeat (first | refine blk_drewN ?_ _ | refine blk_drew ?_ | refine blk_alloc ?_ _)); exact BK144.out⟩, ⟨by repeat (first | (with_reducible first | exact HB.out | apply below_alloc | apply pw_below_drewN | apply below_drew1 | refine below_set ?_ GE144.out) | exact HB.out)⟩⟩
    · rw [if_neg c5] at H
      have c5b0 : (a0_0 == 0) = false := beq_eq_false_iff_ne.mpr c5
      have c5b1 : (a0_0 != 0) = true := bne_iff_ne.mpr c5
      (first | rw [c5b0] | (simp only [i64_w, i32_w]; rw [c5b0]) | skip)
      by_cases c6 : a0_1 = 0
      · rw [if_pos c6] at H
        have c6b0 : (a0_1 == 0) = true := beq_iff_eq.mpr c6
        have c6b1 : (a0_1 != 0) = false := bne_eq_false_iff_eq.mpr c6
        clear c6
        have H' := Aside0.mk H
        clear H
        have hcz7_0 : w3.cell? ⟨gb144, 0, none⟩ = some (.int .u64 a0_0) := (blk_cell BK144.out 0).trans rfl
        have hcz7_1 : w3.cell? ⟨gb144, 1, none⟩ = some (.int .u64 a0_1) := (blk_cell BK144.out 1).trans rfl
        have hcz7_2 : w3.cell? ⟨gb144, 2, none⟩ = some (.int .u64 a0_2) := (blk_cell BK144.out 2).trans rfl
        have hcz7_3 : w3.cell? ⟨gb144, 3, none⟩ = some (.int .u8 a0_3) := (blk_cell BK144.out 3).trans rfl
        have hcz7_4 : w3.cell? ⟨gb144, 4, none⟩ = some (.string a0_4) := (blk_cell BK144.out 4).trans rfl
        have hcz7_5 : w3.cell? ⟨gb144, 5, none⟩ = some (.string a0_5) := (blk_cell BK144.out 5).trans rfl
        have hcz7_6 : w3.cell? ⟨gb144, 6, none⟩ = some (.int .i64 a0_6) := (blk_cell BK144.out 6).trans rfl
        have hcz7_7 : w3.cell? ⟨gb144, 7, none⟩ = some (.int .i64 a0_7) := (blk_cell BK144.out 7).trans rfl
        have hfz7_0 := blk_frozen BK144.out 0
        have hfz7_1 := blk_frozen BK144.out 1
        have hfz7_2 := blk_frozen BK144.out 2
        have hfz7_3 := blk_frozen BK144.out 3
        have hfz7_4 := blk_frozen BK144.out 4
        have hfz7_5 := blk_frozen BK144.out 5
        have hfz7_6 := blk_frozen BK144.out 6
        have hfz7_7 := blk_frozen BK144.out 7
        go_wp2
        go_meet
        case rel => exact ⟨_, ((a0_1 == 0)), (by first | rfl | (simp; done) | (simp [*]; done)), H', ⟨by first | omega | exact Nat.le_refl _⟩, ⟨by (with_reducible repeat (first | refine blk_drewN ?_ _ | refine blk_drew ?_ | refine blk_alloc ?_ _)); exact BK144.out⟩, ⟨by repeat (first | (with_reducible first | exact HB.out | apply below_alloc | apply pw_below_drewN | apply below_drew1 | refine below_set ?_ GE144.out) | exact HB.out)⟩⟩
      · rw [if_neg c6] at H
        have c6b0 : (a0_1 == 0) = false := beq_eq_false_iff_ne.mpr c6
        have c6b1 : (a0_1 != 0) = true := bne_iff_ne.mpr c6
        by_cases c8 : a0_2 = a0_1
        · rw [if_pos c8] at H
          have c8b0 : (a0_2 == a0_1) = true := beq_iff_eq.mpr c8
          have c8b1 : (a0_2 != a0_1) = false := bne_eq_false_iff_eq.mpr c8
          clear c8
          have H' := Aside0.mk H
          clear H
          have hcz9_0 : w3.cell? ⟨gb144, 0, none⟩ = some (.int .u64 a0_0) := (blk_cell BK144.out 0).trans rfl
          have hcz9_1 : w3.cell? ⟨gb144, 1, none⟩ = some (.int .u64 a0_1) := (blk_cell BK144.out 1).trans rfl
          have hcz9_2 : w3.cell? ⟨gb144, 2, none⟩ = some (.int .u64 a0_2) := (blk_cell BK144.out 2).trans rfl
          have hcz9_3 : w3.cell? ⟨gb144, 3, none⟩ = some (.int .u8 a0_3) := (blk_cell BK144.out 3).trans rfl
          have hcz9_4 : w3.cell? ⟨gb144, 4, none⟩ = some (.string a0_4) := (blk_cell BK144.out 4).trans rfl
          have hcz9_5 : w3.cell? ⟨gb144, 5, none⟩ = some (.string a0_5) := (blk_cell BK144.out 5).trans rfl
          have hcz9_6 : w3.cell? ⟨gb144, 6, none⟩ = some (.int .i64 a0_6) := (blk_cell BK144.out 6).trans rfl
          have hcz9_7 : w3.cell? ⟨gb144, 7, none⟩ = some (.int .i64 a0_7) := (blk_cell BK144.out 7).trans rfl
          have hfz9_0 := blk_frozen BK144.out 0
          have hfz9_1 := blk_frozen BK144.out 1
          have hfz9_2 := blk_frozen BK144.out 2
          have hfz9_3 := blk_frozen BK144.out 3
          have hfz9_4 := blk_frozen BK144.out 4
          have hfz9_5 := blk_frozen BK144.out 5
          have hfz9_6 := blk_frozen BK144.out 6
          have hfz9_7 := blk_frozen BK144.out 7
          go_wp2
          go_meet
          case rel => exact ⟨_, ((a0_2 == a0_1)), (by first | rfl | (simp; done) | (simp [*]; done)), H', ⟨by first | omega | exact Nat.le_refl _⟩, ⟨by (with_reducible repeat (first | refine blk_drewN ?_ _ | refine blk_drew ?_ | refine blk_alloc ?_ _)); exact BK144.out⟩, ⟨by repeat (first | (with_reducible first | exact HB.out | apply below_alloc | apply pw_below_drewN | apply below_drew1 | refine below_set ?_ GE144.out) | exact HB.out)⟩⟩
        · rw [if_neg c8] at H
          have c8b0 : (a0_2 == a0_1) = false := beq_eq_false_iff_ne.mpr c8
          have c8b1 : (a0_2 != a0_1) = true := bne_iff_ne.mpr c8
          have H' := Aside0.mk H
          clear H
          have hcz10_0 : w3.cell? ⟨gb144, 0, none⟩ = some (.int .u64 a0_0) := (blk_cell BK144.out 0).trans rfl
          have hcz10_1 : w3.cell? ⟨gb144, 1, none⟩ = some (.int .u64 a0_1) := (blk_cell BK144.out 1).trans rfl
          have hcz10_2 : w3.cell? ⟨gb144, 2, none⟩ = some (.int .u64 a0_2) := (blk_cell BK144.out 2).trans rfl
          have hcz10_3 : w3.cell? ⟨gb144, 3, none⟩ = some (.int .u8 a0_3) := (blk_cell BK144.out 3).trans rfl
          have hcz10_4 : w3.cell? ⟨gb144, 4, none⟩ = some (.string a0_4) := (blk_cell BK144.out 4).trans rfl
          have hcz10_5 : w3.cell? ⟨gb144, 5, none⟩ = some (.string a0_5) := (blk_cell BK144.out 5).trans rfl
          have hcz10_6 : w3.cell? ⟨gb144, 6, none⟩ = some (.int .i64 a0_6) := (blk_cell BK144.out 6).trans rfl
          have hcz10_7 : w3.cell? ⟨gb144, 7, none⟩ = some (.int .i64 a0_7) := (blk_cell BK144.out 7).trans rfl
          have hfz10_0 := blk_frozen BK144.out 0
          have hfz10_1 := blk_frozen BK144.out 1
          have hfz10_2 := blk_frozen BK144.out 2
          have hfz10_3 := blk_frozen BK144.out 3
          have hfz10_4 := blk_frozen BK144.out 4
          have hfz10_5 := blk_frozen BK144.out 5
          have hfz10_6 := blk_frozen BK144.out 6
          have hfz10_7 := blk_frozen BK144.out 7
          go_wp2
          go_meet
          case rel => exact ⟨_, (decide (a0_3 > 2)), (by first | rfl | (simp; done) | (simp [*]; done)), H', ⟨by first | omega | exact Nat.le_refl _⟩, ⟨by (with_reducible repeat (first | refine blk_drewN ?_ _ | refine blk_drew ?_ | refine blk_alloc ?_ _)); exact BK144.out⟩, ⟨by repeat (first | (with_reducible first | exact HB.out | apply below_alloc | apply pw_below_drewN | apply below_drew1 | refine below_set ?_ GE144.out) | exact HB.out)⟩⟩
  case rest =>
    clear HC2
    (try clear p2); (try clear c4); (try clear c5); (try clear c5b0); (try clear c5b1); (try clear c6); (try clear c6b0); (try clear c6b1); (try clear c8); (try clear c8b0); (try clear c8b1); (try clear hcz10_0); (try clear hcz10_1); (try clear hcz10_2); (try clear hcz10_3); (try clear hcz10_4); (try clear hcz10_5); (try clear hcz10_6); (try clear hcz10_7); (try clear hcz4_0); (try clear hcz4_1); (try clear hcz4_2); (try clear hcz4_3); (try clear hcz4_4); (try clear hcz4_5); (try clear hcz4_6); (try clear hcz4_7); (try clear hcz7_0); (try clear hcz7_1); (try clear hcz7_2); (try clear hcz7_3); (try clear hcz7_4); (try clear hcz7_5); (try clear hcz7_6); (try clear hcz7_7); (try clear hcz9_0); (try clear hcz9_1); (try clear hcz9_2); (try clear hcz9_3); (try clear hcz9_4); (try clear hcz9_5); (try clear hcz9_6); (try clear hcz9_7); (try clear hfz10_0); (try clear hfz10_1); (try clear hfz10_2); (try clear hfz10_3); (try clear hfz10_4); (try clear hfz10_5); (try clear hfz10_6); (try clear hfz10_7); (try clear hfz4_0); (try clear hfz4_1); (try clear hfz4_2); (try clear hfz4_3); (try clear hfz4_4); (try clear hfz4_5); (try clear hfz4_6); (try clear hfz4_7); (try clear hfz7_0); (try clear hfz7_1); (try clear hfz7_2); (try clear hfz7_3); (try clear hfz7_4); (try clear hfz7_5); (try clear hfz7_6); (try clear hfz7_7); (try clear hfz9_0); (try clear hfz9_1); (try clear hfz9_2); (try clear hfz9_3); (try clear hfz9_4); (try clear hfz9_5); (try clear hfz9_6); (try clear hfz9_7)
    obtain ⟨kq, x3_1, rfl, HA, HJ1, BK144, HB⟩ := hcut
    cases kq with
    | zero => exact absurd HA.out (by simp [span_May.j0])
    | succ kj1 =>
      have H := HA.out
      clear HA
      simp only [span_May.j0] at H
      by_cases c11 : x3_1 = true
      · subst c11
        have H1 : (some false) = some r := by rw [if_pos rfl] at H; exact H
        clear H
        have H := H1
        clear H1
        obtain rfl := Option.some.inj H
        go_wp2
        go_ret
        exact ⟨by first | rfl | (simp [errW_none, errW_some] <;> rfl) | (simp [*, errW_none, errW_some] <;> rfl), by repeat (first | (with_reducible first | exact HB.out | apply below_alloc | apply pw_below_drewN | apply below_drew1 | refine below_set ?_ GE144.out) | exact HB.out)⟩
      · replace c11 := Bool.eq_false_iff.mpr c11
        subst c11
        have H1 : (if a0_6 < 0 then (span_May.j1 kj1 (decide (a0_6 < 0)) a0_0 a0_1 a0_2 a0_3 a0_4 a0_5 a0_6 a0_7) else (if a0_6 ≥ 1125899906842624 then (span_May.j1 kj1 (decide (a0_6 ≥ 1125899906842624)) a0_0 a0_1 a0_2 a0_3 a0_4 a0_5 a0_6 a0_7) else (if a0_7 < 0 then (span_May.j1 kj1 (decide (a0_7 < 0)) a0_0 a0_1 a0_2 a0_3 a0_4 a0_5 a0_6 a0_7) else (span_May.j1 kj1 (decide (a0_7 > 1125899906842624)) a0_0 a0_1 a0_2 a0_3 a0_4 a0_5 a0_6 a0_7)))) = some r := by rw [if_neg (show ¬ (false = true) by decide)] at H; exact H
        clear H
        have H := H1
        clear H1
        have HC12 := Aside0.mk H
        clear H
        have hcz13_0 : wc.cell? ⟨gb144, 0, none⟩ = some (.int .u64 a0_0) := (blk_cell BK144.out 0).trans rfl
        have hcz13_1 : wc.cell? ⟨gb144, 1, none⟩ = some (.int .u64 a0_1) := (blk_cell BK144.out 1).trans rfl
        have hcz13_2 : wc.cell? ⟨gb144, 2, none⟩ = some (.int .u64 a0_2) := (blk_cell BK144.out 2).trans rfl
        have hcz13_3 : wc.cell? ⟨gb144, 3, none⟩ = some (.int .u8 a0_3) := (blk_cell BK144.out 3).trans rfl
        have hcz13_4 : wc.cell? ⟨gb144, 4, none⟩ = some (.string a0_4) := (blk_cell BK144.out 4).trans rfl
        have hcz13_5 : wc.cell? ⟨gb144, 5, none⟩ = some (.string a0_5) := (blk_cell BK144.out 5).trans rfl
        have hcz13_6 : wc.cell? ⟨gb144, 6, none⟩ = some (.int .i64 a0_6) := (blk_cell BK144.out 6).trans rfl
        have hcz13_7 : wc.cell? ⟨gb144, 7, none⟩ = some (.int .i64 a0_7) := (blk_cell BK144.out 7).trans rfl
        have hfz13_0 := blk_frozen BK144.out 0
        have hfz13_1 := blk_frozen BK144.out 1
        have hfz13_2 := blk_frozen BK144.out 2
        have hfz13_3 := blk_frozen BK144.out 3
        have hfz13_4 := blk_frozen BK144.out 4
        have hfz13_5 := blk_frozen BK144.out 5
        have hfz13_6 := blk_frozen BK144.out 6
        have hfz13_7 := blk_frozen BK144.out 7
        go_upto_if 18 with (fail)
        go_cut [18] (fun v18 wc => ∃ (kq : Nat) (x18_11 : Bool), v18 = .bool x18_11 ∧ Aside0 (span_May.j1 kq x18_11 a0_0 a0_1 a0_2 a0_3 a0_4 a0_5 a0_6 a0_7 = some r) ∧ Aside0 (kq ≤ kj1) ∧ Aside0 (wc.heap[gb144]? = some (.cells #[.int .u64 a0_0, .int .u64 a0_1, .int .u64 a0_2, .int .u8 a0_3, .string a0_4, .string a0_5, .int .i64 a0_6, .int .i64 a0_7] 37 (0, 0))) ∧ Aside0 (Below w.heap.size w wc))
        case first =>
          have H := HC12.out
          clear HC12
          by_cases c14 : a0_6 < 0
          · rw [if_pos c14] at H
            have c14b0 : decide (a0_6 < 0) = true := decide_eq_true c14
            clear c14
            (first | rw [c14b0] | (simp only [i64_w, i32_w]; rw [c14b0]) | skip)
            have H' := Aside0.mk H
            clear H
            go_wp2
            go_meet
            case rel => exact ⟨_, (decide (a0_6 < 0)), (by first | rfl | (simp; done) | (simp [*]; done)), H', ⟨by have := HJ1.out; first | omega | exact Nat.le_refl _⟩, ⟨by (with_reducible repeat (first | refine blk_drewN ?_ _ | refine blk_drew ?_ | refine blk_alloc ?_ _)); exact BK144.out⟩, ⟨by repeat (first | (with_reducible first | exact HB.out | apply below_alloc | apply pw_below_drewN | apply below_drew1 | refine below_set ?_ GE144.out) | exact HB.out)⟩⟩
          · rw [if_neg c14] at H
            have c14b0 : decide (a0_6 < 0) = false := decide_eq_false c14
            clear c14
            (first | rw [c14b0] | (simp only [i64_w, i32_w]; rw [c14b0]) | skip)
            by_cases c15 : a0_6 ≥ 1125899906842624
            · rw [if_pos c15] at H
              have c15b0 : decide (1125899906842624 ≤ a0_6) = true := decide_eq_true c15
              clear c15
              have H' := Aside0.mk H
              clear H
              have hcz16_0 : wc.cell? ⟨gb144, 0, none⟩ = some (.int .u64 a0_0) := (blk_cell BK144.out 0).trans rfl
              have hcz16_1 : wc.cell? ⟨gb144, 1, none⟩ = some (.int .u64 a0_1) := (blk_cell BK144.out 1).trans rfl
              have hcz16_2 : wc.cell? ⟨gb144, 2, none⟩ = some (.int .u64 a0_2) := (blk_cell BK144.out 2).trans rfl
              have hcz16_3 : wc.cell? ⟨gb144, 3, none⟩ = some (.int .u8 a0_3) := (blk_cell BK144.out 3).trans rfl
              have hcz16_4 : wc.cell? ⟨gb144, 4, none⟩ = some (.string a0_4) := (blk_cell BK144.out 4).trans rfl
              have hcz16_5 : wc.cell? ⟨gb144, 5, none⟩ = some (.string a0_5) := (blk_cell BK144.out 5).trans rfl
              have hcz16_6 : wc.cell? ⟨gb144, 6, none⟩ = some (.int .i64 a0_6) := (blk_cell BK144.out 6).trans rfl
              have hcz16_7 : wc.cell? ⟨gb144, 7, none⟩ = some (.int .i64 a0_7) := (blk_cell BK144.out 7).trans rfl
              have hfz16_0 := blk_frozen BK144.out 0
              have hfz16_1 := blk_frozen BK144.out 1
              have hfz16_2 := blk_frozen BK144.out 2
              have hfz16_3 := blk_frozen BK144.out 3
              have hfz16_4 := blk_frozen BK144.out 4
              have hfz16_5 := blk_frozen BK144.out 5
              have hfz16_6 := blk_frozen BK144.out 6
              have hfz16_7 := blk_frozen BK144.out 7
              go_wp2
              go_meet
              case rel => exact ⟨_, (decide (a0_6 ≥ 1125899906842624)), (by first | rfl | (simp; done) | (simp [*]; done)), H', ⟨by have := HJ1.out; first | omega | exact Nat.le_refl _⟩, ⟨by (with_reducible repeat (first | refine blk_drewN ?_ _ | refine blk_drew ?_ | refine blk_alloc ?_ _)); exact BK144.out⟩, ⟨by repeat (first | (with_reducible first | exact HB.out | apply below_alloc | apply pw_below_drewN | apply below_drew1 | refine below_set ?_ GE144.out) | exact HB.out)⟩⟩
            · rw [if_neg c15] at H
              have c15b0 : decide (1125899906842624 ≤ a0_6) = false := decide_eq_false c15
              clear c15
              by_cases c17 : a0_7 < 0
              · rw [if_pos c17] at H
                have c17b0 : decide (a0_7 < 0) = true := decide_eq_true c17
                clear c17
                have H' := Aside0.mk H
                clear H
                have hcz18_0 : wc.cell? ⟨gb144, 0, none⟩ = some (.int .u64 a0_0) := (blk_cell BK144.out 0).trans rfl
                have hcz18_1 : wc.cell? ⟨gb144, 1, none⟩ = some (.int .u64 a0_1) := (blk_cell BK144.out 1).trans rfl
                have hcz18_2 : wc.cell? ⟨gb144, 2, none⟩ = some (.int .u64 a0_2) := (blk_cell BK144.out 2).trans rfl
                have hcz18_3 : wc.cell? ⟨gb144, 3, none⟩ = some (.int .u8 a0_3) := (blk_cell BK144.out 3).trans rfl
                have hcz18_4 : wc.cell? ⟨gb144, 4, none⟩ = some (.string a0_4) := (blk_cell BK144.out 4).trans rfl
                have hcz18_5 : wc.cell? ⟨gb144, 5, none⟩ = some (.string a0_5) := (blk_cell BK144.out 5).trans rfl
                have hcz18_6 : wc.cell? ⟨gb144, 6, none⟩ = some (.int .i64 a0_6) := (blk_cell BK144.out 6).trans rfl
                have hcz18_7 : wc.cell? ⟨gb144, 7, none⟩ = some (.int .i64 a0_7) := (blk_cell BK144.out 7).trans rfl
                have hfz18_0 := blk_frozen BK144.out 0
                have hfz18_1 := blk_frozen BK144.out 1
                have hfz18_2 := blk_frozen BK144.out 2
                have hfz18_3 := blk_frozen BK144.out 3
                have hfz18_4 := blk_frozen BK144.out 4
                have hfz18_5 := blk_frozen BK144.out 5
                have hfz18_6 := blk_frozen BK144.out 6
                have hfz18_7 := blk_frozen BK144.out 7
                go_wp2
                go_meet
                case rel => exact ⟨_, (decide (a0_7 < 0)), (by first | rfl | (simp; done) | (simp [*]; done)), H', ⟨by have := HJ1.out; first | omega | exact Nat.le_refl _⟩, ⟨by (with_reducible repeat (first | refine blk_drewN ?_ _ | refine blk_drew ?_ | refine blk_alloc ?_ _)); exact BK144.out⟩, ⟨by repeat (first | (with_reducible first | exact HB.out | apply below_alloc | apply pw_below_drewN | apply below_drew1 | refine below_set ?_ GE144.out) | exact HB.out)⟩⟩
              · rw [if_neg c17] at H
                have c17b0 : decide (a0_7 < 0) = false := decide_eq_false c17
                clear c17
                have H' := Aside0.mk H
                clear H
                have hcz19_0 : wc.cell? ⟨gb144, 0, none⟩ = some (.int .u64 a0_0) := (blk_cell BK144.out 0).trans rfl
                have hcz19_1 : wc.cell? ⟨gb144, 1, none⟩ = some (.int .u64 a0_1) := (blk_cell BK144.out 1).trans rfl
                have hcz19_2 : wc.cell? ⟨gb144, 2, none⟩ = some (.int .u64 a0_2) := (blk_cell BK144.out 2).trans rfl
                have hcz19_3 : wc.cell? ⟨gb144, 3, none⟩ = some (.int .u8 a0_3) := (blk_cell BK144.out 3).trans rfl
                have hcz19_4 : wc.cell? ⟨gb144, 4, none⟩ = some (.string a0_4) := (blk_cell BK144.out 4).trans rfl
                have hcz19_5 : wc.cell? ⟨gb144, 5, none⟩ = some (.string a0_5) := (blk_cell BK144.out 5).trans rfl
                have hcz19_6 : wc.cell? ⟨gb144, 6, none⟩ = some (.int .i64 a0_6) := (blk_cell BK144.out 6).trans rfl
                have hcz19_7 : wc.cell? ⟨gb144, 7, none⟩ = some (.int .i64 a0_7) := (blk_cell BK144.out 7).trans rfl
                have hfz19_0 := blk_frozen BK144.out 0
                have hfz19_1 := blk_frozen BK144.out 1
                have hfz19_2 := blk_frozen BK144.out 2
                have hfz19_3 := blk_frozen BK144.out 3
                have hfz19_4 := blk_frozen BK144.out 4
                have hfz19_5 := blk_frozen BK144.out 5
                have hfz19_6 := blk_frozen BK144.out 6
                have hfz19_7 := blk_frozen BK144.out 7
                go_wp2
                go_meet
                case rel => exact ⟨_, (decide (a0_7 > 1125899906842624)), (by first | rfl | (simp; done) | (simp [*]; done)), H', ⟨by have := HJ1.out; first | omega | exact Nat.le_refl _⟩, ⟨by (with_reducible repeat (first | refine blk_drewN ?_ _ | refine blk_drew ?_ | refine blk_alloc ?_ _)); exact BK144.out⟩, ⟨by repeat (first | (with_reducible first | exact HB.out | apply below_alloc | apply pw_below_drewN | apply below_drew1 | refine below_set ?_ GE144.out) | exact HB.out)⟩⟩
        case rest =>
          clear HC12
          (try clear c1); (try clear p2); (try clear c4); (try clear c5); (try clear c5b0); (try clear c5b1); (try clear c6); (try clear c6b0); (try clear c6b1); (try clear c8); (try clear c8b0); (try clear c8b1); (try clear c11); (try clear c14); (try clear c14b0); (try clear c15); (try clear c15b0); (try clear c17); (try clear c17b0); (try clear hcz10_0); (try clear hcz10_1); (try clear hcz10_2); (try clear hcz10_3); (try clear hcz10_4); (try clear hcz10_5); (try clear hcz10_6); (try clear hcz10_7); (try clear hcz13_0); (try clear hcz13_1); (try clear hcz13_2); (try clear hcz13_3); (try clear hcz13_4); (try clear hcz13_5); (try clear hcz13_6); (try clear hcz13_7); (try clear hcz16_0); (try clear hcz16_1); (try clear hcz16_2); (try clear hcz16_3); (try clear hcz16_4); (try clear hcz16_5); (try clear hcz16_6); (try clear hcz16_7); (try clear hcz18_0); (try clear hcz18_1); (try clear hcz18_2); (try clear hcz18_3); (try clear hcz18_4); (try clear hcz18_5); (try clear hcz18_6); (try clear hcz18_7); (try clear hcz19_0); (try clear hcz19_1); (try clear hcz19_2); (try clear hcz19_3); (try clear hcz19_4); (try clear hcz19_5); (try clear hcz19_6); (try clear hcz19_7); (try clear hcz4_0); (try clear hcz4_1); (try clear hcz4_2); (try clear hcz4_3); (try clear hcz4_4); (try clear hcz4_5); (try clear hcz4_6); (try clear hcz4_7); (try clear hcz7_0); (try clear hcz7_1); (try clear hcz7_2); (try clear hcz7_3); (try clear hcz7_4); (try clear hcz7_5); (try clear hcz7_6); (try clear hcz7_7); (try clear hcz9_0); (try clear hcz9_1); (try clear hcz9_2); (try clear hcz9_3); (try clear hcz9_4); (try clear hcz9_5); (try clear hcz9_6); (try clear hcz9_7); (try clear hfz10_0); (try clear hfz10_1); (try clear hfz10_2); (try clear hfz10_3); (try clear hfz10_4); (try clear hfz10_5); (try clear hfz10_6); (try clear hfz10_7); (try clear hfz13_0); (try clear hfz13_1); (try clear hfz13_2); (try clear hfz13_3); (try clear hfz13_4); (try clear hfz13_5); (try clear hfz13_6); (try clear hfz13_7); (try clear hfz16_0); (try clear hfz16_1); (try clear hfz16_2); (try clear hfz16_3); (try clear hfz16_4); (try clear hfz16_5); (try clear hfz16_6); (try clear hfz16_7); (try clear hfz18_0); (try clear hfz18_1); (try clear hfz18_2); (try clear hfz18_3); (try clear hfz18_4); (try clear hfz18_5); (try clear hfz18_6); (try clear hfz18_7); (try clear hfz19_0); (try clear hfz19_1); (try clear hfz19_2); (try clear hfz19_3); (try clear hfz19_4); (try clear hfz19_5); (try clear hfz19_6); (try clear hfz19_7); (try clear hfz4_0); (try clear hfz4_1); (try clear hfz4_2); (try clear hfz4_3); (try clear hfz4_4); (try clear hfz4_5); (try clear hfz4_6); (try clear hfz4_7); (try clear hfz7_0); (try clear hfz7_1); (try clear hfz7_2); (try clear hfz7_3); (try clear hfz7_4); (try clear hfz7_5); (try clear hfz7_6); (try clear hfz7_7); (try clear hfz9_0); (try clear hfz9_1); (try clear hfz9_2); (try clear hfz9_3); (try clear hfz9_4); (try clear hfz9_5); (try clear hfz9_6); (try clear hfz9_7); (try clear p2)
          obtain ⟨kq, x18_11, rfl, HA, HJ11, BK144, HB⟩ := hcut
          cases kq with
          | zero => exact absurd HA.out (by simp [span_May.j1])
          | succ kj11 =>
            have H := HA.out
            clear HA
            simp only [span_May.j1] at H
            by_cases c20 : x18_11 = true
            · subst c20
              have H1 : (some false) = some r := by rw [if_pos rfl] at H; exact H
              clear H
              have H := H1
              clear H1
              obtain rfl := Option.some.inj H
              go_wp2
              go_ret
              exact ⟨by first | rfl | (simp [errW_none, errW_some] <;> rfl) | (simp [*, errW_none, errW_some] <;> rfl), by repeat (first | (with_reducible first | exact HB.out | apply below_alloc | apply pw_below_drewN | apply below_drew1 | refine below_set ?_ GE144.out) | exact HB.out)⟩
            · replace c20 := Bool.eq_false_iff.mpr c20
              subst c20
              have H1 : ((span_Name.f kj11 a0_4).bind fun t145 => (if t145 = true then ((span_Name.f kj11 a0_5).bind fun t146 => (some t146)) else (some false))) = some r := by rw [if_neg (show ¬ (false = true) by decide)] at H; exact H
              clear H
              have H := H1
              clear H1
              replace H := Option.bind_eq_some_iff.mp H
              obtain ⟨t145, A210, H⟩ := H
              replace H : (if t145 = true then ((span_Name.f kj11 a0_5).bind fun t146 => (some t146)) else (some false)) = some r := H
              have A21 := Aside0.mk A210
              clear A210
              by_cases c22 : t145 = true
              · subst c22
                have H1 : ((span_Name.f kj11 a0_5).bind fun t146 => (some t146)) = some r := by rw [if_pos rfl] at H; exact H
                clear H
                have H := H1
                clear H1
                replace H := Option.bind_eq_some_iff.mp H
                obtain ⟨t146, A230, H⟩ := H
                replace H : (some t146) = some r := H
                have A23 := Aside0.mk A230
                clear A230
                obtain rfl := Option.some.inj H
                have hcz24_0 : wc.cell? ⟨gb144, 0, none⟩ = some (.int .u64 a0_0) := (blk_cell BK144.out 0).trans rfl
                have hcz24_1 : wc.cell? ⟨gb144, 1, none⟩ = some (.int .u64 a0_1) := (blk_cell BK144.out 1).trans rfl
                have hcz24_2 : wc.cell? ⟨gb144, 2, none⟩ = some (.int .u64 a0_2) := (blk_cell BK144.out 2).trans rfl
                have hcz24_3 : wc.cell? ⟨gb144, 3, none⟩ = some (.int .u8 a0_3) := (blk_cell BK144.out 3).trans rfl
                have hcz24_4 : wc.cell? ⟨gb144, 4, none⟩ = some (.string a0_4) := (blk_cell BK144.out 4).trans rfl
                have hcz24_5 : wc.cell? ⟨gb144, 5, none⟩ = some (.string a0_5) := (blk_cell BK144.out 5).trans rfl
                have hcz24_6 : wc.cell? ⟨gb144, 6, none⟩ = some (.int .i64 a0_6) := (blk_cell BK144.out 6).trans rfl
                have hcz24_7 : wc.cell? ⟨gb144, 7, none⟩ = some (.int .i64 a0_7) := (blk_cell BK144.out 7).trans rfl
                have hfz24_0 := blk_frozen BK144.out 0
                have hfz24_1 := blk_frozen BK144.out 1
                have hfz24_2 := blk_frozen BK144.out 2
                have hfz24_3 := blk_frozen BK144.out 3
                have hfz24_4 := blk_frozen BK144.out 4
                have hfz24_5 := blk_frozen BK144.out 5
                have hfz24_6 := blk_frozen BK144.out 6
                have hfz24_7 := blk_frozen BK144.out 7
                go_wp2_with (first | ((with_reducible refine gate_callee (f := 96) rfl ?_); refine goesL_ (some 33) rfl rfl Try.func96 (by kernel_rfl) rfl #[.string a0_4] rfl (by (try simp only [List.map_toArray, List.map_cons, List.map_nil]); first | done | rfl | (simp only [List.length_drop, List.length_take]; rfl)) ?_; (with_reducible refine (span_Name.calls kj11 a0_4 true _ A21.out).mono ?_); rintro e w' ⟨rfl, ⟨nd, rfl⟩⟩; refine ⟨_, rfl, ?_⟩) | (go_at_call 96; (with_reducible refine (span_Name.calls kj11 a0_5 t146 _ A23.out).mono ?_); rintro e w' ⟨rfl, ⟨nd, rfl⟩⟩))
                go_ret
                exact ⟨by first | rfl | (simp [errW_none, errW_some] <;> rfl) | (simp [*, errW_none, errW_some] <;> rfl), by repeat (first | (with_reducible first | exact HB.out | apply below_alloc | apply pw_below_drewN | apply below_drew1 | refine below_set ?_ GE144.out) | exact HB.out)⟩
              · replace c22 := Bool.eq_false_iff.mpr c22
                subst c22
                have H1 : (some false) = some r := by rw [if_neg (show ¬ (false = true) by decide)] at H; exact H
                clear H
                have H := H1
                clear H1
                obtain rfl := Option.some.inj H
                have hcz25_0 : wc.cell? ⟨gb144, 0, none⟩ = some (.int .u64 a0_0) := (blk_cell BK144.out 0).trans rfl
                have hcz25_1 : wc.cell? ⟨gb144, 1, none⟩ = some (.int .u64 a0_1) := (blk_cell BK144.out 1).trans rfl
                have hcz25_2 : wc.cell? ⟨gb144, 2, none⟩ = some (.int .u64 a0_2) := (blk_cell BK144.out 2).trans rfl
                have hcz25_3 : wc.cell? ⟨gb144, 3, none⟩ = some (.int .u8 a0_3) := (blk_cell BK144.out 3).trans rfl
                have hcz25_4 : wc.cell? ⟨gb144, 4, none⟩ = some (.string a0_4) := (blk_cell BK144.out 4).trans rfl
                have hcz25_5 : wc.cell? ⟨gb144, 5, none⟩ = some (.string a0_5) := (blk_cell BK144.out 5).trans rfl
                have hcz25_6 : wc.cell? ⟨gb144, 6, none⟩ = some (.int .i64 a0_6) := (blk_cell BK144.out 6).trans rfl
                have hcz25_7 : wc.cell? ⟨gb144, 7, none⟩ = some (.int .i64 a0_7) := (blk_cell BK144.out 7).trans rfl
                have hfz25_0 := blk_frozen BK144.out 0
                have hfz25_1 := blk_frozen BK144.out 1
                have hfz25_2 := blk_frozen BK144.out 2
                have hfz25_3 := blk_frozen BK144.out 3
                have hfz25_4 := blk_frozen BK144.out 4
                have hfz25_5 := blk_frozen BK144.out 5
                have hfz25_6 := blk_frozen BK144.out 6
                have hfz25_7 := blk_frozen BK144.out 7
                go_wp2_with (first | ((with_reducible refine gate_callee (f := 96) rfl ?_); refine goesL_ (some 33) rfl rfl Try.func96 (by kernel_rfl) rfl #[.string a0_4] rfl (by (try simp only [List.map_toArray, List.map_cons, List.map_nil]); first | done | rfl | (simp only [List.length_drop, List.length_take]; rfl)) ?_; (with_reducible refine (span_Name.calls kj11 a0_4 false _ A21.out).mono ?_); rintro e w' ⟨rfl, ⟨nd, rfl⟩⟩; refine ⟨_, rfl, ?_⟩))
                go_ret
                exact ⟨by first | rfl | (simp [errW_none, errW_some] <;> rfl) | (simp [*, errW_none, errW_some] <;> rfl), by repeat (first | (with_reducible first | exact HB.out | apply below_alloc | apply pw_below_drewN | apply below_drew1 | refine below_set ?_ GE144.out) | exact HB.out)⟩

/-! ### merkhetref09_Place: function 102 -/
def merkhetref09_Place.l0 : Nat → List ByteArray → ByteArray → Int → Option (Int)
  | 0, _, _, _ => none
  | k + 1, x0, x1, x5 => if x5 < (x0.length : Int) then (if 0 ≤ x5 then (if (rdOf ByteArray.empty x0 x5).toList = x1.toList then (some x5) else (merkhetref09_Place.l0 k x0 x1 (wrap64 (x5 + 1)))) else (none)) else (some (-1))
def merkhetref09_Place.f (k : Nat) (l0 : List ByteArray) (a1 : ByteArray) : Option (Int) := merkhetref09_Place.l0 k l0 a1 0
theorem merkhetref09_Place.mono_l : ∀ k, (∀ y0 y1 y2, LeO (merkhetref09_Place.l0 k y0 y1 y2) (merkhetref09_Place.l0 (k + 1) y0 y1 y2))
  | 0 => fun _ _ _ r h => by simp [merkhetref09_Place.l0] at h
  | k + 1 => by
    have ih0 := merkhetref09_Place.mono_l k
    · intro y0 y1 y2
      unfold merkhetref09_Place.l0
      repeat' first
      | (with_reducible exact ih0 _ _ _)
      | (with_reducible exact LeO.refl _)
      | (with_reducible exact LeO.none _)
      | (with_reducible refine LeO.ite ?_ ?_)
      | (with_reducible refine LeO.bind ?_ (fun _ => ?_))
      | exact ih0 _ _ _
      | exact LeO.none _
      | refine LeO.ite ?_ ?_
      | refine LeO.bind ?_ (fun _ => ?_)
theorem merkhetref09_Place.mono : ∀ a0 a1 k, LeO (merkhetref09_Place.f k a0 a1) (merkhetref09_Place.f (k + 1) a0 a1) := by
  intro a0 a1 k
  have ih0 := merkhetref09_Place.mono_l k
  unfold merkhetref09_Place.f
  repeat' first
      | (with_reducible exact ih0 _ _ _)
      | (with_reducible exact LeO.refl _)
      | (with_reducible exact LeO.none _)
      | (with_reducible refine LeO.ite ?_ ?_)
      | (with_reducible refine LeO.bind ?_ (fun _ => ?_))
      | exact ih0 _ _ _
      | exact LeO.none _
      | refine LeO.ite ?_ ?_
      | refine LeO.bind ?_ (fun _ => ?_)
set_option maxHeartbeats 8000000 in
set_option maxRecDepth 100000 in
theorem merkhetref09_Place.calls (k : Nat) (A0 : Option Addr) (c0 : Nat) (l0 : List ByteArray) (a1 : ByteArray) (r : Int) (w : World) (hr0 : Kd.C Kd.string w A0 l0.length l0) (hc0 : l0.length ≤ c0) (h : merkhetref09_Place.f k l0 a1 = some r) :
    Calls Try.prog 102 #[.slice A0 l0.length c0, .string a1] w fun e w' => e = .returned (.int .i64 r) ∧ Drawn0 w w' := by
  have HR0 := Aside0.mk hr0
  have HC0 := Aside0.mk hc0
  clear hr0 hc0
  have H : (merkhetref09_Place.l0 k l0 a1 0) = some r := h
  clear h
  have H' := Aside0.mk H
  clear H
  go_enter Try.func102, Try.ntmps102
  go_wp2
  go_loopg [5] k (fun kq v5 w' => ∃ (x5_1 : Int), v5 = .int .i64 x5_1 ∧ Aside0 (merkhetref09_Place.l0 kq l0 a1 x5_1 = some r) ∧ Aside0 (kq ≤ k) ∧ Drawn0 w w')
  case atStart => exact ⟨(0), (by first | rfl | (simp; done) | (simp [*]; done)), H', ⟨Nat.le_refl _⟩, by repeat (first | exact Drawn0.refl _ | apply Drawn0.step)⟩
  case round =>
    clear H'
    (try clear c1); (try clear p2)
    obtain ⟨x5_1, rfl, HA, HK1, ⟨m1, rfl⟩⟩ := hrel
    cases gk with
    | zero => exact absurd HA.out (by simp [merkhetref09_Place.l0])
    | succ k1 =>
      have H := HA.out
      clear HA
      simp only [merkhetref09_Place.l0] at H
      by_cases c3 : x5_1 < (l0.length : Int)
      · rw [if_pos c3] at H
        have c3b0 : decide (x5_1 < (l0.length : Int)) = true := decide_eq_true c3
        clear c3
        by_cases c4 : 0 ≤ x5_1
        · rw [if_pos c4] at H
          have c4b0 : decide (0 ≤ x5_1) = true := decide_eq_true c4
          clear c4
          by_cases c5 : (rdOf ByteArray.empty l0 x5_1).toList = a1.toList
          · rw [if_pos c5] at H
            have c5b0 : ((rdOf ByteArray.empty l0 x5_1).toList == a1.toList) = true := beq_iff_eq.mpr c5
            have c5b1 : ((rdOf ByteArray.empty l0 x5_1).toList != a1.toList) = false := bne_eq_false_iff_eq.mpr c5
            clear c5
            obtain rfl := Option.some.inj H
            have p147 : 0 ≤ (x5_1 : Int) := of_decide_eq_true (by first | (with_reducible assumption) | assumption)
            have q147 : x5_1 < (l0.length : Int) := of_decide_eq_true (by first | (with_reducible assumption) | assumption)
            obtain ⟨ad147, e147, hx147_0⟩ := Kd.at_string HR0.out x5_1 p147 q147
            cases e147
            replace p147 := eq_true p147
            replace q147 := eq_true q147
            go_wp2
            go_ret
            exact ⟨by first | rfl | (simp; done) | (simp [*]; done), by repeat (first | exact Drawn0.refl _ | apply Drawn0.step)⟩
          · rw [if_neg c5] at H
            have c5b0 : ((rdOf ByteArray.empty l0 x5_1).toList == a1.toList) = false := beq_eq_false_iff_ne.mpr c5
            have c5b1 : ((rdOf ByteArray.empty l0 x5_1).toList != a1.toList) = true := bne_iff_ne.mpr c5
            have H' := Aside0.mk H
            clear H
            have p147 : 0 ≤ (x5_1 : Int) := of_decide_eq_true (by first | (with_reducible assumption) | assumption)
            have q147 : x5_1 < (l0.length : Int) := of_decide_eq_true (by first | (with_reducible assumption) | assumption)
            obtain ⟨ad147, e147, hx147_0⟩ := Kd.at_string HR0.out x5_1 p147 q147
            cases e147
            replace p147 := eq_true p147
            replace q147 := eq_true q147
            go_wp2
            go_roundg k1
            case measure => have := HK1.out; omega
            case rel => exact ⟨(wrap64 (x5_1 + 1)), (by first | rfl | (simp; done) | (simp [*]; done)), H', ⟨by have := HK1.out; omega⟩, by repeat (first | exact Drawn0.refl _ | apply Drawn0.step)⟩
        · rw [if_neg c4] at H
          exact absurd H (by simp)
      · rw [if_neg c3] at H
        have c3b0 : decide (x5_1 < (l0.length : Int)) = false := decide_eq_false c3
        clear c3
        obtain rfl := Option.some.inj H
        go_wp2
        go_ret
        exact ⟨by first | rfl | (simp; done) | (simp [*]; done), by repeat (first | exact Drawn0.refl _ | apply Drawn0.step)⟩

/-! ### merkhetref01_Text: function 103 -/
mutual
def merkhetref01_Text.l0 : Nat → ByteArray → ByteArray → Int → Option (Int)
  | 0, _, _, _ => none
  | k + 1, x0, x1, x5 => if x5 < (x0.size : Int) then (merkhetref01_Text.j1 k x0 x1 x5 (decide (x5 < (x1.size : Int)))) else (merkhetref01_Text.j1 k x0 x1 x5 false)
def merkhetref01_Text.j1 : Nat → ByteArray → ByteArray → Int → Bool → Option (Int)
  | 0, _, _, _, _ => none
  | k + 1, x0, x1, x5, x15 => if x15 = true then (if 0 ≤ x5 then (if x5 < (x0.size : Int) then (if x5 < (x1.size : Int) then (if (bt x0 x5) < (bt x1 x5) then (some (-1)) else (if (bt x0 x5) > (bt x1 x5) then (some 1) else (merkhetref01_Text.l0 k x0 x1 (wrap64 (x5 + 1))))) else (none)) else (none)) else (none)) else (if (x0.size : Int) < (x1.size : Int) then (some (-1)) else (if (x0.size : Int) > (x1.size : Int) then (some 1) else (some 0)))
end
def merkhetref01_Text.f (k : Nat) (a0 : ByteArray) (a1 : ByteArray) : Option (Int) := merkhetref01_Text.l0 k a0 a1 0
theorem merkhetref01_Text.mono_l : ∀ k, (∀ y0 y1 y2, LeO (merkhetref01_Text.l0 k y0 y1 y2) (merkhetref01_Text.l0 (k + 1) y0 y1 y2)) ∧ (∀ y0 y1 y2 y3, LeO (merkhetref01_Text.j1 k y0 y1 y2 y3) (merkhetref01_Text.j1 (k + 1) y0 y1 y2 y3))
  | 0 => ⟨fun _ _ _ r h => by simp [merkhetref01_Text.l0] at h, fun _ _ _ _ r h => by simp [merkhetref01_Text.j1] at h⟩
  | k + 1 => by
    obtain ⟨ih0, ih1⟩ := merkhetref01_Text.mono_l k
    refine ⟨?_, ?_⟩
    · intro y0 y1 y2
      unfold merkhetref01_Text.l0
      repeat' first
      | (with_reducible exact ih0 _ _ _)
      | (with_reducible exact ih1 _ _ _ _)
      | (with_reducible exact LeO.refl _)
      | (with_reducible exact LeO.none _)
      | (with_reducible refine LeO.ite ?_ ?_)
      | (with_reducible refine LeO.bind ?_ (fun _ => ?_))
      | exact ih0 _ _ _
      | exact ih1 _ _ _ _
      | exact LeO.none _
      | refine LeO.ite ?_ ?_
      | refine LeO.bind ?_ (fun _ => ?_)
    · intro y0 y1 y2 y3
      unfold merkhetref01_Text.j1
      repeat' first
      | (with_reducible exact ih0 _ _ _)
      | (with_reducible exact ih1 _ _ _ _)
      | (with_reducible exact LeO.refl _)
      | (with_reducible exact LeO.none _)
      | (with_reducible refine LeO.ite ?_ ?_)
      | (with_reducible refine LeO.bind ?_ (fun _ => ?_))
      | exact ih0 _ _ _
      | exact ih1 _ _ _ _
      | exact LeO.none _
      | refine LeO.ite ?_ ?_
      | refine LeO.bind ?_ (fun _ => ?_)
theorem merkhetref01_Text.mono : ∀ a0 a1 k, LeO (merkhetref01_Text.f k a0 a1) (merkhetref01_Text.f (k + 1) a0 a1) := by
  intro a0 a1 k
  obtain ⟨ih0, ih1⟩ := merkhetref01_Text.mono_l k
  unfold merkhetref01_Text.f
  repeat' first
      | (with_reducible exact ih0 _ _ _)
      | (with_reducible exact ih1 _ _ _ _)
      | (with_reducible exact LeO.refl _)
      | (with_reducible exact LeO.none _)
      | (with_reducible refine LeO.ite ?_ ?_)
      | (with_reducible refine LeO.bind ?_ (fun _ => ?_))
      | exact ih0 _ _ _
      | exact ih1 _ _ _ _
      | exact LeO.none _
      | refine LeO.ite ?_ ?_
      | refine LeO.bind ?_ (fun _ => ?_)
set_option maxHeartbeats 8000000 in
set_option maxRecDepth 100000 in
theorem merkhetref01_Text.calls (k : Nat) (a0 : ByteArray) (a1 : ByteArray) (r : Int) (w : World) (h : merkhetref01_Text.f k a0 a1 = some r) :
    Calls Try.prog 103 #[.string a0, .string a1] w fun e w' => e = .returned (.int .i64 r) ∧ Drawn0 w w' := by
  have H : (merkhetref01_Text.l0 k a0 a1 0) = some r := h
  clear h
  have H' := Aside0.mk H
  clear H
  go_enter Try.func103, Try.ntmps103
  go_wp2
  repeat (go_quiet (fail); try go_wp2)
  go_loopg [5] k (fun kq v5 w' => ∃ (x5_1 : Int), v5 = .int .i64 x5_1 ∧ Aside0 (merkhetref01_Text.l0 kq a0 a1 x5_1 = some r) ∧ Aside0 (kq ≤ k) ∧ Drawn0 w w')
  case atStart => exact ⟨(0), (by first | rfl | (simp; done) | (simp [*]; done)), H', ⟨Nat.le_refl _⟩, by repeat (first | exact Drawn0.refl _ | apply Drawn0.step)⟩
  case round =>
    clear H'
    (try clear c1); (try clear p2)
    obtain ⟨x5_1, rfl, HA, HK1, ⟨m1, rfl⟩⟩ := hrel
    cases gk with
    | zero => exact absurd HA.out (by simp [merkhetref01_Text.l0])
    | succ k1 =>
      have H := HA.out
      clear HA
      simp only [merkhetref01_Text.l0] at H
      have HC3 := Aside0.mk H
      clear H
      go_upto_region 2 with (fail)
      repeat (go_quiet (fail); go_upto_region 2 with (fail))
      go_cut [15] (fun v15 wc => ∃ (kq : Nat) (x15_2 : Bool), v15 = .bool x15_2 ∧ Aside0 (merkhetref01_Text.j1 kq a0 a1 x5_1 x15_2 = some r) ∧ Aside0 (kq ≤ k1) ∧ Drawn0 w wc)
      case first =>
        have H := HC3.out
        clear HC3
        by_cases c4 : x5_1 < (a0.size : Int)
        · rw [if_pos c4] at H
          have c4b0 : decide (x5_1 < (a0.size : Int)) = true := decide_eq_true c4
          clear c4
          (first | rw [c4b0] | (simp only [i64_w, i32_w]; rw [c4b0]) | skip)
          have H' := Aside0.mk H
          clear H
          go_wp2
          repeat (go_quiet (fail); try go_wp2)
          go_meet
          case rel => exact ⟨_, (decide (x5_1 < (a1.size : Int))), (by first | rfl | (simp; done) | (simp [*]; done)), H', ⟨by have := HK1.out; first | omega | exact Nat.le_refl _⟩, by repeat (first | exact Drawn0.refl _ | apply Drawn0.step)⟩
        · rw [if_neg c4] at H
          have c4b0 : decide (x5_1 < (a0.size : Int)) = false := decide_eq_false c4
          clear c4
          (first | rw [c4b0] | (simp only [i64_w, i32_w]; rw [c4b0]) | skip)
          have H' := Aside0.mk H
          clear H
          go_wp2
          repeat (go_quiet (fail); try go_wp2)
          go_meet
          case rel => exact ⟨_, (false), (by first | rfl | (simp; done) | (simp [*]; done)), H', ⟨by have := HK1.out; first | omega | exact Nat.le_refl _⟩, by repeat (first | exact Drawn0.refl _ | apply Drawn0.step)⟩
      case rest =>
        clear HC3
        (try clear c1); (try clear p2); (try clear c4); (try clear c4b0); (try clear p2)
        obtain ⟨kq, x15_2, rfl, HA, HJ2, ⟨mc2, rfl⟩⟩ := hcut
        cases kq with
        | zero => exact absurd HA.out (by simp [merkhetref01_Text.j1])
        | succ kj2 =>
          have H := HA.out
          clear HA
          simp only [merkhetref01_Text.j1] at H
          by_cases c5 : x15_2 = true
          · subst c5
            have H1 : (if 0 ≤ x5_1 then (if x5_1 < (a0.size : Int) then (if x5_1 < (a1.size : Int) then (if (bt a0 x5_1) < (bt a1 x5_1) then (some (-1)) else (if (bt a0 x5_1) > (bt a1 x5_1) then (some 1) else (merkhetref01_Text.l0 kj2 a0 a1 (wrap64 (x5_1 + 1))))) else (none)) else (none)) else (none)) = some r := by rw [if_pos rfl] at H; exact H
            clear H
            have H := H1
            clear H1
            by_cases c6 : 0 ≤ x5_1
            · rw [if_pos c6] at H
              have c6b0 : decide (0 ≤ x5_1) = true := decide_eq_true c6
              clear c6
              by_cases c7 : x5_1 < (a0.size : Int)
              · rw [if_pos c7] at H
                have c7b0 : decide (x5_1 < (a0.size : Int)) = true := decide_eq_true c7
                clear c7
                by_cases c9 : x5_1 < (a1.size : Int)
                · rw [if_pos c9] at H
                  have c9b0 : decide (x5_1 < (a1.size : Int)) = true := decide_eq_true c9
                  clear c9
                  by_cases c11 : (bt a0 x5_1) < (bt a1 x5_1)
                  · rw [if_pos c11] at H
                    have c11b0 : decide ((bt a0 x5_1) < (bt a1 x5_1)) = true := decide_eq_true c11
                    clear c11
                    obtain rfl := Option.some.inj H
                    have p8 : 0 ≤ (x5_1 : Int) := of_decide_eq_true (by first | (with_reducible assumption) | assumption)
                    have q8 : x5_1 < (a0.size : Int) := of_decide_eq_true (by first | (with_reducible assumption) | assumption)
                    have hx8 := bt_at a0 x5_1
                    replace p8 := eq_true p8
                    replace q8 := eq_true q8
                    have p10 : 0 ≤ (x5_1 : Int) := of_decide_eq_true (by first | (with_reducible assumption) | assumption)
                    have q10 : x5_1 < (a1.size : Int) := of_decide_eq_true (by first | (with_reducible assumption) | assumption)
                    have hx10 := bt_at a1 x5_1
                    replace p10 := eq_true p10
                    replace q10 := eq_true q10
                    go_wp2
                    repeat (go_quiet (fail); try go_wp2)
                    go_ret
                    exact ⟨by first | rfl | (simp; done) | (simp [*]; done), by repeat (first | exact Drawn0.refl _ | apply Drawn0.step)⟩
                  · rw [if_neg c11] at H
                    have c11b0 : decide ((bt a0 x5_1) < (bt a1 x5_1)) = false := decide_eq_false c11
                    clear c11
                    by_cases c14 : (bt a0 x5_1) > (bt a1 x5_1)
                    · rw [if_pos c14] at H
                      have c14b0 : decide ((bt a1 x5_1) < (bt a0 x5_1)) = true := decide_eq_true c14
                      clear c14
                      obtain rfl := Option.some.inj H
                      have p8 : 0 ≤ (x5_1 : Int) := of_decide_eq_true (by first | (with_reducible assumption) | assumption)
                      have q8 : x5_1 < (a0.size : Int) := of_decide_eq_true (by first | (with_reducible assumption) | assumption)
                      have hx8 := bt_at a0 x5_1
                      replace p8 := eq_true p8
                      replace q8 := eq_true q8
                      have p10 : 0 ≤ (x5_1 : Int) := of_decide_eq_true (by first | (with_reducible assumption) | assumption)
                      have q10 : x5_1 < (a1.size : Int) := of_decide_eq_true (by first | (with_reducible assumption) | assumption)
                      have hx10 := bt_at a1 x5_1
                      replace p10 := eq_true p10
                      replace q10 := eq_true q10
                      have p12 : 0 ≤ (x5_1 : Int) := of_decide_eq_true (by first | (with_reducible assumption) | assumption)
                      have q12 : x5_1 < (a0.size : Int) := of_decide_eq_true (by first | (with_reducible assumption) | assumption)
                      have hx12 := bt_at a0 x5_1
                      replace p12 := eq_true p12
                      replace q12 := eq_true q12
                      have p13 : 0 ≤ (x5_1 : Int) := of_decide_eq_true (by first | (with_reducible assumption) | assumption)
                      have q13 : x5_1 < (a1.size : Int) := of_decide_eq_true (by first | (with_reducible assumption) | assumption)
                      have hx13 := bt_at a1 x5_1
                      replace p13 := eq_true p13
                      replace q13 := eq_true q13
                      go_wp2
                      repeat (go_quiet (fail); try go_wp2)
                      go_ret
                      exact ⟨by first | rfl | (simp; done) | (simp [*]; done), by repeat (first | exact Drawn0.refl _ | apply Drawn0.step)⟩
                    · rw [if_neg c14] at H
                      have c14b0 : decide ((bt a1 x5_1) < (bt a0 x5_1)) = false := decide_eq_false c14
                      clear c14
                      have H' := Aside0.mk H
                      clear H
                      have p8 : 0 ≤ (x5_1 : Int) := of_decide_eq_true (by first | (with_reducible assumption) | assumption)
                      have q8 : x5_1 < (a0.size : Int) := of_decide_eq_true (by first | (with_reducible assumption) | assumption)
                      have hx8 := bt_at a0 x5_1
                      replace p8 := eq_true p8
                      replace q8 := eq_true q8
                      have p10 : 0 ≤ (x5_1 : Int) := of_decide_eq_true (by first | (with_reducible assumption) | assumption)
                      have q10 : x5_1 < (a1.size : Int) := of_decide_eq_true (by first | (with_reducible assumption) | assumption)
                      have hx10 := bt_at a1 x5_1
                      replace p10 := eq_true p10
                      replace q10 := eq_true q10
                      have p12 : 0 ≤ (x5_1 : Int) := of_decide_eq_true (by first | (with_reducible assumption) | assumption)
                      have q12 : x5_1 < (a0.size : Int) := of_decide_eq_true (by first | (with_reducible assumption) | assumption)
                      have hx12 := bt_at a0 x5_1
                      replace p12 := eq_true p12
                      replace q12 := eq_true q12
                      have p13 : 0 ≤ (x5_1 : Int) := of_decide_eq_true (by first | (with_reducible assumption) | assumption)
                      have q13 : x5_1 < (a1.size : Int) := of_decide_eq_true (by first | (with_reducible assumption) | assumption)
                      have hx13 := bt_at a1 x5_1
                      replace p13 := eq_true p13
                      replace q13 := eq_true q13
                      go_wp2
                      repeat (go_quiet (fail); try go_wp2)
                      go_roundg kj2
                      case measure => have := HK1.out; have := HJ2.out; omega
                      case rel => exact ⟨(wrap64 (x5_1 + 1)), (by first | rfl | (simp; done) | (simp [*]; done)), H', ⟨by have := HK1.out; have := HJ2.out; omega⟩, by repeat (first | exact Drawn0.refl _ | apply Drawn0.step)⟩
                · rw [if_neg c9] at H
                  exact absurd H (by simp)
              · rw [if_neg c7] at H
                exact absurd H (by simp)
            · rw [if_neg c6] at H
              exact absurd H (by simp)
          · replace c5 := Bool.eq_false_iff.mpr c5
            subst c5
            have H1 : (if (a0.size : Int) < (a1.size : Int) then (some (-1)) else (if (a0.size : Int) > (a1.size : Int) then (some 1) else (some 0))) = some r := by rw [if_neg (show ¬ (false = true) by decide)] at H; exact H
            clear H
            have H := H1
            clear H1
            by_cases c15 : (a0.size : Int) < (a1.size : Int)
            · rw [if_pos c15] at H
              have c15b0 : decide ((a0.size : Int) < (a1.size : Int)) = true := decide_eq_true c15
              have c15b1 : decide (a0.size < a1.size) = true := decide_eq_true (Int.ofNat_lt.mp c15)
              clear c15
              obtain rfl := Option.some.inj H
              go_wp2
              repeat (go_quiet (fail); try go_wp2)
              go_ret
              exact ⟨by first | rfl | (simp; done) | (simp [*]; done), by repeat (first | exact Drawn0.refl _ | apply Drawn0.step)⟩
            · rw [if_neg c15] at H
              have c15b0 : decide ((a0.size : Int) < (a1.size : Int)) = false := decide_eq_false c15
              have c15b1 : decide (a0.size < a1.size) = false := decide_eq_false (fun h => c15 (Int.ofNat_lt.mpr h))
              clear c15
              by_cases c16 : (a0.size : Int) > (a1.size : Int)
              · rw [if_pos c16] at H
                have c16b0 : decide ((a1.size : Int) < (a0.size : Int)) = true := decide_eq_true c16
                have c16b1 : decide (a1.size < a0.size) = true := decide_eq_true (Int.ofNat_lt.mp c16)
                clear c16
                obtain rfl := Option.some.inj H
                go_wp2
                repeat (go_quiet (fail); try go_wp2)
                go_ret
                exact ⟨by first | rfl | (simp; done) | (simp [*]; done), by repeat (first | exact Drawn0.refl _ | apply Drawn0.step)⟩
              · rw [if_neg c16] at H
                have c16b0 : decide ((a1.size : Int) < (a0.size : Int)) = false := decide_eq_false c16
                have c16b1 : decide (a1.size < a0.size) = false := decide_eq_false (fun h => c16 (Int.ofNat_lt.mpr h))
                clear c16
                obtain rfl := Option.some.inj H
                go_wp2
                repeat (go_quiet (fail); try go_wp2)
                go_ret
                exact ⟨by first | rfl | (simp; done) | (simp [*]; done), by repeat (first | exact Drawn0.refl _ | apply Drawn0.step)⟩

end Go.Proofs.Ytmfdhcgdibefiaa.Q

/- What layer 1 comes to, as plain Lean: names, which spans may be. -/
namespace Go.Proofs.Ytmfdhcgdibefiaa.L
open Go.RowKit Go.Proofs.Ytmfdhcgdibefiaa.Q Go.Proofs.YtmfdhcgdibefiaaW.PrintWords Go.Proofs.YtmfdhcgdibefiaaW.PrintLast Go.Proofs.YtmfdhcgdibefiaaW.PrintMore Go.Proofs.YtmfdhcgdibefiaaW.Lib
set_option linter.unusedVariables false

def letterB (c : Int) : Bool := (decide (97 ≤ c) && decide (c ≤ 122)) || (decide (48 ≤ c) && decide (c ≤ 57)) || decide (c = 45) || decide (c = 46) || decide (c = 95)
theorem letter_f (c : Int) : span_letter.f c = some (letterB c) := by
  unfold span_letter.f letterB
  repeat' split
  all_goals (rw [Option.some.injEq, Bool.eq_iff_iff]; simp; omega)
def nameB (s : ByteArray) : Bool := decide (1 ≤ s.size) && decide (s.size ≤ 16) && (bytesOf s).all letterB

theorem name_l0 (s : ByteArray) (hs : s.size ≤ 140737488351232) : ∀ (d i : Nat), s.size - i = d → i ≤ s.size → Ev (fun k => span_Name.l0 k s (s.size : Int) (i : Int)) (((bytesOf s).drop i).all letterB)
  | 0, i, hd, hi => by
    refine Ev.step (f := fun _ => some true) (fun k => ?_) (Ev.cast (Ev.now true) ?_)
    · simp only [span_Name.l0]; rw [if_neg (by omega)]
    · rw [List.drop_of_length_le (by rw [bytesOf_size]; omega)]; rfl
  | d + 1, i, hd, hi => by
    have ih := name_l0 s hs d (i + 1) (by omega) (by omega)
    rw [bytesOf_drop s i (by omega), List.all_cons]
    refine Ev.step (f := fun k => if letterB (bt s i) = true then span_Name.l0 k s (s.size : Int) ((i + 1 : Nat) : Int) else some false) (fun k => ?_) ?_
    · simp only [span_Name.l0]
      rw [if_pos (by omega), if_pos (by omega), if_pos (by omega), letter_f]
      simp only [Option.bind_some]
      rw [wrap_id (by omega) (by omega)]; rfl
    · refine Ev.ite (fun h => ?_) (fun h => ?_)
      · rw [h, Bool.true_and]; exact ih
      · rw [Bool.not_eq_true] at h; rw [h, Bool.false_and]; exact Ev.now _

theorem name_ev (s : ByteArray) (hs : s.size ≤ 140737488351232) : Ev (fun k => span_Name.f k s) (nameB s) := by
  unfold span_Name.f nameB
  refine Ev.ite (fun h => ?_) (fun h => ?_)
  · refine Ev.step (f := fun _ => some false) (fun k => by simp [span_Name.j0]) (Ev.cast (Ev.now _) ?_)
    rw [decide_eq_false (by omega : ¬ 1 ≤ s.size)]; rfl
  · refine Ev.step (f := fun k => if decide ((s.size : Int) > 16) = true then some false else span_Name.l0 k s (s.size : Int) 0) (fun k => by simp only [span_Name.j0]) ?_
    refine Ev.ite (fun h2 => ?_) (fun h2 => ?_)
    · have h3 := of_decide_eq_true h2
      refine Ev.cast (Ev.now _) ?_
      rw [decide_eq_false (by omega : ¬ s.size ≤ 16)]; simp
    · have h3 : ¬ ((s.size : Int) > 16) := fun h4 => h2 (decide_eq_true h4)
      have := name_l0 s hs s.size 0 (by omega) (by omega)
      rw [decide_eq_true (by omega : 1 ≤ s.size), decide_eq_true (by omega : s.size ≤ 16)]
      simpa using this

def SIGNS : ByteArray := (⟨#[97, 98, 99, 100, 101, 102, 103, 104, 105, 106, 107, 108, 109, 110, 111, 112, 113, 114, 115, 116, 117, 118, 119, 120, 121, 122, 48, 49, 50, 51, 52, 53, 54, 55, 56, 57, 45, 46, 95]⟩ : ByteArray)
theorem signs_size : SIGNS.size = 39 := by rfl
theorem signs_letter (c : Int) (h0 : 0 ≤ c) (h1 : c ≤ 255) : (bytesOf SIGNS).any (fun x => decide (x = c)) = letterB c := by
  have key : ∀ n : Fin 256, (bytesOf SIGNS).any (fun x => decide (x = (n.val : Int))) = letterB (n.val : Int) := by decide +kernel
  have := key ⟨c.toNat, by omega⟩
  rw [show ((c.toNat : Nat) : Int) = c by omega] at this
  exact this

theorem rname_l1 (s : ByteArray) (hs : s.size ≤ 140737488351232) (i : Nat) (hi : i < s.size) (r : Bool) (hn : Ev (fun k => merkhetref01_Name.l0 k s SIGNS (wrap64 ((i : Int) + 1))) r) :
    ∀ (d j : Nat) (b : Bool), 39 - j = d → j ≤ 39 → Ev (fun k => merkhetref01_Name.l1 k s SIGNS (i : Int) b (j : Int)) ((b || ((bytesOf SIGNS).drop j).any (fun x => decide (x = bt s i))) && r)
  | 0, j, b, hd, hj => by
    have hj' : j = 39 := by omega
    subst hj'
    refine Ev.step (f := fun k => if b = true then merkhetref01_Name.l0 k s SIGNS (wrap64 ((i : Int) + 1)) else some false) (fun k => ?_) ?_
    · simp only [merkhetref01_Name.l1]; rw [if_neg (by rw [signs_size]; omega)]
    · have e : ((bytesOf SIGNS).drop 39).any (fun x => decide (x = bt s i)) = false := by rw [List.drop_of_length_le (by rw [bytesOf_size, signs_size]; omega)]; rfl
      rw [e, Bool.or_false]
      refine Ev.ite (fun h => ?_) (fun h => ?_)
      · rw [h, Bool.true_and]; exact hn
      · rw [Bool.not_eq_true] at h; rw [h, Bool.false_and]; exact Ev.now _
  | d + 1, j, b, hd, hj => by
    rw [bytesOf_drop SIGNS j (by rw [signs_size]; omega), List.any_cons]
    refine Ev.step (f := fun k => if bt SIGNS j = bt s i then merkhetref01_Name.l1 k s SIGNS (i : Int) true ((j + 1 : Nat) : Int) else merkhetref01_Name.l1 k s SIGNS (i : Int) b ((j + 1 : Nat) : Int)) (fun k => ?_) ?_
    · simp only [merkhetref01_Name.l1]
      rw [if_pos (by rw [signs_size]; omega), if_pos (by omega), if_pos (by omega), if_pos (by omega), wrap_id (by omega) (by omega)]; rfl
    · refine Ev.ite (fun h => ?_) (fun h => ?_)
      · refine Ev.cast (rname_l1 s hs i hi r hn d (j + 1) true (by omega) (by omega)) ?_
        rw [decide_eq_true h]; simp
      · refine Ev.cast (rname_l1 s hs i hi r hn d (j + 1) b (by omega) (by omega)) ?_
        rw [decide_eq_false h, Bool.false_or]

theorem rname_l0 (s : ByteArray) (hs : s.size ≤ 140737488351232) : ∀ (d i : Nat), s.size - i = d → i ≤ s.size → Ev (fun k => merkhetref01_Name.l0 k s SIGNS (i : Int)) (((bytesOf s).drop i).all letterB)
  | 0, i, hd, hi => by
    refine Ev.step (f := fun _ => some true) (fun k => ?_) (Ev.cast (Ev.now true) ?_)
    · simp only [merkhetref01_Name.l0]; rw [if_neg (by omega)]
    · rw [List.drop_of_length_le (by rw [bytesOf_size]; omega)]; rfl
  | d + 1, i, hd, hi => by
    have ih := rname_l0 s hs d (i + 1) (by omega) (by omega)
    rw [bytesOf_drop s i (by omega), List.all_cons]
    have hr := bt_range s i
    refine Ev.step (f := fun k => merkhetref01_Name.l1 k s SIGNS (i : Int) false 0) (fun k => ?_) ?_
    · simp only [merkhetref01_Name.l0]; rw [if_pos (by omega)]
    · refine Ev.cast (rname_l1 s hs i (by omega) _ (by rw [wrap_id (by omega) (by omega)]; exact ih) 39 0 false (by omega) (by omega)) ?_
      rw [List.drop_zero, signs_letter _ hr.1 hr.2, Bool.false_or]

theorem rname_ev (s : ByteArray) (hs : s.size ≤ 140737488351232) : Ev (fun k => merkhetref01_Name.f k s) (nameB s) := by
  unfold merkhetref01_Name.f nameB
  refine Ev.ite (fun h => ?_) (fun h => ?_)
  · refine Ev.step (f := fun _ => some false) (fun k => by simp [merkhetref01_Name.j0]) (Ev.cast (Ev.now _) ?_)
    have : s.size = 0 := by rw [toList_data] at h; simpa using congrArg List.length h
    rw [decide_eq_false (by omega : ¬ 1 ≤ s.size)]; rfl
  · have h0 : 1 ≤ s.size := by
      rcases Nat.eq_zero_or_pos s.size with h1 | h1
      · exact absurd (by rw [toList_data]; exact List.length_eq_zero_iff.1 (by simpa using h1)) h
      · exact h1
    refine Ev.step (f := fun k => if decide ((s.size : Int) > 16) = true then some false else merkhetref01_Name.l0 k s SIGNS 0) (fun k => by simp only [merkhetref01_Name.j0, SIGNS]) ?_
    refine Ev.ite (fun h2 => ?_) (fun h2 => ?_)
    · have h3 := of_decide_eq_true h2
      refine Ev.cast (Ev.now _) ?_
      rw [decide_eq_false (by omega : ¬ s.size ≤ 16)]; simp
    · have h3 : ¬ ((s.size : Int) > 16) := fun h4 => h2 (decide_eq_true h4)
      have := rname_l0 s hs s.size 0 (by omega) (by omega)
      rw [decide_eq_true h0, decide_eq_true (by omega : s.size ≤ 16)]
      simpa using this
end Go.Proofs.Ytmfdhcgdibefiaa.L
namespace Go.Proofs.Ytmfdhcgdibefiaa.L
open Go.RowKit Go.Proofs.Ytmfdhcgdibefiaa.Q Go.Proofs.YtmfdhcgdibefiaaW.PrintWords Go.Proofs.YtmfdhcgdibefiaaW.PrintLast Go.Proofs.YtmfdhcgdibefiaaW.PrintMore Go.Proofs.YtmfdhcgdibefiaaW.Lib
set_option linter.unusedVariables false

def mayB (t i p k : Int) (h n : ByteArray) (s d : Int) : Bool :=
  !(decide (t = 0) || decide (i = 0) || decide (p = i) || decide (k > 2)) && (!(decide (s < 0) || decide (s ≥ 1125899906842624) || decide (d < 0) || decide (d > 1125899906842624)) && (nameB h && nameB n))

theorem may_j1 (b : Bool) (t i p k : Int) (h n : ByteArray) (s d : Int) (hh : h.size ≤ 140737488351232) (hn : n.size ≤ 140737488351232) :
    Ev (fun m => span_May.j1 m b t i p k h n s d) (!b && (nameB h && nameB n)) := by
  refine Ev.step (f := fun m => if b = true then some false else (span_Name.f m h).bind fun x => if x = true then (span_Name.f m n).bind fun y => some y else some false) (fun m => by simp only [span_May.j1]) ?_
  refine Ev.ite (fun e => ?_) (fun e => ?_)
  · exact Ev.cast (Ev.now _) (by rw [e]; rfl)
  · refine Ev.bind (name_ev h hh) (Ev.ite (fun e1 => ?_) (fun e1 => ?_))
    · refine Ev.cast (Ev.bind (name_ev n hn) (Ev.now _)) ?_
      rw [Bool.not_eq_true] at e; rw [e, e1]; rfl
    · exact Ev.cast (Ev.now _) (by rw [Bool.not_eq_true] at e1; rw [e1]; simp)

theorem may_j0 (b : Bool) (t i p k : Int) (h n : ByteArray) (s d : Int) (hh : h.size ≤ 140737488351232) (hn : n.size ≤ 140737488351232) :
    Ev (fun m => span_May.j0 m b t i p k h n s d) (!b && (!(decide (s < 0) || decide (s ≥ 1125899906842624) || decide (d < 0) || decide (d > 1125899906842624)) && (nameB h && nameB n))) := by
  refine Ev.step (f := fun m => if b = true then some false else if s < 0 then span_May.j1 m (decide (s < 0)) t i p k h n s d else if s ≥ 1125899906842624 then span_May.j1 m (decide (s ≥ 1125899906842624)) t i p k h n s d else if d < 0 then span_May.j1 m (decide (d < 0)) t i p k h n s d else span_May.j1 m (decide (d > 1125899906842624)) t i p k h n s d) (fun m => by simp only [span_May.j0]) ?_
  refine Ev.ite (fun e => Ev.cast (Ev.now _) (by rw [e]; rfl)) (fun e => ?_)
  rw [Bool.not_eq_true] at e
  rw [e]
  refine Ev.ite (fun e1 => Ev.cast (may_j1 _ t i p k h n s d hh hn) (by simp [e1])) (fun e1 => ?_)
  refine Ev.ite (fun e2 => Ev.cast (may_j1 _ t i p k h n s d hh hn) (by simp [e2])) (fun e2 => ?_)
  refine Ev.ite (fun e3 => Ev.cast (may_j1 _ t i p k h n s d hh hn) (by simp [e3])) (fun e3 => ?_)
  exact Ev.cast (may_j1 _ t i p k h n s d hh hn) (by simp [e1, e2, e3])

theorem may_ev (t i p k : Int) (h n : ByteArray) (s d : Int) (hh : h.size ≤ 140737488351232) (hn : n.size ≤ 140737488351232) :
    Ev (fun m => span_May.f m t i p k h n s d) (mayB t i p k h n s d) := by
  unfold span_May.f mayB
  refine Ev.ite (fun e1 => Ev.cast (may_j0 _ t i p k h n s d hh hn) (by simp [e1])) (fun e1 => ?_)
  refine Ev.ite (fun e2 => Ev.cast (may_j0 _ t i p k h n s d hh hn) (by simp [e2])) (fun e2 => ?_)
  refine Ev.ite (fun e3 => Ev.cast (may_j0 _ t i p k h n s d hh hn) (by simp [e3])) (fun e3 => ?_)
  exact Ev.cast (may_j0 _ t i p k h n s d hh hn) (by simp [e1, e2, e3])

theorem rmay_j2 (b : Bool) (t i p k : Int) (h n : ByteArray) (s d : Int) (hh : h.size ≤ 140737488351232) (hn : n.size ≤ 140737488351232) :
    Ev (fun m => merkhetref01_May.j2 m b t i p k h n s d) (!b && (nameB h && nameB n)) := by
  refine Ev.step (f := fun m => if b = true then some false else (merkhetref01_Name.f m h).bind fun x => if x = true then (merkhetref01_Name.f m n).bind fun y => some y else some false) (fun m => by simp only [merkhetref01_May.j2]) ?_
  refine Ev.ite (fun e => ?_) (fun e => ?_)
  · exact Ev.cast (Ev.now _) (by rw [e]; rfl)
  · refine Ev.bind (rname_ev h hh) (Ev.ite (fun e1 => ?_) (fun e1 => ?_))
    · refine Ev.cast (Ev.bind (rname_ev n hn) (Ev.now _)) ?_
      rw [Bool.not_eq_true] at e; rw [e, e1]; rfl
    · exact Ev.cast (Ev.now _) (by rw [Bool.not_eq_true] at e1; rw [e1]; simp)

theorem rmay_j1 (b : Bool) (t i p k : Int) (h n : ByteArray) (s d : Int) (hh : h.size ≤ 140737488351232) (hn : n.size ≤ 140737488351232) :
    Ev (fun m => merkhetref01_May.j1 m b t i p k h n s d) (!b && (!(decide (s < 0) || decide (s ≥ 1125899906842624) || decide (d < 0) || decide (d > 1125899906842624)) && (nameB h && nameB n))) := by
  refine Ev.step (f := fun m => if b = true then some false else if s < 0 then merkhetref01_May.j2 m true t i p k h n s d else if s > 1125899906842623 then merkhetref01_May.j2 m true t i p k h n s d else if d < 0 then merkhetref01_May.j2 m true t i p k h n s d else merkhetref01_May.j2 m (decide (d > 1125899906842624)) t i p k h n s d) (fun m => by simp only [merkhetref01_May.j1]) ?_
  refine Ev.ite (fun e => Ev.cast (Ev.now _) (by rw [e]; rfl)) (fun e => ?_)
  rw [Bool.not_eq_true] at e
  rw [e]
  refine Ev.ite (fun e1 => Ev.cast (rmay_j2 _ t i p k h n s d hh hn) (by simp [e1])) (fun e1 => ?_)
  refine Ev.ite (fun e2 => Ev.cast (rmay_j2 _ t i p k h n s d hh hn) (by have : s ≥ 1125899906842624 := (by omega); simp [this])) (fun e2 => ?_)
  refine Ev.ite (fun e3 => Ev.cast (rmay_j2 _ t i p k h n s d hh hn) (by simp [e3])) (fun e3 => ?_)
  refine Ev.cast (rmay_j2 _ t i p k h n s d hh hn) ?_
  have : ¬ s ≥ 1125899906842624 := by omega
  simp [e1, this, e3]

theorem rmay_j0 (b : Bool) (t i p k : Int) (h n : ByteArray) (s d : Int) (hk : 0 ≤ k) (hh : h.size ≤ 140737488351232) (hn : n.size ≤ 140737488351232) :
    Ev (fun m => merkhetref01_May.j0 m b t i p k h n s d) (!(b || decide (k > 2)) && (!(decide (s < 0) || decide (s ≥ 1125899906842624) || decide (d < 0) || decide (d > 1125899906842624)) && (nameB h && nameB n))) := by
  refine Ev.step (f := fun m => if b = true then some false else if k = 0 then merkhetref01_May.j1 m false t i p k h n s d else if k = 1 then merkhetref01_May.j1 m false t i p k h n s d else merkhetref01_May.j1 m (k != 2) t i p k h n s d) (fun m => by simp only [merkhetref01_May.j0]) ?_
  refine Ev.ite (fun e => Ev.cast (Ev.now _) (by rw [e]; rfl)) (fun e => ?_)
  rw [Bool.not_eq_true] at e
  rw [e]
  refine Ev.ite (fun e1 => Ev.cast (rmay_j1 _ t i p k h n s d hh hn) (by rw [decide_eq_false (by omega : ¬ k > 2)]; rfl)) (fun e1 => ?_)
  refine Ev.ite (fun e2 => Ev.cast (rmay_j1 _ t i p k h n s d hh hn) (by rw [decide_eq_false (by omega : ¬ k > 2)]; rfl)) (fun e2 => ?_)
  refine Ev.cast (rmay_j1 _ t i p k h n s d hh hn) ?_
  have : (k != 2) = decide (k > 2) := by rw [Bool.eq_iff_iff]; simp; omega
  rw [this]; rfl

theorem rmay_ev (t i p k : Int) (h n : ByteArray) (s d : Int) (hk : 0 ≤ k) (hh : h.size ≤ 140737488351232) (hn : n.size ≤ 140737488351232) :
    Ev (fun m => merkhetref01_May.f m t i p k h n s d) (mayB t i p k h n s d) := by
  unfold merkhetref01_May.f mayB
  refine Ev.ite (fun e1 => Ev.cast (rmay_j0 _ t i p k h n s d hk hh hn) (by simp [e1])) (fun e1 => ?_)
  refine Ev.ite (fun e2 => Ev.cast (rmay_j0 _ t i p k h n s d hk hh hn) (by simp [e2])) (fun e2 => ?_)
  refine Ev.cast (rmay_j0 _ t i p k h n s d hk hh hn) ?_
  have : (p == i) = decide (p = i) := by rw [Bool.eq_iff_iff]; simp
  rw [this]; simp [e1, e2]

theorem mayB_le {t i p k : Int} {h n : ByteArray} {s d : Int} (hm : mayB t i p k h n s d = true) : 0 ≤ s ∧ s < 1125899906842624 ∧ 0 ≤ d ∧ d ≤ 1125899906842624 := by
  simp [mayB] at hm; omega
end Go.Proofs.Ytmfdhcgdibefiaa.L

/- Which spans may be, as one function of a span; the document's too. -/
namespace Go.Proofs.Ytmfdhcgdibefiaa.L
open Go.RowKit Go.Proofs.Ytmfdhcgdibefiaa.Q Go.Proofs.YtmfdhcgdibefiaaW.PrintWords Go.Proofs.YtmfdhcgdibefiaaW.PrintLast Go.Proofs.YtmfdhcgdibefiaaW.PrintMore Go.Proofs.YtmfdhcgdibefiaaW.Lib
set_option linter.unusedVariables false
def mayS (s : S37) : Bool := mayB s.f0 s.f1 s.f2 s.f3 s.f4 s.f5 s.f6 s.f7
def mayA (l : List S37) : Bool := l.all mayS
def fitR (x : S37) : Prop := fitS x ∧ 0 ≤ x.f3
instance : DecidablePred fitR := fun x => by unfold fitR; infer_instance
theorem rmayS_ev (s : S37) (h : fitR s) : Ev (fun k => merkhetref01_May.f k s.f0 s.f1 s.f2 s.f3 s.f4 s.f5 s.f6 s.f7) (mayS s) := rmay_ev _ _ _ _ _ _ _ _ h.2 h.1.2.1 h.1.2.2
end Go.Proofs.Ytmfdhcgdibefiaa.L

/- The hosts' tallies, plain: one span more; the map of hosts to tallies as it is read; tallies in the order of their hosts. -/
namespace Go.Proofs.Ytmfdhcgdibefiaa.L
open Go.RowKit Go.Proofs.Ytmfdhcgdibefiaa.Q Go.Proofs.YtmfdhcgdibefiaaW.PrintWords Go.Maps Go.WideMaps
set_option linter.unusedVariables false

/-- A tally: the host, its spans, their durations, the calls made, the calls served. -/
abbrev Tal := S44
def tal0 (h : ByteArray) : Tal := ⟨h, 0, 0, 0, 0⟩
def talStep (t : Tal) (s : S37) : Tal :=
  ⟨s.f4, t.f1 + 1, if t.f2 > 9223372036854775807 - s.f7 then 9223372036854775807 else t.f2 + s.f7, if s.f3 = 1 then t.f3 + 1 else t.f3, if s.f3 = 2 then t.f4 + 1 else t.f4⟩
/-- The tally of a host among some spans. -/
def talOf (g : List S37) (h : ByteArray) : Tal := (g.filter (fun s => decide (s.f4 = h))).foldl talStep (tal0 h)
theorem talOf_snoc (g : List S37) (s : S37) (h : ByteArray) : talOf (g ++ [s]) h = if s.f4 = h then talStep (talOf g h) s else talOf g h := by
  unfold talOf
  rw [List.filter_append]
  by_cases e : s.f4 = h
  · rw [if_pos e, List.filter_cons_of_pos (by simpa using e), List.filter_nil, List.foldl_append]; rfl
  · rw [if_neg e, List.filter_cons_of_neg (by simpa using e), List.filter_nil, List.append_nil]
/-- Within which bounds a tally stands. -/
structure TalIn (k : Int) (t : Tal) : Prop where
  n0 : 0 ≤ t.f1
  n1 : t.f1 ≤ k
  d0 : 0 ≤ t.f2
  d1 : t.f2 ≤ 9223372036854775807
  c0 : 0 ≤ t.f3
  s0 : 0 ≤ t.f4
  cs : t.f3 + t.f4 ≤ t.f1
theorem tal0_in (h : ByteArray) : TalIn 0 (tal0 h) := by constructor <;> simp [tal0]
theorem talStep_in {k : Int} {t : Tal} (ht : TalIn k t) (s : S37) (h : 0 ≤ s.f7) : TalIn (k + 1) (talStep t s) := by
  obtain ⟨h1, h2, h3, h4, h5, h6, h7⟩ := ht
  constructor <;> simp only [talStep] <;> (repeat' split) <;> omega
theorem foldTal_in : ∀ (g : List S37) (k : Int) (t : Tal), TalIn k t → (∀ s ∈ g, 0 ≤ s.f7) → TalIn (k + g.length) (g.foldl talStep t)
  | [], k, t, ht, _ => by simpa using ht
  | s :: g, k, t, ht, h => by
    have := foldTal_in g (k + 1) (talStep t s) (talStep_in ht s (h s (by simp))) (fun x hx => h x (by simp [hx]))
    rw [List.foldl_cons, List.length_cons]
    rw [show k + ((g.length + 1 : Nat) : Int) = k + 1 + g.length by omega]
    exact this
theorem TalIn.mono {k m : Int} {t : Tal} (h : TalIn k t) (hk : k ≤ m) : TalIn m t := { h with n1 := by have := h.n1; omega }
theorem talOf_in (g : List S37) (h : ByteArray) (hd : ∀ s ∈ g, 0 ≤ s.f7) : TalIn g.length (talOf g h) := by
  have := foldTal_in (g.filter (fun s => decide (s.f4 = h))) 0 (tal0 h) (tal0_in h) (fun s hs => hd s (List.mem_filter.1 hs).1)
  refine TalIn.mono this ?_
  have := List.length_filter_le (fun s => decide (s.f4 = h)) g
  omega
theorem foldTal_host {h : ByteArray} : ∀ (g : List S37) (t : Tal), t.f0 = h → (∀ s ∈ g, s.f4 = h) → (g.foldl talStep t).f0 = h
  | [], t, ht, _ => ht
  | s :: g, t, ht, hg => foldTal_host g (talStep t s) (hg s (by simp)) (fun x hx => hg x (by simp [hx]))
theorem talOf_host (g : List S37) (h : ByteArray) : (talOf g h).f0 = h :=
  foldTal_host _ _ rfl (fun s hs => by simpa using (List.mem_filter.1 hs).2)
/-- As the code says it: with the least of two numbers. -/
theorem talStep_min {t : Tal} {s : S37} (h0 : 0 ≤ t.f2) (h1 : t.f2 ≤ 9223372036854775807) (h2 : 0 ≤ s.f7) : (talStep t s).f2 = t.f2 + min s.f7 (9223372036854775807 - t.f2) := by
  simp only [talStep]
  split <;> omega

/-! The map. -/
abbrev hs4 (g : List S37) : List ByteArray := g.map fun s => s.f4
theorem snoc_ind {α : Type} {P : List α → Prop} (h0 : P []) (h1 : ∀ g s, P g → P (g ++ [s])) (l : List α) : P l := by
  have : ∀ r : List α, P r.reverse := by
    intro r
    induction r with
    | nil => exact h0
    | cons a r ih => rw [List.reverse_cons]; exact h1 _ _ ih
  have h := this l.reverse
  rwa [List.reverse_reverse] at h
instance memDec (h : ByteArray) (l : List ByteArray) : Decidable (h ∈ l) := @List.instDecidableMemOfLawfulBEq ByteArray instBEqOfDecidableEq inferInstance h l
theorem nodup_lenT {α : Type} [DecidableEq α] {a : List α} : ∀ {b : List α}, a.Nodup → (∀ x ∈ a, x ∈ b) → a.length ≤ b.length := by
  induction a with
  | nil => intro b _ _; simp
  | cons x a ih =>
    intro b nd h
    have nd' := List.nodup_cons.1 nd
    have hx := h x (by simp)
    have h1 := ih (b := b.erase x) nd'.2 (fun y hy => (List.mem_erase_of_ne (fun e => nd'.1 (by rw [← e]; exact hy))).2 (h y (by simp [hy])))
    rw [List.length_erase_of_mem hx] at h1
    have := List.length_pos_of_mem hx
    rw [List.length_cons]
    omega
def dT (t : Tal) : DataW Unit := .agg [.lit (.string t.f0.data.toList), .lit (.int .i64 t.f1), .lit (.int .i64 t.f2), .lit (.int .i64 t.f3), .lit (.int .i64 t.f4)]
theorem dT_inj {s t : Tal} (h : dT s = dT t) : s = t := by
  cases s; cases t
  simp only [dT, DataW.agg.injEq, List.cons.injEq, DataW.lit.injEq, Lit.int.injEq, Lit.string.injEq, true_and, and_true] at h
  obtain ⟨h0, h1, h2, h3, h4⟩ := h
  rw [key_inj (congrArg Lit.string h0), h1, h2, h3, h4]
def vT (t : Tal) : Value := .agg #[.string t.f0, .int .i64 t.f1, .int .i64 t.f2, .int .i64 t.f3, .int .i64 t.f4]
theorem vT_inj {s t : Tal} (h : vT s = vT t) : s = t := by
  cases s; cases t
  simp only [vT, Value.agg.injEq, Array.mk.injEq, List.cons.injEq, Value.int.injEq, Value.string.injEq, true_and, and_true] at h
  obtain ⟨h0, h1, h2, h3, h4⟩ := h
  rw [h0, h1, h2, h3, h4]
open Classical in
/-- How a tally in a map reads. -/
noncomputable def elemT (v : Value) : Option (DataW Unit × List MemPlace) := if h : ∃ s : Tal, v = vT s then some (dT h.choose, []) else none
theorem elemT_mk (s : Tal) : elemT (vT s) = some (dT s, []) := by
  have h : ∃ t : Tal, vT s = vT t := ⟨s, rfl⟩
  unfold elemT
  rw [dif_pos h, ← vT_inj h.choose_spec]
theorem elemT_some {v : Value} {y : DataW Unit × List MemPlace} (h : elemT v = some y) : ∃ s : Tal, v = vT s ∧ y = (dT s, []) := by
  unfold elemT at h
  split at h
  · rename_i hv
    exact ⟨hv.choose, hv.choose_spec, (Option.some.inj h).symm⟩
  · cases h
theorem elemT_inv {v : Value} {s : Tal} {ps : List MemPlace} (h : elemT v = some (dT s, ps)) : v = vT s := by
  obtain ⟨t, rfl, e⟩ := elemT_some h
  rw [dT_inj (Prod.mk.inj e).1]
/-- The map behind some spans. -/
def mapT (g : List S37) : DataW Unit := (g.foldl (fun (p : DataW Unit × List S37) s => (p.1.put (key s.f4) (dT (talOf (p.2 ++ [s]) s.f4)), p.2 ++ [s])) (.map [], [])).1
theorem mapT_two (g a : List S37) (D : DataW Unit) : (g.foldl (fun (p : DataW Unit × List S37) s => (p.1.put (key s.f4) (dT (talOf (p.2 ++ [s]) s.f4)), p.2 ++ [s])) (D, a)).2 = a ++ g := by
  induction g generalizing a D with
  | nil => simp
  | cons s g ih => rw [List.foldl_cons, ih, List.append_assoc]; rfl
theorem mapT_nil : mapT [] = .map [] := rfl
theorem mapT_snoc (g : List S37) (s : S37) : mapT (g ++ [s]) = (mapT g).put (key s.f4) (dT (talOf (g ++ [s]) s.f4)) := by
  unfold mapT
  rw [List.foldl_append, List.foldl_cons, List.foldl_nil, mapT_two, List.nil_append]
theorem mapT_tidy (g : List S37) : Tidy (mapT g) := by
  refine snoc_ind (P := fun g => Tidy (mapT g)) tidy_empty (fun g s ih => ?_) g
  show Tidy (mapT (g ++ [s]))
  rw [mapT_snoc]
  exact Tidy.put ih (key_is _) _
/-- What the map answers at a host. -/
theorem mapT_at (g : List S37) (h : ByteArray) (z : DataW Unit) : (mapT g).atKey (key h) z = (if h ∈ hs4 g then dT (talOf g h) else z) ∧ (has (mapT g) (key h) = true ↔ h ∈ hs4 g) := by
  refine snoc_ind (P := fun g => (mapT g).atKey (key h) z = (if h ∈ hs4 g then dT (talOf g h) else z) ∧ (has (mapT g) (key h) = true ↔ h ∈ hs4 g)) ?_ ?_ g
  · simp [mapT_nil, has, DataW.atKey]
  · intro g s ih
    show (mapT (g ++ [s])).atKey (key h) z = (if h ∈ hs4 (g ++ [s]) then dT (talOf (g ++ [s]) h) else z) ∧ (has (mapT (g ++ [s])) (key h) = true ↔ h ∈ hs4 (g ++ [s]))
    rw [mapT_snoc, talOf_snoc g s h]
    by_cases e : s.f4 = h
    · subst e
      rw [atKey_put_same (mapT_tidy g).isMap (key_is _), has_put_same (mapT_tidy g).isMap (key_is _), if_pos rfl, talOf_snoc, if_pos rfl]
      simp
    · rw [if_neg e, atKey_put_other (fun h3 => e (key_inj h3).symm), has_put_other (fun h3 => e (key_inj h3).symm), ih.1, ih.2]
      have : h ∈ hs4 (g ++ [s]) ↔ h ∈ hs4 g := by
        simp only [List.map_append, List.mem_append, List.map_cons, List.map_nil, List.mem_singleton]
        exact ⟨fun q => q.elim id (fun q => absurd q.symm e), .inl⟩
      simp only [this, and_self]
/-- The tally that stands there, or that of none: what the code goes on from. -/
def talAt (g : List S37) (h : ByteArray) : Tal := if h ∈ hs4 g then talOf g h else tal0 ByteArray.empty
theorem mapT_get (g : List S37) (h : ByteArray) : (mapT g).atKey (key h) (dT (tal0 ByteArray.empty)) = dT (talAt g h) := by
  rw [(mapT_at g h _).1]
  unfold talAt
  split <;> rfl
theorem talOf_none {g : List S37} {h : ByteArray} (hn : h ∉ hs4 g) : talOf g h = tal0 h := by
  unfold talOf
  rw [List.filter_eq_nil_iff.2]
  · rfl
  · intro s hs he
    exact hn (List.mem_map.2 ⟨s, hs, of_decide_eq_true he⟩)
theorem talAt_rest (g : List S37) (h : ByteArray) : (talAt g h).f1 = (talOf g h).f1 ∧ (talAt g h).f2 = (talOf g h).f2 ∧ (talAt g h).f3 = (talOf g h).f3 ∧ (talAt g h).f4 = (talOf g h).f4 := by
  unfold talAt
  by_cases e : h ∈ hs4 g
  · rw [if_pos e]; exact ⟨rfl, rfl, rfl, rfl⟩
  · rw [if_neg e, talOf_none e]; exact ⟨rfl, rfl, rfl, rfl⟩
theorem talAt_step (g : List S37) (s : S37) : talOf (g ++ [s]) s.f4 = talStep (talAt g s.f4) s := by
  obtain ⟨h1, h2, h3, h4⟩ := talAt_rest g s.f4
  rw [talOf_snoc, if_pos rfl]
  unfold talStep
  rw [h1, h2, h3, h4]
theorem talAt_in (g : List S37) (h : ByteArray) (hd : ∀ s ∈ g, 0 ≤ s.f7) : TalIn g.length (talAt g h) := by
  obtain ⟨h1, h2, h3, h4⟩ := talAt_rest g h
  obtain ⟨q1, q2, q3, q4, q5, q6, q7⟩ := talOf_in g h hd
  constructor <;> omega

/-! The spans that may be; the tallies. -/
def goodL (l : List S37) : List S37 := l.filter mayS
def talsL (l : List S37) : List Tal := (hostsB (goodL l)).map (talOf (goodL l))
theorem goodL_next (l : List S37) (x : Int) (h0 : 0 ≤ x) (h1 : x < l.length) : goodL (l.take (x + 1).toNat) = if mayS (rd_T37 l x) = true then goodL (l.take x.toNat) ++ [rd_T37 l x] else goodL (l.take x.toNat) := by
  have hlt : x.toNat < l.length := by omega
  have e : rd_T37 l x = l[x.toNat] := by simp [rd_T37, List.getD, hlt]
  rw [show (x + 1).toNat = x.toNat + 1 by omega, List.take_succ_eq_append_getElem hlt, e]
  unfold goodL
  rw [List.filter_append]
  by_cases h : mayS l[x.toNat] = true
  · rw [if_pos h, List.filter_cons_of_pos h, List.filter_nil]
  · rw [if_neg h, List.filter_cons_of_neg h, List.filter_nil, List.append_nil]
theorem goodL_length (l : List S37) : (goodL l).length ≤ l.length := List.length_filter_le _ _
theorem goodL_mem {l : List S37} {s : S37} (h : s ∈ goodL l) : s ∈ l ∧ mayS s = true := List.mem_filter.1 h
theorem goodL_dur {l : List S37} : ∀ s ∈ goodL l, 0 ≤ s.f7 := fun s hs => (mayB_le (goodL_mem hs).2).2.2.1
/-- What has been laid out while the keys of 'left' are still to come: each tally of the rest, once. -/
structure Laid (g : List S37) (left : Lit → Bool) (out : List Tal) : Prop where
  one : (out.map (·.f0)).Nodup
  is : ∀ t ∈ out, t = talOf g t.f0 ∧ t.f0 ∈ hs4 g ∧ left (key t.f0) = false
  all : ∀ h ∈ hs4 g, left (key h) = false → ∃ t ∈ out, t.f0 = h
theorem laid_start (g : List S37) : Laid g (has (mapT g)) [] := by
  refine ⟨by simp, by simp, fun h hh hf => ?_⟩
  have := (mapT_at g h .nil).2.2 hh
  rw [hf] at this
  cases this
theorem keyEq (a b : ByteArray) : (key a).sameKey (key b) = decide (a = b) := by
  by_cases h : a = b
  · subst h
    rw [decide_eq_true rfl]; exact WideAt.sameKey_self (key_is a)
  · rw [decide_eq_false h]
    exact sameKey_ne (fun e => h (key_inj e))
theorem laid_step {g : List S37} {left : Lit → Bool} {out : List Tal} (H : Laid g left out) {h : ByteArray} (hh : h ∈ hs4 g) (hl : left (key h) = true) : Laid g (fun z => left z && !z.sameKey (key h)) (out ++ [talOf g h]) := by
  obtain ⟨h1, h2, h3⟩ := H
  refine ⟨?_, ?_, ?_⟩
  · rw [List.map_append, List.nodup_append]
    refine ⟨h1, by simp, fun a ha b hb e => ?_⟩
    obtain ⟨t, ht, rfl⟩ := List.mem_map.1 ha
    simp only [List.map_cons, List.map_nil, List.mem_singleton, talOf_host] at hb
    subst hb
    have := (h2 t ht).2.2
    rw [e, hl] at this
    cases this
  · intro t ht
    rcases List.mem_append.1 ht with ht | ht
    · obtain ⟨q1, q2, q3⟩ := h2 t ht
      exact ⟨q1, q2, by simp [q3]⟩
    · rw [List.mem_singleton] at ht
      subst ht
      rw [talOf_host]
      exact ⟨rfl, hh, by rw [keyEq]; simp⟩
  · intro a ha hf
    rw [keyEq] at hf
    by_cases e : a = h
    · exact ⟨talOf g h, by simp, by rw [talOf_host, e]⟩
    · rw [decide_eq_false e] at hf
      obtain ⟨t, ht, q⟩ := h3 a ha (by simpa using hf)
      exact ⟨t, by simp [ht], q⟩
theorem laid_length {g : List S37} {left : Lit → Bool} {out : List Tal} (H : Laid g left out) : out.length ≤ g.length := by
  have h1 := nodup_lenT (b := hs4 g) H.one (fun h hh => by
    obtain ⟨t, ht, rfl⟩ := List.mem_map.1 hh
    exact (H.is t ht).2.1)
  simpa using h1
/-- Laid out whole, and put into the order of hosts: the tallies. -/
theorem laid_end {g : List S37} {left : Lit → Bool} {out m : List Tal} (H : Laid g left out) (h0 : ∀ kl, left kl = false) (hp : m.Perm out) (hs : m.Pairwise fun a b => cmpB a.f0 b.f0 ≤ 0) : m = (hostsB g).map (talOf g) := by
  have hm : ∀ t ∈ m, t = talOf g t.f0 := fun t ht => (H.is t (hp.mem_iff.1 ht)).1
  have e1 : m = (m.map (·.f0)).map (talOf g) := by
    rw [List.map_map]
    conv => lhs; rw [← List.map_id m]
    exact List.map_congr_left (fun t ht => hm t ht)
  have nd : (m.map (·.f0)).Nodup := (hp.map _).nodup_iff.2 H.one
  have hr : Rise cmpB (m.map (·.f0)) := by
    unfold Rise
    rw [List.pairwise_map]
    have nd' := List.pairwise_map.1 nd
    refine (hs.and nd').imp (fun {a b} q => ?_)
    have h3 : cmpB a.f0 b.f0 ≠ 0 := fun e => q.2 ((cmpB_is.zero _ _).1 e)
    have := q.1
    omega
  rw [e1, hr.one cmpB_is (hostsB_rise g) (fun h => ?_)]
  rw [hostsB_mem, List.mem_map]
  constructor
  · rintro ⟨t, ht, rfl⟩
    obtain ⟨x, hx, e⟩ := List.mem_map.1 (H.is t (hp.mem_iff.1 ht)).2.1
    exact ⟨x, hx, e⟩
  · rintro ⟨x, hx, rfl⟩
    obtain ⟨t, ht, e⟩ := H.all x.f4 (List.mem_map.2 ⟨x, hx, rfl⟩) (h0 _)
    exact ⟨t, hp.mem_iff.2 ht, e⟩
end Go.Proofs.Ytmfdhcgdibefiaa.L

