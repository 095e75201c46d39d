/- DedupeOne: a map of numbers to spans, plain; the document's May and Cmp as contracts. -/
import Derived.Test.YtkpmaenhkjfncaaDedG
import Derived.Test.YtkpmaenhkjfncaaRefG
import Derived.Test.YtkpmaenhkjfncaaQx4
import Derived.Test.YtkpmaenhkjfncaaQx7
namespace Go.Proofs.Ytkpmaenhkjfncaa.L
open Go.RowKit Go.Proofs.Ytkpmaenhkjfncaa.Q Go.Proofs.YtkpmaenhkjfncaaW.PrintWords Go.Proofs.YtkpmaenhkjfncaaW.PrintLast Go.Proofs.YtkpmaenhkjfncaaW.PrintMore Go.Proofs.YtkpmaenhkjfncaaW.MapB Go.Proofs.YtkpmaenhkjfncaaW.Lib Go.Maps Go.WideMaps
set_option linter.unusedVariables false

/-- What is asked of a span's texts and kind. -/
def okT (s : Span) : Prop := (Lit.int .u64 s.f1).wf = true ∧ 0 ≤ s.f3 ∧ s.f4.size ≤ 140737488351232 ∧ s.f5.size ≤ 140737488351232
instance : DecidablePred okT := fun s => by unfold okT; infer_instance
theorem rmay_calls (s : Span) (h : okT s) (w : World) :
    Calls Try.prog 37 #[.agg #[.int .u64 s.f0, .int .u64 s.f1, .int .u64 s.f2, .int .u8 s.f3, .string s.f4, .string s.f5, .int .i64 s.f6, .int .i64 s.f7]] w fun e w' => e = .returned (.bool (mayB s.f0 s.f1 s.f2 s.f3 s.f4 s.f5 s.f6 s.f7)) ∧ Below w.heap.size w w' := by
  obtain ⟨k, hk⟩ := Ev.rounds (rmay_ev s.f0 s.f1 s.f2 s.f3 s.f4 s.f5 s.f6 s.f7 h.2.1 h.2.2.1 h.2.2.2)
  exact merkhetref01_May.calls k _ _ _ _ _ _ _ _ _ w hk
theorem rcmp_calls (s m : Span) (h : okT s) (h' : okT m) (w : World) :
    Calls Try.prog 38 #[.agg #[.int .u64 s.f0, .int .u64 s.f1, .int .u64 s.f2, .int .u8 s.f3, .string s.f4, .string s.f5, .int .i64 s.f6, .int .i64 s.f7], .agg #[.int .u64 m.f0, .int .u64 m.f1, .int .u64 m.f2, .int .u8 m.f3, .string m.f4, .string m.f5, .int .i64 m.f6, .int .i64 m.f7]] w fun e w' => e = .returned (.int .i64 (cmpS s m)) ∧ Below w.heap.size w w' := by
  obtain ⟨k, hk⟩ := Ev.rounds (rcmp_ev s m h.2.2.1 h.2.2.2 h'.2.2.1 h'.2.2.2)
  exact merkhetref01_Cmp.calls k _ _ _ _ _ _ _ _ _ _ _ _ _ _ _ _ _ w hk

/-! A map whose elements are spans. -/
def dS (s : Span) : DataW Unit := .agg [.lit (.int .u64 s.f0), .lit (.int .u64 s.f1), .lit (.int .u64 s.f2), .lit (.int .u8 s.f3), .lit (.string s.f4.data.toList), .lit (.string s.f5.data.toList), .lit (.int .i64 s.f6), .lit (.int .i64 s.f7)]
theorem data_inj {a b : ByteArray} (h : a.data.toList = b.data.toList) : a = b := by
  cases a; cases b; rename_i a b; cases a; cases b; simpa using h
theorem dS_inj {s t : Span} (h : dS s = dS t) : s = t := by
  cases s; cases t
  simp only [dS, DataW.agg.injEq, List.cons.injEq, DataW.lit.injEq, Lit.int.injEq, Lit.string.injEq, true_and, and_true] at h
  obtain ⟨h0, h1, h2, h3, h4, h5, h6, h7⟩ := h
  rw [h0, h1, h2, h3, data_inj h4, data_inj h5, h6, h7]
def vS (s : Span) : Value := .agg #[.int .u64 s.f0, .int .u64 s.f1, .int .u64 s.f2, .int .u8 s.f3, .string s.f4, .string s.f5, .int .i64 s.f6, .int .i64 s.f7]
theorem vS_inj {s t : Span} (h : vS s = vS t) : s = t := by
  cases s; cases t
  simp only [vS, Value.agg.injEq, Array.mk.injEq, List.cons.injEq, Value.int.injEq, Value.string.injEq, true_and, and_true] at h
  obtain ⟨h0, h1, h2, h3, h4, h5, h6, h7⟩ := h
  rw [h0, h1, h2, h3, h4, h5, h6, h7]
open Classical in
/-- How a span in a map reads. -/
noncomputable def elemS (v : Value) : Option (DataW Unit × List MemPlace) := if h : ∃ s : Span, v = vS s then some (dS h.choose, []) else none
theorem elemS_mk (s : Span) : elemS (vS s) = some (dS s, []) := by
  have h : ∃ t : Span, vS s = vS t := ⟨s, rfl⟩
  unfold elemS
  rw [dif_pos h, ← vS_inj h.choose_spec]
theorem elemS_inv {v : Value} {s : Span} {ps : List MemPlace} (h : elemS v = some (dS s, ps)) : v = vS s := by
  unfold elemS at h
  split at h
  · rename_i hv
    have h2 := hv.choose_spec
    simp only [Option.some.injEq, Prod.mk.injEq] at h
    rw [dS_inj h.1] at h2
    exact h2
  · cases h
theorem zeroSpan (w : World) : (zeroValue 27).run Try.prog w = .ok (vS z27) w := by kernel_rfl
/-- The map of numbers to spans behind some records. -/
def mapS (m : List Span) (D : DataW Unit) : DataW Unit := m.foldl (fun D s => D.put (keyI s.f1) (dS s)) D
theorem mapS_snoc (m : List Span) (s : Span) (D : DataW Unit) : mapS (m ++ [s]) D = (mapS m D).put (keyI s.f1) (dS s) := by simp [mapS]
theorem mapS_none {i : Int} (z : DataW Unit) : ∀ (m : List Span) (D : DataW Unit), (∀ x ∈ m, x.f1 ≠ i) → (mapS m D).atKey (keyI i) z = D.atKey (keyI i) z ∧ has (mapS m D) (keyI i) = has D (keyI i)
  | [], D, h => ⟨rfl, rfl⟩
  | x :: m, D, h => by
    have hx : keyI i ≠ keyI x.f1 := fun e => h x (by simp) (keyI_inj _ _ e).symm
    have ih := mapS_none z m (D.put (keyI x.f1) (dS x)) (fun y hy => h y (by simp [hy]))
    have e : mapS (x :: m) D = mapS m (D.put (keyI x.f1) (dS x)) := rfl
    rw [e, ih.1, ih.2, atKey_put_other hx, has_put_other hx]
    exact ⟨rfl, rfl⟩
theorem mapS_some {y : Span} (z : DataW Unit) : ∀ (m : List Span) (D : DataW Unit), Tidy D → m.Pairwise (fun a b => a.f1 ≠ b.f1) → y ∈ m → (mapS m D).atKey (keyI y.f1) z = dS y ∧ has (mapS m D) (keyI y.f1) = true
  | x :: m, D, ht, hp, hy => by
    have hp' := List.pairwise_cons.1 hp
    have e : mapS (x :: m) D = mapS m (D.put (keyI x.f1) (dS x)) := rfl
    rw [e]
    rcases List.mem_cons.1 hy with rfl | hy
    · have := mapS_none z m (D.put (keyI y.f1) (dS y)) (fun a ha => (hp'.1 a ha).symm)
      rw [this.1, this.2, atKey_put_same ht.isMap (keyI_is _), has_put_same ht.isMap (keyI_is _)]
      exact ⟨rfl, rfl⟩
    · exact mapS_some z m _ (ht.put (keyI_is _) _) hp'.2 hy
/-- 's, ok := m[k]' at spans, where it is known what stands there. -/
theorem lookup_span {ops : Array Oper} {rest : List Oper} {o : Oper} {a : Act} {Q : Exit → Act → World → Prop} (w : World) (hg : o.guard = none) (m x : Operand) (t : TypeId) (hop : o.op = Op.lookup t m x true) (k : TypeId) (K : Keyed Try.prog k)
    (ht : Try.prog.underlying t = some (.map k 27)) (b n : Nat) (D : DataW Unit) (hm : a.eval m = .map (some b)) (hown : w.ownsMap Try.prog k elemS b n D) (key : Value) (kl : Lit) (hx : a.eval x = key) (hkey : keyOf Try.prog k key = some kl)
    (y : Span) (hy : D.atKey kl (dS z27) = dS y) (there : Bool) (hh : has D kl = there)
    (hK : wpList Try.prog ops Q rest (a.put o.dst (.tuple #[.agg #[.int .u64 y.f0, .int .u64 y.f1, .int .u64 y.f2, .int .u8 y.f3, .string y.f4, .string y.f5, .int .i64 y.f6, .int .i64 y.f7], .bool there])) w) : wpList Try.prog ops Q (o :: rest) a w :=
  wpList_lookup_own_ok w hg m x t hop k 27 K ht elemS (zeroSpan w) _ _ (elemS_mk _) b n D hm hown key kl hx hkey (fun v ps hv => by
    rw [hy] at hv
    obtain rfl := elemS_inv hv
    rw [hh]
    exact hK)

/-! What is true of the records that count. -/
theorem ofD_mem {l : List Span} {t : Int} {s : Span} (h : s ∈ ofD l t) : s ∈ l ∧ s.f0 = t ∧ mayB s.f0 s.f1 s.f2 s.f3 s.f4 s.f5 s.f6 s.f7 = true := by
  have := (ofD_counts l t).mem s h
  exact ⟨this.1, by simpa [okS] using this.2⟩
theorem ofD_ids (l : List Span) (t : Int) : (ofD l t).Pairwise fun x y => x.f1 ≠ y.f1 := (ofD_counts l t).ids
theorem ofD_rise (l : List Span) (t : Int) (i j : Nat) (hij : i < j) (hj : j < (ofD l t).length) : cmpS ((ofD l t)[i]'(by omega)) (ofD l t)[j] < 0 := by
  have h1 : cmpS ((ofD l t)[i]'(by omega)) (ofD l t)[j] ≤ 0 := List.pairwise_iff_getElem.1 (ofD_sorted l t) i j (by omega) hj hij
  have h2 := List.pairwise_iff_getElem.1 (ofD_ids l t) i j (by omega) hj hij
  have h3 : cmpS ((ofD l t)[i]'(by omega)) (ofD l t)[j] ≠ 0 := by
    intro h
    have := (cmpS_is.zero _ _).1 h
    exact h2 (by rw [this])
  omega
theorem ofD_best {l : List Span} {t : Int} {s : Span} (h : s ∈ l) (h0 : s.f0 = t) (hm : mayB s.f0 s.f1 s.f2 s.f3 s.f4 s.f5 s.f6 s.f7 = true) : ∃ y ∈ ofD l t, y.f1 = s.f1 ∧ ¬ cmpS s y < 0 := by
  obtain ⟨y, hy, e, hc⟩ := (ofD_counts l t).best s h (by unfold okS; rw [hm, Bool.and_true]; exact decide_eq_true h0)
  refine ⟨y, hy, e, ?_⟩
  have := cmpS_is.anti y s
  omega
/-- A number that doesn't stand ahead. -/
theorem ofD_new (l : List Span) (t : Int) (i : Nat) (hi : i < (ofD l t).length) : ∀ x ∈ (ofD l t).take i, x.f1 ≠ (ofD l t)[i].f1 := by
  intro x hx
  obtain ⟨j, hj, rfl⟩ := List.getElem_of_mem hx
  rw [List.getElem_take]
  have hji : j < i := by simp at hj; omega
  exact List.pairwise_iff_getElem.1 (ofD_ids l t) j i (by omega) hi hji
end Go.Proofs.Ytkpmaenhkjfncaa.L
