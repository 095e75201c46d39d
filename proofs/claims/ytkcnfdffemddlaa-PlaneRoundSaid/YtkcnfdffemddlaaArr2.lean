/- How an array of two is read. -/
import Derived.Test.YtkcnfdffemddlaaOpen
namespace Go.Proofs.YtkcnfdffemddlaaW.Open
open Go.RowKit Go.Proofs.YtkcnfdffemddlaaW.PrintWords Go.ChangeShapes Go.WideShapes
set_option linter.unusedVariables false
theorem okWide_array {P : Program} {w : World} {r : Reach} {base : Nat} {t : TypeId} {v : Value} {n : Nat} {e : TypeId} (ht : P.underlying t = some (.array n e)) (h : Value.okWide P w r base t v) : ∃ cs, v = .agg cs ∧ cs.size = P.cellsOf t := by
  simp only [Value.okWide, ht] at h
  obtain ⟨cs, h1, h2, _⟩ := h
  exact ⟨cs, h1, h2⟩
theorem Opens.array2 {P : Program} {t e : TypeId} {α : Type} {k : Kd α} {wf : α → Prop} (ht : P.underlying t = some (.array 2 e)) (hc : P.cellsOf t = k.sz + k.sz) (h : Opens P e k wf) : Opens P t (Kd.pair k k) (fun x => wf x.1 ∧ wf x.2) := by
  refine ⟨hc, ?_⟩
  intro H enc W base spare held fuel cs d ps h1 hs
  obtain ⟨xs, m, _, hx, hl, hlen, hf⟩ := DataW.trod_array ht h1
  obtain ⟨rfl, rfl⟩ := Prod.mk.inj hx
  match xs, hlen with
  | [y, z], _ =>
    have f0 := hf 0 (by omega)
    have f1 := hf 1 (by omega)
    rw [h.sz] at f0 f1
    rw [Nat.zero_mul, List.drop_zero] at f0
    rw [Nat.one_mul, List.take_of_length_le (by rw [List.length_drop]; omega)] at f1
    have hw : ∀ n ∈ DataW.weightsAll P e [y.1, z.1], n ≤ reachBytes := fun n hn => hs n (by simpa [DataW.weights, ht] using hn)
    obtain ⟨a, ka, wa⟩ := h.K (d := y.1) (ps := y.2) f0 (fun n hn => hw n (by simp [DataW.weightsAll, hn]))
    obtain ⟨b, kb, wb⟩ := h.K (d := z.1) (ps := z.2) f1 (fun n hn => hw n (by simp [DataW.weightsAll, hn]))
    exact ⟨(a, b), ⟨cs.take k.sz, cs.drop k.sz, (List.take_append_drop _ _).symm, ka, kb⟩, wa, wb⟩
end Go.Proofs.YtkcnfdffemddlaaW.Open
