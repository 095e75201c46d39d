/- The chapter's example for bound.Of, plain. -/
import Derived.Test.YtjgpggjjgimibaaBndF
namespace Go.Proofs.Ytjgpggjjgimibaa.L
open Go.RowKit Go.Proofs.Ytjgpggjjgimibaa.Q Go.Proofs.YtjgpggjjgimibaaW.PrintWords Go.Proofs.YtjgpggjjgimibaaW.PrintLast Go.Proofs.YtjgpggjjgimibaaW.PrintMore Go.Proofs.YtjgpggjjgimibaaW.MapB Go.Proofs.YtjgpggjjgimibaaW.Lib
set_option linter.unusedVariables false
def exA : S42 := ⟨1, 1, 0, 1, ⟨#[97]⟩, ⟨#[98]⟩, 5, 15⟩
def exB : S42 := ⟨1, 2, 1, 2, ⟨#[98]⟩, ⟨#[98]⟩, 8, 4⟩
theorem hostsB_fold' (l : List S42) : (l.map (·.f4)).foldl (insH cmpB) [] = hostsB l := by
  obtain ⟨h1, h2, _⟩ := foldH cmpB_is (l.map (·.f4)) [] List.Pairwise.nil
  refine h1.one cmpB_is (hostsB_rise l) fun x => ?_
  rw [h2, hostsB_mem, List.mem_map]
  simp
theorem nums_ex : numsL [exA, exB] = [0, 1] := by
  unfold numsL
  rw [← hostsB_fold']
  kernel_rfl
theorem edges_ex : edgesB (fun _ => true) [exA, exB] (numsL [exA, exB]) [⟨0, 1⟩] = [⟨1, 0, 3, ⟨0, 1⟩, false⟩, ⟨0, 1, 8, ⟨0, 1⟩, true⟩] := by
  rw [nums_ex]
  kernel_rfl
theorem may_ex : ∀ s ∈ [exA, exB], ∃ k, span_May.f k s.f0 s.f1 s.f2 s.f3 s.f4 s.f5 s.f6 s.f7 = some ((fun _ => true : S42 → Bool) s) := by
  intro s hs
  simp only [List.mem_cons, List.not_mem_nil, or_false] at hs
  rcases hs with rfl | rfl
  · exact ⟨100, by kernel_rfl⟩
  · exact ⟨100, by kernel_rfl⟩
theorem fit_ex : ∀ s ∈ [exA, exB], fitS s := by
  intro s hs
  simp only [List.mem_cons, List.not_mem_nil, or_false] at hs
  rcases hs with rfl | rfl <;> exact ⟨by decide, by decide, by decide⟩
end Go.Proofs.Ytjgpggjjgimibaa.L
