/- bound.Of. -/
import Derived.Test.YtjgpggjjgimibaaBndD
import Derived.Test.YtjgpggjjgimibaaNumH
namespace Go.Proofs.Ytjgpggjjgimibaa.L
open Go.RowKit Go.Proofs.Ytjgpggjjgimibaa.Q Go.Proofs.YtjgpggjjgimibaaW.PrintWords Go.Proofs.YtjgpggjjgimibaaW.PrintLast Go.Proofs.YtjgpggjjgimibaaW.PrintMore Go.Proofs.YtjgpggjjgimibaaW.MapB Go.Proofs.YtjgpggjjgimibaaW.Lib
set_option linter.unusedVariables false
set_option linter.unusedSimpArgs false

/-- A pair's edges. -/
def edgesAt (m : S42 → Bool) (l : List S42) (nums : List Int) (p : S35) : List S37 :=
  if (gapsB m l p.f0 p.f1).2.2 = true then [⟨rd nums p.f1, rd nums p.f0, (gapsB m l p.f0 p.f1).1, p, false⟩, ⟨rd nums p.f0, rd nums p.f1, (gapsB m l p.f0 p.f1).2.1, p, true⟩] else []
def edgesB (m : S42 → Bool) (l : List S42) (nums : List Int) (ps : List S35) : List S37 := ps.flatMap (edgesAt m l nums)
theorem edgesB_snoc (m : S42 → Bool) (l : List S42) (nums : List Int) (ps : List S35) (p : S35) : edgesB m l nums (ps ++ [p]) = edgesB m l nums ps ++ edgesAt m l nums p := by simp [edgesB]
theorem gapsB_in (m : S42 → Bool) (l : List S42) (c s : Int) (h : (gapsB m l c s).2.2 = true) : 0 ≤ c ∧ c < l.length ∧ 0 ≤ s ∧ s < l.length := by
  unfold gapsB at h
  split at h
  · rename_i h2
    unfold findS at h2
    obtain ⟨h3, h4⟩ := h2
    split at h3
    · rename_i h5
      split at h4
      · rename_i h6
        exact ⟨h5.1, h5.2.1, h6.1, h6.2.1⟩
      · cases h4
    · cases h3
  · cases h
end Go.Proofs.Ytjgpggjjgimibaa.L
