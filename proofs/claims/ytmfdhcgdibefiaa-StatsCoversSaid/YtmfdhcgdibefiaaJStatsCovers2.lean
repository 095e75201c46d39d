/- Texts joined by wip/tools/merge.py: ArrE. -/
import Derived.ChangeKeysEq
import Derived.Test.YtmfdhcgdibefiaaJStatsCovers1
/- Arrays, compared. -/
namespace Go.Proofs.YtmfdhcgdibefiaaW.ArrE
open Go.RowKit Go.Proofs.YtmfdhcgdibefiaaW.PrintWords
section
variable {P : Program} {w : World} {d c i : Nat} {e : TypeId} {xs ys : Array Value} {a b : Value} {r s : Bool} {is : List Nat}
theorem items_cons (ha : (part e xs (i * c)).run P w = .ok a w) (hb : (part e ys (i * c)).run P w = .ok b w) (he : (Op.equalIn d e a b).run P w = .ok r w) (hr : (Op.eqItems d e c xs ys is).run P w = .ok s w) : (Op.eqItems d e c xs ys (i :: is)).run P w = .ok (r && s) w := by
  simp only [Op.eqItems, Sem.run_bind, ha, hb, he, Result.andThen_ok]
  cases r
  · simp
  · simpa using hr
theorem items_last (ha : (part e xs (i * c)).run P w = .ok a w) (hb : (part e ys (i * c)).run P w = .ok b w) (he : (Op.equalIn d e a b).run P w = .ok r w) : (Op.eqItems d e c xs ys [i]).run P w = .ok r w := by
  have := items_cons (is := []) ha hb he (s := true) (by simp [Op.eqItems])
  rw [Bool.and_true] at this
  exact this
theorem eqArr {n : Nat} {t : TypeId} (hu : P.underlying t = some (.array n e)) (hi : (P.info? e).isSome = true) (hc : P.cellsOf e = c) (h : (Op.eqItems d e c xs ys (List.range n)).run P w = .ok r w) : (Op.equalIn (d + 1) t (.agg xs) (.agg ys)).run P w = .ok r w := by
  obtain ⟨i0, hi0⟩ := Option.isSome_iff_exists.1 hi
  rw [run_equalIn_array w d xs ys hu hi0, hc]
  exact h
end
end Go.Proofs.YtmfdhcgdibefiaaW.ArrE

