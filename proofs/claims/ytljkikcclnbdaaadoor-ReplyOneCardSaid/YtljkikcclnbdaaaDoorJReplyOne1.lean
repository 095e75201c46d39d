/- Texts joined by wip/tools/merge.py: MorR. -/
import Derived.Test.YtljkikcclnbdaaaDoorJReplyOne0
import Derived.Laws.Cover1
/- In the midst of a region more is known of the world: what is held may become stronger. -/
namespace Go.Proofs.YtljkikcclnbdaaaDoorW.PrintLast
open Go.RowKit
theorem moreS_ {P : Program} {md : Region.Mode} {ops : Array Oper} {Q : Exit → Act → World → Prop} {S S' : World → Prop} (hs : ∀ w, S' w → S w) :
    ∀ (fuel : Nat) (l : Array Bool) (a : Act) (w : World), S' w → (S' w → wpAnyLast P md ops Q S' [] fuel l a w) → wpAnyLast P md ops Q S [] fuel l a w
  | 0, _, _, _, h0, h => h h0
  | fuel + 1, _, _, _, h0, h =>
    ⟨(h h0).1, fun i hi => wpOp_mono (fun _ _ h' => ⟨fun _ _ => hs _ (h'.1 (by simp) h0), moreS_ hs fuel _ _ _ (h'.1 (by simp) h0) (fun _ => h'.2)⟩) ((h h0).2 i hi)⟩
end Go.Proofs.YtljkikcclnbdaaaDoorW.PrintLast

