/- Texts joined by wip/tools/merge.py: OOpens SpanN RefG PureReplyOne. -/
import Derived.Test.YtljkikcclnbdaaaDoorJReplyOne27
import Derived.Test.YtljkikcclnbdaaaDoorJReplyOne25
import Derived.KernelRfl
import Derived.Test.YtljkikcclnbdaaaDoorJReplyOne28
import Derived.Test.YtljkikcclnbdaaaDoorJReplyOne29
import Derived.Test.YtljkikcclnbdaaaDoorJReplyOne23
import Derived.Test.YtljkikcclnbdaaaDoorJReplyOne13
import Derived.Test.YtljkikcclnbdaaaDoorJReplyOne26
-- Written by wip/tools/row.py, a program of this session. Lean checks it.
namespace Go.Proofs.YtljkikcclnbdaaaDoor.O
open Go.RowKit Go.Proofs.YtljkikcclnbdaaaDoorW.PrintWords Go.Proofs.YtljkikcclnbdaaaDoorW.Open Go.Proofs.YtljkikcclnbdaaaDoor.Q Go.Proofs.YtljkikcclnbdaaaDoor.P Go.Proofs.YtljkikcclnbdaaaDoor.W
set_option linter.unusedVariables false
def wf27 (x : S27) : Prop := ((Lit.int .i64 x.f0).wf = true) ∧ ((x.f1.length ≤ maxLen ∧ x.f1.length * 80 ≤ reachBytes ∧ ∀ y ∈ x.f1, wf56 y)) ∧ ((x.f2.length ≤ maxLen ∧ x.f2.length * 8 ≤ reachBytes ∧ ∀ y ∈ x.f2, (Lit.int .i64 y).wf = true)) ∧ ((x.f3.length ≤ maxLen ∧ x.f3.length * 16 ≤ reachBytes ∧ ∀ y ∈ x.f3, y.size ≤ reachBytes)) ∧ ((x.f4.length ≤ maxLen ∧ x.f4.length * 8 ≤ reachBytes ∧ ∀ y ∈ x.f4, (Lit.int .i64 y).wf = true)) ∧ ((x.f5.length ≤ maxLen ∧ x.f5.length * 48 ≤ reachBytes ∧ ∀ y ∈ x.f5, wf64 y))
set_option maxRecDepth 100000 in
theorem opens27 : Opens Tryd.prog 27 k27 wf27 := by
  refine (Opens.iso _ (fun x => (⟨x.1, x.2.1, x.2.2.1, x.2.2.2.1, x.2.2.2.2.1, x.2.2.2.2.2⟩ : S27)) (fun _ => rfl) (Opens.struct Tryd.underlying27 (by kernel_rfl) (OpensF.cons rfl rfl (Opens.int Tryd.underlying3 (by kernel_rfl)) (OpensF.cons rfl rfl (Opens.slice (B := 80) Tryd.underlying22 (by kernel_rfl) (by kernel_rfl) opens56) (OpensF.cons rfl rfl (Opens.slice (B := 8) Tryd.underlying23 (by kernel_rfl) (by kernel_rfl) (Opens.int Tryd.underlying2 (by kernel_rfl))) (OpensF.cons rfl rfl (Opens.slice (B := 16) Tryd.underlying24 (by kernel_rfl) (by kernel_rfl) (Opens.string Tryd.underlying9 (by kernel_rfl))) (OpensF.cons rfl rfl (Opens.slice (B := 8) Tryd.underlying23 (by kernel_rfl) (by kernel_rfl) (Opens.int Tryd.underlying2 (by kernel_rfl))) (OpensF.one rfl (Opens.slice (B := 48) Tryd.underlying25 (by kernel_rfl) (by kernel_rfl) opens64))))))))).imp ?_
  exact fun _ h => h
end Go.Proofs.YtljkikcclnbdaaaDoor.O

/- Spans' rows, read at a place. -/
namespace Go.Proofs.YtljkikcclnbdaaaDoor.L
open Go.RowKit Go.Proofs.YtljkikcclnbdaaaDoor.Q Go.Proofs.YtljkikcclnbdaaaDoorW.PrintWords
set_option linter.unusedVariables false

abbrev Span := S56
theorem rdS_nat (l : List Span) (i : Nat) (h : i < l.length) : rd_T56 l (i : Int) = l[i] := by simp [rd_T56, List.getD, h]
end Go.Proofs.YtljkikcclnbdaaaDoor.L

/- The guard of layer 4, as plain lists. -/
namespace Go.Proofs.YtljkikcclnbdaaaDoor.L
open Go.RowKit Go.Proofs.YtljkikcclnbdaaaDoor.Q Go.Proofs.YtljkikcclnbdaaaDoorW.PrintWords Go.Proofs.YtljkikcclnbdaaaDoorW.PrintLast Go.Proofs.YtljkikcclnbdaaaDoorW.PrintMore Go.Proofs.YtljkikcclnbdaaaDoorW.Lib
set_option linter.unusedVariables false

theorem great_ev (l : List Span) : ∃ b, Ev (fun k => merkhetlaw04_Great.f k l) b ∧ (b = false → l.length ≤ 60 ∧ ∀ x ∈ l, x.f4.size ≤ 100 ∧ x.f5.size ≤ 100) := by
  unfold merkhetlaw04_Great.f
  by_cases h : (l.length : Int) > 60
  · exact ⟨true, Ev.pos h (Ev.now _), by simp⟩
  · have key : ∀ (d i : Nat), l.length - i = d → i ≤ l.length → ∃ b, Ev (fun k => merkhetlaw04_Great.l0 k l (l.length : Int) (i : Int)) b ∧ (b = false → ∀ x ∈ l.drop i, x.f4.size ≤ 100 ∧ x.f5.size ≤ 100) := by
      intro d
      induction d with
      | zero =>
        intro i hd hi
        refine ⟨false, Ev.succ ?_, fun _ x hx => ?_⟩
        · simp only [merkhetlaw04_Great.l0]
          exact Ev.neg (by omega) (Ev.now _)
        · rw [List.drop_of_length_le (by omega)] at hx; cases hx
      | succ d ih =>
        intro i hd hi
        have hil : i < l.length := by omega
        obtain ⟨b, hb, hb2⟩ := ih (i + 1) (by omega) (by omega)
        by_cases h4 : ((l[i].f4.size : Nat) : Int) > 100
        · refine ⟨true, Ev.succ ?_, by simp⟩
          simp only [merkhetlaw04_Great.l0, rdS_nat l i hil]
          exact Ev.pos (by omega) (Ev.pos (by omega) (Ev.pos (by omega) (Ev.pos h4 (Ev.now _))))
        · by_cases h5 : ((l[i].f5.size : Nat) : Int) > 100
          · refine ⟨true, Ev.succ ?_, by simp⟩
            simp only [merkhetlaw04_Great.l0, rdS_nat l i hil]
            exact Ev.pos (by omega) (Ev.pos (by omega) (Ev.pos (by omega) (Ev.neg h4 (Ev.pos h5 (Ev.now _)))))
          · refine ⟨b, Ev.succ ?_, fun e x hx => ?_⟩
            · simp only [merkhetlaw04_Great.l0, rdS_nat l i hil]
              refine Ev.pos (by omega) (Ev.pos (by omega) (Ev.pos (by omega) (Ev.neg h4 (Ev.neg h5 ?_))))
              rw [wrap_id (by omega) (by omega)]
              exact hb
            · rw [List.drop_eq_getElem_cons hil] at hx
              rcases List.mem_cons.1 hx with rfl | hx
              · omega
              · exact hb2 e x hx
    obtain ⟨b, hb, hb2⟩ := key l.length 0 (by omega) (by omega)
    refine ⟨b, Ev.neg h hb, fun e => ⟨by omega, fun x hx => hb2 e x (by simpa using hx)⟩⟩

end Go.Proofs.YtljkikcclnbdaaaDoor.L

/- ReplyOne, the plain part: unlike answers have unlike bytes. -/
namespace Go.Proofs.YtljkikcclnbdaaaDoor.Pure
set_option linter.unusedVariables false
set_option linter.unusedSimpArgs false
open Go.RowKit Go.Proofs.YtljkikcclnbdaaaDoor.Q Go.Proofs.YtljkikcclnbdaaaDoor.P Go.Proofs.YtljkikcclnbdaaaDoor.W Go.Proofs.YtljkikcclnbdaaaDoor.O Go.Proofs.YtljkikcclnbdaaaDoorW.PrintWords Go.Proofs.YtljkikcclnbdaaaDoorW.PrintLast Go.Proofs.YtljkikcclnbdaaaDoorW.PrintMore Go.Proofs.YtljkikcclnbdaaaDoorW.Lib Go.Proofs.YtljkikcclnbdaaaDoor.L

/-! Bytes. -/
def byt (l : List Int) : Prop := ∀ x ∈ l, 0 ≤ x ∧ x < 256
theorem byt_app {a b : List Int} (ha : byt a) (hb : byt b) : byt (a ++ b) := fun x hx => (List.mem_append.1 hx).elim (ha x) (hb x)
theorem byt_nil : byt [] := fun x hx => by cases hx
theorem byt_le (k : Nat) (n : Int) : byt (leB k n) := leB_byte k n
theorem byt_flat {α : Type} {f : α → List Int} {l : List α} (h : ∀ x ∈ l, byt (f x)) : byt (l.flatMap f) := fun x hx => by
  obtain ⟨y, hy, hx⟩ := List.mem_flatMap.1 hx
  exact h y hy x hx
theorem byt_text {s : ByteArray} (h : s.size ≤ 16) : byt (textB s) := by
  unfold textB
  intro x hx
  rcases List.mem_cons.1 hx with rfl | hx
  · omega
  · rcases List.mem_append.1 hx with hx | hx
    · have := bytesOf_range s x hx; omega
    · rw [List.mem_replicate] at hx; omega
theorem byt_span {s : SpB} (h : fitSp s) : byt (spanB s) := by
  unfold spanB
  exact byt_app (byt_le _ _) (byt_app (byt_le _ _) (byt_app (byt_le _ _) (byt_app (byt_le _ _) (byt_app (byt_le _ _) (byt_app (byt_le _ _) (byt_app (byt_text h.2.2.2.2.2.2.1) (byt_text h.2.2.2.2.2.2.2)))))))
theorem byt_edge (e : EdB) : byt (edgeB e) := by
  unfold edgeB
  refine byt_app (byt_le _ _) (byt_app (byt_le _ _) (byt_app (byt_le _ _) (byt_app (byt_le _ _) (byt_app (byt_le _ _) ?_))))
  intro x hx
  rw [List.mem_singleton] at hx
  rw [hx]
  split <;> omega
theorem byt_answer {a : AnB} (h : AnsIn a) : byt (answerB a) := by
  unfold answerB
  refine byt_app (byt_le _ _) ?_
  split
  · exact byt_nil
  · refine byt_app (byt_le _ _) (byt_app (byt_flat fun s hs => byt_span (h.spans s hs)) (byt_app (byt_flat fun x _ => byt_le _ _) (byt_app ?_ (byt_app (byt_flat fun x _ => byt_le _ _) ?_))))
    · split
      · exact byt_nil
      · exact byt_app (byt_le _ _) (byt_flat fun s hs => byt_text (h.hosts s hs))
    · split
      · exact byt_app (byt_le _ _) (byt_flat fun e _ => byt_edge e)
      · exact byt_nil
theorem nums_inj : ∀ {x y : List Int}, byt x → byt y → (x.map fun n => UInt8.ofNat n.toNat) = (y.map fun n => UInt8.ofNat n.toNat) → x = y
  | [], [], _, _, _ => rfl
  | [], _ :: _, _, _, h => by simp at h
  | _ :: _, [], _, _, h => by simp at h
  | a :: x, b :: y, hx, hy, h => by
    rw [List.map_cons, List.map_cons] at h
    obtain ⟨h1, h2⟩ := List.cons.inj h
    have ha := hx a (by simp)
    have hb := hy b (by simp)
    have e : a = b := by
      have := congrArg UInt8.toNat h1
      rw [UInt8.toNat_ofNat', UInt8.toNat_ofNat'] at this
      omega
    rw [e, nums_inj (fun z hz => hx z (by simp [hz])) (fun z hz => hy z (by simp [hz])) h2]
theorem str_eq {x y : List Int} (hx : byt x) (hy : byt y) : ((strOfNums x).toList == (strOfNums y).toList) = true ↔ x = y := by
  rw [beq_iff_eq, toList_data, toList_data, strOfNums_data, strOfNums_data]
  exact ⟨nums_inj hx hy, fun e => by rw [e]⟩

/-! The same? -/
theorem drop_two {α : Type} {a b : List α} {i : Nat} (ha : i < a.length) (hb : i < b.length) : a.drop i = b.drop i ↔ a[i] = b[i] ∧ a.drop (i + 1) = b.drop (i + 1) := by
  rw [List.drop_eq_getElem_cons ha, List.drop_eq_getElem_cons hb]
  exact ⟨fun h => List.cons.inj h, fun h => by rw [h.1, h.2]⟩
theorem same01 (a b : List SpB) (ha : a.length ≤ 1000) : ∃ r, Ev (fun k => merkhetref01_Same.f k a b) r ∧ (r = true ↔ a = b) := by
  unfold merkhetref01_Same.f
  by_cases hl : a.length = b.length
  · have key : ∀ (d i : Nat), a.length - i = d → i ≤ a.length → ∃ r, Ev (fun k => merkhetref01_Same.l0 k a b (i : Int)) r ∧ (r = true ↔ a.drop i = b.drop i) := by
      intro d
      induction d with
      | zero =>
        intro i hd hi
        refine ⟨true, Ev.succ ?_, ?_⟩
        · simp only [merkhetref01_Same.l0]; exact Ev.neg (by omega) (Ev.now _)
        · rw [List.drop_of_length_le (by omega), List.drop_of_length_le (by omega)]; simp
      | succ d ih =>
        intro i hd hi
        have h1 : i < a.length := by omega
        have h2 : i < b.length := by omega
        obtain ⟨r, hr, hr2⟩ := ih (i + 1) (by omega) (by omega)
        rw [drop_two h1 h2]
        have hc : ∀ s t : SpB, ((!(s.f0 == t.f0) || (!(s.f1 == t.f1) || (!(s.f2 == t.f2) || (!(s.f3 == t.f3) || (!(s.f4.toList == t.f4.toList) || (!(s.f5.toList == t.f5.toList) || (!(s.f6 == t.f6) || (!(s.f7 == t.f7))))))))) = true) ↔ ¬ s = t := by
          intro s t
          cases s; cases t
          simp only [toList_inj, Bool.or_eq_true, Bool.not_eq_true', beq_eq_false_iff_ne, decide_eq_false_iff_not, ne_eq, S56.mk.injEq, Classical.not_and_iff_not_or_not]
        by_cases he : a[i] = b[i]
        · refine ⟨r, Ev.succ ?_, by rw [hr2]; exact ⟨fun h => ⟨he, h⟩, fun h => h.2⟩⟩
          simp only [merkhetref01_Same.l0]
          rw [rdSpA h1, rdSpA h2, wrap_id (i := (i : Int) + 1) (by omega) (by omega)]
          exact Ev.pos (by omega) (Ev.pos (by omega) (Ev.pos (by omega) (Ev.neg (fun h => (hc _ _).1 h he) hr)))
        · refine ⟨false, Ev.succ ?_, by simp [he]⟩
          simp only [merkhetref01_Same.l0]
          rw [rdSpA h1, rdSpA h2]
          exact Ev.pos (by omega) (Ev.pos (by omega) (Ev.pos (by omega) (Ev.pos ((hc _ _).2 he) (Ev.now _))))
    obtain ⟨r, hr, hr2⟩ := key a.length 0 (by omega) (by omega)
    exact ⟨r, Ev.pos (by omega) hr, by simpa using hr2⟩
  · exact ⟨false, Ev.neg (by omega) (Ev.now _), by simp; intro h; rw [h] at hl; exact hl rfl⟩
theorem same14 (a b : List EdB) (ha : a.length ≤ 1000) : ∃ r, Ev (fun k => merkhetref14_Same.f k a b) r ∧ (r = true ↔ a = b) := by
  unfold merkhetref14_Same.f
  by_cases hl : a.length = b.length
  · have key : ∀ (d i : Nat), a.length - i = d → i ≤ a.length → ∃ r, Ev (fun k => merkhetref14_Same.l0 k a b (i : Int)) r ∧ (r = true ↔ a.drop i = b.drop i) := by
      intro d
      induction d with
      | zero =>
        intro i hd hi
        refine ⟨true, Ev.succ ?_, ?_⟩
        · simp only [merkhetref14_Same.l0]; exact Ev.neg (by omega) (Ev.now _)
        · rw [List.drop_of_length_le (by omega), List.drop_of_length_le (by omega)]; simp
      | succ d ih =>
        intro i hd hi
        have h1 : i < a.length := by omega
        have h2 : i < b.length := by omega
        obtain ⟨r, hr, hr2⟩ := ih (i + 1) (by omega) (by omega)
        rw [drop_two h1 h2]
        have hc : ∀ s t : EdB, ((!(s.f0 == t.f0) || (!(s.f1 == t.f1) || (!(s.f2 == t.f2) || ((!(s.f3.f0 == t.f3.f0) || (!(s.f3.f1 == t.f3.f1))) || (!(s.f4 == t.f4)))))) = true) ↔ ¬ s = t := by
          intro s t
          obtain ⟨s0, s1, s2, ⟨s3, s4⟩, s5⟩ := s
          obtain ⟨t0, t1, t2, ⟨t3, t4⟩, t5⟩ := t
          simp only [Bool.or_eq_true, Bool.not_eq_true', beq_eq_false_iff_ne, ne_eq, S64.mk.injEq, S62.mk.injEq, Classical.not_and_iff_not_or_not]
        by_cases he : a[i] = b[i]
        · refine ⟨r, Ev.succ ?_, by rw [hr2]; exact ⟨fun h => ⟨he, h⟩, fun h => h.2⟩⟩
          simp only [merkhetref14_Same.l0]
          rw [rdEdA h1, rdEdA h2, wrap_id (i := (i : Int) + 1) (by omega) (by omega)]
          exact Ev.pos (by omega) (Ev.pos (by omega) (Ev.pos (by omega) (Ev.neg (fun h => (hc _ _).1 h he) hr)))
        · refine ⟨false, Ev.succ ?_, by simp [he]⟩
          simp only [merkhetref14_Same.l0]
          rw [rdEdA h1, rdEdA h2]
          exact Ev.pos (by omega) (Ev.pos (by omega) (Ev.pos (by omega) (Ev.pos ((hc _ _).2 he) (Ev.now _))))
    obtain ⟨r, hr, hr2⟩ := key a.length 0 (by omega) (by omega)
    exact ⟨r, Ev.pos (by omega) hr, by simpa using hr2⟩
  · exact ⟨false, Ev.neg (by omega) (Ev.now _), by simp; intro h; rw [h] at hl; exact hl rfl⟩
theorem rdIn {l : List Int} {i : Nat} (h : i < l.length) : rd l (i : Int) = l[i] := by simp [rd, List.getD, h]
theorem same15 (a b : List Int) (ha : a.length ≤ 1000) : ∃ r, Ev (fun k => merkhetref15_Same.f k a b) r ∧ (r = true ↔ a = b) := by
  unfold merkhetref15_Same.f
  by_cases hl : a.length = b.length
  · have key : ∀ (d i : Nat), a.length - i = d → i ≤ a.length → ∃ r, Ev (fun k => merkhetref15_Same.l0 k a b (i : Int)) r ∧ (r = true ↔ a.drop i = b.drop i) := by
      intro d
      induction d with
      | zero =>
        intro i hd hi
        refine ⟨true, Ev.succ ?_, ?_⟩
        · simp only [merkhetref15_Same.l0]; exact Ev.neg (by omega) (Ev.now _)
        · rw [List.drop_of_length_le (by omega), List.drop_of_length_le (by omega)]; simp
      | succ d ih =>
        intro i hd hi
        have h1 : i < a.length := by omega
        have h2 : i < b.length := by omega
        obtain ⟨r, hr, hr2⟩ := ih (i + 1) (by omega) (by omega)
        rw [drop_two h1 h2]
        by_cases he : a[i] = b[i]
        · refine ⟨r, Ev.succ ?_, by rw [hr2]; exact ⟨fun h => ⟨he, h⟩, fun h => h.2⟩⟩
          simp only [merkhetref15_Same.l0]
          rw [rdIn h1, rdIn h2, wrap_id (i := (i : Int) + 1) (by omega) (by omega)]
          exact Ev.pos (by omega) (Ev.pos (by omega) (Ev.pos (by omega) (Ev.pos he hr)))
        · refine ⟨false, Ev.succ ?_, by simp [he]⟩
          simp only [merkhetref15_Same.l0]
          rw [rdIn h1, rdIn h2]
          exact Ev.pos (by omega) (Ev.pos (by omega) (Ev.pos (by omega) (Ev.neg he (Ev.now _))))
    obtain ⟨r, hr, hr2⟩ := key a.length 0 (by omega) (by omega)
    exact ⟨r, Ev.pos (by omega) hr, by simpa using hr2⟩
  · exact ⟨false, Ev.neg (by omega) (Ev.now _), by simp; intro h; rw [h] at hl; exact hl rfl⟩
theorem same09 (a b : List ByteArray) (ha : a.length ≤ 1000) : ∃ r, Ev (fun k => merkhetref09_Same.f k a b) r ∧ (r = true ↔ a = b) := by
  unfold merkhetref09_Same.f
  by_cases hl : a.length = b.length
  · have key : ∀ (d i : Nat), a.length - i = d → i ≤ a.length → ∃ r, Ev (fun k => merkhetref09_Same.l0 k a b (i : Int)) r ∧ (r = true ↔ a.drop i = b.drop i) := by
      intro d
      induction d with
      | zero =>
        intro i hd hi
        refine ⟨true, Ev.succ ?_, ?_⟩
        · simp only [merkhetref09_Same.l0]; exact Ev.neg (by omega) (Ev.now _)
        · rw [List.drop_of_length_le (by omega), List.drop_of_length_le (by omega)]; simp
      | succ d ih =>
        intro i hd hi
        have h1 : i < a.length := by omega
        have h2 : i < b.length := by omega
        obtain ⟨r, hr, hr2⟩ := ih (i + 1) (by omega) (by omega)
        rw [drop_two h1 h2]
        have hc : a[i].toList = b[i].toList ↔ a[i] = b[i] := by
          have := toList_inj (s := a[i]) (t := b[i])
          rw [Bool.eq_iff_iff, beq_iff_eq, decide_eq_true_eq] at this
          exact this
        by_cases he : a[i] = b[i]
        · refine ⟨r, Ev.succ ?_, by rw [hr2]; exact ⟨fun h => ⟨he, h⟩, fun h => h.2⟩⟩
          simp only [merkhetref09_Same.l0]
          rw [rdTxA h1, rdTxA h2, wrap_id (i := (i : Int) + 1) (by omega) (by omega)]
          exact Ev.pos (by omega) (Ev.pos (by omega) (Ev.pos (by omega) (Ev.pos (hc.2 he) hr)))
        · refine ⟨false, Ev.succ ?_, by simp [he]⟩
          simp only [merkhetref09_Same.l0]
          rw [rdTxA h1, rdTxA h2]
          exact Ev.pos (by omega) (Ev.pos (by omega) (Ev.pos (by omega) (Ev.neg (fun h => he (hc.1 h)) (Ev.now _))))
    obtain ⟨r, hr, hr2⟩ := key a.length 0 (by omega) (by omega)
    exact ⟨r, Ev.pos (by omega) hr, by simpa using hr2⟩
  · exact ⟨false, Ev.neg (by omega) (Ev.now _), by simp; intro h; rw [h] at hl; exact hl rfl⟩
theorem same20 (a b : AnB) (h : okA a) : ∃ r, Ev (fun k => merkhetref20_Same.f k a.f0 a.f1 a.f2 a.f3 a.f4 a.f5 b.f0 b.f1 b.f2 b.f3 b.f4 b.f5) r ∧ (r = true ↔ a = b) := by
  obtain ⟨⟨h1, _⟩, ⟨h2, _⟩, ⟨h3, _⟩, ⟨h4, _⟩, ⟨h5, _⟩⟩ := h
  obtain ⟨r1, e1, s1⟩ := same01 a.f1 b.f1 (by omega)
  obtain ⟨r2, e2, s2⟩ := same15 a.f2 b.f2 (by omega)
  obtain ⟨r3, e3, s3⟩ := same09 a.f3 b.f3 (by omega)
  obtain ⟨r4, e4, s4⟩ := same15 a.f4 b.f4 (by omega)
  obtain ⟨r5, e5, s5⟩ := same14 a.f5 b.f5 (by omega)
  unfold merkhetref20_Same.f
  have hab : a = b ↔ a.f0 = b.f0 ∧ a.f1 = b.f1 ∧ a.f2 = b.f2 ∧ a.f3 = b.f3 ∧ a.f4 = b.f4 ∧ a.f5 = b.f5 := by
    cases a; cases b; simp
  rw [hab]
  by_cases q0 : a.f0 = b.f0
  · cases r1 with
    | false => exact ⟨false, Ev.pos q0 (Ev.bind e1 (Ev.neg (by simp) (Ev.now _))), by rw [← s1]; simp⟩
    | true =>
      cases r2 with
      | false => exact ⟨false, Ev.pos q0 (Ev.bind e1 (Ev.pos rfl (Ev.bind e2 (Ev.neg (by simp) (Ev.now _))))), by rw [← s2]; simp⟩
      | true =>
        cases r3 with
        | false => exact ⟨false, Ev.pos q0 (Ev.bind e1 (Ev.pos rfl (Ev.bind e2 (Ev.pos rfl (Ev.bind e3 (Ev.neg (by simp) (Ev.now _))))))), by rw [← s3]; simp⟩
        | true =>
          cases r4 with
          | false => exact ⟨false, Ev.pos q0 (Ev.bind e1 (Ev.pos rfl (Ev.bind e2 (Ev.pos rfl (Ev.bind e3 (Ev.pos rfl (Ev.bind e4 (Ev.neg (by simp) (Ev.now _))))))))), by rw [← s4]; simp⟩
          | true => exact ⟨r5, Ev.pos q0 (Ev.bind e1 (Ev.pos rfl (Ev.bind e2 (Ev.pos rfl (Ev.bind e3 (Ev.pos rfl (Ev.bind e4 (Ev.pos rfl (Ev.bind e5 (Ev.now _)))))))))), by rw [s5]; exact ⟨fun h => ⟨q0, s1.1 rfl, s2.1 rfl, s3.1 rfl, s4.1 rfl, h⟩, fun h => h.2.2.2.2.2⟩⟩
  · exact ⟨false, Ev.neg q0 (Ev.now _), by simp [q0]⟩

/-! Not too great. -/
theorem great21 (a : AnB) : ∃ b, Ev (fun k => merkhetlaw21_Great.f k a.f0 a.f1 a.f2 a.f3 a.f4 a.f5) b ∧ (b = false → a.f1.length ≤ 60 ∧ (∀ x ∈ a.f1, x.f4.size ≤ 100 ∧ x.f5.size ≤ 100) ∧ a.f2.length ≤ 100 ∧ a.f3.length ≤ 60 ∧ (∀ x ∈ a.f3, x.size ≤ 100) ∧ a.f4.length ≤ 60 ∧ a.f5.length ≤ 60) := by
  unfold merkhetlaw21_Great.f
  obtain ⟨g, hg, hg2⟩ := great_ev a.f1
  have yes : Ev (fun k => merkhetlaw21_Great.j0 k true a.f0 a.f1 a.f2 a.f3 a.f4 a.f5) true := by
    refine Ev.succ ?_
    simp only [merkhetlaw21_Great.j0]
    exact Ev.pos trivial (Ev.now _)
  cases g with
  | true => exact ⟨true, Ev.bind hg (Ev.pos rfl yes), by simp⟩
  | false =>
    obtain ⟨h1, h1'⟩ := hg2 rfl
    by_cases h2 : (a.f2.length : Int) > 100
    · exact ⟨true, Ev.bind hg (Ev.neg (by simp) (Ev.pos h2 yes)), by simp⟩
    by_cases h3 : (a.f3.length : Int) > 60
    · exact ⟨true, Ev.bind hg (Ev.neg (by simp) (Ev.neg h2 (Ev.pos h3 yes))), by simp⟩
    by_cases h4 : (a.f4.length : Int) > 60
    · exact ⟨true, Ev.bind hg (Ev.neg (by simp) (Ev.neg h2 (Ev.neg h3 (Ev.pos h4 yes)))), by simp⟩
    by_cases h5 : (a.f5.length : Int) > 60
    · refine ⟨true, Ev.bind hg (Ev.neg (by simp) (Ev.neg h2 (Ev.neg h3 (Ev.neg h4 ?_)))), by simp⟩
      rw [decide_eq_true h5]; exact yes
    · have key : ∀ (d i : Nat), a.f3.length - i = d → i ≤ a.f3.length → ∃ b, Ev (fun k => merkhetlaw21_Great.l0 k a.f3 (a.f3.length : Int) (i : Int)) b ∧ (b = false → ∀ x ∈ a.f3.drop i, x.size ≤ 100) := by
        intro d
        induction d with
        | zero =>
          intro i hd hi
          refine ⟨false, Ev.succ ?_, fun _ x hx => ?_⟩
          · simp only [merkhetlaw21_Great.l0]; exact Ev.neg (by omega) (Ev.now _)
          · rw [List.drop_of_length_le (by omega)] at hx; cases hx
        | succ d ih =>
          intro i hd hi
          have hil : i < a.f3.length := by omega
          obtain ⟨b, hb, hb2⟩ := ih (i + 1) (by omega) (by omega)
          by_cases h6 : ((a.f3[i].size : Nat) : Int) > 100
          · refine ⟨true, Ev.succ ?_, by simp⟩
            simp only [merkhetlaw21_Great.l0]
            rw [rdTxA hil]
            exact Ev.pos (by omega) (Ev.pos (by omega) (Ev.pos (by omega) (Ev.pos h6 (Ev.now _))))
          · refine ⟨b, Ev.succ ?_, fun e x hx => ?_⟩
            · simp only [merkhetlaw21_Great.l0]
              rw [rdTxA hil, wrap_id (i := (i : Int) + 1) (by omega) (by omega)]
              exact Ev.pos (by omega) (Ev.pos (by omega) (Ev.pos (by omega) (Ev.neg h6 hb)))
            · rw [List.drop_eq_getElem_cons hil] at hx
              rcases List.mem_cons.1 hx with rfl | hx
              · omega
              · exact hb2 e x hx
      obtain ⟨b, hb, hb2⟩ := key a.f3.length 0 (by omega) (by omega)
      refine ⟨b, Ev.bind hg (Ev.neg (by simp) (Ev.neg h2 (Ev.neg h3 (Ev.neg h4 ?_)))), fun e => ⟨h1, h1', by omega, by omega, by simpa using hb2 e, by omega, by omega⟩⟩
      rw [decide_eq_false h5]
      refine Ev.succ ?_
      simp only [merkhetlaw21_Great.j0]
      exact Ev.neg (by simp) hb
theorem fixed21 : merkhetlaw21_fixed.f = some true := by
  unfold merkhetlaw21_fixed.f reply_Put.f
  rw [if_pos (by refine ⟨⟨by simp, by simp⟩, ⟨by simp, by simp⟩, ⟨by simp, by simp⟩, ⟨by simp, by simp⟩, by simp, by simp⟩)]
  have hm : mayAns ⟨0, [], [], [], [], []⟩ = true := rfl
  rw [hm]
  simp only [if_true, Option.bind_some]
  have e : answerB ⟨0, [], [], [], [], []⟩ = [0] := rfl
  rw [e, toList_data, strOfNums_data]
  rfl
theorem wfI {x : Int} (h : (Lit.int .i64 x).wf = true) : in64 x := wf_i64 h
theorem ok_wf {x : S27} (h : wf27 x) (hg : x.f1.length ≤ 60 ∧ (∀ s ∈ x.f1, s.f4.size ≤ 100 ∧ s.f5.size ≤ 100) ∧ x.f2.length ≤ 100 ∧ x.f3.length ≤ 60 ∧ (∀ s ∈ x.f3, s.size ≤ 100) ∧ x.f4.length ≤ 60 ∧ x.f5.length ≤ 60) : okA ⟨x.f0, x.f1, x.f2, x.f3, x.f4, x.f5⟩ := by
  obtain ⟨_, ⟨_, _, w1⟩, ⟨_, _, w2⟩, ⟨_, _, w3⟩, ⟨_, _, w4⟩, _, _, w5⟩ := h
  obtain ⟨g1, g1', g2, g3, g3', g4, g5⟩ := hg
  refine ⟨⟨g1, fun s hs => ?_⟩, ⟨g2, fun s hs => wfI (w2 s hs)⟩, ⟨g3, g3'⟩, ⟨g4, fun s hs => wfI (w4 s hs)⟩, ⟨g5, fun e he => wfI (w5 e he).2.2.1⟩⟩
  obtain ⟨u0, u1, u2, u3, u4, u5, u6, u7⟩ := w1 s hs
  have z := g1' s hs
  refine ⟨⟨wf_u64 u0, wf_u64 u1, wf_u64 u2, ?_⟩, wf_i64 u6, wf_i64 u7, u1, by omega, by omega⟩
  simp [Lit.wf, IntKind.min, IntKind.max, IntKind.signed, IntKind.bits] at u3
  omega
theorem put_is {a : AnB} (h : okA a) : reply_Put.f a.f0 a.f1 a.f2 a.f3 a.f4 a.f5 = some (if mayAns a = true then answerB a else [], if mayAns a = true then 0 else 1) := by
  unfold reply_Put.f
  rw [if_pos h]
theorem ReplyOne (x0 : S27) (x1 : S27) (w0 : wf27 x0) (w1 : wf27 x1) : ∃ k, merkhetlaw21_ReplyOne.f k x0.f0 x0.f1 x0.f2 x0.f3 x0.f4 x0.f5 x1.f0 x1.f1 x1.f2 x1.f3 x1.f4 x1.f5 = some true := by
  refine Ev.rounds (g := fun k => merkhetlaw21_ReplyOne.f k x0.f0 x0.f1 x0.f2 x0.f3 x0.f4 x0.f5 x1.f0 x1.f1 x1.f2 x1.f3 x1.f4 x1.f5) ?_
  obtain ⟨b0, e0, f0⟩ := great21 ⟨x0.f0, x0.f1, x0.f2, x0.f3, x0.f4, x0.f5⟩
  obtain ⟨b1, e1, f1⟩ := great21 ⟨x1.f0, x1.f1, x1.f2, x1.f3, x1.f4, x1.f5⟩
  unfold merkhetlaw21_ReplyOne.f
  have skip : Ev (fun k => merkhetlaw21_ReplyOne.j0 k true x0.f0 x0.f1 x0.f2 x0.f3 x0.f4 x0.f5 x1.f0 x1.f1 x1.f2 x1.f3 x1.f4 x1.f5) true := by
    refine Ev.succ ?_
    simp only [merkhetlaw21_ReplyOne.j0]
    exact Ev.pos trivial (Ev.bind (Ev.const fixed21) (Ev.now _))
  cases b0 with
  | true => exact Ev.bind e0 (Ev.pos rfl skip)
  | false =>
    refine Ev.bind e0 (Ev.neg (by simp) (Ev.bind e1 ?_))
    cases b1 with
    | true => exact skip
    | false =>
      have h0 := ok_wf w0 (f0 rfl)
      have h1 := ok_wf w1 (f1 rfl)
      have p0 := put_is h0
      have p1 := put_is h1
      have n0 := fun hm => mayAns_in h0 hm
      have n1 := fun hm => mayAns_in h1 hm
      obtain ⟨r, er, hr⟩ := same20 _ ⟨x1.f0, x1.f1, x1.f2, x1.f3, x1.f4, x1.f5⟩ h0
      have no : ∀ (c d : List Int), Ev (fun k => merkhetlaw21_ReplyOne.j1 k c d true x0.f0 x0.f1 x0.f2 x0.f3 x0.f4 x0.f5 x1.f0 x1.f1 x1.f2 x1.f3 x1.f4 x1.f5) true := by
        intro c d
        refine Ev.succ ?_
        simp only [merkhetlaw21_ReplyOne.j1]
        exact Ev.pos trivial (Ev.bind (Ev.const fixed21) (Ev.now _))
      refine Ev.succ ?_
      simp only [merkhetlaw21_ReplyOne.j0]
      refine Ev.neg (by simp) (Ev.bind (Ev.const p0) (Ev.bind (Ev.const p1) ?_))
      cases q0 : mayAns ⟨x0.f0, x0.f1, x0.f2, x0.f3, x0.f4, x0.f5⟩ with
      | false => exact Ev.neg (by simp) (no _ _)
      | true =>
        refine Ev.pos (by simp) ?_
        cases q1 : mayAns ⟨x1.f0, x1.f1, x1.f2, x1.f3, x1.f4, x1.f5⟩ with
        | false => exact no _ _
        | true =>
          have t0 := (n0 q0).1
          have t1 := (n1 q1).1
          refine Ev.succ ?_
          simp only [merkhetlaw21_ReplyOne.j1]
          refine Ev.neg (by simp) (Ev.bind (Ev.const fixed21) (Ev.pos rfl (Ev.bind er (Ev.cast (Ev.now _) ?_))))
          simp only [if_true]
          rw [beq_iff_eq, Bool.eq_iff_iff, str_eq (byt_answer t0) (byt_answer t1), hr]
          exact ⟨answerB_inj t0 t1, fun e => by rw [e]⟩

end Go.Proofs.YtljkikcclnbdaaaDoor.Pure

