/- span.Sort: a copy of the spans, in their order: by the library's contract of slices.SortFunc and the order's own (cmp_grow). -/
import Derived.Test.YtkpmaenhkjfncaaCmpG
import Derived.Test.YtkpmaenhkjfncaaLibB
import Derived.Test.YtkpmaenhkjfncaaShelf
import Derived.Test.YtkpmaenhkjfncaaWGuard
namespace Go.Proofs.Ytkpmaenhkjfncaa.L
open Go.RowKit Go.Proofs.Ytkpmaenhkjfncaa.Q Go.Proofs.YtkpmaenhkjfncaaW.PrintWords Go.Proofs.YtkpmaenhkjfncaaW.PrintLast Go.Proofs.YtkpmaenhkjfncaaW.PrintMore Go.Proofs.YtkpmaenhkjfncaaW.Lib Go.Proofs.YtkpmaenhkjfncaaW.RowB Go.Sort Go.Lib
set_option linter.unusedVariables false

/-- Spans in order. -/
def sortL (l : List S27) : List S27 := l.mergeSort fun x y => !ltOf cmpS y x
def encS (x : S27) : List Value := [.int .u64 x.f0, .int .u64 x.f1, .int .u64 x.f2, .int .u8 x.f3, .string x.f4, .string x.f5, .int .i64 x.f6, .int .i64 x.f7]
instance : Inhabited S27 := ⟨z27⟩
theorem swoS : SWO (ltOf cmpS) := by
  refine ⟨fun x => ?_, fun x y z h1 h2 => ?_, fun x y z h1 h2 => ?_⟩
  · have := (cmpS_is.zero x x).2 rfl
    simp [ltOf, this]
  · simp only [ltOf, decide_eq_true_eq] at *
    have t := cmpS_is.trans x y z (by omega) (by omega)
    rcases Int.lt_or_eq_of_le t with h | h
    · exact h
    · have e := (cmpS_is.zero x z).1 h
      subst e
      have := cmpS_is.anti x y
      omega
  · simp only [ltOf, decide_eq_false_iff_not, Int.not_lt] at *
    have a1 := cmpS_is.anti x y
    have a2 := cmpS_is.anti y z
    have a3 := cmpS_is.anti x z
    have t := cmpS_is.trans z y x (by omega) (by omega)
    omega
theorem totS (x y : S27) (h1 : ltOf cmpS x y = false) (h2 : ltOf cmpS y x = false) : x = y := by
  simp only [ltOf, decide_eq_false_iff_not, Int.not_lt] at *
  have a1 := cmpS_is.anti x y
  exact (cmpS_is.zero x y).1 (by omega)

theorem clone_calls (l : List S27) (hl : l.length ≤ 1759218604441) (A : Option Addr) (c : Nat) (w : World) (hr : Kd.C k27 w A l.length l) (hc : l.length ≤ c) :
    Calls Try.prog 46 #[.slice A l.length c] w fun e w' => ∃ v : Value, e = .returned v ∧ Kd.R k27 27 w' w.heap.size (fun _ => True) v l ∧ Below w.heap.size w w' := by
  have q : ∀ (w : World) (a : Option Addr) (n c n' c' : Nat), (binOp .eql 23 (.slice a n c) (.slice none n' c')).run Try.prog w = .ok (.bool a.isNone) w := fun w a n c n' c' => Go.Lib.run_eql_slice_nil w _ _ a n c n' c' Try.underlying23
  cases A with
  | none =>
    have h0 : l = [] := by
      cases l with
      | nil => rfl
      | cons x l => obtain ⟨ad, h, _⟩ := hr.2.2 (by simp); exact absurd h (by simp)
    subst h0
    go_enter Try.func46, Try.ntmps46
    go_wp2
    go_ret
    exact ⟨_, rfl, Kd.R_nil _ _ _ _ _, Below.refl _ _⟩
  | some ad =>
    have HR0 := Aside0.mk hr
    clear hr
    have HL := Aside0.mk hl
    clear hl
    go_enter Try.func46, Try.ntmps46
    go_wp2_with (first
      | ((with_reducible refine gate_dst (N := 5) rfl ?_); refine Kd.R_lit k27 _ 27 ?hg (N := 5) ?hd (xs := ([] : List (S27))) (inner := []) (ok := fun _ => True) (okp := fun _ => True) ?hr ?hp (fun _ hk => hk) trivial (Below.refl _ _) (Nat.le_refl _) (by simp) ?_; (case hd => rfl); (case hg => rfl); (case hr => first | (go_simp; done) | (go_simp; rfl)); (case hp => exact (Reps.none _ _)); intro v1 w1 ho hb hg_ hnew_; clear hg_ hnew_; have HO := Aside0.mk ho; have HB := Aside0.mk hb; clear ho hb)
      | ((with_reducible refine gate_builtin (b := .append) (xs := #[.tmp 5, .tmp 6]) rfl ?_); at_builtin; refine Kd.R_append_rows k27 (w0 := w) w.heap.size rfl (.tmp 5) (.tmp 6) 23 27 (.agg #[(.int .u64 0), (.int .u64 0), (.int .u64 0), (.int .u8 0), (.string ⟨#[]⟩), (.string ⟨#[]⟩), (.int .i64 0), (.int .i64 0)]) 80 rfl Try.underlying23 info27 rfl (by decide) (by omega) v1 [] l _ _ _ (fun _ => True) (fun _ => False) rfl rfl ?aO ?aR (fun _ _ h => h) (fun _ h => h.elim) ?aF ?aB ?aS ?aL ?_; (case aR => exact (Kd.C_below HR0.out HB.out)); (case aB => exact HB.out); (case aF => exact (fun _ _ => trivial)); (case aO => exact HO.out); (case aS => exact HB.out.size); (case aL => have := HL.out; simp only [List.length_nil]; omega); intro v2 w2 ho hb hg hat; rw [List.nil_append] at ho; have HB2 := Aside0.mk hb; have HO2 := Aside0.mk ho; clear ho hb hg hat))
    go_ret
    exact ⟨_, rfl, HO2.out, HB2.out⟩

theorem cmp_lays (blk off size : Nat) (w : World) : CmpLays Try.prog 50 #[] encS 8 cmpS blk off size w := fun _ _ _ _ x y => cmp_grow x y _

set_option maxHeartbeats 1000000 in
theorem sort_calls (l : List S27) (hl : l.length ≤ 1759218604441) (A : Option Addr) (c : Nat) (w : World) (hr : Kd.C k27 w A l.length l) (hc : l.length ≤ c) :
    Calls Try.prog 51 #[.slice A l.length c] w fun e w' => ∃ v : Value, e = .returned v ∧ Kd.R k27 27 w' w.heap.size (fun _ => True) v (sortL l) ∧ Below w.heap.size w w' := by
  have hcl := clone_calls l hl A c w hr hc
  have hlen : (sortL l).length = l.length := List.length_mergeSort _
  -- what the sort does to the copy
  have hsort : ∀ (v : Value) (w1 : World), Kd.R k27 27 w1 w.heap.size (fun _ => True) v l → Below w.heap.size w w1 →
      Calls Try.prog 68 #[v, .func (.func 50) #[] #[]] w1 fun e w' => e = .returned (.tuple #[]) ∧ Kd.R k27 27 w' w.heap.size (fun _ => True) v (sortL l) ∧ Below w.heap.size w w' := by
    intro v w1 hR hB
    obtain ⟨hok, inner, how, hre⟩ := hR
    have hre' : Reps (fun x c => c = encS x) 8 l inner := hre.imp_ (fun x c h => k27_openM h)
    by_cases h0 : l = []
    · subst h0
      have hv : ∃ p cap, v = .slice p 0 cap := by
        rcases how.2 with ⟨h, _⟩ | ⟨g, cap, cur, h, _⟩
        · exact ⟨none, 0, h⟩
        · exact ⟨_, cap, h⟩
      obtain ⟨p, cap, rfl⟩ := hv
      refine (AnyF.slices_SortFunc_none Try.sortSpan p cap (.func (.func 50) #[] #[]) w1).mono ?_
      rintro e w' ⟨rfl, rfl⟩
      have hs0 : sortL [] = [] := by simp [sortL]
      exact ⟨rfl, by rw [hs0]; exact ⟨hok, inner, how, hre⟩, hB⟩
    · have hpos : 0 < l.length := by
        rcases Nat.eq_zero_or_pos l.length with h | h
        · exact absurd (List.length_eq_zero_iff.1 h) h0
        · exact h
      rcases how.2 with ⟨_, h⟩ | ⟨g, cap, cur, rfl, hg, hh, hcap, hcm, hcs, htake⟩
      · omega
      have hH : HoldsK encS 8 w1 g 0 l.toArray := holdsK_of (enc := encS) (k := 8) (l := l) (fun _ => rfl) hh htake hre'
      have hlt : g < w1.heap.size := (Array.getElem?_eq_some_iff.1 hh).1
      have eg : ∀ args w, (callFunc 50 args).run Try.prog w = .ok (.enter 50 args) w := enters_of Try.func50 (by kernel_rfl) rfl
      have hcon := AnyQ.slices_SortFunc_total Try.sortSpan 8 Try.isAgg27 Try.sizeOf27 encS (fun _ => rfl) (fun x v hv => by simp [encS] at hv; rcases hv with rfl | rfl | rfl | rfl | rfl | rfl | rfl | rfl <;> rfl) cmpS swoS 50 #[] g 0 cap l.toArray w1 eg (cmp_lays g 0 l.toArray.size w1) hH hlt (by simp; omega) totS
      have hcon2 : Calls Try.prog 68 #[.slice (some ⟨g, 0, none⟩) l.length cap, .func (.func 50) #[] #[]] w1 _ := hcon
      refine hcon2.mono ?_
      rintro e w' ⟨rfl, n, os, rfl⟩
      have hds : ((l.toArray.toList.mergeSort fun x y => !ltOf cmpS y x).toArray).size = l.length := by simp
      obtain ⟨inner', how', hre2⟩ := own_sorted (n := n) (os := os) (d := (l.toArray.toList.mergeSort fun x y => !ltOf cmpS y x).toArray) (base := w.heap.size) (enc := encS) (fun _ => rfl) hg hh (by rw [hds]; exact hcap) hcm hcs
      rw [hds] at how'
      refine ⟨rfl, ⟨fun _ _ => trivial, inner', by rw [hlen]; exact how', ?_⟩, hB.trans (below_sorted hg hB.size)⟩
      exact hre2.imp_ (fun x c h => by rw [h]; exact k27_mkM _ _ _ x)
  have HS := Aside0.mk hsort
  clear hsort
  have HC := Aside0.mk hcl
  clear hcl hr
  generalize sortL l = sl at *
  go_enter Try.func51, Try.ntmps51
  go_wp2_with (first
    | (go_at_call 46; refine HC.out.mono ?_; rintro e w1 ⟨v, rfl, ho, hb⟩; have HO := Aside0.mk ho; have HB := Aside0.mk hb; clear ho hb)
    | (go_at_call 68; refine (HS.out _ _ HO.out HB.out).mono ?_; rintro e w2 ⟨rfl, ho, hb⟩; have HO2 := Aside0.mk ho; have HB2 := Aside0.mk hb; clear ho hb))
  go_ret
  exact ⟨_, rfl, HO2.out, HB2.out⟩
end Go.Proofs.Ytkpmaenhkjfncaa.L
