/- Texts joined by wip/tools/merge.py: Bx0 Bx1 RlxB RlxC Xx0 BndC BndD NumH BndE BndF MayS ClaC EdgC GapR CycP CycA CycG CycL Qx10 Qx11 ParR CycQ CycV ParP ParG CycW UpR RightG KidP RowP GDat RowM. -/
import Derived.Test.YtgknjgionicncaaGreatProg
import Derived.Below
import Derived.Deep.Draws
import Derived.Deep.AppendLies
import Derived.Maps.AppendAt
import Derived.OwnWalk
import Derived.Laws.BytesArg
import Derived.Laws.MakeOwn
import Derived.Laws.OwnMore
import Derived.Deep.OwnRows
import Derived.Tactics
import Derived.Lib.ConvBytes
import Derived.Laws.Slices
import Derived.WalkKit
import Derived.KernelRfl
import Derived.RowKit3
import Derived.Deep.LoopGhost
import Derived.Deep.QuietTactic
import Derived.BigQuiet
import Derived.WideLaws
import Derived.Deep.DeepCutAuto
import Derived.Deep.CutBlock
import Derived.Deep.RegionHeld3
import Derived.Laws.Rows
import Derived.Lib.AppendStr
import Derived.ArgAppend
import Derived.Laws.IdiomCopy
import Derived.OrdersHeld
import Derived.Laws.BitsLemmas
import Derived.RowKit
import Derived.Test.YtgknjgionicncaaGreatJVerdictSet0
import Derived.Test.YtgknjgionicncaaGreatJVerdictSet1
import Derived.Test.YtgknjgionicncaaGreatJVerdictSet13
import Derived.Test.YtgknjgionicncaaGreatJVerdictSet14
import Derived.Test.YtgknjgionicncaaGreatJVerdictSet2
import Derived.Test.YtgknjgionicncaaGreatJVerdictSet3
import Derived.Test.YtgknjgionicncaaGreatJVerdictSet4
import Derived.Test.YtgknjgionicncaaGreatJVerdictSet5
import Derived.Test.YtgknjgionicncaaGreatJVerdictSet6
import Derived.Test.YtgknjgionicncaaGreatJVerdictSet7
import Derived.Test.YtgknjgionicncaaGreatJVerdictSet8
import Derived.Test.YtgknjgionicncaaGreatJVerdictSet9
import Derived.Test.YtgknjgionicncaaGreatJVerdictSet15
import Derived.Test.YtgknjgionicncaaGreatJVerdictSet16
import Derived.Test.YtgknjgionicncaaGreatJVerdictSet17
import Derived.Test.YtgknjgionicncaaGreatJVerdictSet18
import Derived.Test.YtgknjgionicncaaGreatJVerdictSet19
import Derived.Test.YtgknjgionicncaaGreatJVerdictSet20
import Derived.Test.YtgknjgionicncaaGreatJVerdictSet21
import Derived.Test.YtgknjgionicncaaGreatJVerdictSet10
import Derived.Test.YtgknjgionicncaaGreatJVerdictSet11
import Derived.Test.YtgknjgionicncaaGreatJVerdictSet22
import Derived.Test.YtgknjgionicncaaGreatJVerdictSet12
import Derived.Test.YtgknjgionicncaaGreatJVerdictSet24
import Derived.WalkSpells
import Derived.Laws.CopyOwn
import Derived.Laws.Bits64b
import Derived.RegionTactic
import Derived.BigRegion
import Derived.Deep.RegionLaw
import Derived.WalkArith
import Derived.StringKeys
import Derived.Lib.AppendZeros
import Derived.Lib.OwnBridge
import Derived.Lib.SliceRun
import Derived.StillTailTactics
import Derived.RangeFuncBox
import Derived.WalkMore
import Derived.Maps.OwnRows
namespace Go.Proofs.YtgknjgionicncaaGreat.B
open Go.RowKit Go.Proofs.YtgknjgionicncaaGreat.Q Go.Proofs.YtgknjgionicncaaGreatW.PrintWords Go.Proofs.YtgknjgionicncaaGreatW.PrintLast Go.Proofs.YtgknjgionicncaaGreatW.PrintMore
attribute [local go_sem] max2_int min2_int max_two min_two max_three min_three max_four min_four
set_option linter.unusedVariables false
set_option linter.unusedSimpArgs false
def bits_Mul64.f (a0 : Int) (a1 : Int) : Option (Int × Int) := some (IntKind.u64.wrap ((IntKind.u64.wrap ((IntKind.u64.wrap ((a0 / 4294967296) * (a1 / 4294967296))) + ((IntKind.u64.wrap ((IntKind.u64.wrap ((a0 / 4294967296) * (Go.bits .and .u64 a1 4294967295))) + ((IntKind.u64.wrap ((Go.bits .and .u64 a0 4294967295) * (Go.bits .and .u64 a1 4294967295))) / 4294967296))) / 4294967296))) + ((IntKind.u64.wrap ((Go.bits .and .u64 (IntKind.u64.wrap ((IntKind.u64.wrap ((a0 / 4294967296) * (Go.bits .and .u64 a1 4294967295))) + ((IntKind.u64.wrap ((Go.bits .and .u64 a0 4294967295) * (Go.bits .and .u64 a1 4294967295))) / 4294967296))) 4294967295) + (IntKind.u64.wrap ((Go.bits .and .u64 a0 4294967295) * (a1 / 4294967296))))) / 4294967296)), IntKind.u64.wrap (a0 * a1))
set_option maxHeartbeats 8000000 in
set_option maxRecDepth 100000 in
theorem bits_Mul64.calls (a0 : Int) (a1 : Int) (r1 : Int) (r2 : Int) (w : World) (h : bits_Mul64.f a0 a1 = some (r1, r2)) :
  Calls Tryz.prog 183 #[.int .u64 a0, .int .u64 a1] w fun e w' => e = .returned (.tuple #[.int .u64 r1, .int .u64 r2]) ∧ Drawn0 w w' := by
 have H : (some (IntKind.u64.wrap ((IntKind.u64.wrap ((IntKind.u64.wrap ((a0 / 4294967296) * (a1 / 4294967296))) + ((IntKind.u64.wrap ((IntKind.u64.wrap ((a0 / 4294967296) * (Go.bits .and .u64 a1 4294967295))) + ((IntKind.u64.wrap ((Go.bits .and .u64 a0 4294967295) * (Go.bits .and .u64 a1 4294967295))) / 4294967296))) / 4294967296))) + ((IntKind.u64.wrap ((Go.bits .and .u64 (IntKind.u64.wrap ((IntKind.u64.wrap ((a0 / 4294967296) * (Go.bits .and .u64 a1 4294967295))) + ((IntKind.u64.wrap ((Go.bits .and .u64 a0 4294967295) * (Go.bits .and .u64 a1 4294967295))) / 4294967296))) 4294967295) + (IntKind.u64.wrap ((Go.bits .and .u64 a0 4294967295) * (a1 / 4294967296))))) / 4294967296)), IntKind.u64.wrap (a0 * a1))) = some (r1, r2) := h
 clear h
 simp only [Option.some.injEq, Prod.mk.injEq] at H
 obtain ⟨rfl, rfl⟩ := H
 go_enter Tryz.func183, Tryz.ntmps183
 go_wp2
 go_ret2
 exact ⟨zE, by repeat (first | exact Drawn0.refl _ | apply Drawn0.step)⟩
def bits_Mul.f (a0 : Int) (a1 : Int) : Option (Int × Int) := (bits_Mul64.f a0 a1).bind fun bt101 => (some (bt101.1, bt101.2))
set_option maxHeartbeats 8000000 in
set_option maxRecDepth 100000 in
theorem bits_Mul.calls (a0 : Int) (a1 : Int) (r1 : Int) (r2 : Int) (w : World) (h : bits_Mul.f a0 a1 = some (r1, r2)) :
  Calls Tryz.prog 172 #[.int .u64 a0, .int .u64 a1] w fun e w' => e = .returned (.tuple #[.int .u64 r1, .int .u64 r2]) ∧ Drawn0 w w' := by
 have H : ((bits_Mul64.f a0 a1).bind fun bt101 => (some (bt101.1, bt101.2))) = some (r1, r2) := h
 clear h
 replace H := Option.bind_eq_some_iff.mp H
 obtain ⟨⟨t101, t102⟩, A30, H⟩ := H
 dsimp only at H
 have A3 := Aside0.mk A30
 clear A30
 simp only [Option.some.injEq, Prod.mk.injEq] at H
 obtain ⟨rfl, rfl⟩ := H
 go_enter Tryz.func172, Tryz.ntmps172
 go_wp2_with (first | ((with_reducible refine gate_callee (f := 183) rfl ?_); refine goesL_ (some 25) rfl rfl Tryz.func183 (by kernel_rfl) rfl #[.int .u64 a0, .int .u64 a1] rfl zL ?_; (with_reducible refine (bits_Mul64.calls a0 a1 t101 t102 _ A3.out).mono ?_); rintro e w' ⟨rfl, ⟨nd, rfl⟩⟩; refine ⟨_, rfl, ?_⟩))
 go_ret2
 exact ⟨zE, by repeat (first | exact Drawn0.refl _ | apply Drawn0.step)⟩
end Go.Proofs.YtgknjgionicncaaGreat.B
namespace Go.Proofs.YtgknjgionicncaaGreat.L
open Go.RowKit Go.Proofs.YtgknjgionicncaaGreat.Q Go.Proofs.YtgknjgionicncaaGreatW.PrintWords Go.Proofs.YtgknjgionicncaaGreatW.PrintLast Go.Proofs.YtgknjgionicncaaGreatW.PrintMore Go.Proofs.YtgknjgionicncaaGreatW.MapB Go.Proofs.YtgknjgionicncaaGreatW.Lib
set_option linter.unusedVariables false
set_option linter.unusedSimpArgs false
set_option maxHeartbeats 1000000 in
theorem clone64_calls (l : List Int) (hl : l.length ≤ 17592186044416) (A : Option Addr) (c : Nat) (w : World) (hr : Kd.C (Kd.int .i64) w A l.length l) (hc : l.length ≤ c) :
  Calls Tryz.prog 147 #[.slice A l.length c] w fun e w' => ∃ v : Value, e = .returned v ∧ Kd.R (Kd.int .i64) 2 w' w.heap.size (fun _ => True) v l ∧ Below w.heap.size w w' := by
 have q : ∀ (w : World) (a : Option Addr) (n c n' c' : Nat), (binOp .eql 27 (.slice a n c) (.slice none n' c')).run Tryz.prog w = .ok (.bool a.isNone) w := fun w a n c n' c' => Go.Lib.run_eql_slice_nil w _ _ a n c n' c' Tryz.underlying27
 cases A with
 | none =>
  have h0 : l = [] := by
   cases l with
   | nil => rfl
   | cons x l => obtain ⟨ad, h, _⟩ := hr.2.2 (by simp); exact absurd h (by simp)
  subst h0
  go_enter Tryz.func147, Tryz.ntmps147
  go_wp2
  go_ret
  exact ⟨_, rfl, Kd.R_nil _ _ _ _ _, Below.refl _ _⟩
 | some ad =>
  have HR0 := Aside0.mk hr
  clear hr
  have HL := Aside0.mk hl
  clear hl
  go_enter Tryz.func147, Tryz.ntmps147
  go_wp2_with (first
   | ((with_reducible refine gate_dst (N := 5) rfl ?_); refine Kd.R_lit (Kd.int .i64) _ 2 ?hg (N := 5) ?hd (xs := ([] : List Int)) (inner := []) (ok := fun _ => True) (okp := fun _ => True) ?hr ?hp (fun _ hk => hk) trivial (Below.refl _ _) (Nat.le_refl _) (by simp) ?_; (case hd => rfl); (case hg => rfl); (case hr => first | (go_simp; done) | (go_simp; rfl)); (case hp => exact (Reps.none _ _)); intro v1 w1 ho hb hg_ hnew_; clear hg_ hnew_; have HO := Aside0.mk ho; have HB := Aside0.mk hb; clear ho hb)
   | ((with_reducible refine gate_builtin (b := .append) (xs := #[.tmp 5, .tmp 6]) rfl ?_); at_builtin; refine Kd.R_append_rows (Kd.int .i64) (w0 := w) w.heap.size rfl (.tmp 5) (.tmp 6) 27 2 (.int .i64 0) 8 rfl Tryz.underlying27 (by kernel_rfl) rfl (by decide) (by omega) v1 [] l _ _ _ (fun _ => True) (fun _ => False) rfl rfl ?aO ?aR (fun _ _ h => h) (fun _ h => h.elim) ?aF ?aB ?aS ?aL ?_; (case aR => exact (Kd.C_below HR0.out HB.out)); (case aB => exact HB.out); (case aF => exact (fun _ _ => trivial)); (case aO => exact HO.out); (case aS => exact HB.out.size); (case aL => have := HL.out; simp only [List.length_nil]; omega); intro v2 w2 ho hb hg hat; rw [List.nil_append] at ho; have HB2 := Aside0.mk hb; have HO2 := Aside0.mk ho; clear ho hb hg hat))
  go_ret
  exact ⟨_, rfl, HO2.out, HB2.out⟩
theorem heap_madeR (W : World) (z : Value) (n : Nat) (e : TypeId) : (W.alloc (.cells (madeCells #[z] n) e)).heap[W.heap.size]? = some (.cells (List.replicate n z).toArray e (0, 0)) := by
 have h := (MapKept.heap_alloc W (.cells (madeCells #[z] n) e)).1
 have e1 : madeCells #[z] n = (List.replicate n z).toArray := by
  apply Array.ext
  ·simp [madeCells]
  ·intro i h1 h2
   simp [madeCells, Nat.mod_one]
 exact h.trans (by rw [e1])
theorem rep_cells {w : World} (v : Value) (m : Nat) (ad : Addr) (u : World) (hm : m ≤ 1) (h : u.cell? ad = some v) : ∀ (j : Nat) (x : Value), (List.replicate m v)[j]? = some x → u.cell? (ad.add j) = some x := by
 intro j x hx
 have hj : j < m := by
  rcases Nat.lt_or_ge j m with h | h
  ·exact h
  ·rw [List.getElem?_eq_none (by rw [List.length_replicate]; exact h)] at hx; cases hx
 obtain rfl : j = 0 := by omega
 rw [List.getElem?_replicate, if_pos hj] at hx
 cases hx
 rw [Addr.add_zero']
 exact h
theorem rep_src {w : World} {g m k : Nat} {x : Value} {zs : List Value} {e : TypeId} (h : w.heap[g]? = some (.cells (List.replicate m x ++ zs).toArray e (0, 0))) (hk : k ≤ m) : ∀ (j : Nat) (v : Value), (List.replicate k x)[j]? = some v → w.drew.cell? ((⟨g, 0, none⟩ : Addr).add j) = some v := by
 intro j v hv
 have hj : j < k := by
  rcases Nat.lt_or_ge j k with h | h
  ·exact h
  ·rw [List.getElem?_eq_none (by rw [List.length_replicate]; exact h)] at hv; cases hv
 rw [List.getElem?_replicate, if_pos hj] at hv
 cases hv
 have h2 := blk_cell h j
 have e1 : ((⟨g, 0, none⟩ : Addr).add j) = ⟨g, j, none⟩ := by rw [Addr.add_lit, Nat.zero_add]
 rw [e1]
 refine Eq.trans (show w.drew.cell? ⟨g, j, none⟩ = w.cell? ⟨g, j, none⟩ from rfl) (h2.trans ?_)
 simp [List.getElem?_append_left, List.length_replicate, show j < m by omega]
theorem own_rep {w : World} {g n base : Nat} {v : Value} {e : TypeId} (hg : w.heap[g]? = some (.cells (List.replicate n v).toArray e (0, 0))) (hb : base ≤ g) (hn : n ≤ 1000000) : w.ownsRow base e 1 (.slice (some ⟨g, 0, none⟩) n n) n (List.replicate n v) := by
 have hm : n ≤ Go.maxLen := Nat.le_trans hn (by decide)
 exact ⟨by rw [List.length_replicate, Nat.mul_one], .inr ⟨g, n, _, rfl, hb, hg, Nat.le_refl _, hm, by simp, by simp⟩⟩
theorem splice_rep0 (n k : Nat) (x z : Value) (h : k ≤ n) : Go.splice (List.replicate n z) 0 (List.replicate k x) = List.replicate k x ++ List.replicate (n - k) z := by
 unfold Go.splice
 rw [List.take_zero, List.nil_append, List.length_replicate, List.drop_replicate, Nat.zero_add]
theorem splice_rep (n m k : Nat) (x z : Value) (h : m + k ≤ n) : Go.splice (List.replicate m x ++ List.replicate (n - m) z) m (List.replicate k x) = List.replicate (m + k) x ++ List.replicate (n - (m + k)) z := by
 unfold Go.splice
 rw [List.length_replicate, List.take_append_of_le_length (by rw [List.length_replicate]; omega), List.take_replicate, Nat.min_self, List.drop_append, List.length_replicate, List.drop_of_length_le (l := List.replicate m x) (by rw [List.length_replicate]; omega), List.nil_append, List.drop_replicate, ← List.append_assoc, List.replicate_append_replicate]
 congr 2
 omega
theorem mul1_f (n : Nat) (h : n < 4294967296) : B.bits_Mul.f 1 (n : Int) = some (0, (n : Int)) := by
 have e1 : Go.bits .and .u64 1 4294967295 = 1 := by decide +kernel
 have e2 : Go.bits .and .u64 (n : Int) 4294967295 = (n : Int) := by
  rw [show (4294967295 : Int) = ((4294967295 : Nat) : Int) from rfl, bits_and_u64_nat n 4294967295 (by omega) (by decide)]
  rw [show 4294967295 = 2 ^ 32 - 1 by decide, Nat.and_two_pow_sub_one_eq_mod, Nat.mod_eq_of_lt (by omega)]
 have e0 : Go.bits .and .u64 0 4294967295 = 0 := by decide +kernel
 have e3 : (n : Int) / 4294967296 = 0 := by omega
 have e4 : (1 : Int) / 4294967296 = 0 := by decide
 have w0 : IntKind.u64.wrap 0 = 0 := by decide
 have wn : IntKind.u64.wrap (n : Int) = (n : Int) := by simp [IntKind.wrap, IntKind.signed, IntKind.bits]; omega
 unfold B.bits_Mul.f B.bits_Mul64.f
 simp only [e1, e2, e3, e4, Int.zero_mul, Int.mul_zero, Int.one_mul, w0, wn, Int.zero_add, Int.add_zero, e0, Option.bind_some, Int.zero_ediv]
theorem mul1_calls (n : Nat) (h : n < 4294967296) (w : World) : Calls Tryz.prog 172 #[.int .u64 1, .int .u64 (n : Int)] w fun e w' => e = .returned (.tuple #[.int .u64 0, .int .u64 (n : Int)]) ∧ Below w.heap.size w w' := by
 refine (B.bits_Mul.calls 1 n 0 n w (mul1_f n h)).mono ?_
 rintro e w' ⟨rfl, hd⟩
 exact ⟨rfl, hd.below⟩
set_option maxHeartbeats 4000000 in
set_option maxRecDepth 100000 in
theorem rep64_calls (x : Int) (n : Nat) (hn : n ≤ 1000000) (A0 : Option Addr) (c0 : Nat) (w : World) (hr0 : Kd.C (Kd.int .i64) w A0 1 [x]) :
  Calls Tryz.prog 145 #[.slice A0 1 c0, .int .i64 (n : Int)] w fun e w' => ∃ v : Value, e = .returned v ∧ Kd.R (Kd.int .i64) 2 w' w.heap.size (fun _ => True) v (List.replicate n x) ∧ Below w.heap.size w w' := by
 have HB := Aside0.mk (Below.refl w.heap.size w)
 obtain ⟨ad, e1, hx⟩ := Kd.at_int hr0 0 (by decide) (by decide)
 cases e1
 have hx0 : rd [x] 0 = x := rfl
 rw [hx0, show ad.add (Int.toNat 0) = ad from Addr.add_zero' _] at hx
 have HX := Aside0.mk hx
 have QM := Aside0.mk (fun W => mul1_calls n (by omega) W)
 have hmk := print_make 27 2 .i64 8 Tryz.underlying27 (by kernel_rfl) (by omega) n (by omega)
 have hn0 : decide ((n : Int) < 0) = false := decide_eq_false (by omega)
 have hnm : decide ((9223372036854775807 : Int) < (n : Int)) = false := decide_eq_false (by omega)
 have huw : IntKind.u64.wrap (n : Int) = (n : Int) := by simp [IntKind.wrap, IntKind.signed, IntKind.bits]; omega
 have hsw : IntKind.i64.wrap (n : Int) = (n : Int) := (i64_w _).trans (wrap_id (by omega) (by omega))
 have HN := Aside0.mk hn
 clear hr0 hn hx hx0
 go_enter Tryz.func145, Tryz.ntmps145
 go_wp2_with (first
  | (go_at_call 172; (with_reducible refine (QM.out _).mono ?_); rintro e w1 ⟨rfl, hb⟩; have HB1 := Aside0.mk hb; clear hb)
  | ((with_reducible refine gate_builtin (b := .copy) (xs := #[.tmp 31, .tmp 32]) rfl ?_); go_loud (refine wpList_copy_splice rfl (.tmp 31) (.tmp 32) 27 27 rfl 2 Tryz.underlying27 (by kernel_rfl) (some ⟨w1.heap.size, 0, none⟩) (some ad) n n 1 c0 rfl rfl w1.heap.size 0 (List.replicate n (.int .i64 0)) 2 ?cg (List.replicate (min 1 n) (.int .i64 x)) ?cn ?cp ?cf ?c1 w.heap.size w ?cb ?cB ?_; (case cg => exact heap_madeR w1 _ n _); (case cn => exact List.length_replicate); (case cp => intro hp; exact ⟨rfl, ad, rfl, rep_cells (w := w) _ (min 1 n) ad _ (by omega) (((below_alloc HB1.out _).cell (World.block_lt_of_cell? w _ HX.out)).trans HX.out)⟩); (case cf => rw [List.length_replicate, List.length_replicate]; omega); (case c1 => intro v hv; rw [List.eq_of_mem_replicate hv] <;> rfl); (case cb => exact below_alloc HB1.out _); (case cB => exact HB1.out.size); intro w2 hg hb; have HG2 := Aside0.mk (show w2.heap[w1.heap.size]? = _ from splice_rep0 n (min 1 n) (.int .i64 x) (.int .i64 0) (by omega) ▸ hg.out); have HB2 := Aside0.mk hb; clear hg hb)))
 generalize hgg : w1.heap.size = g at *
 have HGb := Aside0.mk (show w.heap.size ≤ g from hgg ▸ HB1.out.size)
 clear hgg
 go_loopg [8] n (fun kq v8 w' => ∃ m : Nat, v8 = .int .i64 (m : Int) ∧ Aside0 (m ≤ n ∧ n ≤ m + kq ∧ (0 < n → 0 < m)) ∧ Aside0 (w'.heap[g]? = some (.cells (List.replicate m (Value.int .i64 x) ++ List.replicate (n - m) (Value.int .i64 0)).toArray 2 (0, 0))) ∧ Aside0 (Below w.heap.size w w'))
 case atStart => exact ⟨min 1 n, rfl, ⟨by omega, by omega, by omega⟩, ⟨by exact HG2.out⟩, HB2⟩
 case round =>
  obtain ⟨m, rfl, HK, HG, HB⟩ := hrel
  by_cases c1 : m < n
  ·have c1b : decide ((m : Int) < (n : Int)) = true := decide_eq_true (by omega)
   have c1c := decide_eq_true c1
   have hm0 : (0 : Int) ≤ (m : Int) := by omega
   have hmn : (m : Int) ≤ (n : Int) := by omega
   obtain ⟨k1, rfl⟩ : ∃ k1, gk = k1 + 1 := ⟨gk - 1, by have := HK.out; omega⟩
   have hne : (n = m) = False := eq_false (by omega)
   have HC1 := Aside0.mk c1
   clear c1
   go_wp2_with fail
   go_region_law ((refine step_copy_splice rfl (.tmp 41) (.tmp 44) 27 27 rfl 2 Tryz.underlying27 (by kernel_rfl) (some ⟨g, m, none⟩) (some ⟨g, 0, none⟩) (n - m) (n - m) m n ?hd ?hs g m (List.replicate m (Value.int .i64 x) ++ List.replicate (n - m) (Value.int .i64 0)) 2 ?cg (List.replicate (min m (n - m)) (Value.int .i64 x)) ?cn ?cp ?cf ?c1 w.heap.size w ?cb ?cB ?_; (case hd => first | (go_simp; done) | (go_simp; rfl)); (case hs => first | (go_simp; done) | (go_simp; rfl)); (case cg => exact HG.out); (case cn => exact List.length_replicate); (case cp => intro hp; exact ⟨rfl, _, rfl, rep_src HG.out (by omega)⟩); (case cf => rw [List.length_append, List.length_replicate, List.length_replicate, List.length_replicate]; have := HC1.out; omega); (case c1 => intro v hv; rw [List.eq_of_mem_replicate hv] <;> rfl); (case cb => exact below_drew HB.out); (case cB => exact HGb.out); intro w3 hg hb; have HG3 := Aside0.mk (show w3.heap[g]? = _ from splice_rep n m (min m (n - m)) (.int .i64 x) (.int .i64 0) (by have := HC1.out; omega) ▸ hg.out); have HB3 := Aside0.mk hb; clear hg hb))
   have HM := Aside0.mk (show wrap64 ((m : Int) + (min m (n - m) : Nat)) = ((m + min m (n - m) : Nat) : Int) from by unfold wrap64; have := HN.out; have := HC1.out; omega)
   go_wp2_with fail
   go_roundg k1
   case measure => omega
   case rel => exact ⟨m + min m (n - m), congrArg (Value.int .i64) ((i64_w _).trans HM.out), ⟨by have := HK.out; have := HC1.out; omega, by have := HK.out; have := HC1.out; omega, by have := HK.out; have := HC1.out; omega⟩, HG3, HB3⟩
  ·have c1b : decide ((m : Int) < (n : Int)) = false := decide_eq_false (by omega)
   have c1c := decide_eq_false c1
   have hmn : m = n := by have := HK.out; omega
   have HMN := Aside0.mk hmn
   clear c1 hmn
   go_wp2_with fail
   go_ret
   refine ⟨_, rfl, Kd.R_of_own ?_ (fun _ _ => trivial), HB.out⟩
   have hg := HG.out
   rw [HMN.out, Nat.sub_self, List.replicate_zero, List.append_nil] at hg
   have ho := own_rep (base := w.heap.size) hg HGb.out HN.out
   have he : encs (Value.int .i64) (List.replicate n x) = List.replicate n (Value.int .i64 x) := by simp [encs]
   rw [he, List.length_replicate]
   exact ho
set_option maxHeartbeats 4000000 in
set_option maxRecDepth 100000 in
theorem repI_calls (x : Int) (n : Nat) (hn : n ≤ 1000000) (A0 : Option Addr) (c0 : Nat) (w : World) (hr0 : Kd.C (Kd.int .i64) w A0 1 [x]) :
  Calls Tryz.prog 146 #[.slice A0 1 c0, .int .i64 (n : Int)] w fun e w' => ∃ v : Value, e = .returned v ∧ Kd.R (Kd.int .i64) 3 w' w.heap.size (fun _ => True) v (List.replicate n x) ∧ Below w.heap.size w w' := by
 have HB := Aside0.mk (Below.refl w.heap.size w)
 obtain ⟨ad, e1, hx⟩ := Kd.at_int hr0 0 (by decide) (by decide)
 cases e1
 have hx0 : rd [x] 0 = x := rfl
 rw [hx0, show ad.add (Int.toNat 0) = ad from Addr.add_zero' _] at hx
 have HX := Aside0.mk hx
 have QM := Aside0.mk (fun W => mul1_calls n (by omega) W)
 have hmk := print_make 43 3 .i64 8 Tryz.underlying43 (by kernel_rfl) (by omega) n (by omega)
 have hn0 : decide ((n : Int) < 0) = false := decide_eq_false (by omega)
 have hnm : decide ((9223372036854775807 : Int) < (n : Int)) = false := decide_eq_false (by omega)
 have huw : IntKind.u64.wrap (n : Int) = (n : Int) := by simp [IntKind.wrap, IntKind.signed, IntKind.bits]; omega
 have hsw : IntKind.i64.wrap (n : Int) = (n : Int) := (i64_w _).trans (wrap_id (by omega) (by omega))
 have HN := Aside0.mk hn
 clear hr0 hn hx hx0
 go_enter Tryz.func146, Tryz.ntmps146
 go_wp2_with (first
  | (go_at_call 172; (with_reducible refine (QM.out _).mono ?_); rintro e w1 ⟨rfl, hb⟩; have HB1 := Aside0.mk hb; clear hb)
  | ((with_reducible refine gate_builtin (b := .copy) (xs := #[.tmp 31, .tmp 32]) rfl ?_); go_loud (refine wpList_copy_splice rfl (.tmp 31) (.tmp 32) 43 43 rfl 3 Tryz.underlying43 (by kernel_rfl) (some ⟨w1.heap.size, 0, none⟩) (some ad) n n 1 c0 rfl rfl w1.heap.size 0 (List.replicate n (.int .i64 0)) 3 ?cg (List.replicate (min 1 n) (.int .i64 x)) ?cn ?cp ?cf ?c1 w.heap.size w ?cb ?cB ?_; (case cg => exact heap_madeR w1 _ n _); (case cn => exact List.length_replicate); (case cp => intro hp; exact ⟨rfl, ad, rfl, rep_cells (w := w) _ (min 1 n) ad _ (by omega) (((below_alloc HB1.out _).cell (World.block_lt_of_cell? w _ HX.out)).trans HX.out)⟩); (case cf => rw [List.length_replicate, List.length_replicate]; omega); (case c1 => intro v hv; rw [List.eq_of_mem_replicate hv] <;> rfl); (case cb => exact below_alloc HB1.out _); (case cB => exact HB1.out.size); intro w2 hg hb; have HG2 := Aside0.mk (show w2.heap[w1.heap.size]? = _ from splice_rep0 n (min 1 n) (.int .i64 x) (.int .i64 0) (by omega) ▸ hg.out); have HB2 := Aside0.mk hb; clear hg hb)))
 generalize hgg : w1.heap.size = g at *
 have HGb := Aside0.mk (show w.heap.size ≤ g from hgg ▸ HB1.out.size)
 clear hgg
 go_loopg [8] n (fun kq v8 w' => ∃ m : Nat, v8 = .int .i64 (m : Int) ∧ Aside0 (m ≤ n ∧ n ≤ m + kq ∧ (0 < n → 0 < m)) ∧ Aside0 (w'.heap[g]? = some (.cells (List.replicate m (Value.int .i64 x) ++ List.replicate (n - m) (Value.int .i64 0)).toArray 3 (0, 0))) ∧ Aside0 (Below w.heap.size w w'))
 case atStart => exact ⟨min 1 n, rfl, ⟨by omega, by omega, by omega⟩, ⟨by exact HG2.out⟩, HB2⟩
 case round =>
  obtain ⟨m, rfl, HK, HG, HB⟩ := hrel
  by_cases c1 : m < n
  ·have c1b : decide ((m : Int) < (n : Int)) = true := decide_eq_true (by omega)
   have c1c := decide_eq_true c1
   have hm0 : (0 : Int) ≤ (m : Int) := by omega
   have hmn : (m : Int) ≤ (n : Int) := by omega
   obtain ⟨k1, rfl⟩ : ∃ k1, gk = k1 + 1 := ⟨gk - 1, by have := HK.out; omega⟩
   have hne : (n = m) = False := eq_false (by omega)
   have HC1 := Aside0.mk c1
   clear c1
   go_wp2_with fail
   go_region_law ((refine step_copy_splice rfl (.tmp 41) (.tmp 44) 43 43 rfl 3 Tryz.underlying43 (by kernel_rfl) (some ⟨g, m, none⟩) (some ⟨g, 0, none⟩) (n - m) (n - m) m n ?hd ?hs g m (List.replicate m (Value.int .i64 x) ++ List.replicate (n - m) (Value.int .i64 0)) 3 ?cg (List.replicate (min m (n - m)) (Value.int .i64 x)) ?cn ?cp ?cf ?c1 w.heap.size w ?cb ?cB ?_; (case hd => first | (go_simp; done) | (go_simp; rfl)); (case hs => first | (go_simp; done) | (go_simp; rfl)); (case cg => exact HG.out); (case cn => exact List.length_replicate); (case cp => intro hp; exact ⟨rfl, _, rfl, rep_src HG.out (by omega)⟩); (case cf => rw [List.length_append, List.length_replicate, List.length_replicate, List.length_replicate]; have := HC1.out; omega); (case c1 => intro v hv; rw [List.eq_of_mem_replicate hv] <;> rfl); (case cb => exact below_drew HB.out); (case cB => exact HGb.out); intro w3 hg hb; have HG3 := Aside0.mk (show w3.heap[g]? = _ from splice_rep n m (min m (n - m)) (.int .i64 x) (.int .i64 0) (by have := HC1.out; omega) ▸ hg.out); have HB3 := Aside0.mk hb; clear hg hb))
   have HM := Aside0.mk (show wrap64 ((m : Int) + (min m (n - m) : Nat)) = ((m + min m (n - m) : Nat) : Int) from by unfold wrap64; have := HN.out; have := HC1.out; omega)
   go_wp2_with fail
   go_roundg k1
   case measure => omega
   case rel => exact ⟨m + min m (n - m), congrArg (Value.int .i64) ((i64_w _).trans HM.out), ⟨by have := HK.out; have := HC1.out; omega, by have := HK.out; have := HC1.out; omega, by have := HK.out; have := HC1.out; omega⟩, HG3, HB3⟩
  ·have c1b : decide ((m : Int) < (n : Int)) = false := decide_eq_false (by omega)
   have c1c := decide_eq_false c1
   have hmn : m = n := by have := HK.out; omega
   have HMN := Aside0.mk hmn
   clear c1 hmn
   go_wp2_with fail
   go_ret
   refine ⟨_, rfl, Kd.R_of_own ?_ (fun _ _ => trivial), HB.out⟩
   have hg := HG.out
   rw [HMN.out, Nat.sub_self, List.replicate_zero, List.append_nil] at hg
   have ho := own_rep (base := w.heap.size) hg HGb.out HN.out
   have he : encs (Value.int .i64) (List.replicate n x) = List.replicate n (Value.int .i64 x) := by simp [encs]
   rw [he, List.length_replicate]
   exact ho
theorem one_int {k : IntKind} {e : TypeId} {x : Int} (W : World) (b : Nat) (h : W.heap[b]? = some (.cells #[.int k x] e (0, 0))) : Kd.C (Kd.int k) W (some ⟨b, 0, none⟩) 1 [x] := by
 refine ⟨rfl, by simp, fun _ => ⟨_, rfl, fun j p hj => ?_⟩⟩
 rcases j with _ | j
 ·cases hj
  refine ⟨[.int k x], rfl, rfl, fun i u hi => ?_⟩
  rcases i with _ | i
  ·cases hi
   rw [Addr.add_lit]; exact (blk_cell h _).trans rfl
  ·cases hi
 ·cases hj
set_option maxRecDepth 100000 in
theorem row64_calls (n x : Int) (h0 : 0 ≤ n) (h1 : n ≤ 1000000) (w : World) :
  Calls Tryz.prog 115 #[.int .i64 n, .int .i64 x] w fun e w' => ∃ v : Value, e = .returned v ∧ Kd.R (Kd.int .i64) 2 w' w.heap.size (fun _ => True) v (List.replicate n.toNat x) ∧ Below w.heap.size w w' := by
 have HB := Aside0.mk (Below.refl w.heap.size w)
 have QR := Aside0.mk (rep64_calls x n.toNat (by omega) (some ⟨w.heap.size, 0, none⟩) 1 (w.alloc (.cells #[.int .i64 x] 2)) (one_int _ _ (MapKept.heap_alloc w _).1))
 rw [Int.toNat_of_nonneg h0] at QR
 clear h0 h1
 go_enter Tryz.func115, Tryz.ntmps115
 go_wp2_with (go_at_call 145; go_loud ((with_reducible refine QR.out.mono ?_); rintro e w1 ⟨v, rfl, ho, hb⟩; have HO := Aside0.mk (Kd.R_lower ho (below_alloc HB.out _).size); have HB1 := Aside0.mk (below_step (below_alloc HB.out _) hb); clear ho hb))
 go_ret
 exact ⟨_, rfl, HO.out, HB1.out⟩
set_option maxRecDepth 100000 in
theorem rowI_calls (n x : Int) (h0 : 0 ≤ n) (h1 : n ≤ 1000000) (w : World) :
  Calls Tryz.prog 116 #[.int .i64 n, .int .i64 x] w fun e w' => ∃ v : Value, e = .returned v ∧ Kd.R (Kd.int .i64) 3 w' w.heap.size (fun _ => True) v (List.replicate n.toNat x) ∧ Below w.heap.size w w' := by
 have HB := Aside0.mk (Below.refl w.heap.size w)
 have QR := Aside0.mk (repI_calls x n.toNat (by omega) (some ⟨w.heap.size, 0, none⟩) 1 (w.alloc (.cells #[.int .i64 x] 3)) (one_int _ _ (MapKept.heap_alloc w _).1))
 rw [Int.toNat_of_nonneg h0] at QR
 clear h0 h1
 go_enter Tryz.func116, Tryz.ntmps116
 go_wp2_with (go_at_call 146; go_loud ((with_reducible refine QR.out.mono ?_); rintro e w1 ⟨v, rfl, ho, hb⟩; have HO := Aside0.mk (Kd.R_lower ho (below_alloc HB.out _).size); have HB1 := Aside0.mk (below_step (below_alloc HB.out _) hb); clear ho hb))
 go_ret
 exact ⟨_, rfl, HO.out, HB1.out⟩
def stepN (had : List Int) (acc : List Int × List Int) (i : Int) (e : S72) : List Int × List Int :=
 if wrap64 (rd had e.f0 + e.f2) < rd acc.1 e.f1 then (acc.1.set e.f1.toNat (wrap64 (rd had e.f0 + e.f2)), acc.2.set e.f1.toNat i) else acc
def nextL (had : List Int) (es : List S72) : Nat → List Int × List Int
 | 0 => (had, List.replicate had.length (-1))
 | k + 1 => stepN had (nextL had es k) (k : Int) (rd_T72 es (k : Int))
theorem stepN_len (had : List Int) (acc : List Int × List Int) (i : Int) (e : S72) : (stepN had acc i e).1.length = acc.1.length ∧ (stepN had acc i e).2.length = acc.2.length := by
 unfold stepN
 split
 ·exact ⟨List.length_set .., List.length_set ..⟩
 ·exact ⟨rfl, rfl⟩
theorem nextL_len (had : List Int) (es : List S72) : ∀ k, (nextL had es k).1.length = had.length ∧ (nextL had es k).2.length = had.length
 | 0 => ⟨rfl, List.length_replicate⟩
 | k + 1 => by
  have h := stepN_len had (nextL had es k) (k : Int) (rd_T72 es (k : Int))
  have ih := nextL_len had es k
  exact ⟨h.1.trans ih.1, h.2.trans ih.2⟩
def inE (n : Nat) (es : List S72) : Prop := ∀ e ∈ es, 0 ≤ e.f0 ∧ e.f0 < n ∧ 0 ≤ e.f1 ∧ e.f1 < n
instance (n : Nat) : DecidablePred (inE n) := fun es => by unfold inE; infer_instance
theorem rdE_mem (l : List S72) (i : Int) (h0 : 0 ≤ i) (h1 : i < l.length) : rd_T72 l i ∈ l := by
 have hx : i.toNat < l.length := by omega
 rw [show rd_T72 l i = l[i.toNat] by simp [rd_T72, List.getD, hx]]
 exact List.getElem_mem _
theorem results_tmp2' {fn : Func} {a b : Tmp} (h : fn.results = #[.tmp a, .tmp b]) (tmps : Array Value) (P : Program) (w : World) : (results fn tmps).run P w = .ok (.tuple #[tmps.getD a undef, tmps.getD b undef]) w := by
 simp [results, h]
set_option maxHeartbeats 8000000 in
set_option maxRecDepth 100000 in
theorem next_calls (had : List Int) (es : List S72) (hn : had.length ≤ 1000000) (he : es.length ≤ 1000000000) (hin : inE had.length es) (A0 A1 : Option Addr) (c0 c1_ : Nat) (w : World) (hr0 : Kd.C (Kd.int .i64) w A0 had.length had) (hc0 : had.length ≤ c0) (hr1 : Kd.C k72 w A1 es.length es) :
  Calls Tryz.prog 117 #[.slice A0 had.length c0, .slice A1 es.length c1_] w fun e w' => ∃ v1 v2 : Value, e = .returned (.tuple #[v1, v2]) ∧ Kd.R (Kd.int .i64) 2 w' w.heap.size (fun k => some k ≠ v2.ownBlock) v1 (nextL had es es.length).1 ∧ Kd.R (Kd.int .i64) 3 w' w.heap.size (fun k => some k ≠ v1.ownBlock) v2 (nextL had es es.length).2 ∧ Below w.heap.size w w' := by
 have HB0 := Aside0.mk (Below.refl w.heap.size w)
 have HR0 := Aside0.mk hr0
 have HR1 := Aside0.mk hr1
 have HN := Aside0.mk hn
 have HE := Aside0.mk he
 have HIn := Aside0.mk hin
 have QC := Aside0.mk (fun (W : World) (hb : Below w.heap.size w W) => clone64_calls had (by omega) A0 c0 W (Kd.C_below hr0 hb) hc0)
 have QR := Aside0.mk (fun W => rowI_calls (had.length : Int) (-1) (by omega) (by omega) W)
 have HLen := Aside0.mk (nextL_len had es)
 clear hr0 hr1 hn he hin hc0
 go_enter Tryz.func117, Tryz.ntmps117
 go_wp2_with (first
  | (go_at_call 147; (with_reducible refine (QC.out _ HB0.out).mono ?_); rintro e w1 ⟨v1, rfl, ho, hb⟩; have HB1 := Aside0.mk hb; have HO1 := Aside0.mk ho; clear ho hb)
  | (go_at_call 116; (with_reducible refine (QR.out _).mono ?_); rintro e w2 ⟨v2, rfl, ho, hb⟩; have HB2 := Aside0.mk (below_step HB1.out hb); have HH2 := Aside0.mk (Kd.R_elder' HO1.out (Kd.R_base ho) hb); have HY2 := Aside0.mk (Kd.R_lower (Kd.R_new' ho (Kd.R_lt HO1.out)) HB1.out.size); clear ho hb))
 obtain ⟨A6, c6, rfl⟩ := Kd.R_slice HH2.out
 obtain ⟨A7, c7, rfl⟩ := Kd.R_slice HY2.out
 have e7 : (List.replicate ((had.length : Nat) : Int).toNat (-1 : Int)).length = had.length := by rw [List.length_replicate]; omega
 have HY3 := HY2.out
 rw [e7, show ((had.length : Nat) : Int).toNat = had.length from rfl] at HY3
 have HY4 := Aside0.mk HY3
 simp only [e7]
 clear HY3 HY2 HO1 QC QR
 go_loopg [18] es.length (fun kq v18 w' => ∃ x18 : Int, v18 = .int .i64 x18 ∧ Aside0 (0 ≤ x18 ∧ x18 + kq = es.length) ∧ Aside0 (Kd.R (Kd.int .i64) 2 w' w.heap.size (fun k => some k ≠ (Value.slice A7 had.length c7).ownBlock) (.slice A6 had.length c6) (nextL had es x18.toNat).1) ∧ Aside0 (Kd.R (Kd.int .i64) 3 w' w.heap.size (fun k => some k ≠ (Value.slice A6 had.length c6).ownBlock) (.slice A7 had.length c7) (nextL had es x18.toNat).2) ∧ Aside0 (Below w.heap.size w w'))
 case atStart => exact ⟨0, rfl, ⟨by omega, by omega⟩, ⟨Kd.R_mono HH2.out (fun _ hk h => hk.2 (h.trans (own_len _ _ _ _ _)))⟩, ⟨Kd.R_mono HY4.out (fun _ hk => hk.2)⟩, HB2⟩
 case round =>
  clear HH2 HY4 HB2 HB1
  obtain ⟨x18, rfl, HK, HH, HY, HB⟩ := hrel
  by_cases c1 : x18 < (es.length : Int)
  ·have c1b := decide_eq_true c1
   have p1 : 0 ≤ x18 := HK.out.1
   obtain ⟨ad1, e1, hx0, hx1, hx2, hx3, hx4, hx5⟩ := at_T72 HR1.out x18 p1 c1
   cases e1
   replace hx0 := zc HB.out hx0
   replace hx1 := zc HB.out hx1
   replace hx2 := zc HB.out hx2
   replace hx3 := zc HB.out hx3
   replace hx4 := zc HB.out hx4
   replace hx5 := zc HB.out hx5
   obtain ⟨i0, i1, i2, i3⟩ := HIn.out _ (rdE_mem es x18 p1 c1)
   have HS := Aside0.mk (show nextL had es (x18 + 1).toNat = stepN had (nextL had es x18.toNat) x18 (rd_T72 es x18) from by
    rw [show (x18 + 1).toNat = x18.toNat + 1 by omega]
    show stepN had (nextL had es x18.toNat) (x18.toNat : Int) (rd_T72 es (x18.toNat : Int)) = _
    rw [show (x18.toNat : Int) = x18 by omega])
   have HLx := Aside0.mk (HLen.out x18.toNat)
   have P1 := Aside0.mk p1
   have Q1 := Aside0.mk c1
   have W1 := Aside0.mk (show wrap64 (x18 + 1) = x18 + 1 from by unfold wrap64; have := HE.out; have := P1.out; have := Q1.out; omega)
   obtain ⟨ad0, e0, hh⟩ := Kd.at_int HR0.out (rd_T72 es x18).f0 i0 i1
   cases e0
   replace hh := zc HB.out hh
   generalize rd_T72 es x18 = e at *
   generalize nextL had es x18.toNat = acc at *
   obtain ⟨ha, hb_⟩ := HLx.out
   have hg6 : ∃ g6, A6 = some ⟨g6, 0, none⟩ ∧ w.heap.size ≤ g6 := by
    have ho := (Kd.own_of_R HH.out).2
    rcases ho with ⟨h, h'⟩ | ⟨g, cap, cur, h, hbg, _⟩
    ·exfalso; omega
    ·injection h with h h2 h3; exact ⟨g, h, hbg⟩
   have hg7 : ∃ g7, A7 = some ⟨g7, 0, none⟩ ∧ w.heap.size ≤ g7 := by
    have ho := (Kd.own_of_R HY.out).2
    rcases ho with ⟨h, h'⟩ | ⟨g, cap, cur, h, hbg, _⟩
    ·exfalso; omega
    ·injection h with h h2 h3; exact ⟨g, h, hbg⟩
   obtain ⟨g6, rfl, hb6⟩ := hg6
   obtain ⟨g7, rfl, hb7⟩ := hg7
   obtain ⟨q6, e6, hc6⟩ := Kd.at_int (Kd.R_reads' HH.out).2.2 e.f1 i2 (by rw [← ha] at i3; exact i3)
   cases e6
   obtain ⟨q7, e7, hc7⟩ := Kd.at_int (Kd.R_reads' HY.out).2.2 e.f1 i2 (by rw [← hb_] at i3; exact i3)
   cases e7
   have d67 : g6 ≠ g7 := fun h => HH.out.1 g6 rfl (by rw [h]; rfl)
   have HD := Aside0.mk d67
   have l6 := World.block_lt_of_cell? wr _ hc6
   have l7 := World.block_lt_of_cell? wr _ hc7
   rw [Addr.add_lit, Nat.zero_add] at hc6 hc7 l6 l7
   have L6 := Aside0.mk (show g6 < wr.heap.size from l6)
   have L7 := Aside0.mk (show g7 < wr.heap.size from l7)
   have HC6 := Aside0.mk hc6
   have HC7 := Aside0.mk hc7
   have hv := Aside0.mk (show wrap64 (rd had e.f0 + e.f2) = wrap64 (rd had e.f0 + e.f2) from rfl)
   have HA := Aside0.mk ha
   have HBn := Aside0.mk hb_
   have hh1 := fun o => keep1r (o1 := o) hh
   have hst := Aside0.mk (show stepN had acc x18 e = if wrap64 (rd had e.f0 + e.f2) < rd acc.1 e.f1 then (acc.1.set e.f1.toNat (wrap64 (rd had e.f0 + e.f2)), acc.2.set e.f1.toNat x18) else acc from rfl)
   clear hc6 hc7 l6 l7 d67 ha hb_ HLx hv hh
   generalize rd had e.f0 = hf at *
   replace p1 := eq_true p1
   replace c1 := eq_true c1
   replace i0 := eq_true i0
   replace i1 := eq_true i1
   have I2 := Aside0.mk i2
   have I3 := Aside0.mk i3
   replace i2 := eq_true i2
   replace i3 := eq_true i3
   obtain ⟨k1, rfl⟩ : ∃ k1, gk = k1 + 1 := ⟨gk - 1, by have := HK.out; have := Q1.out; omega⟩
   go_upto_region 5 with (fail)
   go_cut [8, 9, 10, 16, 17, 18] (fun v8 v9 v10 v16 v17 v18 wc => v8 = .int .i64 x18 ∧ v16 = .slice (some ad1) es.length c1_ ∧ v17 = .int .i64 es.length ∧ v18 = .int .i64 x18 ∧ v10 = .int .i64 (wrap64 (hf + e.f2)) ∧ ∃ ke : Nat, v9 = .pointer (some ⟨ke, 0, none⟩) ∧ Aside0 (wr.heap.size ≤ ke ∧ wc.heap[ke]? = some (.cells #[.int .i64 e.f0, .int .i64 e.f1, .int .i64 e.f2, .int .i64 e.f3.f0, .int .i64 e.f3.f1, .bool e.f4] 72 (0, 0))) ∧ Aside0 (Below wr.heap.size wr wc))
   case first =>
    go_quiet (fail)
    go_wp2_with fail
    go_meet
    case rel => exact ⟨rfl, rfl, rfl, rfl, rfl, _, rfl, ⟨Nat.le_refl _, (MapKept.heap_alloc wr _).1⟩, ⟨pw_below_drewN (below_alloc (Below.refl wr.heap.size wr) _) _⟩⟩
   case rest =>
    obtain ⟨rfl, rfl, rfl, rfl, rfl, ke, rfl, HKE, HBW⟩ := hcut
    obtain ⟨w5, rfl⟩ : ∃ w5 : World, w5 = wc := ⟨_, rfl⟩
    clear hx0 hx1 hx2 hx3 hx4 hx5 hh1
    have hk0 : w5.cell? ⟨ke, 0, none⟩ = some (.int .i64 e.f0) := (blk_cell HKE.out.2 0).trans rfl
    have hk1 : w5.cell? ⟨ke, 1, none⟩ = some (.int .i64 e.f1) := (blk_cell HKE.out.2 1).trans rfl
    have hk2 : w5.cell? ⟨ke, 2, none⟩ = some (.int .i64 e.f2) := (blk_cell HKE.out.2 2).trans rfl
    have hc6 := (HBW.out.cell (World.block_lt_of_cell? wr _ HC6.out)).trans HC6.out
    have hc7 := (HBW.out.cell (World.block_lt_of_cell? wr _ HC7.out)).trans HC7.out
    have HH5 := Aside0.mk (Kd.R_below HH.out HBW.out)
    have HY5 := Aside0.mk (Kd.R_below HY.out HBW.out)
    have HB5 := Aside0.mk (below_step HB.out HBW.out)
    by_cases c2 : wrap64 (hf + e.f2) < rd acc.1 e.f1
    ·have c2b := decide_eq_true c2
     have HST := hst.out
     rw [if_pos c2] at HST
     have HS2 := Aside0.mk (HS.out.trans HST)
     clear c2 HST hst HS
     generalize wrap64 (hf + e.f2) = x at *
     have n6 : ke ≠ g6 := by have := HKE.out.1; have := L6.out; omega
     have n7 : ke ≠ g7 := by have := HKE.out.1; have := L7.out; omega
     obtain ⟨cur6, hw6⟩ : ∃ cur, w5.heap[g6]? = some (.cells cur 2 (0, 0)) := by
      rcases (Kd.own_of_R HH5.out).2 with ⟨h, _⟩ | ⟨g, cap, cur, h, hbg, hh, _⟩
      ·injection h with h1; cases h1
      ·have hg : g6 = g := by
        injection h with h1
        injection h1 with h1
        injection h1
       subst hg
       exact ⟨cur, hh⟩
     obtain ⟨cur7, hw7⟩ : ∃ cur, w5.heap[g7]? = some (.cells cur 3 (0, 0)) := by
      rcases (Kd.own_of_R HY5.out).2 with ⟨h, _⟩ | ⟨g, cap, cur, h, hbg, hh, _⟩
      ·injection h with h1; cases h1
      ·have hg : g7 = g := by
        injection h with h1
        injection h1 with h1
        injection h1
       subst hg
       exact ⟨cur, hh⟩
     have f6 := blk_frozen hw6 e.f1.toNat
     have f7 := fun u => blk_frozen ((Below.heap_setCell w5 ⟨g6, e.f1.toNat, none⟩ u g7 (fun h => HD.out h.symm)).trans hw7) e.f1.toNat
     have f7' := blk_frozen hw7 e.f1.toNat
     have s1 : ∀ u, (w5.setCell ⟨g6, e.f1.toNat, none⟩ u).cell? ⟨ke, 1, none⟩ = some (.int .i64 e.f1) := fun u => (blk_cell ((Below.heap_setCell w5 ⟨g6, e.f1.toNat, none⟩ u ke n6).trans HKE.out.2) 1).trans rfl
     have s7 : ∀ u, (w5.setCell ⟨g6, e.f1.toNat, none⟩ u).cell? ⟨g7, e.f1.toNat, none⟩ = some (.int .i64 (rd acc.2 e.f1)) := fun u => (blk_cell ((Below.heap_setCell w5 ⟨g6, e.f1.toNat, none⟩ u g7 (fun h => HD.out h.symm)).trans hw7) _).trans ((blk_cell hw7 _).symm.trans hc7)
     clear hw6 hw7 n6 n7
     go_wp2_with fail
     go_region
     all_goals
      go_wp2_with fail
      go_roundg k1
      case measure => omega
      case rel => exact ⟨x18 + 1, by rw [W1.out], ⟨by have := P1.out; omega, by have := HK.out; omega⟩, ⟨by rw [HS2.out]; (repeat (first | apply Kd.R_drewN | apply Kd.R_drew)); exact Kd.R_far (Kd.R_putn HH5.out e.f1 x) (fun k hk h => hk (by rw [h]; rfl)) _⟩, ⟨by rw [HS2.out]; (repeat (first | apply Kd.R_drewN | apply Kd.R_drew)); exact Kd.R_putn (Kd.R_far HY5.out (p := ⟨g6, e.f1.toNat, none⟩) (fun k hk h => hk (by rw [h]; rfl)) _) e.f1 x18⟩, ⟨by (repeat (first | apply pw_below_drewN | apply below_drew)); exact below_set (below_set HB5.out hb6) hb7⟩⟩
    ·have c2b := decide_eq_false c2
     have HST := hst.out
     rw [if_neg c2] at HST
     have HS2 := Aside0.mk (HS.out.trans HST)
     clear c2 HST hst HS
     go_wp2_with fail
     go_roundg k1
     case measure => omega
     case rel => exact ⟨x18 + 1, by rw [W1.out], ⟨by have := P1.out; omega, by have := HK.out; omega⟩, ⟨by rw [HS2.out]; exact HH5.out⟩, ⟨by rw [HS2.out]; exact HY5.out⟩, HB5⟩
  ·have c1b := decide_eq_false c1
   have hx : x18.toNat = es.length := by have := HK.out; omega
   have HX := Aside0.mk hx
   clear c1 hx
   go_wp2_with fail
   refine bodyPost_ret (results_tmp2' rfl _ _ _) rfl ?_
   refine ⟨_, _, rfl, ?_, ?_, HB.out⟩
   ·have h := HH.out; rw [HX.out] at h; exact h
   ·have h := HY.out; rw [HX.out] at h; exact h
end Go.Proofs.YtgknjgionicncaaGreat.L
namespace Go.Proofs.YtgknjgionicncaaGreat.X
open Go.RowKit Go.Proofs.YtgknjgionicncaaGreat.Q Go.Proofs.YtgknjgionicncaaGreatW.PrintWords Go.Proofs.YtgknjgionicncaaGreatW.PrintLast Go.Proofs.YtgknjgionicncaaGreatW.PrintMore
attribute [local go_sem] max2_int min2_int max_two min_two max_three min_three max_four min_four
set_option linter.unusedVariables false
set_option linter.unusedSimpArgs false
def rd_L11 (xs : List (List S72)) (i : Int) : (List S72) := xs.getD i.toNat ([] : List S72)
theorem at_L11 {w : World} {A : Option Addr} {n : Nat} {xs : List (List S72)} (h : Kd.C (Kd.slice 72 k72) w A n xs) (i : Int) (h0 : 0 ≤ i) (h1 : i < n) : ∃ ad A0 c0, A = some ad ∧ w.cell? (ad.add i.toNat) = some (.slice A0 (rd_L11 xs i).length c0) ∧ (rd_L11 xs i).length ≤ c0 ∧ k72.C w A0 (rd_L11 xs i).length (rd_L11 xs i) := by
 obtain ⟨ad, c, e, _, hK, hc0⟩ := Kd.C_get h ([] : List S72) i h0 h1
 have hc : ∀ j u, c[j]? = some u → w.cell? (ad.add (i.toNat * 1 + j)) = some u := hc0
 obtain ⟨A0, c0, rfl, l0, g0⟩ := hK
 exact ⟨ad, A0, c0, e, by have hq := hc 0 _ rfl; rwa [Nat.mul_one, Nat.add_zero] at hq, l0, g0⟩
end Go.Proofs.YtgknjgionicncaaGreat.X
namespace Go.Proofs.YtgknjgionicncaaGreat.L
open Go.RowKit Go.Proofs.YtgknjgionicncaaGreat.Q Go.Proofs.YtgknjgionicncaaGreatW.PrintWords Go.Proofs.YtgknjgionicncaaGreatW.PrintLast Go.Proofs.YtgknjgionicncaaGreatW.PrintMore Go.Proofs.YtgknjgionicncaaGreatW.MapB Go.Proofs.YtgknjgionicncaaGreatW.Lib
set_option linter.unusedVariables false
set_option linter.unusedSimpArgs false
theorem results_cell2 {fn : Func} {a b : Tmp} {t : TypeId} (h : fn.results = #[.cell a t, .tmp b]) (tmps : Array Value) (P : Program) (w : World) (ad : Addr) (v : Value) (ha : tmps.getD a undef = .pointer (some ad)) (hl : (loadVar t ad).run P w = .ok v w) :
  (results fn tmps).run P w = .ok (.tuple #[v, tmps.getD b undef]) w := by
 have ha' : tmps[a]?.getD undef = .pointer (some ad) := by rw [← ha]; simp
 have e : ∀ ad w, (asAddr (.pointer (some ad))).run P w = .ok ad w := fun _ _ => rfl
 simp [results, h, ha', hl, e]
theorem store_blk {P : Program} {ops : Array Oper} {rest : List Oper} {o : Oper} {a : Act} {Q : Exit → Act → World → Prop} {W : World} {k : Nat} {old : Array Value} (t : TypeId) (u : Value) (seg : List Value) (hN : o.dst = none) (hG : o.guard = none) (p x : Operand) (hP : o.op = .store t p x)
  (haddr : a.eval p = .pointer (some ⟨k, 0, none⟩)) (hx : a.eval x = u) (hu : u.cells.toList = seg) (ht : (P.info? t).map (·.size) = some seg.length) (h1 : ∀ q ∈ seg, q.oneCell' = true) (hb : W.heap[k]? = some (.cells old t (0, 0))) (hsz : old.size = seg.length)
  (h : ∀ W', W'.heap[k]? = some (.cells seg.toArray t (0, 0)) → W.grownBy W' (some k) → wpList P ops Q rest a W') : wpList P ops Q (o :: rest) a W := by
 obtain ⟨cur', hc, hs, hl⟩ := setCells_row seg 0 W old hb (by omega)
 have hcur : cur' = seg.toArray := by
  apply Array.toList_inj.1
  rw [hl]
  simp [← hsz]
 have hrun : (Instr.storeAt t (.pointer (some ⟨k, 0, none⟩)) u).run P W = .ok () (W.setCells k 0 seg) := run_store_run t u seg hb hu ht (by omega) h1
 obtain ⟨s1, s2, s3, s4⟩ := setCells_same k seg 0 W
 have hg : W.grownBy (W.setCells k 0 seg) (some k) := ⟨s1, s2, s3, by omega, fun i _ hi => setCells_far seg 0 i (fun e => hi (by rw [e]))⟩
 refine wpList_plain hG fun K hK => ?_
 unfold Oper.wp execOp
 simp only [hP, haddr, hx, Sem.run_bind, Sem.run_pure, Result.andThen_ok, hrun]
 show K (a.put o.dst undef) _
 rw [hN]
 exact hK a _ (h _ (by rw [hc, hcur]) hg)
def findS (m : S36 → Bool) (l : List S36) (i : Int) : S36 × Bool := if 0 ≤ i ∧ i < l.length ∧ m (rd_T36 l i) = true then (rd_T36 l i, true) else (z36, false)
theorem load_span (W : World) (k : Nat) (s : S36) (h : W.heap[k]? = some (.cells #[.int .u64 s.f0, .int .u64 s.f1, .int .u64 s.f2, .int .u8 s.f3, .string s.f4, .string s.f5, .int .i64 s.f6, .int .i64 s.f7] 36 (0, 0))) :
  (loadVar 36 ⟨k, 0, none⟩).run Tryz.prog W = .ok (.agg #[.int .u64 s.f0, .int .u64 s.f1, .int .u64 s.f2, .int .u8 s.f3, .string s.f4, .string s.f5, .int .i64 s.f6, .int .i64 s.f7]) W := by
 have c0 : W.cell? ⟨k, 0, none⟩ = _ := (blk_cell h 0).trans rfl
 have c1 : W.cell? ⟨k, 1, none⟩ = _ := (blk_cell h 1).trans rfl
 have c2 : W.cell? ⟨k, 2, none⟩ = _ := (blk_cell h 2).trans rfl
 have c3 : W.cell? ⟨k, 3, none⟩ = _ := (blk_cell h 3).trans rfl
 have c4 : W.cell? ⟨k, 4, none⟩ = _ := (blk_cell h 4).trans rfl
 have c5 : W.cell? ⟨k, 5, none⟩ = _ := (blk_cell h 5).trans rfl
 have c6 : W.cell? ⟨k, 6, none⟩ = _ := (blk_cell h 6).trans rfl
 have c7 : W.cell? ⟨k, 7, none⟩ = _ := (blk_cell h 7).trans rfl
 clear h
 go_simp
set_option maxHeartbeats 4000000 in
set_option maxRecDepth 100000 in
theorem found_calls (m : S36 → Bool) (l : List S36) (hm : ∀ s ∈ l, ∃ k, span_May.f k s.f0 s.f1 s.f2 s.f3 s.f4 s.f5 s.f6 s.f7 = some (m s)) (i : Int) (A0 : Option Addr) (c0 B : Nat) (w : World) (hr : Kd.C k36 w A0 l.length l) (hcell : w.cell? ⟨B, 0, none⟩ = some (.slice A0 l.length c0)) :
  Calls Tryz.prog 138 #[.int .i64 i, .pointer (some ⟨B, 0, none⟩)] w fun e w' => e = .returned (.tuple #[.agg #[.int .u64 (findS m l i).1.f0, .int .u64 (findS m l i).1.f1, .int .u64 (findS m l i).1.f2, .int .u8 (findS m l i).1.f3, .string (findS m l i).1.f4, .string (findS m l i).1.f5, .int .i64 (findS m l i).1.f6, .int .i64 (findS m l i).1.f7], .bool (findS m l i).2]) ∧ Below w.heap.size w w' := by
 have HB := Aside0.mk (Below.refl w.heap.size w)
 have hc1 : ∀ o, (w.alloc o).cell? ⟨B, 0, none⟩ = some (.slice A0 l.length c0) := fun o => ((below_alloc HB.out o).cell (World.block_lt_of_cell? w _ hcell)).trans hcell
 by_cases h0 : i < 0
 ·have e : findS m l i = (z36, false) := by unfold findS; rw [if_neg (by omega)]
  rw [e]
  have b0 := decide_eq_true h0
  clear e hm hr h0
  go_enter Tryz.func138, Tryz.ntmps138
  go_wp2_with fail
  refine bodyPost_ret (results_cell2 rfl _ _ _ _ _ rfl (load_span _ _ z36 (MapKept.heap_alloc w _).1)) rfl ⟨rfl, below_alloc HB.out _⟩
 ·have b0 : decide (i < 0) = false := decide_eq_false h0
  by_cases h1 : i < (l.length : Int)
  ·have b1 : decide ((l.length : Int) ≤ i) = false := decide_eq_false (by omega)
   have p0 : 0 ≤ i := by omega
   obtain ⟨ad, e1, hx0, hx1, hx2, hx3, hx4, hx5, hx6, hx7⟩ := at_T36 hr i p0 h1
   cases e1
   replace hx0 := fun o => ((below_alloc HB.out o).cell (World.block_lt_of_cell? w _ hx0)).trans hx0
   replace hx1 := fun o => ((below_alloc HB.out o).cell (World.block_lt_of_cell? w _ hx1)).trans hx1
   replace hx2 := fun o => ((below_alloc HB.out o).cell (World.block_lt_of_cell? w _ hx2)).trans hx2
   replace hx3 := fun o => ((below_alloc HB.out o).cell (World.block_lt_of_cell? w _ hx3)).trans hx3
   replace hx4 := fun o => ((below_alloc HB.out o).cell (World.block_lt_of_cell? w _ hx4)).trans hx4
   replace hx5 := fun o => ((below_alloc HB.out o).cell (World.block_lt_of_cell? w _ hx5)).trans hx5
   replace hx6 := fun o => ((below_alloc HB.out o).cell (World.block_lt_of_cell? w _ hx6)).trans hx6
   replace hx7 := fun o => ((below_alloc HB.out o).cell (World.block_lt_of_cell? w _ hx7)).trans hx7
   have hit : i.toNat < l.length := by omega
   have hmem : rd_T36 l i ∈ l := by
    rw [show rd_T36 l i = l[i.toNat] by simp [rd_T36, List.getD, hit]]
    exact List.getElem_mem _
   obtain ⟨km, hkm⟩ := hm _ hmem
   have QM := Aside0.mk (fun W => span_May.calls km _ _ _ _ _ _ _ _ _ W hkm)
   have hq : findS m l i = if m (rd_T36 l i) = true then (rd_T36 l i, true) else (z36, false) := by
    unfold findS
    by_cases hv : m (rd_T36 l i) = true
    ·rw [if_pos ⟨p0, h1, hv⟩, if_pos hv]
    ·rw [if_neg (fun h => hv h.2.2), if_neg hv]
   rw [hq]
   clear hq hkm hmem hm hr hit h0
   generalize rd_T36 l i = s at *
   replace p0 := eq_true p0
   replace h1 := eq_true h1
   cases hv : m s with
   | true =>
    rw [hv] at QM
    rw [if_pos rfl]
    clear hv
    go_enter Tryz.func138, Tryz.ntmps138
    go_wp2_with (first | (go_at_call 55; refine (QM.out _).mono ?_; rintro e w1 ⟨rfl, hb⟩; have HB1 := Aside0.mk (below_step (below_alloc HB.out _) hb); have BK := Aside0.mk ((hb.block w.heap.size (by simp)).trans (MapKept.heap_alloc w _).1); have hc2 : w1.cell? ⟨B, 0, none⟩ = _ := (hb.cell (World.block_lt_of_cell? _ _ (hc1 _))).trans (hc1 _); have hy0 := (hb.cell (World.block_lt_of_cell? _ _ (hx0 _))).trans (hx0 _); have hy1 := (hb.cell (World.block_lt_of_cell? _ _ (hx1 _))).trans (hx1 _); have hy2 := (hb.cell (World.block_lt_of_cell? _ _ (hx2 _))).trans (hx2 _); have hy3 := (hb.cell (World.block_lt_of_cell? _ _ (hx3 _))).trans (hx3 _); have hy4 := (hb.cell (World.block_lt_of_cell? _ _ (hx4 _))).trans (hx4 _); have hy5 := (hb.cell (World.block_lt_of_cell? _ _ (hx5 _))).trans (hx5 _); have hy6 := (hb.cell (World.block_lt_of_cell? _ _ (hx6 _))).trans (hx6 _); have hy7 := (hb.cell (World.block_lt_of_cell? _ _ (hx7 _))).trans (hx7 _); clear hb) | ((with_reducible refine gate_store (t := 36) (p := 3) rfl ?_); refine store_blk 36 _ [.int .u64 s.f0, .int .u64 s.f1, .int .u64 s.f2, .int .u8 s.f3, .string s.f4, .string s.f5, .int .i64 s.f6, .int .i64 s.f7] rfl rfl (.tmp 3) (.tmp 25) rfl rfl rfl rfl (by kernel_rfl) (by intro q hq; simp only [List.mem_cons, List.not_mem_nil, or_false] at hq; rcases hq with rfl | rfl | rfl | rfl | rfl | rfl | rfl | rfl <;> rfl) BK.out rfl ?_; intro w2 hbk hg; have BK2 := Aside0.mk hbk; have HB2 := Aside0.mk (HB1.out.grown hg HB1.out.size (fun j hj => by cases hj; exact Nat.le_refl _)); clear hbk hg))
    refine bodyPost_ret (results_cell2 rfl _ _ _ _ _ rfl (load_span _ _ s BK2.out)) rfl ⟨rfl, HB2.out⟩
   | false =>
    rw [hv] at QM
    rw [if_neg (by simp)]
    clear hv
    go_enter Tryz.func138, Tryz.ntmps138
    go_wp2_with (first | (go_at_call 55; refine (QM.out _).mono ?_; rintro e w1 ⟨rfl, hb⟩; have HB1 := Aside0.mk (below_step (below_alloc HB.out _) hb); have BK := Aside0.mk ((hb.block w.heap.size (by simp)).trans (MapKept.heap_alloc w _).1); have hc2 : w1.cell? ⟨B, 0, none⟩ = _ := (hb.cell (World.block_lt_of_cell? _ _ (hc1 _))).trans (hc1 _); have hy0 := (hb.cell (World.block_lt_of_cell? _ _ (hx0 _))).trans (hx0 _); have hy1 := (hb.cell (World.block_lt_of_cell? _ _ (hx1 _))).trans (hx1 _); have hy2 := (hb.cell (World.block_lt_of_cell? _ _ (hx2 _))).trans (hx2 _); have hy3 := (hb.cell (World.block_lt_of_cell? _ _ (hx3 _))).trans (hx3 _); have hy4 := (hb.cell (World.block_lt_of_cell? _ _ (hx4 _))).trans (hx4 _); have hy5 := (hb.cell (World.block_lt_of_cell? _ _ (hx5 _))).trans (hx5 _); have hy6 := (hb.cell (World.block_lt_of_cell? _ _ (hx6 _))).trans (hx6 _); have hy7 := (hb.cell (World.block_lt_of_cell? _ _ (hx7 _))).trans (hx7 _); clear hb) | ((with_reducible refine gate_store (t := 36) (p := 3) rfl ?_); refine store_blk 36 _ [.int .u64 z36.f0, .int .u64 z36.f1, .int .u64 z36.f2, .int .u8 z36.f3, .string z36.f4, .string z36.f5, .int .i64 z36.f6, .int .i64 z36.f7] rfl rfl (.tmp 3) (.tmp 21) rfl rfl rfl rfl (by kernel_rfl) (by intro q hq; simp only [List.mem_cons, List.not_mem_nil, or_false] at hq; rcases hq with rfl | rfl | rfl | rfl | rfl | rfl | rfl | rfl <;> rfl) BK.out rfl ?_; intro w2 hbk hg; have BK2 := Aside0.mk hbk; have HB2 := Aside0.mk (HB1.out.grown hg HB1.out.size (fun j hj => by cases hj; exact Nat.le_refl _)); clear hbk hg))
    refine bodyPost_ret (results_cell2 rfl _ _ _ _ _ rfl (load_span _ _ z36 BK2.out)) rfl ⟨rfl, HB2.out⟩
  ·have e : findS m l i = (z36, false) := by unfold findS; rw [if_neg (by omega)]
   rw [e]
   have b1 : decide ((l.length : Int) ≤ i) = true := decide_eq_true (by omega)
   clear e hm hr h0 h1
   go_enter Tryz.func138, Tryz.ntmps138
   go_wp2_with fail
   refine bodyPost_ret (results_cell2 rfl _ _ _ _ _ rfl (load_span _ _ z36 (MapKept.heap_alloc w _).1)) rfl ⟨rfl, below_alloc HB.out _⟩
theorem finder_calls (A0 : Option Addr) (n c0 : Nat) (w : World) : Calls Tryz.prog 111 #[.slice A0 n c0] w fun e w' => ∃ B, e = .returned (.func (.func 138) #[] #[.pointer (some ⟨B, 0, none⟩)]) ∧ w'.cell? ⟨B, 0, none⟩ = some (.slice A0 n c0) ∧ Below w.heap.size w w' := by
 have hmf : ∀ (fn : Fn) (first cap : Array Value) (w : World), (Instr.makeFunc fn first cap).run Tryz.prog w = .ok (.func fn first cap) w := fun _ _ _ _ => rfl
 have HB := Aside0.mk (Below.refl w.heap.size w)
 go_enter Tryz.func111, Tryz.ntmps111
 go_wp2_with fail
 go_ret
 exact ⟨w.heap.size, rfl, (blk_cell (MapKept.heap_alloc w _).1 0).trans rfl, below_alloc HB.out _⟩
def gapsB (m : S36 → Bool) (l : List S36) (c s : Int) : Int × Int × Bool :=
 if (findS m l c).2 = true ∧ (findS m l s).2 = true then (wrap64 ((findS m l s).1.f6 - (findS m l c).1.f6), wrap64 (wrap64 ((findS m l c).1.f7 - (findS m l s).1.f7) - wrap64 ((findS m l s).1.f6 - (findS m l c).1.f6)), true) else (0, 0, false)
set_option maxHeartbeats 4000000 in
set_option maxRecDepth 100000 in
theorem gaps_calls (m : S36 → Bool) (l : List S36) (hm : ∀ s ∈ l, ∃ k, span_May.f k s.f0 s.f1 s.f2 s.f3 s.f4 s.f5 s.f6 s.f7 = some (m s)) (p0 p1 : Int) (A0 : Option Addr) (c0 : Nat) (w : World) (hr : Kd.C k36 w A0 l.length l) :
  Calls Tryz.prog 110 #[.slice A0 l.length c0, .agg #[.int .i64 p0, .int .i64 p1]] w fun e w' => e = .returned (.tuple #[.int .i64 (gapsB m l p0 p1).1, .int .i64 (gapsB m l p0 p1).2.1, .bool (gapsB m l p0 p1).2.2]) ∧ Below w.heap.size w w' := by
 have HB := Aside0.mk (Below.refl w.heap.size w)
 have QF0 := Aside0.mk (fun (B : Nat) (W : World) (hb : Below w.heap.size w W) hc => found_calls m l hm p0 A0 c0 B W (Kd.C_below hr hb) hc)
 have QF1 := Aside0.mk (fun (B : Nat) (W : World) (hb : Below w.heap.size w W) hc => found_calls m l hm p1 A0 c0 B W (Kd.C_below hr hb) hc)
 clear hm hr
 have hg : gapsB m l p0 p1 = if (findS m l p0).2 = true ∧ (findS m l p1).2 = true then (wrap64 ((findS m l p1).1.f6 - (findS m l p0).1.f6), wrap64 (wrap64 ((findS m l p0).1.f7 - (findS m l p1).1.f7) - wrap64 ((findS m l p1).1.f6 - (findS m l p0).1.f6)), true) else (0, 0, false) := rfl
 rw [hg]
 clear hg
 generalize findS m l p0 = X at *
 generalize findS m l p1 = Y at *
 obtain ⟨x, bx⟩ := X
 obtain ⟨y, bY⟩ := Y
 dsimp only at *
 have go : ∀ (b1 b2 : Bool), bx = b1 → bY = b2 → Calls Tryz.prog 110 #[.slice A0 l.length c0, .agg #[.int .i64 p0, .int .i64 p1]] w fun e w' => e = .returned (.tuple #[.int .i64 (if b1 = true ∧ b2 = true then (wrap64 (y.f6 - x.f6), wrap64 (wrap64 (x.f7 - y.f7) - wrap64 (y.f6 - x.f6)), true) else ((0 : Int), (0 : Int), false)).1, .int .i64 (if b1 = true ∧ b2 = true then (wrap64 (y.f6 - x.f6), wrap64 (wrap64 (x.f7 - y.f7) - wrap64 (y.f6 - x.f6)), true) else ((0 : Int), (0 : Int), false)).2.1, .bool (if b1 = true ∧ b2 = true then (wrap64 (y.f6 - x.f6), wrap64 (wrap64 (x.f7 - y.f7) - wrap64 (y.f6 - x.f6)), true) else ((0 : Int), (0 : Int), false)).2.2]) ∧ Below w.heap.size w w' := by
  intro b1 b2 e1 e2
  subst e1 e2
  cases bx <;> cases bY
  all_goals
   simp only [true_and, and_true, and_false, false_and, if_true, if_false, Bool.false_eq_true, and_self, reduceIte]
   go_enter Tryz.func110, Tryz.ntmps110
   go_wp2_with (first
    | (go_at_call 111; refine (finder_calls A0 _ c0 _).mono ?_; rintro e w1 ⟨B, rfl, hcl, hb⟩; have HB1 := Aside0.mk (below_step (below_alloc HB.out _) hb); have bp := (hb.block w.heap.size (by simp)).trans (MapKept.heap_alloc w _).1; have k0 : w1.cell? ⟨w.heap.size, 0, none⟩ = some (.int .i64 p0) := (blk_cell bp 0).trans rfl; have k1 : w1.cell? ⟨w.heap.size, 1, none⟩ = some (.int .i64 p1) := (blk_cell bp 1).trans rfl; have HC1 := Aside0.mk hcl; clear hb bp hcl)
    | (go_at_call 138; with_reducible refine (QF0.out B w1 HB1.out HC1.out).mono ?_; rintro e w2 ⟨rfl, hb⟩; have HB2 := Aside0.mk (below_step HB1.out hb); have HC2 := Aside0.mk ((hb.cell (World.block_lt_of_cell? _ _ HC1.out)).trans HC1.out); have k3 := (hb.cell (World.block_lt_of_cell? _ _ k1)).trans k1; have k4 := fun o => ((below_alloc (Below.refl w2.heap.size w2) o).cell (World.block_lt_of_cell? w2 _ k3)).trans k3; clear hb QF0 HC1 HB1)
    | (go_at_call 138; refine (QF1.out B _ (below_alloc HB2.out _) (((below_alloc (Below.refl w2.heap.size w2) _).cell (World.block_lt_of_cell? w2 _ HC2.out)).trans HC2.out)).mono ?_; rintro e w3 ⟨rfl, hb⟩; have HB3 := Aside0.mk (below_step (below_alloc HB2.out _) hb); have bx3 := (hb.block w2.heap.size (by simp)).trans (MapKept.heap_alloc w2 _).1; have j6 : w3.cell? ⟨w2.heap.size, 6, none⟩ = some (.int .i64 x.f6) := (blk_cell bx3 6).trans rfl; have j7 : w3.cell? ⟨w2.heap.size, 7, none⟩ = some (.int .i64 x.f7) := (blk_cell bx3 7).trans rfl; have i6 := fun o => ((below_alloc (Below.refl w3.heap.size w3) o).cell (World.block_lt_of_cell? w3 _ j6)).trans j6; have i7 := fun o => ((below_alloc (Below.refl w3.heap.size w3) o).cell (World.block_lt_of_cell? w3 _ j7)).trans j7; clear hb bx3))
   repeat (go_quiet (fail); try go_wp2)
   refine bodyPost_ret (results_tmp3 rfl _ _ _) rfl ?_
   exact ⟨rfl, by first | exact below_alloc HB3.out _ | exact pw_below_drewN (below_alloc HB3.out _) _ | (apply pw_below_drewN; exact below_alloc HB3.out _)⟩
 exact go _ _ rfl rfl
end Go.Proofs.YtgknjgionicncaaGreat.L
namespace Go.Proofs.YtgknjgionicncaaGreat.L
open Go.RowKit Go.Proofs.YtgknjgionicncaaGreat.Q Go.Proofs.YtgknjgionicncaaGreatW.PrintWords Go.Proofs.YtgknjgionicncaaGreatW.PrintLast Go.Proofs.YtgknjgionicncaaGreatW.PrintMore Go.Proofs.YtgknjgionicncaaGreatW.MapB Go.Maps Go.WideMaps
set_option linter.unusedVariables false
theorem numsL_next (l0 : List S36) (x : Int) (h0 : 0 ≤ x) (h1 : x < l0.length) : (numsL l0).take (x + 1).toNat = (numsL l0).take x.toNat ++ [(numB (hostsB l0) (rd_T36 l0 x).f4 : Int)] := by
 have h3 : x.toNat < l0.length := by omega
 rw [show (x + 1).toNat = x.toNat + 1 by omega, List.take_succ_eq_append_getElem (by unfold numsL; rw [List.length_map]; exact h3)]
 congr 2
 unfold numsL
 rw [List.getElem_map]
 simp [rd_T36, List.getD, h3]
set_option maxHeartbeats 4000000 in
set_option maxRecDepth 100000 in
theorem nums_calls (l0 : List S36) (hl : l0.length ≤ 1759218604441) (hf : ∀ x ∈ l0, fitS x) (A0 : Option Addr) (c0 : Nat) (w : World) (hr0 : Kd.C k36 w A0 l0.length l0) (hc0 : l0.length ≤ c0) :
  Calls Tryz.prog 109 #[.slice A0 l0.length c0] w fun e w' => ∃ v : Value, e = .returned v ∧ Kd.R (Kd.int .i64) 3 w' w.heap.size (fun _ => True) v (numsL l0) ∧ Below w.heap.size w w' := by
 have QN := Aside0.mk (numbers_calls l0 hl hf A0 c0 w hr0 hc0)
 have HR0 := Aside0.mk hr0
 have HL := Aside0.mk hl
 have HF := Aside0.mk hf
 have HB0 := Aside0.mk (Below.refl w.heap.size w)
 have NX := Aside0.mk (numsL_next l0)
 have ND := Aside0.mk (hostsB_nodup l0)
 have HMem : Aside0 (∀ x : Int, 0 ≤ x → x < l0.length → (rd_T36 l0 x).f4 ∈ hostsB l0) := ⟨fun x h0 h1 => (hostsB_mem l0 _).2 ⟨_, rdS_mem h0 h1, rfl⟩⟩
 have HLen := Aside0.mk (show (numsL l0).length = l0.length by unfold numsL; rw [List.length_map])
 clear hr0 hc0 hl hf
 generalize numsL l0 = ns at *
 generalize hostsB l0 = hs at *
 go_enter Tryz.func109, Tryz.ntmps109
 go_wp2_with (go_at_call 58; refine QN.out.mono ?_; rintro e w1 ⟨rfl, hm, hb⟩; have HM := Aside0.mk hm; have HB := Aside0.mk hb; clear hm hb)
 go_loopg [4, 11] l0.length (fun kq v4 v11 w' => ∃ x11 : Int, v11 = .int .i64 x11 ∧ Aside0 (0 ≤ x11 ∧ x11 + kq = l0.length) ∧ Aside0 (Kd.R (Kd.int .i64) 3 w' w.heap.size (fun _ => True) v4 (ns.take x11.toNat)) ∧ Aside0 (w'.ownsMap Tryz.prog 9 (plainElem Tryz.prog 3) w.heap.size hs.length (numD hs hs.length)) ∧ Aside0 (Below w.heap.size w w'))
 case atStart => exact ⟨0, rfl, ⟨by omega, by omega⟩, ⟨Kd.R_nil _ _ _ _ _⟩, HM, HB⟩
 case round =>
  clear HM HB
  obtain ⟨x11, rfl, HK, HO, HM, HB⟩ := hrel
  by_cases c1 : x11 < (l0.length : Int)
  ·have c1b := decide_eq_true c1
   have p1 : 0 ≤ x11 := HK.out.1
   obtain ⟨ad1, e1, hx1⟩ := at_T36 HR0.out x11 p1 c1
   cases e1
   obtain ⟨hx1_0, hx1_1, hx1_2, hx1_3, hx1_4, hx1_5, hx1_6, hx1_7⟩ := zc8 HB.out hx1
   have P1 := Aside0.mk p1
   have Q1 := Aside0.mk c1
   have HKey := Aside0.mk (keyOf_string_mk Tryz.underlying9 (s := (rd_T36 l0 x11).f4) (Nat.le_trans (HF.out _ (rdS_mem p1 c1)).2.1 (by decide)))
   have HNum := Aside0.mk (numD_num ND.out (HMem.out x11 p1 c1) (.lit (.int .i64 0)))
   replace p1 := eq_true p1
   replace c1 := eq_true c1
   have W1 := Aside0.mk (show wrap64 (x11 + 1) = x11 + 1 from by unfold wrap64; have := HL.out; have := P1.out; have := Q1.out; omega)
   go_wp2_with (first
    | (at_lookup; refine wpList_lookup_own_int _ rfl _ _ 91 rfl 9 3 .i64 lawStr Tryz.underlying91 Tryz.underlying3 (zeroInt _) w.heap.size hs.length _ rfl (HM.out.alloc _) _ _ rfl HKey.out ?_; intro c hat hwc; have HC := Aside0.mk (show c = (numB hs (rd_T36 l0 x11).f4 : Int) by have h := hat.symm.trans HNum.out; injection h with h; injection h); clear hat hwc)
    | ((with_reducible refine gate_builtin (b := .append) (xs := #[.tmp 15, .tmp 20]) rfl ?_); at_builtin; refine Kd.R_append (Kd.int .i64) (w0 := w) w.heap.size rfl (.tmp 15) (.tmp 20) 43 3 (.int .i64 0) 8 rfl Tryz.underlying43 (by kernel_rfl) rfl (by decide) (by omega) u4 (ns.take x11.toNat) c [.int .i64 c] (fun _ => True) (fun _ => False) rfl ?aX ?aP (fun _ hk => hk.elim) ?aF ?aO ?aB ?aS ?aL ?_; (case aX => first | rfl | (go_simp; done) | (simp; done)); (case aP => exact rfl); (case aB => exact zB); (case aF => exact (fun _ _ => trivial)); (case aO => exact (zR HO.out)); (case aS => exact (below_size zB)); (case aL => have := HL.out; have := Q1.out; simp only [List.length_take]; omega); intro v2 w2 ho hb hg hat; have HO2 := Aside0.mk ho; have HB2 := Aside0.mk hb; have HM2 := Aside0.mk (map_kept (HM.out.alloc _) (Kd.R_alloc HO.out _) hg); clear ho hb hg hat))
   obtain ⟨k1, rfl⟩ : ∃ k1, gk = k1 + 1 := ⟨gk - 1, by have := HK.out; have := Q1.out; omega⟩
   go_roundg k1
   case measure => omega
   case rel => exact ⟨x11 + 1, by rw [W1.out], ⟨by have := P1.out; omega, by have := HK.out; omega⟩, ⟨by rw [NX.out x11 P1.out Q1.out, ← HC.out]; exact HO2.out⟩, HM2, HB2⟩
  ·have c1b := decide_eq_false c1
   have hx : x11.toNat = ns.length := by have := HK.out; have := HLen.out; omega
   have ho := HO.out
   rw [hx, List.take_length] at ho
   have HO2 := Aside0.mk ho
   clear ho HO
   go_wp2
   go_ret
   exact ⟨_, rfl, HO2.out, HB.out⟩
set_option maxHeartbeats 4000000 in
set_option maxRecDepth 100000 in
theorem great_calls (l0 : List S36) (hl : l0.length ≤ 1759218604441) (hf : ∀ x ∈ l0, fitS x) (A0 : Option Addr) (c0 : Nat) (w : World) (hr0 : Kd.C k36 w A0 l0.length l0) (hc0 : l0.length ≤ c0) :
  Calls Tryz.prog 29 #[.slice A0 l0.length c0] w fun e w' => e = .returned (.bool (greatL l0)) ∧ Below w.heap.size w w' := by
 have QN := Aside0.mk (numbers_calls l0 hl hf A0 c0 w hr0 hc0)
 have HS := Aside0.mk (numD_size (hostsB_nodup l0) (hostsB l0).length (Nat.le_refl _))
 obtain ⟨r, hr⟩ : ∃ r, greatL l0 = r := ⟨_, rfl⟩
 rw [hr]
 have HR := Aside0.mk (show (decide (512 < l0.length) || decide (32 < (hostsB l0).length)) = r from hr)
 clear hr0 hc0 hl hf hr
 generalize hostsB l0 = hs at *
 by_cases c1 : (512 : Int) < (l0.length : Int)
 ·have c1b := decide_eq_true c1
  have h := HR.out
  rw [decide_eq_true (show 512 < l0.length by omega), Bool.true_or] at h
  subst h
  go_enter Tryz.func29, Tryz.ntmps29
  go_wp2
  go_ret
  exact ⟨rfl, Below.refl _ _⟩
 ·have c1b := decide_eq_false c1
  have h := HR.out
  rw [decide_eq_false (show ¬ 512 < l0.length by omega), Bool.false_or] at h
  have HR2 := Aside0.mk (show decide ((32 : Int) < (hs.length : Int)) = r by rw [← h]; rw [Bool.eq_iff_iff]; simp only [decide_eq_true_eq]; omega)
  clear h HR
  go_enter Tryz.func29, Tryz.ntmps29
  go_wp2_with (first
   | (go_at_call 58; refine QN.out.mono ?_; rintro e w1 ⟨rfl, hm, hb⟩; have HM := Aside0.mk hm; have HB := Aside0.mk hb; clear hm hb)
   | (at_len; (try (refine gate_guard (by rfl) ?_; dsimp only)); refine wpList_len_own _ rfl _ 91 rfl 9 3 Tryz.underlying91 _ w.heap.size hs.length _ rfl HM.out ?_; rw [HS.out]))
  go_ret
  exact ⟨by first | rfl | (rw [HR2.out]; rfl), HB.out⟩
end Go.Proofs.YtgknjgionicncaaGreat.L
namespace Go.Proofs.YtgknjgionicncaaGreat.L
open Go.RowKit Go.Proofs.YtgknjgionicncaaGreat.Q Go.Proofs.YtgknjgionicncaaGreatW.PrintWords Go.Proofs.YtgknjgionicncaaGreatW.PrintLast Go.Proofs.YtgknjgionicncaaGreatW.PrintMore Go.Proofs.YtgknjgionicncaaGreatW.MapB Go.Proofs.YtgknjgionicncaaGreatW.Lib
set_option linter.unusedVariables false
set_option linter.unusedSimpArgs false
def edgesAt (m : S36 → Bool) (l : List S36) (nums : List Int) (p : S57) : List S72 :=
 if (gapsB m l p.f0 p.f1).2.2 = true then [⟨rd nums p.f1, rd nums p.f0, (gapsB m l p.f0 p.f1).1, p, false⟩, ⟨rd nums p.f0, rd nums p.f1, (gapsB m l p.f0 p.f1).2.1, p, true⟩] else []
def edgesB (m : S36 → Bool) (l : List S36) (nums : List Int) (ps : List S57) : List S72 := ps.flatMap (edgesAt m l nums)
theorem edgesB_snoc (m : S36 → Bool) (l : List S36) (nums : List Int) (ps : List S57) (p : S57) : edgesB m l nums (ps ++ [p]) = edgesB m l nums ps ++ edgesAt m l nums p := by simp [edgesB]
theorem gapsB_in (m : S36 → Bool) (l : List S36) (c s : Int) (h : (gapsB m l c s).2.2 = true) : 0 ≤ c ∧ c < l.length ∧ 0 ≤ s ∧ s < l.length := by
 unfold gapsB at h
 split at h
 ·rename_i h2
  unfold findS at h2
  obtain ⟨h3, h4⟩ := h2
  split at h3
  ·rename_i h5
   split at h4
   ·rename_i h6
    exact ⟨h5.1, h5.2.1, h6.1, h6.2.1⟩
   ·cases h4
  ·cases h3
 ·cases h
theorem two_edges (W : World) (k : Nat) (x y : S72) (h : W.heap[k]? = some (.cells #[.int .i64 x.f0, .int .i64 x.f1, .int .i64 x.f2, .int .i64 x.f3.f0, .int .i64 x.f3.f1, .bool x.f4, .int .i64 y.f0, .int .i64 y.f1, .int .i64 y.f2, .int .i64 y.f3.f0, .int .i64 y.f3.f1, .bool y.f4] 72 (0, 0))) : ReadsRow (fun (e : S72) cs => cs = [.int .i64 e.f0, .int .i64 e.f1, .int .i64 e.f2, .int .i64 e.f3.f0, .int .i64 e.f3.f1, .bool e.f4]) 6 W (some ⟨k, 0, none⟩) 2 [x, y] := by
 refine ⟨rfl, by simp [Go.maxLen], fun _ => ⟨_, rfl, fun j p hj => ?_⟩⟩
 rcases j with _ | _ | j
 ·cases hj
  refine ⟨_, rfl, rfl, fun i u hi => ?_⟩
  rcases i with _ | _ | _ | _ | _ | _ | i <;> first | (cases hi; done) | (rw [Addr.add_lit]; exact (blk_cell h _).trans hi)
 ·cases hj
  refine ⟨_, rfl, rfl, fun i u hi => ?_⟩
  rcases i with _ | _ | _ | _ | _ | _ | i <;> first | (cases hi; done) | (rw [Addr.add_lit]; exact (blk_cell h _).trans hi)
 ·cases hj
theorem edgesB_length (m : S36 → Bool) (l : List S36) (nums : List Int) : ∀ ps : List S57, (edgesB m l nums ps).length ≤ 2 * ps.length
 | [] => by simp [edgesB]
 | p :: ps => by
  have ih := edgesB_length m l nums ps
  have h1 : (edgesAt m l nums p).length ≤ 2 := by unfold edgesAt; split <;> simp
  have h2 : edgesB m l nums (p :: ps) = edgesAt m l nums p ++ edgesB m l nums ps := by simp [edgesB]
  rw [h2, List.length_append, List.length_cons]
  omega
set_option maxHeartbeats 4000000 in
set_option maxRecDepth 100000 in
theorem edges_calls (m : S36 → Bool) (l : List S36) (hm : ∀ s ∈ l, ∃ k, span_May.f k s.f0 s.f1 s.f2 s.f3 s.f4 s.f5 s.f6 s.f7 = some (m s)) (hl : l.length ≤ 1759218604441) (hf : ∀ x ∈ l, fitS x) (ps : List S57) (hp : ps.length ≤ 100000000) (A0 A1 : Option Addr) (c0 c1 : Nat) (w : World) (hr0 : Kd.C k36 w A0 l.length l) (hc0 : l.length ≤ c0) (hr1 : Kd.C k57 w A1 ps.length ps) :
  Calls Tryz.prog 62 #[.slice A0 l.length c0, .slice A1 ps.length c1] w fun e w' => ∃ v : Value, e = .returned v ∧ Kd.R k72 72 w' w.heap.size (fun _ => True) v (edgesB m l (numsL l) ps) ∧ Below w.heap.size w w' := by
 have HR1 := Aside0.mk hr1
 have HP := Aside0.mk hp
 have HB0 := Aside0.mk (Below.refl w.heap.size w)
 have hnl : (numsL l).length = l.length := by unfold numsL; rw [List.length_map]
 have HNl := Aside0.mk hnl
 have QN := Aside0.mk (nums_calls l hl hf A0 c0 w hr0 hc0)
 have QG := Aside0.mk (fun (p0 p1 : Int) (W : World) (hb : Below w.heap.size w W) => gaps_calls m l hm p0 p1 A0 c0 W (Kd.C_below hr0 hb))
 have HIn := Aside0.mk (fun c s => gapsB_in m l c s)
 clear hr0 hc0 hr1 hp hl hf hm hnl
 generalize hnn : numsL l = nums at *
 clear hnn
 go_enter Tryz.func62, Tryz.ntmps62
 go_wp2_with (go_at_call 109; refine QN.out.mono ?_; rintro e w1 ⟨v5, rfl, ho, hb⟩; obtain ⟨A5, c5, rfl⟩ := Kd.R_slice ho; have HO1 := Aside0.mk ho; have HB1 := Aside0.mk hb; clear ho hb)
 go_loopg [6, 18] ps.length (fun kq v6 v18 w' => ∃ x18 : Int, v18 = .int .i64 x18 ∧ Aside0 (0 ≤ x18 ∧ x18 + kq = ps.length) ∧ Aside0 (Kd.R (Kd.int .i64) 3 w' w.heap.size (fun k => some k ≠ v6.ownBlock) (.slice A5 nums.length c5) nums) ∧ Aside0 (Kd.R k72 72 w' w.heap.size (fun k => some k ≠ (Value.slice A5 nums.length c5).ownBlock) v6 (edgesB m l nums (ps.take x18.toNat))) ∧ Aside0 (Below w.heap.size w w'))
 case atStart => exact ⟨0, rfl, ⟨by omega, by omega⟩, ⟨Kd.R_mono HO1.out (fun k _ h => by cases h)⟩, ⟨Kd.R_nil _ _ _ _ _⟩, HB1⟩
 case round =>
  obtain ⟨x18, rfl, HK, HN, HE, HB⟩ := hrel
  by_cases c1 : x18 < (ps.length : Int)
  ·have c1b := decide_eq_true c1
   have p1 : 0 ≤ x18 := HK.out.1
   obtain ⟨ad1, e1, hx0, hx1⟩ := at_T57 HR1.out x18 p1 c1
   cases e1
   replace hx0 := zc HB.out hx0
   replace hx1 := zc HB.out hx1
   have hit : x18.toNat < ps.length := by omega
   have HNx := Aside0.mk (show ps.take (x18 + 1).toNat = ps.take x18.toNat ++ [rd_T57 ps x18] from by
    rw [show (x18 + 1).toNat = x18.toNat + 1 by omega, List.take_succ_eq_append_getElem hit]
    simp [rd_T57, List.getD, hit])
   have P1 := Aside0.mk p1
   have Q1 := Aside0.mk c1
   have W1 := Aside0.mk (show wrap64 (x18 + 1) = x18 + 1 from by unfold wrap64; have := HP.out; have := P1.out; have := Q1.out; omega)
   clear hit
   generalize rd_T57 ps x18 = p at *
   replace p1 := eq_true p1
   replace c1 := eq_true c1
   obtain ⟨k1, rfl⟩ : ∃ k1, gk = k1 + 1 := ⟨gk - 1, by have := HK.out; have := Q1.out; omega⟩
   have QP := Aside0.mk (QG.out p.f0 p.f1)
   cases hq : (gapsB m l p.f0 p.f1).2.2 with
   | false =>
    have HEd := Aside0.mk (show edgesAt m l nums p = [] from by unfold edgesAt; rw [hq]; simp)
    rw [hq] at QP
    clear hq
    go_wp2_with (go_at_call 110; refine (QP.out _ (below_alloc HB.out _)).mono ?_; rintro e w2 ⟨rfl, hb⟩; have HB2 := Aside0.mk (below_step (below_alloc HB.out _) hb); have HN2 := Aside0.mk (Kd.R_below (Kd.R_alloc HN.out _) hb); have HE2 := Aside0.mk (Kd.R_below (Kd.R_alloc HE.out _) hb); clear hb)
    go_roundg k1
    case measure => omega
    case rel => exact ⟨x18 + 1, by rw [W1.out], ⟨by have := P1.out; omega, by have := HK.out; omega⟩, HN2, ⟨by rw [HNx.out, edgesB_snoc, HEd.out, List.append_nil]; exact HE2.out⟩, HB2⟩
   | true =>
    obtain ⟨i0, i1, i2, i3⟩ := HIn.out p.f0 p.f1 hq
    have HEd := Aside0.mk (show edgesAt m l nums p = [⟨rd nums p.f1, rd nums p.f0, (gapsB m l p.f0 p.f1).1, p, false⟩, ⟨rd nums p.f0, rd nums p.f1, (gapsB m l p.f0 p.f1).2.1, p, true⟩] from by unfold edgesAt; rw [hq]; simp)
    rw [hq] at QP
    clear hq
    rw [← HNl.out] at i1 i3
    obtain ⟨ad5, e5, hn0⟩ := Kd.at_int (Kd.R_reads' HN.out).2.2 p.f0 i0 i1
    cases e5
    obtain ⟨ad5', e5, hn1⟩ := Kd.at_int (Kd.R_reads' HN.out).2.2 p.f1 i2 i3
    obtain rfl : ad5 = ad5' := by injection e5
    generalize (gapsB m l p.f0 p.f1).1 = lead at *
    generalize (gapsB m l p.f0 p.f1).2.1 = rest at *
    replace i0 := eq_true i0
    replace i1 := eq_true i1
    replace i2 := eq_true i2
    replace i3 := eq_true i3
    go_wp2_with (go_at_call 110; refine (QP.out _ (below_alloc HB.out _)).mono ?_; rintro e w2 ⟨rfl, hb⟩; have HB2 := Aside0.mk (below_step (below_alloc HB.out _) hb); have HN2 := Aside0.mk (Kd.R_below (Kd.R_alloc HN.out _) hb); have HE2 := Aside0.mk (Kd.R_below (Kd.R_alloc HE.out _) hb); have bp := (hb.block wr.heap.size (by simp)).trans (MapKept.heap_alloc wr _).1; have kp0 : w2.cell? ⟨wr.heap.size, 0, none⟩ = some (.int .i64 p.f0) := (blk_cell bp 0).trans rfl; have kp1 : w2.cell? ⟨wr.heap.size, 1, none⟩ = some (.int .i64 p.f1) := (blk_cell bp 1).trans rfl; have h5 := (hb.cell (World.block_lt_of_cell? _ _ (((below_alloc (Below.refl wr.heap.size wr) (.cells #[.int .i64 p.f0, .int .i64 p.f1] 57)).cell (World.block_lt_of_cell? wr _ hn0)).trans hn0))).trans (((below_alloc (Below.refl wr.heap.size wr) (.cells #[.int .i64 p.f0, .int .i64 p.f1] 57)).cell (World.block_lt_of_cell? wr _ hn0)).trans hn0); have h6 := (hb.cell (World.block_lt_of_cell? _ _ (((below_alloc (Below.refl wr.heap.size wr) (.cells #[.int .i64 p.f0, .int .i64 p.f1] 57)).cell (World.block_lt_of_cell? wr _ hn1)).trans hn1))).trans (((below_alloc (Below.refl wr.heap.size wr) (.cells #[.int .i64 p.f0, .int .i64 p.f1] 57)).cell (World.block_lt_of_cell? wr _ hn1)).trans hn1); clear hb bp)
    go_quiet (fail)
    go_wp2_with (first | ((with_reducible refine gate_builtin (b := .append) (xs := #[.tmp 41, .tmp 52]) rfl ?_); at_builtin; refine Kd.R_append_rows k72 (Rr := fun (e : S72) cs => cs = [.int .i64 e.f0, .int .i64 e.f1, .int .i64 e.f2, .int .i64 e.f3.f0, .int .i64 e.f3.f1, .bool e.f4]) (w0 := w) w.heap.size rfl (.tmp 41) (.tmp 52) 29 72 (.agg #[.int .i64 0, .int .i64 0, .int .i64 0, .int .i64 0, .int .i64 0, .bool false]) 48 rfl Tryz.underlying29 (by kernel_rfl) rfl (by decide) (by omega) u6 (edgesB m l nums (ps.take x18.toNat)) [⟨rd nums p.f1, rd nums p.f0, lead, p, false⟩, ⟨rd nums p.f0, rd nums p.f1, rest, p, true⟩] _ _ _ (fun k => some k ≠ (Value.slice (some ad5) nums.length c5).ownBlock) (fun _ => False) rfl rfl ?aO ?aR ?aK (fun _ h => h.elim) ?aF ?aB ?aS ?aL ?_; (case aO => exact Kd.R_alloc (Kd.R_drewN HE2.out _) _); (case aR => exact two_edges _ _ ⟨rd nums p.f1, rd nums p.f0, lead, p, false⟩ ⟨rd nums p.f0, rd nums p.f1, rest, p, true⟩ (MapKept.heap_alloc _ _).1); (case aK => intro x cs h; rw [h]; exact k72_mkM _ _ _ x); (case aF => intro k hk h; have e : k = ad5.block := Option.some.inj h; have h7 := World.block_lt_of_cell? w2 _ h5; rw [add_block] at h7; have h8 : w2.heap.size ≤ k := Nat.le_trans (by simp) hk; omega); (case aB => exact below_alloc (pw_below_drewN HB2.out _) _); (case aS => exact (below_alloc (pw_below_drewN HB2.out _) _).size); (case aL => have h1 := edgesB_length m l nums (ps.take x18.toNat); rw [List.length_take] at h1; have h2 := HP.out; omega); intro v7 w7 ho hb hg hat; have HO7 := Aside0.mk ho; have HB7 := Aside0.mk hb; have HN7 := Aside0.mk (Kd.R_after (v := u6) (v1 := v7) (ok := (fun _ => True)) (Kd.R_alloc (Kd.R_drewN (Kd.R_mono HN2.out (fun _ hk => ⟨trivial, hk⟩)) _) _) hg hat); clear ho hb hg hat))
    go_roundg k1
    case measure => omega
    case rel => exact ⟨x18 + 1, by rw [W1.out], ⟨by have := P1.out; omega, by have := HK.out; omega⟩, ⟨Kd.R_mono HN7.out (fun _ hk => hk.2)⟩, ⟨by rw [HNx.out, edgesB_snoc, HEd.out]; exact HO7.out⟩, HB7⟩
  ·have c1b := decide_eq_false c1
   have hx : x18.toNat = ps.length := by have := HK.out; omega
   have ho := HE.out
   rw [hx, List.take_length] at ho
   have HO := Aside0.mk (Kd.R_mono ho (fun _ _ => trivial))
   clear ho hx c1
   go_wp2_with fail
   go_ret
   exact ⟨_, rfl, HO.out, HB.out⟩
end Go.Proofs.YtgknjgionicncaaGreat.L
namespace Go.Proofs.YtgknjgionicncaaGreat.L
open Go.RowKit Go.Proofs.YtgknjgionicncaaGreat.Q Go.Proofs.YtgknjgionicncaaGreatW.PrintWords Go.Proofs.YtgknjgionicncaaGreatW.PrintLast Go.Proofs.YtgknjgionicncaaGreatW.PrintMore Go.Proofs.YtgknjgionicncaaGreatW.Lib
set_option linter.unusedVariables false
def mayS (s : S36) : Bool := mayB s.f0 s.f1 s.f2 s.f3 s.f4 s.f5 s.f6 s.f7
theorem mayS_ev (l : List S36) (h : ∀ x ∈ l, fitS x) : ∀ s ∈ l, ∃ k, span_May.f k s.f0 s.f1 s.f2 s.f3 s.f4 s.f5 s.f6 s.f7 = some (mayS s) :=
 fun s hs => Ev.rounds (may_ev _ _ _ _ _ _ _ _ (h s hs).2.1 (h s hs).2.2)
def mayA (l : List S36) : Bool := l.all mayS
def fitR (x : S36) : Prop := fitS x ∧ 0 ≤ x.f3
instance : DecidablePred fitR := fun x => by unfold fitR; infer_instance
end Go.Proofs.YtgknjgionicncaaGreat.L
namespace Go.Proofs.YtgknjgionicncaaGreat.L
open Go.RowKit Go.Proofs.YtgknjgionicncaaGreat.Q Go.Proofs.YtgknjgionicncaaGreatW.PrintWords Go.Proofs.YtgknjgionicncaaGreatW.PrintLast Go.Proofs.YtgknjgionicncaaGreatW.PrintMore Go.Proofs.YtgknjgionicncaaGreatW.MapB Go.Proofs.YtgknjgionicncaaGreatW.Lib
set_option linter.unusedVariables false
set_option linter.unusedSimpArgs false
theorem claspan_calls (s : S36) (h : fitS s) (w : World) : Calls Tryz.prog 55 #[.agg #[.int .u64 s.f0, .int .u64 s.f1, .int .u64 s.f2, .int .u8 s.f3, .string s.f4, .string s.f5, .int .i64 s.f6, .int .i64 s.f7]] w fun e w' => e = .returned (.bool (mayS s)) ∧ Below w.heap.size w w' := by
 obtain ⟨k, hk⟩ := Ev.rounds (may_ev s.f0 s.f1 s.f2 s.f3 s.f4 s.f5 s.f6 s.f7 h.2.1 h.2.2)
 exact span_May.calls k _ _ _ _ _ _ _ _ _ w hk
set_option maxRecDepth 100000 in
theorem clamay_calls (s : S36) (h : fitS s) (w : World) : Calls Tryz.prog 91 #[.agg #[.int .u64 s.f0, .int .u64 s.f1, .int .u64 s.f2, .int .u8 s.f3, .string s.f4, .string s.f5, .int .i64 s.f6, .int .i64 s.f7]] w fun e w' => e = .returned (.bool (!mayS s)) ∧ Below w.heap.size w w' := by
 have HB := Aside0.mk (Below.refl w.heap.size w)
 have QM := Aside0.mk (claspan_calls s h)
 clear h
 go_enter Tryz.func91, Tryz.ntmps91
 go_wp2_with (go_at_call 55; refine (QM.out _).mono ?_; rintro e w1 ⟨rfl, hb⟩; have HB1 := Aside0.mk (below_step (below_alloc HB.out _) hb); clear hb)
 go_ret
 exact ⟨rfl, HB1.out⟩
set_option maxHeartbeats 4000000 in
set_option maxRecDepth 100000 in
theorem cla_index  (es : List S36) (hn : es.length ≤ 1000000000) (A0 : Option Addr) (c0 : Nat) (w : World) (hr0 : Kd.C k36 w A0 es.length es)
  (QL0 : ∀ e ∈ es, ∀ W, Below w.heap.size w W → Calls Tryz.prog 91 #[.agg #[.int .u64 e.f0, .int .u64 e.f1, .int .u64 e.f2, .int .u8 e.f3, .string e.f4, .string e.f5, .int .i64 e.f6, .int .i64 e.f7]] W fun r w' => r = .returned (.bool ((fun s => !mayS s) e)) ∧ Below W.heap.size W w') :
  Calls Tryz.prog 127 #[.slice A0 es.length c0, .func (.func 91) #[] #[]] w fun r w' => ∃ i : Int, r = .returned (.int .i64 i) ∧ decide (0 ≤ i) = es.any (fun s => !mayS s) ∧ Below w.heap.size w w' := by
 have HB0 := Aside0.mk (Below.refl w.heap.size w)
 have HR0 := Aside0.mk hr0
 have HN := Aside0.mk hn
 have QL := Aside0.mk QL0
 clear hr0 hn QL0
 generalize hpp : (fun s => !mayS s) = pp at *
 clear hpp
 go_enter Tryz.func127, Tryz.ntmps127
 go_wp2_with fail
 go_loopg [8] es.length (fun kq v8 w' => ∃ x8 : Int, v8 = .int .i64 x8 ∧ Aside0 (0 ≤ x8 ∧ x8 + kq = es.length) ∧ Aside0 (∀ e ∈ es.take x8.toNat, pp e = false) ∧ Aside0 (Below w.heap.size w w'))
 case atStart => exact ⟨0, rfl, ⟨by omega, by omega⟩, ⟨by simp⟩, HB0⟩
 case round =>
  obtain ⟨x8, rfl, HK, HA, HB⟩ := hrel
  by_cases c1 : x8 < (es.length : Int)
  ·have c1b := decide_eq_true c1
   have p1 : 0 ≤ x8 := HK.out.1
   obtain ⟨ad, e1, hx0, hx1, hx2, hx3, hx4, hx5, hx6, hx7⟩ := at_T36 HR0.out x8 p1 c1
   cases e1
   replace hx0 := zc HB.out hx0
   replace hx1 := zc HB.out hx1
   replace hx2 := zc HB.out hx2
   replace hx3 := zc HB.out hx3
   replace hx4 := zc HB.out hx4
   replace hx5 := zc HB.out hx5
   replace hx6 := zc HB.out hx6
   replace hx7 := zc HB.out hx7
   have hit : x8.toNat < es.length := by omega
   have hev : rd_T36 es x8 = es[x8.toNat] := by simp [rd_T36, List.getD, hit]
   have hem : rd_T36 es x8 ∈ es := by rw [hev]; exact List.getElem_mem _
   have HE := Aside0.mk (show es.take (x8 + 1).toNat = es.take x8.toNat ++ [rd_T36 es x8] from by
    rw [show (x8 + 1).toNat = x8.toNat + 1 by omega, List.take_succ_eq_append_getElem hit, hev])
   have QE := Aside0.mk (QL.out _ hem wr HB.out)
   have HM := Aside0.mk hem
   have P1 := Aside0.mk p1
   have Q1 := Aside0.mk c1
   have W1 := Aside0.mk (show wrap64 (x8 + 1) = x8 + 1 from by unfold wrap64; have := HN.out; have := P1.out; have := Q1.out; omega)
   clear hev hem hit
   generalize rd_T36 es x8 = e at *
   replace p1 := eq_true p1
   replace c1 := eq_true c1
   obtain ⟨k1, rfl⟩ : ∃ k1, gk = k1 + 1 := ⟨gk - 1, by have := HK.out; have := Q1.out; omega⟩
   cases hq : pp e with
   | false =>
    rw [hq] at QE
    have HQ := Aside0.mk hq
    clear hq
    go_wp2_with (go_at_call 91; refine QE.out.mono ?_; rintro r w1 ⟨rfl, hb⟩; have HB1 := Aside0.mk (below_step HB.out hb); clear hb)
    go_roundg k1
    case measure => omega
    case rel => exact ⟨x8 + 1, by rw [W1.out], ⟨by have := P1.out; omega, by have := HK.out; omega⟩, ⟨by
     rw [HE.out]
     intro y hy
     rcases List.mem_append.1 hy with h | h
     ·exact HA.out y h
     ·rw [List.mem_singleton.1 h]; exact HQ.out⟩, HB1⟩
   | true =>
    rw [hq] at QE
    have HQ := Aside0.mk hq
    clear hq
    go_wp2_with (go_at_call 91; refine QE.out.mono ?_; rintro r w1 ⟨rfl, hb⟩; have HB1 := Aside0.mk (below_step HB.out hb); clear hb)
    go_ret
    refine ⟨x8, rfl, ?_, HB1.out⟩
    rw [decide_eq_true P1.out]
    exact (List.any_eq_true.2 ⟨e, HM.out, HQ.out⟩).symm
  ·have c1b := decide_eq_false c1
   have hx : x8.toNat = es.length := by have := HK.out; omega
   have ha := HA.out
   rw [hx, List.take_length] at ha
   have HAll := Aside0.mk ha
   clear ha hx c1
   go_wp2_with fail
   go_ret
   refine ⟨-1, rfl, ?_, HB.out⟩
   exact (List.any_eq_false.2 (fun e he => by rw [HAll.out e he]; simp)).symm
set_option maxHeartbeats 2000000 in
set_option maxRecDepth 100000 in
theorem cla_contains  (es : List S36) (hn : es.length ≤ 1000000000) (A0 : Option Addr) (c0 : Nat) (w : World) (hr0 : Kd.C k36 w A0 es.length es)
  (QL0 : ∀ e ∈ es, ∀ W, Below w.heap.size w W → Calls Tryz.prog 91 #[.agg #[.int .u64 e.f0, .int .u64 e.f1, .int .u64 e.f2, .int .u8 e.f3, .string e.f4, .string e.f5, .int .i64 e.f6, .int .i64 e.f7]] W fun r w' => r = .returned (.bool ((fun s => !mayS s) e)) ∧ Below W.heap.size W w') :
  Calls Tryz.prog 90 #[.slice A0 es.length c0, .func (.func 91) #[] #[]] w fun r w' => r = .returned (.bool (es.any (fun s => !mayS s))) ∧ Below w.heap.size w w' := by
 have HB0 := Aside0.mk (Below.refl w.heap.size w)
 have QI := Aside0.mk (cla_index  es hn A0 c0 w hr0 QL0)
 clear hn hr0 QL0
 go_enter Tryz.func90, Tryz.ntmps90
 go_wp2_with (go_at_call 127; refine QI.out.mono ?_; rintro r w1 ⟨i, rfl, hd, hb⟩; have HD := Aside0.mk hd; have HB2 := Aside0.mk hb; clear hb hd)
 go_ret
 refine ⟨?_, HB2.out⟩
 rw [← HD.out]
 rfl
end Go.Proofs.YtgknjgionicncaaGreat.L
namespace Go.Proofs.YtgknjgionicncaaGreat.L
open Go.RowKit Go.Proofs.YtgknjgionicncaaGreat.Q Go.Proofs.YtgknjgionicncaaGreatW.PrintWords Go.Proofs.YtgknjgionicncaaGreatW.PrintLast Go.Proofs.YtgknjgionicncaaGreatW.PrintMore Go.Proofs.YtgknjgionicncaaGreatW.Lib Go.Sort Go.Lib
set_option linter.unusedVariables false
theorem cloneE_calls (l : List S72) (hl : l.length ≤ 1759218604441) (A : Option Addr) (c : Nat) (w : World) (hr : Kd.C k72 w A l.length l) (hc : l.length ≤ c) :
  Calls Tryz.prog 142 #[.slice A l.length c] w fun e w' => ∃ v : Value, e = .returned v ∧ Kd.R k72 72 w' w.heap.size (fun _ => True) v l ∧ Below w.heap.size w w' := by
 have q : ∀ (w : World) (a : Option Addr) (n c n' c' : Nat), (binOp .eql 29 (.slice a n c) (.slice none n' c')).run Tryz.prog w = .ok (.bool a.isNone) w := fun w a n c n' c' => Go.Lib.run_eql_slice_nil w _ _ a n c n' c' Tryz.underlying29
 cases A with
 | none =>
  have h0 : l = [] := by
   cases l with
   | nil => rfl
   | cons x l => obtain ⟨ad, h, _⟩ := hr.2.2 (by simp); exact absurd h (by simp)
  subst h0
  go_enter Tryz.func142, Tryz.ntmps142
  go_wp2
  go_ret
  exact ⟨_, rfl, Kd.R_nil _ _ _ _ _, Below.refl _ _⟩
 | some ad =>
  have HR0 := Aside0.mk hr
  clear hr
  have HL := Aside0.mk hl
  clear hl
  go_enter Tryz.func142, Tryz.ntmps142
  go_wp2_with (first
   | ((with_reducible refine gate_dst (N := 5) rfl ?_); refine Kd.R_lit k72 _ 72 ?hg (N := 5) ?hd (xs := ([] : List (S72))) (inner := []) (ok := fun _ => True) (okp := fun _ => True) ?hr ?hp (fun _ hk => hk) trivial (Below.refl _ _) (Nat.le_refl _) (by simp) ?_; (case hd => rfl); (case hg => rfl); (case hr => first | (go_simp; done) | (go_simp; rfl)); (case hp => exact (Reps.none _ _)); intro v1 w1 ho hb hg_ hnew_; clear hg_ hnew_; have HO := Aside0.mk ho; have HB := Aside0.mk hb; clear ho hb)
   | ((with_reducible refine gate_builtin (b := .append) (xs := #[.tmp 5, .tmp 6]) rfl ?_); at_builtin; refine Kd.R_append_rows k72 (w0 := w) w.heap.size rfl (.tmp 5) (.tmp 6) 29 72 (.agg #[(.int .i64 0), (.int .i64 0), (.int .i64 0), (.int .i64 0), (.int .i64 0), (.bool false)]) 48 rfl Tryz.underlying29 (by kernel_rfl) rfl (by decide) (by omega) v1 [] l _ _ _ (fun _ => True) (fun _ => False) rfl rfl ?aO ?aR (fun _ _ h => h) (fun _ h => h.elim) ?aF ?aB ?aS ?aL ?_; (case aR => exact (Kd.C_below HR0.out HB.out)); (case aB => exact HB.out); (case aF => exact (fun _ _ => trivial)); (case aO => exact HO.out); (case aS => exact HB.out.size); (case aL => have := HL.out; simp only [List.length_nil]; omega); intro v2 w2 ho hb hg hat; rw [List.nil_append] at ho; have HB2 := Aside0.mk hb; have HO2 := Aside0.mk ho; clear ho hb hg hat))
  go_ret
  exact ⟨_, rfl, HO2.out, HB2.out⟩
set_option maxRecDepth 100000 in
set_option maxHeartbeats 2000000 in
theorem growE_calls (n : Int) (h0 : 0 ≤ n) (h1 : n ≤ 1000000000) (w : World) :
  Calls Tryz.prog 171 #[.slice none 0 0, .int .i64 n] w fun e w' => ∃ v : Value, e = .returned v ∧ Kd.R k72 72 w' w.heap.size (fun _ => True) v [] ∧ Below w.heap.size w w' := by
 by_cases c : n = 0
 ·subst c
  go_enter Tryz.func171, Tryz.ntmps171
  go_wp2
  go_ret
  exact ⟨_, rfl, Kd.R_nil _ _ _ _ _, Below.refl _ _⟩
 ·have f1 : ¬ (n < 0) := by omega
  have f2 : wrap64 (n - 0) = n := by unfold wrap64; omega
  have f3 : n > 0 := by omega
  obtain ⟨v1, w1, hrun, hR, hg, _⟩ := Kd.R_zeros_run k72 (W := w) w.heap.size 29 3 29 72 (.agg #[(.int .i64 0), (.int .i64 0), (.int .i64 0), (.int .i64 0), (.int .i64 0), (.bool false)]) 48 Tryz.underlying29 Tryz.underlying3 (by kernel_rfl) rfl (by decide) (by omega)
   (.slice none 0 0) [] z72 (ok := fun _ => True) (by exact ⟨_, _, rfl, rfl, ⟨_, _, rfl, rfl, ⟨_, _, rfl, rfl, ⟨_, _, rfl, ⟨_, _, rfl, rfl, rfl⟩, rfl⟩⟩⟩⟩) (fun _ _ => trivial) (Kd.R_nil _ _ _ _ _) .i64 n h0 (by simp only [List.length_nil]; omega) (Nat.le_refl _)
  obtain ⟨g, cap, rfl, hb, hl, _⟩ := Kd.R_form hR (by simp; omega)
  have hlen : (([] : List S72) ++ List.replicate n.toNat z72).length = n.toNat := by simp
  rw [hlen] at hrun hR
  have hrd := Kd.R_reads' hR
  have hc : n.toNat ≤ cap := hrd.2.1
  have hT := Kd.R_take (m := 0) hR (Nat.zero_le _)
  rw [List.take_zero] at hT
  have f4 : wrap64 n = n := by unfold wrap64; omega
  have HT := Aside0.mk hT
  have HRUN := Aside0.mk hrun
  have HG := Aside0.mk hg
  clear hT hrun hg hR hrd hlen h0 h1 c hb hl
  go_enter Tryz.func171, Tryz.ntmps171
  go_wp2_with (first | ((with_reducible refine gate_builtin (b := .append) (xs := #[.tmp 20, .tmp 21]) rfl ?_); at_builtin; refine Go.Lib.wpList_append_run _ rfl _ _ _ _ rfl _ _ rfl rfl _ _ (by rw [f4]; exact HRUN.out) ?_))
  go_ret
  exact ⟨_, rfl, HT.out, (Below.refl _ _).grown HG.out (Nat.le_refl _) (fun k hk => by simp [Value.ownBlock] at hk)⟩
end Go.Proofs.YtgknjgionicncaaGreat.L
namespace Go.Proofs.YtgknjgionicncaaGreat.L
open Go.RowKit Go.Proofs.YtgknjgionicncaaGreat.Q Go.Proofs.YtgknjgionicncaaGreatW.PrintWords Go.Proofs.YtgknjgionicncaaGreatW.PrintLast Go.Proofs.YtgknjgionicncaaGreatW.PrintMore Go.Proofs.YtgknjgionicncaaGreatW.MapB Go.Proofs.YtgknjgionicncaaGreatW.Lib
set_option linter.unusedVariables false
set_option linter.unusedSimpArgs false
theorem blk_lt {w : World} {k : Nat} {o : Obj} (h : w.heap[k]? = some o) : k < w.heap.size := (Array.getElem?_eq_some_iff.1 h).1
end Go.Proofs.YtgknjgionicncaaGreat.L
namespace Go.Proofs.YtgknjgionicncaaGreat.L
open Go.RowKit Go.Proofs.YtgknjgionicncaaGreatW.PrintWords
set_option linter.unusedVariables false
theorem rdC_set (l : List Int) (i j v : Int) (h0 : 0 ≤ i) (h1 : i < l.length) (hj : 0 ≤ j) : rd (l.set i.toNat v) j = if i = j then v else rd l j := by
 unfold rd
 simp only [List.getD_eq_getElem?_getD, List.getElem?_set]
 by_cases e : i = j
 ·subst e
  rw [if_pos rfl, if_pos rfl, if_pos (by omega)]; rfl
 ·rw [if_neg e, if_neg (by omega)]
def upL (ps : List Int) (at_ : Int) : Nat → Int
 | 0 => at_
 | k + 1 => if at_ < 0 then at_ else upL ps (rd ps at_) k
theorem upL_neg (ps : List Int) {a : Int} (h : a < 0) : ∀ k, upL ps a k = a
 | 0 => rfl
 | k + 1 => by unfold upL; rw [if_pos h]
theorem upL_more (ps : List Int) : ∀ (k : Nat) (a : Int), upL ps a k < 0 → ∀ d, upL ps a (k + d) < 0
 | 0, a, h, d => by
  have h' : a < 0 := h
  rw [upL_neg ps h']
  exact h'
 | k + 1, a, h, d => by
  rw [show k + 1 + d = (k + d) + 1 by omega]
  unfold upL at h ⊢
  split
  ·assumption
  ·rename_i c
   rw [if_neg c] at h
   exact upL_more ps k _ h d
def endsAt (ps : List Int) (a : Int) : Prop := ∃ k, upL ps a k < 0
inductive Walk (ps : List Int) : Int → List Int → Int → Prop
 | none (a : Int) : Walk ps a [] a
 | step {a : Int} {L : List Int} {b : Int} : 0 ≤ a → Walk ps (rd ps a) L b → Walk ps a (a :: L) b
theorem Walk.up {ps : List Int} {a : Int} {L : List Int} {b : Int} (h : Walk ps a L b) : upL ps a L.length = b := by
 induction h with
 | none a => rfl
 | step h0 _ ih => simp only [List.length_cons, upL]; rw [if_neg (by omega)]; exact ih
theorem Walk.ends {ps : List Int} {a : Int} {L : List Int} {b : Int} (h : Walk ps a L b) (hb : endsAt ps b) : endsAt ps a ∧ ∀ x ∈ L, endsAt ps x := by
 induction h with
 | none a => exact ⟨hb, fun x hx => by cases hx⟩
 | @step a L b h0 _ ih =>
  obtain ⟨⟨k, hk⟩, h2⟩ := ih hb
  have ha : endsAt ps a := ⟨k + 1, by unfold upL; rw [if_neg (by omega)]; exact hk⟩
  refine ⟨ha, fun x hx => ?_⟩
  rcases List.mem_cons.1 hx with e | e
  ·rw [e]; exact ha
  ·exact h2 x e
theorem Walk.next {ps : List Int} {a : Int} {L : List Int} {b : Int} (h : Walk ps a L b) : ∀ x ∈ L, 0 ≤ x ∧ (rd ps x ∈ L ∨ rd ps x = b) := by
 induction h with
 | none a => intro x hx; cases hx
 | @step a L b h0 hw ih =>
  intro x hx
  rcases List.mem_cons.1 hx with e | e
  ·subst e
   refine ⟨h0, ?_⟩
   cases hw with
   | none => exact .inr rfl
   | step _ _ => exact .inl (List.mem_cons_of_mem _ (List.mem_cons_self ..))
  ·obtain ⟨h1, h2⟩ := ih x e
   exact ⟨h1, h2.elim (fun h => .inl (List.mem_cons_of_mem _ h)) .inr⟩
theorem Walk.round {ps : List Int} {a : Int} {L : List Int} {b : Int} (h : Walk ps a L b) (hb : b ∈ L) : ∀ x ∈ L, ¬ endsAt ps x := by
 have hn := h.next
 have key : ∀ (k : Nat) (x : Int), x ∈ L → 0 ≤ upL ps x k := by
  intro k
  induction k with
  | zero => intro x hx; exact (hn x hx).1
  | succ k ih =>
   intro x hx
   obtain ⟨h0, h1⟩ := hn x hx
   unfold upL
   rw [if_neg (by omega)]
   rcases h1 with h1 | h1
   ·exact ih _ h1
   ·rw [h1]; exact ih _ hb
 rintro x hx ⟨k, hk⟩
 have := key k x hx
 omega
def mark (v : Int) (L : List Int) (st : List Int) : List Int := L.foldl (fun s x => s.set x.toNat v) st
theorem mark_len (v : Int) : ∀ (L st : List Int), (mark v L st).length = st.length
 | [], _ => rfl
 | x :: L, st => by
  have := mark_len v L (st.set x.toNat v)
  rw [List.length_set] at this
  exact this
theorem rd_mark (v : Int) : ∀ (L st : List Int), (∀ x ∈ L, 0 ≤ x ∧ x < st.length) → ∀ j : Int, 0 ≤ j → rd (mark v L st) j = if j ∈ L then v else rd st j
 | [], st, _, j, _ => by simp [mark]
 | x :: L, st, h, j, hj => by
  have hx := h x (List.mem_cons_self ..)
  have e : mark v (x :: L) st = mark v L (st.set x.toNat v) := rfl
  rw [e, rd_mark v L _ (fun y hy => by rw [List.length_set]; exact h y (List.mem_cons_of_mem _ hy)) j hj, rdC_set st x j v hx.1 hx.2 hj]
  by_cases c : j ∈ L
  ·rw [if_pos c, if_pos (List.mem_cons_of_mem _ c)]
  ·rw [if_neg c]
   by_cases d : x = j
   ·rw [if_pos d, if_pos (by rw [d]; exact List.mem_cons_self ..)]
   ·rw [if_neg d, if_neg (fun h => (List.mem_cons.1 h).elim (fun h => d h.symm) c)]
def go1 (ps : List Int) : Nat → List Int → Int → List Int × Int
 | 0, st, a => (st, a)
 | f + 1, st, a => if 0 ≤ a ∧ rd st a = 0 then go1 ps f (st.set a.toNat 1) (rd ps a) else (st, a)
def go2 (ps : List Int) : Nat → List Int → Int → List Int
 | 0, st, _ => st
 | f + 1, st, a => if 0 ≤ a ∧ rd st a = 1 then go2 ps f (st.set a.toNat 2) (rd ps a) else st
def inR (n : Nat) (ps : List Int) : Prop := ps.length = n ∧ ∀ p ∈ ps, -1 ≤ p ∧ p < n
theorem inR_rd {n : Nat} {ps : List Int} (h : inR n ps) {a : Int} (h0 : 0 ≤ a) (h1 : a < n) : -1 ≤ rd ps a ∧ rd ps a < n := by
 have hx : a.toNat < ps.length := by rw [h.1]; omega
 have e : rd ps a = ps[a.toNat] := by simp [rd, List.getD, hx]
 rw [e]
 exact h.2 _ (List.getElem_mem _)
def zeros (st : List Int) : Nat := st.countP (fun x => decide (x = 0))
theorem zeros_set {st : List Int} {a : Int} (h0 : 0 ≤ a) (h1 : a < st.length) (hz : rd st a = 0) : zeros (st.set a.toNat 1) + 1 = zeros st := by
 have hx : a.toNat < st.length := by omega
 have e : st[a.toNat] = 0 := by simpa [rd, List.getD, hx] using hz
 unfold zeros
 rw [List.countP_set hx, e]
 have : 0 < st.countP (fun x => decide (x = 0)) := List.countP_pos_iff.2 ⟨0, by rw [← e]; exact List.getElem_mem _, by decide⟩
 simp
 omega
theorem go1_spec {n : Nat} {ps : List Int} (hp : inR n ps) : ∀ (f : Nat) (st : List Int) (a : Int), st.length = n → zeros st < f → a < n → ∃ L b, go1 ps f st a = (mark 1 L st, b) ∧ Walk ps a L b ∧ L.Nodup ∧ (∀ x ∈ L, 0 ≤ x ∧ x < n ∧ rd st x = 0) ∧ b < n ∧ (b < 0 ∨ rd (mark 1 L st) b ≠ 0)
 | 0, st, a, hl, hz, ha => by omega
 | f + 1, st, a, hl, hz, ha => by
  unfold go1
  by_cases c : 0 ≤ a ∧ rd st a = 0
  ·rw [if_pos c]
   have hzs := zeros_set c.1 (by rw [hl]; exact ha) c.2
   obtain ⟨L, b, h1, h2, h3, h4, h5, h6⟩ := go1_spec hp f (st.set a.toNat 1) (rd ps a) (by rw [List.length_set, hl]) (by omega) (inR_rd hp c.1 ha).2
   have hset : ∀ x : Int, 0 ≤ x → rd (st.set a.toNat 1) x = if a = x then 1 else rd st x := fun x hx => rdC_set st a x 1 c.1 (by rw [hl]; exact ha) hx
   have hna : ∀ x ∈ L, x ≠ a ∧ rd st x = 0 := by
    intro x hx
    obtain ⟨g0, g1, g2⟩ := h4 x hx
    rw [hset x g0] at g2
    by_cases e : a = x
    ·rw [if_pos e] at g2; omega
    ·rw [if_neg e] at g2; exact ⟨fun h => e h.symm, g2⟩
   refine ⟨a :: L, b, h1, .step c.1 h2, List.nodup_cons.2 ⟨fun h => (hna a h).1 rfl, h3⟩, ?_, h5, h6⟩
   intro x hx
   rcases List.mem_cons.1 hx with e | e
   ·rw [e]; exact ⟨c.1, ha, c.2⟩
   ·exact ⟨(h4 x e).1, (h4 x e).2.1, (hna x e).2⟩
  ·rw [if_neg c]
   refine ⟨[], a, rfl, .none a, List.nodup_nil, (fun x hx => absurd hx (by simp)), ha, ?_⟩
   show a < 0 ∨ rd st a ≠ 0
   rcases Int.lt_or_le a 0 with h | h
   ·exact .inl h
   ·exact .inr fun e => c ⟨h, e⟩
theorem go2_spec {ps : List Int} {a : Int} {L : List Int} {b : Int} (h : Walk ps a L b) : ∀ (f : Nat) (st : List Int), L.Nodup → (∀ x ∈ L, 0 ≤ x ∧ x < st.length ∧ rd st x = 1) → (b < 0 ∨ rd (mark 2 L st) b ≠ 1) → L.length < f → go2 ps f st a = mark 2 L st := by
 induction h with
 | none a =>
  intro f st _ _ hb hf
  obtain ⟨f, rfl⟩ : ∃ g, f = g + 1 := ⟨f - 1, by simp at hf; omega⟩
  unfold go2
  rw [if_neg (fun c => hb.elim (fun h => by omega) (fun h => h c.2))]
  rfl
 | @step a L b h0 hw ih =>
  intro f st nd hx hb hf
  rw [List.length_cons] at hf
  obtain ⟨f, rfl⟩ : ∃ g, f = g + 1 := ⟨f - 1, by omega⟩
  have ha := hx a (List.mem_cons_self ..)
  have nd2 := List.nodup_cons.1 nd
  unfold go2
  rw [if_pos ⟨h0, ha.2.2⟩]
  refine ih f (st.set a.toNat 2) nd2.2 ?_ hb (by omega)
  intro x hxl
  obtain ⟨g0, g1, g2⟩ := hx x (List.mem_cons_of_mem _ hxl)
  rw [List.length_set, rdC_set st a x 2 h0 ha.2.1 g0, if_neg (show ¬ a = x from fun e => nd2.1 (by rw [e]; exact hxl))]
  exact ⟨g0, g1, g2⟩
def roundC (ps : List Int) (z : List Int × List Int) (i : Int) : List Int × List Int :=
 let r := go1 ps (ps.length + 1) z.1 i
 (go2 ps (ps.length + 1) r.1 i, if 0 ≤ r.2 ∧ rd r.1 r.2 = 1 then z.2 ++ [r.2] else z.2)
structure CycInv (n : Nat) (ps : List Int) (z : List Int × List Int) : Prop where
 len : z.1.length = n
 two : ∀ a : Int, 0 ≤ a → a < n → rd z.1 a = 0 ∨ rd z.1 a = 2
 ends : z.2 = [] → ∀ a : Int, 0 ≤ a → a < n → rd z.1 a = 2 → endsAt ps a
 bad : z.2 ≠ [] → ∃ a : Int, 0 ≤ a ∧ a < n ∧ ¬ endsAt ps a
theorem zeros_le (st : List Int) : zeros st ≤ st.length := List.countP_le_length
theorem nodup_len {n : Nat} {L : List Int} (nd : L.Nodup) (h : ∀ x ∈ L, 0 ≤ x ∧ x < n) : L.length ≤ n := by
 have key : ∀ (l m : List Int), l.Nodup → (∀ x ∈ l, x ∈ m) → l.length ≤ m.length := by
  intro l
  induction l with
  | nil => intro m _ _; exact Nat.zero_le _
  | cons a l ih =>
   intro m nd h
   have ha := h a (List.mem_cons_self ..)
   have nd2 := List.nodup_cons.1 nd
   have := ih (m.erase a) nd2.2 (fun x hx => (List.mem_erase_of_ne (show x ≠ a from fun e => nd2.1 (by rw [← e]; exact hx))).2 (h x (List.mem_cons_of_mem _ hx)))
   rw [List.length_erase_of_mem ha] at this
   have h0 : 0 < m.length := List.length_pos_of_mem ha
   rw [List.length_cons]
   omega
 have := key L ((List.range n).map fun i : Nat => (i : Int)) nd (fun x hx => List.mem_map.2 ⟨x.toNat, List.mem_range.2 (by have := h x hx; omega), by have := h x hx; omega⟩)
 simpa using this
theorem round_inv {n : Nat} {ps : List Int} (hp : inR n ps) {z : List Int × List Int} (h : CycInv n ps z) {i : Int} (h0 : 0 ≤ i) (h1 : i < n) : CycInv n ps (roundC ps z i) ∧ rd (roundC ps z i).1 i = 2 ∧ ∀ a : Int, 0 ≤ a → a < n → rd z.1 a = 2 → rd (roundC ps z i).1 a = 2 := by
 obtain ⟨st, fl⟩ := z
 obtain ⟨hlen, htwo, hends, hbad⟩ := h
 dsimp only at hlen htwo hends hbad
 have hzl := zeros_le st
 obtain ⟨L, b, g1, g2, g3, g4, g5, g6⟩ := go1_spec hp (ps.length + 1) st i hlen (by rw [hp.1]; omega) h1
 have hL : L.length ≤ n := nodup_len g3 (fun x hx => ⟨(g4 x hx).1, (g4 x hx).2.1⟩)
 have m1 : ∀ j : Int, 0 ≤ j → rd (mark 1 L st) j = if j ∈ L then 1 else rd st j := rd_mark 1 L st (fun x hx => ⟨(g4 x hx).1, by rw [hlen]; exact (g4 x hx).2.1⟩)
 have m2 : ∀ j : Int, 0 ≤ j → rd (mark 2 L (mark 1 L st)) j = if j ∈ L then 2 else rd st j := by
  intro j hj
  rw [rd_mark 2 L _ (fun x hx => ⟨(g4 x hx).1, by rw [mark_len, hlen]; exact (g4 x hx).2.1⟩) j hj, m1 j hj]
  by_cases c : j ∈ L
  ·rw [if_pos c, if_pos c]
  ·rw [if_neg c, if_neg c]; rw [if_neg c]
 have e2 : go2 ps (ps.length + 1) (mark 1 L st) i = mark 2 L (mark 1 L st) := by
  refine go2_spec g2 _ _ g3 (fun x hx => ⟨(g4 x hx).1, by rw [mark_len, hlen]; exact (g4 x hx).2.1, by rw [m1 x (g4 x hx).1, if_pos hx]⟩) ?_ (by rw [hp.1]; omega)
  rcases Int.lt_or_le b 0 with c | c
  ·exact .inl c
  ·refine .inr ?_
   rw [m2 b c]
   by_cases d : b ∈ L
   ·rw [if_pos d]; decide
   ·rw [if_neg d]
    rcases htwo b c g5 with e | e <;> omega
 have hround : roundC ps (st, fl) i = (mark 2 L (mark 1 L st), if 0 ≤ b ∧ b ∈ L then fl ++ [b] else fl) := by
  unfold roundC
  dsimp only
  rw [g1]
  dsimp only
  rw [e2]
  congr 1
  by_cases c : 0 ≤ b
  ·rw [m1 b c]
   by_cases d : b ∈ L
   ·rw [if_pos d, if_pos ⟨c, rfl⟩, if_pos ⟨c, d⟩]
   ·rw [if_neg d, if_neg (show ¬ (0 ≤ b ∧ rd st b = 1) from fun h => by rcases htwo b c g5 with e | e <;> omega), if_neg (show ¬ (0 ≤ b ∧ b ∈ L) from fun h => d h.2)]
  ·rw [if_neg (fun h => c h.1), if_neg (fun h => c h.1)]
 have hi2 : rd (mark 2 L (mark 1 L st)) i = 2 := by
  rw [m2 i h0]
  by_cases d : i ∈ L
  ·rw [if_pos d]
  ·rw [if_neg d]
   rcases htwo i h0 h1 with e | e
   ·exfalso
    cases g2 with
    | none =>
     rcases g6 with h | h
     ·omega
     ·exact h e
    | step _ _ => exact d (List.mem_cons_self ..)
   ·exact e
 rw [hround]
 refine ⟨⟨by rw [mark_len, mark_len, hlen], ?_, ?_, ?_⟩, hi2, ?_⟩
 ·intro a a0 a1
  dsimp only
  rw [m2 a a0]
  by_cases d : a ∈ L
  ·rw [if_pos d]; exact .inr rfl
  ·rw [if_neg d]; exact htwo a a0 a1
 ·intro hf a a0 a1 h2
  dsimp only at hf h2
  by_cases c : 0 ≤ b ∧ b ∈ L
  ·rw [if_pos c] at hf; simp at hf
  ·rw [if_neg c] at hf
   rw [m2 a a0] at h2
   by_cases d : a ∈ L
   ·have hb : endsAt ps b := by
     rcases Int.lt_or_le b 0 with e | e
     ·exact ⟨0, e⟩
     ·have hnb : b ∉ L := fun h => c ⟨e, h⟩
      refine hends hf b e g5 ?_
      rcases htwo b e g5 with q | q
      ·exfalso
       rcases g6 with g | g
       ·omega
       ·rw [m1 b e, if_neg hnb] at g; exact g q
      ·exact q
    exact (g2.ends hb).2 a d
   ·rw [if_neg d] at h2
    exact hends hf a a0 a1 h2
 ·intro hf
  dsimp only at hf
  by_cases c : 0 ≤ b ∧ b ∈ L
  ·exact ⟨b, c.1, g5, g2.round c.2 b c.2⟩
  ·rw [if_neg c] at hf
   exact hbad hf
 ·intro a a0 a1 h2
  dsimp only at h2 ⊢
  rw [m2 a a0]
  by_cases d : a ∈ L
  ·rw [if_pos d]
  ·rw [if_neg d]; exact h2
def cycZ (ps : List Int) : Nat → List Int × List Int
 | 0 => (List.replicate ps.length 0, [])
 | k + 1 => roundC ps (cycZ ps k) (k : Int)
theorem cyc_inv {n : Nat} {ps : List Int} (hp : inR n ps) : ∀ k : Nat, k ≤ n → CycInv n ps (cycZ ps k) ∧ ∀ a : Int, 0 ≤ a → a < k → rd (cycZ ps k).1 a = 2
 | 0, _ => by
  have hr : ∀ a : Int, 0 ≤ a → a < n → rd (List.replicate ps.length (0 : Int)) a = 0 := fun a a0 a1 => by
   have hx : a.toNat < ps.length := by rw [hp.1]; omega
   simp [rd, List.getD, hx]
  refine ⟨⟨by simp [cycZ, hp.1], fun a a0 a1 => .inl (hr a a0 a1), ?_, fun h => absurd rfl h⟩, fun a a0 a1 => by omega⟩
  intro _ a a0 a1 h
  have := hr a a0 a1
  have h' : rd (List.replicate ps.length (0 : Int)) a = 2 := h
  omega
 | k + 1, hk => by
  obtain ⟨h1, h2⟩ := cyc_inv hp k (by omega)
  obtain ⟨g1, g2, g3⟩ := round_inv hp h1 (i := (k : Int)) (by omega) (by omega)
  refine ⟨g1, fun a a0 a1 => ?_⟩
  by_cases e : a = (k : Int)
  ·rw [e]; exact g2
  ·exact g3 a a0 (by omega) (h2 a a0 (by omega))
theorem cyc_none {n : Nat} {ps : List Int} (hp : inR n ps) : (cycZ ps n).2 = [] ↔ ∀ a : Int, 0 ≤ a → a < n → endsAt ps a := by
 obtain ⟨h1, h2⟩ := cyc_inv hp n (Nat.le_refl _)
 constructor
 ·intro h a a0 a1
  exact h1.ends h a a0 a1 (h2 a a0 a1)
 ·intro h
  cases hc : (cycZ ps n).2 with
  | nil => rfl
  | cons x l =>
   obtain ⟨a, a0, a1, hb⟩ := h1.bad (by rw [hc]; simp)
   exact absurd (h a a0 a1) hb
theorem ends_in {n : Nat} {ps : List Int} (hp : inR n ps) {a : Int} (a1 : a < n) : endsAt ps a ↔ upL ps a (n + 1) < 0 := by
 refine ⟨fun h => ?_, fun h => ⟨_, h⟩⟩
 have hz := zeros_le (List.replicate n (0 : Int))
 rw [List.length_replicate] at hz
 obtain ⟨L, b, g1, g2, g3, g4, g5, g6⟩ := go1_spec hp (n + 1) (List.replicate n 0) a (by simp) (by omega) a1
 have hL : L.length ≤ n := nodup_len g3 (fun x hx => ⟨(g4 x hx).1, (g4 x hx).2.1⟩)
 rcases Int.lt_or_le b 0 with c | c
 ·have := upL_more ps L.length a (by rw [g2.up]; exact c) (n + 1 - L.length)
  rw [show L.length + (n + 1 - L.length) = n + 1 by omega] at this
  exact this
 ·exfalso
  have hbL : b ∈ L := by
   rcases g6 with g | g
   ·omega
   ·rw [rd_mark 1 L _ (fun x hx => ⟨(g4 x hx).1, by rw [List.length_replicate]; exact (g4 x hx).2.1⟩) b c] at g
    by_cases d : b ∈ L
    ·exact d
    ·rw [if_neg d] at g
     exfalso
     apply g
     have hx : b.toNat < n := by omega
     simp [rd, List.getD, hx]
  have hr := g2.round hbL
  cases g2 with
  | none => cases hbL
  | step _ _ => exact hr a (List.mem_cons_self ..) h
end Go.Proofs.YtgknjgionicncaaGreat.L
namespace Go.Proofs.YtgknjgionicncaaGreat.L
open Go.RowKit Go.Proofs.YtgknjgionicncaaGreat.Q Go.Proofs.YtgknjgionicncaaGreatW.PrintWords Go.Proofs.YtgknjgionicncaaGreatW.PrintLast Go.Proofs.YtgknjgionicncaaGreatW.PrintMore Go.Proofs.YtgknjgionicncaaGreatW.Lib Go.Proofs.YtgknjgionicncaaGreatW.MapB
set_option linter.unusedVariables false
theorem no_calls (x : Int) (B : Nat) (b : Bool) (w : World) (hb : Boxed w B 4 (.bool b)) :
  Calls Tryz.prog 126 #[.int .i64 x, .pointer (some ⟨B, 0, none⟩)] w fun e w' => e = .returned (.tuple #[]) ∧ Boxed w' B 4 (.bool false) ∧ w.grownBy w' (some B) := by
 have hc := hb.cell
 have hf := hb.frozen
 go_enter Tryz.func126, Tryz.ntmps126
 go_wp2
 go_end0
 exact ⟨rfl, hb.set _, grownBy_setCell' _ _ _⟩
def rowB (W : World) (g : Nat) (st : List Int) : Prop := W.heap[g]? = some (.cells (st.map (Value.int .i64)).toArray 3 (0, 0))
theorem rowB_cell {W : World} {g : Nat} {st : List Int} (h : rowB W g st) {a : Int} (h0 : 0 ≤ a) (h1 : a < st.length) : W.cell? ⟨g, a.toNat, none⟩ = some (.int .i64 (rd st a)) := by
 have hx : a.toNat < st.length := by omega
 unfold rowB at h
 simp [World.cell?, h, rd, List.getD, hx]
theorem rowB_frozen {W : World} {g : Nat} {st : List Int} (h : rowB W g st) (a : Nat) : W.frozen? ⟨g, a, none⟩ = false := by
 unfold rowB at h
 simp [World.frozen?, h]
theorem rowB_set {W : World} {g : Nat} {st : List Int} (h : rowB W g st) (a : Nat) (v : Int) : rowB (W.setCell ⟨g, a, none⟩ (.int .i64 v)) g (st.set a v) := by
 unfold rowB at *
 obtain ⟨hlt, hk⟩ := Array.getElem?_eq_some_iff.1 h
 show (W.heap.modify g _)[g]? = _
 rw [Array.getElem?_eq_getElem (by rw [Array.size_modify]; exact hlt), Array.getElem_modify_self, hk]
 simp [List.map_set]
theorem rowB_kept {W W' : World} {g : Nat} {st : List Int} {row : Option Nat} (h : rowB W g st) (hg : W.grownBy W' row) (hne : some g ≠ row) : rowB W' g st := (hg.block g (Array.getElem?_eq_some_iff.1 h).1 hne).trans h
theorem heap_made (W : World) (z : Value) (n : Nat) (e : TypeId) : (W.alloc (.cells (madeCells #[z] n) e)).heap[W.heap.size]? = some (.cells (List.replicate n z).toArray e (0, 0)) := by
 have h := (MapKept.heap_alloc W (.cells (madeCells #[z] n) e)).1
 have e1 : madeCells #[z] n = (List.replicate n z).toArray := by
  apply Array.ext
  ·simp [madeCells]
  ·intro i h1 h2
   simp [madeCells, Nat.mod_one]
 exact h.trans (by rw [e1])
theorem grownBy_set (W : World) (g o : Nat) (v : Value) : W.grownBy (W.setCell ⟨g, o, none⟩ v) (some g) :=
 ⟨rfl, rfl, rfl, (KeepsWalks.setCell W _ v).size, fun k _ hk => Below.heap_setCell _ _ _ k (fun e => hk (by rw [e]))⟩
theorem go1_on {ps : List Int} {f : Nat} {st : List Int} {a : Int} (c : 0 ≤ a ∧ rd st a = 0) : go1 ps (f + 1) st a = go1 ps f (st.set a.toNat 1) (rd ps a) := by
 show (if _ then _ else _) = _
 rw [if_pos c]
theorem go1_stop {ps : List Int} {f : Nat} {st : List Int} {a : Int} (c : ¬ rd st a = 0) : go1 ps (f + 1) st a = (st, a) := by
 show (if _ then _ else _) = _
 rw [if_neg (fun h => c h.2)]
theorem go1_len (ps : List Int) : ∀ (f : Nat) (st : List Int) (a : Int), (go1 ps f st a).1.length = st.length
 | 0, _, _ => rfl
 | f + 1, st, a => by
  unfold go1
  split
  ·rw [go1_len ps f, List.length_set]
  ·rfl
def ones (st : List Int) : Nat := st.countP (fun x => decide (x = 1))
theorem ones_set {st : List Int} {a : Int} (h0 : 0 ≤ a) (h1 : a < st.length) (hz : rd st a = 1) : ones (st.set a.toNat 2) + 1 = ones st := by
 have hx : a.toNat < st.length := by omega
 have e : st[a.toNat] = 1 := by simpa [rd, List.getD, hx] using hz
 unfold ones
 rw [List.countP_set hx, e]
 have : 0 < st.countP (fun x => decide (x = 1)) := List.countP_pos_iff.2 ⟨1, by rw [← e]; exact List.getElem_mem _, by decide⟩
 simp
 omega
theorem go2_on {ps : List Int} {f : Nat} {st : List Int} {a : Int} (c : 0 ≤ a ∧ rd st a = 1) : go2 ps (f + 1) st a = go2 ps f (st.set a.toNat 2) (rd ps a) := by
 show (if _ then _ else _) = _
 rw [if_pos c]
theorem go2_stop {ps : List Int} {f : Nat} {st : List Int} {a : Int} (c : ¬ (0 ≤ a ∧ rd st a = 1)) : go2 ps (f + 1) st a = st := by
 show (if _ then _ else _) = _
 rw [if_neg c]
end Go.Proofs.YtgknjgionicncaaGreat.L
namespace Go.Proofs.YtgknjgionicncaaGreat.Q
open Go.RowKit Go.Proofs.YtgknjgionicncaaGreatW.PrintWords Go.Proofs.YtgknjgionicncaaGreatW.PrintLast Go.Proofs.YtgknjgionicncaaGreatW.PrintMore
attribute [local go_sem] max2_int min2_int max_two min_two max_three min_three max_four min_four
set_option linter.unusedVariables false
set_option linter.unusedSimpArgs false
end Go.Proofs.YtgknjgionicncaaGreat.Q
namespace Go.Proofs.YtgknjgionicncaaGreat.L
open Go.RowKit Go.Proofs.YtgknjgionicncaaGreat.Q Go.Proofs.YtgknjgionicncaaGreatW.PrintWords Go.Proofs.YtgknjgionicncaaGreatW.PrintLast Go.Proofs.YtgknjgionicncaaGreatW.PrintMore Go.Proofs.YtgknjgionicncaaGreatW.Lib
set_option linter.unusedVariables false
def upP (ps : List Int) (at_ : Int) : Nat → Int
 | 0 => at_
 | n + 1 => if at_ ≥ 0 then upP ps (rd ps at_) n else at_
def inP (n : Nat) (ps : List Int) : Prop := ∀ x ∈ ps, -1 ≤ x ∧ x < n
theorem inP_rd {ps : List Int} (h : inP ps.length ps) (x : Int) (h0 : 0 ≤ x) (h1 : x < ps.length) : -1 ≤ rd ps x ∧ rd ps x < ps.length := by
 have hx : x.toNat < ps.length := by omega
 have e : rd ps x = ps[x.toNat] := by simp [rd, List.getD, hx]
 rw [e]
 exact h _ (List.getElem_mem hx)
def onP (ps : List Int) (a : Int) : Bool := (List.range ps.length).any (fun n => decide (upP ps a (n + 1) = a))
def scanD (l : List S36) (id : Int) : Nat → Int → Int
 | 0, p => p
 | j + 1, p => scanD l id j (if id ≠ 0 ∧ (rd_T36 l j).f1 = id then (j : Int) else p)
theorem scanD_in (l : List S36) (id : Int) : ∀ (j : Nat) (p : Int), j ≤ l.length → -1 ≤ p → p < l.length → -1 ≤ scanD l id j p ∧ scanD l id j p < l.length
 | 0, p, _, h0, h1 => ⟨h0, h1⟩
 | j + 1, p, hj, h0, h1 => by
  simp only [scanD]
  split
  ·exact scanD_in l id j _ (by omega) (by omega) (by omega)
  ·exact scanD_in l id j _ (by omega) h0 h1
def rawL (l : List S36) : List Int := l.map (fun s => scanD l s.f2 l.length (-1))
theorem rawL_length (l : List S36) : (rawL l).length = l.length := by simp [rawL]
theorem rawL_in (l : List S36) (h : 0 < l.length ∨ l.length = 0) : inP l.length (rawL l) := by
 intro x hx
 obtain ⟨s, hs, rfl⟩ := List.mem_map.1 hx
 exact scanD_in l s.f2 l.length (-1) (by omega) (by omega) (by omega)
def loL (ps : List Int) (i : Int) : Nat → Int → Bool
 | 0, _ => true
 | f + 1, a => if rd ps a = i then true else if rd ps a < i then false else loL ps i f (rd ps a)
def parAt (ps : List Int) (i : Int) : Int := if (onP ps i && loL ps i ps.length i) = true then -1 else rd ps i
def parL (l : List S36) : List Int := (List.range l.length).map (fun i : Nat => parAt (rawL l) i)
theorem parL_length (l : List S36) : (parL l).length = l.length := by simp [parL]
theorem upP_upL (ps : List Int) : ∀ (n : Nat) (a : Int), upP ps a n = upL ps a n
 | 0, a => rfl
 | n + 1, a => by
  unfold upP upL
  by_cases c : a < 0
  ·rw [if_pos c, if_neg (by omega)]
  ·rw [if_neg c, if_pos (by omega), upP_upL ps n]
theorem upL_add (ps : List Int) : ∀ (k j : Nat) (a : Int), upL ps a (k + j) = upL ps (upL ps a k) j
 | 0, j, a => by rw [Nat.zero_add]; rfl
 | k + 1, j, a => by
  rw [show k + 1 + j = (k + j) + 1 by omega]
  show (if a < 0 then a else upL ps (rd ps a) (k + j)) = upL ps (if a < 0 then a else upL ps (rd ps a) k) j
  by_cases c : a < 0
  ·rw [if_pos c, if_pos c, upL_neg ps c]
  ·rw [if_neg c, if_neg c]; exact upL_add ps k j _
theorem Walk.app {ps : List Int} {a : Int} {A : List Int} {x : Int} (h : Walk ps a A x) : ∀ {B : List Int} {b : Int}, Walk ps x B b → Walk ps a (A ++ B) b := by
 induction h with
 | none a => intro B b h; exact h
 | step h0 _ ih => intro B b h; exact .step h0 (ih h)
theorem Walk.split {ps : List Int} {a : Int} {L : List Int} {b : Int} (h : Walk ps a L b) {x : Int} (hx : x ∈ L) : ∃ A B, L = A ++ x :: B ∧ Walk ps a A x ∧ Walk ps x (x :: B) b := by
 induction h with
 | none a => cases hx
 | @step a L b h0 hw ih =>
  by_cases e : x = a
  ·subst e
   exact ⟨[], L, rfl, .none _, .step h0 hw⟩
  ·obtain ⟨A, B, h1, h2, h3⟩ := ih ((List.mem_cons.1 hx).resolve_left e)
   exact ⟨a :: A, B, by rw [h1]; rfl, .step h0 h2, h3⟩
structure Cyc (ps : List Int) (L : List Int) (a : Int) : Prop where
 walk : Walk ps a L a
 mem : a ∈ L
 nd : L.Nodup
theorem Cyc.rot {ps : List Int} {L : List Int} {a : Int} (h : Cyc ps L a) {x : Int} (hx : x ∈ L) : ∃ L', L'.Perm L ∧ Cyc ps L' x := by
 obtain ⟨A, B, rfl, h2, h3⟩ := h.walk.split hx
 have hp : ((x :: B) ++ A).Perm (A ++ x :: B) := List.perm_append_comm
 exact ⟨(x :: B) ++ A, hp, h3.app h2, by simp, hp.nodup_iff.2 h.nd⟩
theorem Cyc.next {ps : List Int} {L : List Int} {a : Int} (h : Cyc ps L a) {x : Int} (hx : x ∈ L) : 0 ≤ x ∧ rd ps x ∈ L := by
 obtain ⟨h0, h1⟩ := h.walk.next x hx
 exact ⟨h0, h1.elim (fun h => h) (fun e => by rw [e]; exact h.mem)⟩
theorem Cyc.up {ps : List Int} {L : List Int} {a : Int} (h : Cyc ps L a) : ∀ (k : Nat) {x : Int}, x ∈ L → upL ps x k ∈ L
 | 0, x, hx => hx
 | k + 1, x, hx => by
  have := h.next hx
  unfold upL
  rw [if_neg (by omega)]
  exact h.up k this.2
theorem Cyc.no_end {ps : List Int} {L : List Int} {a : Int} (h : Cyc ps L a) {x : Int} (hx : x ∈ L) : ¬ endsAt ps x := by
 rintro ⟨k, hk⟩
 have := (h.next (h.up k hx)).1
 omega
theorem cyc_of_up {ps : List Int} {a : Int} (h0 : 0 ≤ a) {k : Nat} (hk : 0 < k) (h : upL ps a k = a) : ∃ L, Cyc ps L a := by
 have key : ∀ d : Nat, ∀ j : Nat, j ≤ d → 0 < j → upL ps a j = a → ∃ L, Cyc ps L a := by
  intro d
  induction d with
  | zero => intro j h1 h2; omega
  | succ d ih =>
   intro j hjd hj0 hj
   by_cases hs : ∃ i, 0 < i ∧ i < j ∧ upL ps a i = a
   ·obtain ⟨i, i0, i1, i2⟩ := hs
    exact ih i (by omega) i0 i2
   ·-- the walk of j steps
    have hnn : ∀ i, i ≤ j → 0 ≤ upL ps a i := by
     intro i hi
     rcases Int.lt_or_le (upL ps a i) 0 with c | c
     ·exfalso
      have := upL_more ps i a c (j - i)
      rw [show i + (j - i) = j by omega, hj] at this
      omega
     ·exact c
    have walk : ∀ m : Nat, m ≤ j → Walk ps a ((List.range m).map (fun i => upL ps a i)) (upL ps a m) := by
     intro m
     induction m with
     | zero => intro _; exact .none _
     | succ m ihm =>
      intro hm
      rw [List.range_succ, List.map_append]
      refine (ihm (by omega)).app ?_
      have e : upL ps a (m + 1) = rd ps (upL ps a m) := by
       rw [upL_add ps m 1 a]
       show (if upL ps a m < 0 then _ else upL ps (rd ps (upL ps a m)) 0) = _
       rw [if_neg (by have := hnn m (by omega); omega)]; rfl
      rw [e]
      exact .step (hnn m (by omega)) (.none _)
    have nd : ((List.range j).map (fun i => upL ps a i)).Nodup := by
     rw [List.nodup_iff_pairwise_ne, List.pairwise_map]
     refine List.pairwise_iff_getElem.2 ?_
     intro x y hx hy hxy
     simp only [List.getElem_range, List.length_range] at hx hy ⊢
     intro e
     apply hs
     refine ⟨x + (j - y), by omega, by omega, ?_⟩
     rw [upL_add ps x (j - y) a, e, ← upL_add ps y (j - y) a, show y + (j - y) = j by omega, hj]
    refine ⟨_, ?_, ?_, nd⟩
    ·have := walk j (Nat.le_refl _)
     rw [hj] at this
     exact this
    ·exact List.mem_map.2 ⟨0, List.mem_range.2 hj0, rfl⟩
 exact key k k (Nat.le_refl _) hk h
theorem Cyc.len {ps : List Int} {n : Nat} (hp : inR n ps) {L : List Int} {a : Int} (h : Cyc ps L a) (h1 : a < n) : (∀ x ∈ L, 0 ≤ x ∧ x < n) ∧ L.length ≤ n := by
 have hx : ∀ x ∈ L, 0 ≤ x ∧ x < n := by
  intro x hx
  obtain ⟨A, B, _, h2, _⟩ := h.walk.split hx
  have : ∀ {a x : Int} {A : List Int}, Walk ps a A x → a < n → x < n := by
   intro a x A hw
   induction hw with
   | none a => intro h; exact h
   | step h0 _ ih => intro h; exact ih (inR_rd hp h0 h).2
  exact ⟨(h.next hx).1, this h2 h1⟩
 exact ⟨hx, nodup_len h.nd hx⟩
theorem round_form {n : Nat} {ps : List Int} (hp : inR n ps) {z : List Int × List Int} (h : CycInv n ps z) {i : Int} (h0 : 0 ≤ i) (h1 : i < n) : ∃ L b, Walk ps i L b ∧ L.Nodup ∧ b < n ∧ (roundC ps z i).2 = (if 0 ≤ b ∧ b ∈ L then z.2 ++ [b] else z.2) ∧ (∀ j : Int, 0 ≤ j → rd (roundC ps z i).1 j = if j ∈ L then 2 else rd z.1 j) ∧ (b < 0 ∨ b ∈ L ∨ rd z.1 b = 2) := by
 obtain ⟨st, fl⟩ := z
 obtain ⟨hlen, htwo, hends, hbad⟩ := h
 dsimp only at hlen htwo hends hbad
 have hzl := zeros_le st
 obtain ⟨L, b, g1, g2, g3, g4, g5, g6⟩ := go1_spec hp (ps.length + 1) st i hlen (by rw [hp.1]; omega) h1
 have hL : L.length ≤ n := nodup_len g3 (fun x hx => ⟨(g4 x hx).1, (g4 x hx).2.1⟩)
 have m1 : ∀ j : Int, 0 ≤ j → rd (mark 1 L st) j = if j ∈ L then 1 else rd st j := rd_mark 1 L st (fun x hx => ⟨(g4 x hx).1, by rw [hlen]; exact (g4 x hx).2.1⟩)
 have m2 : ∀ j : Int, 0 ≤ j → rd (mark 2 L (mark 1 L st)) j = if j ∈ L then 2 else rd st j := by
  intro j hj
  rw [rd_mark 2 L _ (fun x hx => ⟨(g4 x hx).1, by rw [mark_len, hlen]; exact (g4 x hx).2.1⟩) j hj, m1 j hj]
  by_cases c : j ∈ L
  ·rw [if_pos c, if_pos c]
  ·rw [if_neg c, if_neg c]; rw [if_neg c]
 have e2 : go2 ps (ps.length + 1) (mark 1 L st) i = mark 2 L (mark 1 L st) := by
  refine go2_spec g2 _ _ g3 (fun x hx => ⟨(g4 x hx).1, by rw [mark_len, hlen]; exact (g4 x hx).2.1, by rw [m1 x (g4 x hx).1, if_pos hx]⟩) ?_ (by rw [hp.1]; omega)
  rcases Int.lt_or_le b 0 with c | c
  ·exact .inl c
  ·refine .inr ?_
   rw [m2 b c]
   by_cases d : b ∈ L
   ·rw [if_pos d]; decide
   ·rw [if_neg d]
    rcases htwo b c g5 with e | e <;> omega
 have hround : roundC ps (st, fl) i = (mark 2 L (mark 1 L st), if 0 ≤ b ∧ b ∈ L then fl ++ [b] else fl) := by
  unfold roundC
  dsimp only
  rw [g1]
  dsimp only
  rw [e2]
  congr 1
  by_cases c : 0 ≤ b
  ·rw [m1 b c]
   by_cases d : b ∈ L
   ·rw [if_pos d, if_pos ⟨c, rfl⟩, if_pos ⟨c, d⟩]
   ·rw [if_neg d, if_neg (show ¬ (0 ≤ b ∧ rd st b = 1) from fun h => by rcases htwo b c g5 with e | e <;> omega), if_neg (show ¬ (0 ≤ b ∧ b ∈ L) from fun h => d h.2)]
  ·rw [if_neg (fun h => c h.1), if_neg (fun h => c h.1)]
 refine ⟨L, b, g2, g3, g5, by rw [hround], by rw [hround]; exact m2, ?_⟩
 rcases Int.lt_or_le b 0 with c | c
 ·exact .inl c
 ·refine .inr ?_
  by_cases d : b ∈ L
  ·exact .inl d
  ·refine .inr ?_
   rcases g6 with g | g
   ·omega
   ·rw [m1 b c, if_neg d] at g
    exact (htwo b c g5).resolve_left g
structure CalInv (n : Nat) (ps : List Int) (z : List Int × List Int) : Prop where
 reach : ∀ a : Int, 0 ≤ a → a < n → rd z.1 a = 2 → endsAt ps a ∨ ∃ b ∈ z.2, ∃ k, upL ps a k = b
 cyc : ∀ b ∈ z.2, b < n ∧ ∃ L, Cyc ps L b
theorem cal_round {n : Nat} {ps : List Int} (hp : inR n ps) {z : List Int × List Int} (h : CycInv n ps z) (hc : CalInv n ps z) {i : Int} (h0 : 0 ≤ i) (h1 : i < n) : CalInv n ps (roundC ps z i) := by
 obtain ⟨L, b, g2, g3, g5, e2, e1, g6⟩ := round_form hp h h0 h1
 refine ⟨?_, ?_⟩
 ·intro a a0 a1 ha
  rw [e1 a a0] at ha
  rw [e2]
  have old : ∀ x : Int, (endsAt ps x ∨ ∃ c ∈ z.2, ∃ k, upL ps x k = c) → endsAt ps x ∨ ∃ c ∈ (if 0 ≤ b ∧ b ∈ L then z.2 ++ [b] else z.2), ∃ k, upL ps x k = c := by
   rintro x (h | ⟨c, hc1, hk⟩)
   ·exact .inl h
   ·refine .inr ⟨c, ?_, hk⟩
    split
    ·exact List.mem_append_left _ hc1
    ·exact hc1
  by_cases d : a ∈ L
  ·obtain ⟨A, B, _, _, hw⟩ := g2.split d
   rcases Int.lt_or_le b 0 with c | c
   ·exact .inl (hw.ends ⟨0, c⟩).1
   ·by_cases db : b ∈ L
    ·refine .inr ⟨b, ?_, _, hw.up⟩
     rw [if_pos ⟨c, db⟩]
     simp
    ·have hb2 : rd z.1 b = 2 := by
      rcases g6 with g | g | g
      ·omega
      ·exact absurd g db
      ·exact g
     rcases hc.reach b c g5 hb2 with hE | ⟨x, hx, k, hk⟩
     ·exact .inl (hw.ends hE).1
     ·refine old a (.inr ⟨x, hx, (a :: B).length + k, ?_⟩)
      rw [upL_add, hw.up, hk]
  ·rw [if_neg d] at ha
   exact old a (hc.reach a a0 a1 ha)
 ·intro c hcm
  rw [e2] at hcm
  by_cases d : 0 ≤ b ∧ b ∈ L
  ·rw [if_pos d] at hcm
   rcases List.mem_append.1 hcm with hm | hm
   ·exact hc.cyc c hm
   ·rw [List.mem_singleton] at hm
    subst hm
    obtain ⟨A, B, eL, _, hw⟩ := g2.split d.2
    refine ⟨g5, c :: B, hw, by simp, ?_⟩
    rw [eL] at g3
    exact (List.nodup_append.1 g3).2.1
  ·rw [if_neg d] at hcm
   exact hc.cyc c hcm
theorem cal_inv {n : Nat} {ps : List Int} (hp : inR n ps) : ∀ k : Nat, k ≤ n → CalInv n ps (cycZ ps k)
 | 0, _ => by
  refine ⟨?_, fun b hb => by cases hb⟩
  intro a a0 a1 h
  exfalso
  have hx : a.toNat < ps.length := by rw [hp.1]; omega
  have h' : rd (List.replicate ps.length (0 : Int)) a = 2 := h
  simp [rd, List.getD, hx] at h'
 | k + 1, hk => cal_round hp (cyc_inv hp k (by omega)).1 (cal_inv hp k (by omega)) (by omega) (by omega)
def leastF (ps : List Int) (b : Int) : Nat → Int → Int → Int
 | 0, _, m => m
 | f + 1, k, m => if k = b then m else leastF ps b f (rd ps k) (min m k)
def leastC (ps : List Int) (b : Int) : Int := leastF ps b (ps.length + 1) (rd ps b) b
theorem leastF_walk {ps : List Int} {k : Int} {L : List Int} {b : Int} (h : Walk ps k L b) : ∀ (f : Nat) (m : Int), b ∉ L → L.length < f → leastF ps b f k m = L.foldl min m := by
 induction h with
 | none a =>
  intro f m _ hf
  obtain ⟨f, rfl⟩ : ∃ g, f = g + 1 := ⟨f - 1, by simp at hf; omega⟩
  unfold leastF
  rw [if_pos rfl]; rfl
 | @step a L b h0 _ ih =>
  intro f m hb hf
  rw [List.length_cons] at hf
  obtain ⟨f, rfl⟩ : ∃ g, f = g + 1 := ⟨f - 1, by omega⟩
  unfold leastF
  rw [if_neg (fun e => hb (by rw [← e]; exact List.mem_cons_self ..))]
  rw [ih f (min m a) (fun h => hb (List.mem_cons_of_mem _ h)) (by omega)]
  rfl
theorem foldl_min : ∀ (L : List Int) (m : Int), (L.foldl min m = m ∨ L.foldl min m ∈ L) ∧ L.foldl min m ≤ m ∧ ∀ x ∈ L, L.foldl min m ≤ x
 | [], m => ⟨.inl rfl, Int.le_refl _, fun x hx => by cases hx⟩
 | a :: L, m => by
  obtain ⟨h1, h2, h3⟩ := foldl_min L (min m a)
  rw [List.foldl_cons]
  refine ⟨?_, by omega, ?_⟩
  ·rcases h1 with h1 | h1
   ·by_cases c : m ≤ a
    ·left; omega
    ·right; rw [h1, show min m a = a by omega]; exact List.mem_cons_self ..
   ·right; exact List.mem_cons_of_mem _ h1
  ·intro x hx
   rcases List.mem_cons.1 hx with e | e
   ·subst e; omega
   ·exact h3 x e
theorem Cyc.tail {ps : List Int} {L : List Int} {b : Int} (h : Cyc ps L b) : ∃ L2, L = b :: L2 ∧ Walk ps (rd ps b) L2 b ∧ b ∉ L2 ∧ 0 ≤ b := by
 obtain ⟨hw, hm, nd⟩ := h
 cases hw with
 | none => cases hm
 | @step _ L2 _ h0 hw2 => exact ⟨L2, rfl, hw2, (List.nodup_cons.1 nd).1, h0⟩
theorem leastC_spec {n : Nat} {ps : List Int} (hp : inR n ps) {L : List Int} {b : Int} (h : Cyc ps L b) (h1 : b < n) : leastC ps b ∈ L ∧ ∀ x ∈ L, leastC ps b ≤ x := by
 obtain ⟨L2, rfl, hw, hn, h0⟩ := h.tail
 have hl := (h.len hp h1).2
 rw [List.length_cons] at hl
 have e : leastC ps b = L2.foldl min b := leastF_walk hw _ _ hn (by rw [hp.1]; omega)
 obtain ⟨f1, f2, f3⟩ := foldl_min L2 b
 rw [e]
 refine ⟨?_, fun x hx => ?_⟩
 ·rcases f1 with f | f
  ·rw [f]; exact List.mem_cons_self ..
  ·exact List.mem_cons_of_mem _ f
 ·rcases List.mem_cons.1 hx with e | e
  ·rw [e]; exact f2
  ·exact f3 x e
theorem loL_of {ps : List Int} {L : List Int} {c : Int} (h : Cyc ps L c) (i : Int) (hi : ∀ x ∈ L, i ≤ x) : ∀ (f : Nat) {a : Int}, a ∈ L → loL ps i f a = true
 | 0, a, _ => rfl
 | f + 1, a, ha => by
  have hn := (h.next ha).2
  have := hi _ hn
  unfold loL
  split
  ·rfl
  ·rw [if_neg (by omega)]
   exact loL_of h i hi f hn
theorem loL_all {ps : List Int} {i : Int} : ∀ {k : Int} {L : List Int}, Walk ps k L i → ∀ (f : Nat) (a : Int), rd ps a = k → i ∉ L → L.length ≤ f → loL ps i f a = true → ∀ x ∈ L, i ≤ x := by
 intro k L h
 induction h with
 | none a => intro f _ _ _ _ _ x hx; cases hx
 | @step k L b h0 hw ih =>
  intro f a ha hb hf hlo x hx
  rw [List.length_cons] at hf
  obtain ⟨f, rfl⟩ : ∃ g, f = g + 1 := ⟨f - 1, by omega⟩
  unfold loL at hlo
  rw [ha, if_neg (fun e => hb (by rw [← e]; exact List.mem_cons_self ..))] at hlo
  by_cases c : k < b
  ·rw [if_pos c] at hlo; cases hlo
  ·rw [if_neg c] at hlo
   rcases List.mem_cons.1 hx with e | e
   ·omega
   ·exact ih f k rfl (fun h => hb (List.mem_cons_of_mem _ h)) (by omega) hlo x e
def losers (ps : List Int) : List Int := (cycZ ps ps.length).2.map (leastC ps)
theorem losers_in {ps : List Int} (hp : inR ps.length ps) : ∀ i ∈ losers ps, 0 ≤ i ∧ i < ps.length := by
 intro i hi
 obtain ⟨b, hb, rfl⟩ := List.mem_map.1 hi
 obtain ⟨h1, L, hL⟩ := (cal_inv hp ps.length (Nat.le_refl _)).cyc b hb
 exact (hL.len hp h1).1 _ (leastC_spec hp hL h1).1
theorem lose_iff {ps : List Int} (hp : inR ps.length ps) {i : Int} (h0 : 0 ≤ i) (h1 : i < ps.length) : i ∈ losers ps ↔ (onP ps i && loL ps i ps.length i) = true := by
 have hcal := cal_inv hp ps.length (Nat.le_refl _)
 constructor
 ·intro hi
  obtain ⟨b, hb, rfl⟩ := List.mem_map.1 hi
  obtain ⟨g1, L, hL⟩ := hcal.cyc b hb
  obtain ⟨s1, s2⟩ := leastC_spec hp hL g1
  obtain ⟨L', hperm, hL'⟩ := hL.rot s1
  rw [Bool.and_eq_true]
  refine ⟨?_, loL_of hL _ s2 _ s1⟩
  have hlen := (hL'.len hp h1).2
  have hup := hL'.walk.up
  have hpos : 0 < L'.length := List.length_pos_of_mem hL'.mem
  unfold onP
  rw [List.any_eq_true]
  refine ⟨L'.length - 1, List.mem_range.2 (by omega), ?_⟩
  rw [decide_eq_true_eq, upP_upL, show L'.length - 1 + 1 = L'.length by omega]
  exact hup
 ·intro h
  rw [Bool.and_eq_true] at h
  obtain ⟨hon, hlo⟩ := h
  unfold onP at hon
  rw [List.any_eq_true] at hon
  obtain ⟨m, _, hm⟩ := hon
  rw [decide_eq_true_eq, upP_upL] at hm
  obtain ⟨L, hL⟩ := cyc_of_up h0 (Nat.succ_pos m) hm
  obtain ⟨L2, eL, hw, hn, _⟩ := hL.tail
  have hlen := (hL.len hp h1).2
  have hall : ∀ x ∈ L, i ≤ x := by
   intro x hx
   rw [eL] at hx
   rcases List.mem_cons.1 hx with e | e
   ·omega
   ·exact loL_all hw ps.length i rfl hn (by rw [eL, List.length_cons] at hlen; omega) hlo x e
  have h2 := (cyc_inv hp ps.length (Nat.le_refl _)).2 i h0 h1
  rcases hcal.reach i h0 h1 h2 with hE | ⟨b, hb, k, hk⟩
  ·exact absurd hE (hL.no_end hL.mem)
  ·have hbL : b ∈ L := by rw [← hk]; exact hL.up k hL.mem
   have hbn := (hL.len hp h1).1 b hbL
   obtain ⟨L', hperm, hL'⟩ := hL.rot hbL
   obtain ⟨s1, s2⟩ := leastC_spec hp hL' hbn.2
   have e1 := s2 i (hperm.mem_iff.2 hL.mem)
   have e2 := hall _ (hperm.mem_iff.1 s1)
   exact List.mem_map.2 ⟨b, hb, by omega⟩
theorem mark_par {ps : List Int} (hp : inR ps.length ps) : mark (-1) (losers ps) ps = (List.range ps.length).map (fun i : Nat => parAt ps i) := by
 apply List.ext_getElem
 ·rw [mark_len]; simp
 ·intro j h1 h2
  rw [mark_len] at h1
  have hr := rd_mark (-1) (losers ps) ps (losers_in hp) (j : Int) (by omega)
  have e : rd (mark (-1) (losers ps) ps) (j : Int) = (mark (-1) (losers ps) ps)[j]'(by rw [mark_len]; exact h1) := by
   simp [rd, List.getD, mark_len, h1]
  rw [← e, hr]
  simp only [List.getElem_map, List.getElem_range]
  unfold parAt
  have hi := lose_iff hp (i := (j : Int)) (by omega) (by omega)
  by_cases c : (j : Int) ∈ losers ps
  ·rw [if_pos c, if_pos (hi.1 c)]
  ·rw [if_neg c, if_neg (fun h => c (hi.2 h))]
end Go.Proofs.YtgknjgionicncaaGreat.L
namespace Go.Proofs.YtgknjgionicncaaGreat.L
open Go.RowKit Go.Proofs.YtgknjgionicncaaGreat.Q Go.Proofs.YtgknjgionicncaaGreatW.PrintWords Go.Proofs.YtgknjgionicncaaGreatW.PrintLast Go.Proofs.YtgknjgionicncaaGreatW.PrintMore Go.Proofs.YtgknjgionicncaaGreatW.Lib Go.Proofs.YtgknjgionicncaaGreatW.MapB
set_option linter.unusedVariables false
set_option linter.unusedSimpArgs false
theorem rowB_lt {W : World} {g : Nat} {st : List Int} (h : rowB W g st) : g < W.heap.size := (Array.getElem?_eq_some_iff.1 h).1
theorem rowB_heap {W W' : World} {g : Nat} {st : List Int} (h : rowB W g st) (e : W'.heap[g]? = W.heap[g]?) : rowB W' g st := e.trans h
structure OfSt (w0 : World) (gp Bo Bl : Nat) (ps xs : List Int) (ok : Nat → Prop) (W : World) : Prop where
 row : rowB W gp ps
 out : Boxed W Bo 43 (.slice (some ⟨gp, 0, none⟩) ps.length ps.length)
 lose : ∃ v, Boxed W Bl 43 v ∧ Kd.R (Kd.int .i64) 3 W w0.heap.size ok v xs
 below : Below w0.heap.size w0 W
section
variable {w0 W W' : World} {gp Bo Bl : Nat} {ps xs : List Int} {ok : Nat → Prop}
theorem OfSt.lts (h : OfSt w0 gp Bo Bl ps xs ok W) : gp < W.heap.size ∧ Bo < W.heap.size ∧ Bl < W.heap.size := by
 obtain ⟨v, h1, _⟩ := h.lose
 exact ⟨rowB_lt h.row, h.out.lt, h1.lt⟩
theorem OfSt.alloc (h : OfSt w0 gp Bo Bl ps xs ok W) (o : Obj) : OfSt w0 gp Bo Bl ps xs ok (W.alloc o) := by
 obtain ⟨v, h1, h2⟩ := h.lose
 exact ⟨rowB_kept h.row (World.grownBy_alloc W o none) (by simp), h.out.alloc o, ⟨v, h1.alloc o, Kd.R_alloc h2 o⟩, below_alloc h.below o⟩
theorem OfSt.kept {g : Nat} (h : OfSt w0 gp Bo Bl ps xs ok W) (hg : W.grownBy W' (some g)) (h1 : gp ≠ g) (h2 : Bo ≠ g) (h3 : Bl ≠ g) (hok : ∀ k, ok k → k ≠ g) (hs : w0.heap.size ≤ g) : OfSt w0 gp Bo Bl ps xs ok W' := by
 obtain ⟨v, g1, g2⟩ := h.lose
 exact ⟨rowB_kept h.row hg (fun e => h1 (Option.some.inj e)), h.out.kept hg (fun e => h2 (Option.some.inj e)), ⟨v, g1.kept hg (fun e => h3 (Option.some.inj e)), Kd.R_grown g2 hg (fun k hk e => hok k hk (Option.some.inj e))⟩, h.below.grown hg h.below.size (fun j hj => by cases hj; exact hs)⟩
end
theorem cyc_len (ps : List Int) : ∀ k, (cycZ ps k).2.length ≤ k
 | 0 => by simp [cycZ]
 | k + 1 => by
  have := cyc_len ps k
  show (roundC ps (cycZ ps k) (k : Int)).2.length ≤ k + 1
  unfold roundC
  dsimp only
  split
  ·rw [List.length_append, List.length_singleton]; omega
  ·omega
theorem infoI : (Tryz.prog.info? 3).map (fun i => (i.zero, i.size, i.bytes)) = some (some (.int .i64 0), 1, 8) := by kernel_rfl
attribute [local go_sem] min2_int min_two
set_option maxHeartbeats 1000000 in
set_option maxRecDepth 100000 in
theorem of1_calls (ps : List Int) (hp : inR ps.length ps) (hl : ps.length ≤ 1000000) (gp Bo Bl g : Nat) (w0 : World) (b : Int) (h0 : 0 ≤ b) (h1 : b < ps.length) (hc : ∃ L, Cyc ps L b) (xs : List Int) (hxl : xs.length ≤ 1000000) (w : World) (hgp : gp < g ∧ Bo < g ∧ Bl < g ∧ Bo ≠ Bl ∧ gp ≠ Bl) (hwl : w0.heap.size ≤ Bl) (hgs : g < w.heap.size) (hst : OfSt w0 gp Bo Bl ps xs (fun k => g < k) w) :
  Calls Tryz.prog 107 #[.int .i64 b, .pointer (some ⟨Bo, 0, none⟩), .pointer (some ⟨Bl, 0, none⟩)] w fun e w' => e = .returned (.tuple #[]) ∧ OfSt w0 gp Bo Bl ps (xs ++ [leastC ps b]) (fun k => g < k) w' ∧ w'.heap[g]? = w.heap[g]? := by
 obtain ⟨L, hL⟩ := hc
 obtain ⟨L2, eL, hW, hn, _⟩ := hL.tail
 obtain ⟨hin, hlen⟩ := hL.len hp h1
 rw [eL, List.length_cons] at hlen
 have hM : L2.foldl min b = leastC ps b := (leastF_walk hW _ _ hn (by omega)).symm
 have hin2 : ∀ x ∈ L2, 0 ≤ x ∧ x < (ps.length : Int) := fun x hx => hin x (by rw [eL]; exact List.mem_cons_of_mem _ hx)
 obtain ⟨v, hb, hR⟩ := hst.lose
 obtain ⟨Al, cl, rfl⟩ := Kd.R_slice hR
 have HSt := Aside0.mk hst
 have HR := Aside0.mk hR
 have HBx := Aside0.mk hb
 have hbo := hst.out.cell
 have hbl := hb.cell
 have hx := rowB_cell hst.row h0 h1
 have HXl := Aside0.mk hxl
 have HG := Aside0.mk hgp
 have HGs := Aside0.mk hgs
 have HWl := Aside0.mk hwl
 have H1 := Aside0.mk h1
 have HA0 := Aside0.mk (show Walk ps (rd ps b) L2 b ∧ b ∉ L2 ∧ L2.foldl min b = leastC ps b ∧ L2.length + 1 = L2.length + 1 ∧ ∀ x ∈ L2, 0 ≤ x ∧ x < (ps.length : Int) from ⟨hW, hn, hM, rfl, hin2⟩)
 clear hst hb hR hgp hgs hwl hxl hW hn hM hin2 hL eL hin hlen hp hl
 replace h0 := eq_true h0
 replace h1 := eq_true h1
 generalize leastC ps b = M at *
 go_enter Tryz.func107, Tryz.ntmps107
 go_wp2_with fail
 go_loopg [4, 5] (L2.length + 1) (fun kq v4 v5 w' => ∃ (m k : Int) (L' : List Int), v4 = .int .i64 m ∧ v5 = .int .i64 k ∧ Aside0 (Walk ps k L' b ∧ b ∉ L' ∧ L'.foldl min m = M ∧ L'.length + 1 = kq ∧ ∀ x ∈ L', 0 ≤ x ∧ x < (ps.length : Int)) ∧ Aside0 (w' = w))
 case atStart => exact ⟨b, rd ps b, L2, rfl, rfl, ⟨HA0.out.1, HA0.out.2.1, HA0.out.2.2.1, rfl, HA0.out.2.2.2.2⟩, ⟨rfl⟩⟩
 case round =>
  clear HA0
  obtain ⟨m, k, L', rfl, rfl, HA, HW⟩ := hrel
  obtain rfl := HW.out
  by_cases c1 : k = b
  ·have HE := Aside0.mk (show L' = [] ∧ m = M from by
    obtain ⟨a1, a2, a3, _⟩ := HA.out
    cases a1 with
    | none => exact ⟨rfl, a3⟩
    | step _ _ => exact absurd (by rw [c1]; exact List.mem_cons_self ..) a2)
   have c1b : (k != b) = false := by rw [c1]; simp
   have c1e : (k == b) = true := by rw [c1]; simp
   have c1d := decide_eq_true c1
   clear c1
   go_wp2_with ((with_reducible refine gate_builtin (b := .append) (xs := #[.tmp 21, .tmp 23]) rfl ?_); at_builtin; refine Kd.R_append (Kd.int .i64) (w0 := w0) w0.heap.size rfl (.tmp 21) (.tmp 23) 43 3 (.int .i64 0) 8 rfl Tryz.underlying43 infoI rfl (by decide) (by omega) (.slice Al xs.length cl) xs m [.int .i64 m] (fun k_ => g < k_) (fun _ => False) rfl rfl ?aP (fun _ hk => hk.elim) ?aF ?aO ?aB ?aS ?aL ?_; (case aP => exact rfl); (case aB => exact HSt.out.below); (case aF => exact (fun k_ hk => by have := HGs.out; omega)); (case aO => exact HR.out); (case aS => exact HSt.out.below.size); (case aL => have := HXl.out; omega); intro v1 w1 ho hb hg hat; obtain ⟨A1, d1, rfl⟩ := Kd.R_slice ho; have HO1 := Aside0.mk ho; have HB1 := Aside0.mk hb; have HG1 := Aside0.mk hg; have HBl := Aside0.mk (HBx.out.kept hg (fun e => by have h := HR.out.1 Bl e.symm; have := HG.out; omega)); have hcl := HBl.out.cell; have hfl := HBl.out.frozen; clear ho hb hg hat)
   go_end0
   have hset := grownBy_setCell' w1 Bl (.slice A1 (xs.length + 1) d1)
   have hel : (xs ++ [m]).length = xs.length + 1 := by simp
   have hne : ∀ k_, k_ ≤ g → some k_ ≠ (Value.slice Al xs.length cl).ownBlock := fun k_ hk e => by have h := HR.out.1 k_ e.symm; omega
   have hG := HG.out
   refine ⟨rfl, ⟨?_, ?_, ⟨_, HBl.out.set _, ?_⟩, ?_⟩, ?_⟩
   ·exact rowB_kept (rowB_kept HSt.out.row HG1.out (hne gp (by omega))) hset (fun e => hG.2.2.2.2 (Option.some.inj e))
   ·exact (HSt.out.out.kept HG1.out (hne Bo (by omega))).kept hset (fun e => hG.2.2.2.1 (Option.some.inj e))
   ·have h := HO1.out
    rw [hel, HE.out.2] at h
    exact Kd.R_grown h hset (fun k_ hk e => by have := Option.some.inj e; omega)
   ·exact HB1.out.grown hset HB1.out.size (fun j hj => by cases hj; exact HWl.out)
   ·have h2 := Below.heap_setCell w1 ⟨Bl, 0, none⟩ (.slice A1 (xs.length + 1) d1) g (by show g ≠ Bl; omega)
    exact h2.trans (HG1.out.block g HGs.out (hne g (Nat.le_refl _)))
  ·have c1b : (k != b) = true := by rw [bne_iff_ne]; exact c1
   have c1e : (k == b) = false := by rw [beq_eq_false_iff_ne]; exact c1
   have c1d := decide_eq_false c1
   obtain ⟨a1, a2, a3, a4, a5⟩ := HA.out
   cases a1 with
   | none => exact absurd rfl c1
   | @step _ L'' _ k0 hw =>
    have HN := Aside0.mk (show Walk ps (rd ps k) L'' b ∧ b ∉ L'' ∧ L''.foldl min (min m k) = M ∧ L''.length + 1 = gk - 1 ∧ ∀ x ∈ L'', 0 ≤ x ∧ x < (ps.length : Int) from ⟨hw, fun h => a2 (List.mem_cons_of_mem _ h), a3, by rw [List.length_cons] at a4; omega, fun x hx => a5 x (List.mem_cons_of_mem _ hx)⟩)
    have hk := a5 k (List.mem_cons_self ..)
    have hy := rowB_cell HSt.out.row hk.1 hk.2
    obtain ⟨k1, rfl⟩ : ∃ k1, gk = k1 + 1 := ⟨gk - 1, by omega⟩
    have e0 := eq_true hk.1
    have e1 := eq_true hk.2
    clear a2 a3 a4 a5 hw k0 hk c1 HA
    by_cases c2 : k < m
    ·have HMn := Aside0.mk (show min m k = k by omega)
     have c2b := decide_eq_true c2
     replace c2 := eq_true c2
     go_wp2_with fail
     go_roundg k1
     case measure => omega
     case rel => exact ⟨k, rd ps k, L'', rfl, rfl, ⟨by have h := HN.out; rw [HMn.out] at h; exact ⟨h.1, h.2.1, h.2.2.1, by omega, h.2.2.2.2⟩⟩, ⟨rfl⟩⟩
    ·have HMn := Aside0.mk (show min m k = m by omega)
     have c2b := decide_eq_false c2
     replace c2 := eq_false c2
     go_wp2_with fail
     go_roundg k1
     case measure => omega
     case rel => exact ⟨m, rd ps k, L'', rfl, rfl, ⟨by have h := HN.out; rw [HMn.out] at h; exact ⟨h.1, h.2.1, h.2.2.1, by omega, h.2.2.2.2⟩⟩, ⟨rfl⟩⟩
set_option maxHeartbeats 1000000 in
set_option maxRecDepth 100000 in
theorem cycles_of (ps : List Int) (hp : inR ps.length ps) (hl : ps.length ≤ 1000000) (gp Bo Bl : Nat) (w0 w : World) (hne : Bo ≠ Bl ∧ gp ≠ Bl) (hwl : w0.heap.size ≤ Bl) (hst : OfSt w0 gp Bo Bl ps [] (fun k => w.heap.size < k) w) :
  Calls Tryz.prog 106 #[.slice (some ⟨gp, 0, none⟩) ps.length ps.length, .func (.func 107) #[] #[.pointer (some ⟨Bo, 0, none⟩), .pointer (some ⟨Bl, 0, none⟩)]] w fun e w' => e = .returned (.tuple #[]) ∧ OfSt w0 gp Bo Bl ps (losers ps) (fun k => w.heap.size < k) w' := by
 have hmk := print_make 43 3 .i64 8 Tryz.underlying43 (by kernel_rfl) (by omega) ps.length (by omega)
 have HX := Aside0.mk (fun o => hst.alloc o)
 have HPg := Aside0.mk hst.lts
 have HWs := Aside0.mk hst.below.size
 have HCal := Aside0.mk (cal_inv hp)
 have HNe := Aside0.mk hne
 have HWl := Aside0.mk hwl
 have HP := Aside0.mk hp
 have HL := Aside0.mk hl
 have HI := Aside0.mk (cyc_inv hp)
 have hn0 : decide ((ps.length : Int) < 0) = false := decide_eq_false (by omega)
 have hnm : decide ((9223372036854775807 : Int) < (ps.length : Int)) = false := decide_eq_false (by omega)
 clear hst hp hl hne hwl
 go_enter Tryz.func106, Tryz.ntmps106
 go_wp2_with fail
 have HG0 : Aside0 (rowB (w.alloc (.cells (madeCells #[Value.int .i64 0] ps.length) 3)) w.heap.size (cycZ ps 0).1) := ⟨by
  show _ = some (Obj.cells ((List.replicate ps.length (0 : Int)).map (Value.int .i64)).toArray 3 (0, 0))
  rw [List.map_replicate]
  exact heap_made w _ _ _⟩
 generalize hgg : w.heap.size = g at *
 have HWg := Aside0.mk (show w0.heap.size ≤ g from HWs.out)
 go_loopg [12] ps.length (fun kq v12 w' => ∃ x : Nat, v12 = .int .i64 (x : Int) ∧ Aside0 (x + kq = ps.length) ∧ Aside0 (rowB w' g (cycZ ps x).1) ∧ Aside0 (OfSt w0 gp Bo Bl ps ((cycZ ps x).2.map (leastC ps)) (fun k => g < k) w'))
 case atStart => exact ⟨0, rfl, ⟨by omega⟩, HG0, ⟨HX.out _⟩⟩
 case round =>
  clear HG0 HX
  obtain ⟨x, rfl, HK, HG, HX⟩ := hrel
  by_cases c1 : (x : Int) < (ps.length : Int)
  ·have c1b := decide_eq_true c1
   have HI1 := Aside0.mk (HI.out x (by omega)).1
   have HW1 := Aside0.mk (show wrap64 ((x : Int) + 1) = ((x + 1 : Nat) : Int) from by unfold wrap64; have := HL.out; omega)
   have HN := Aside0.mk (show cycZ ps (x + 1) = roundC ps (cycZ ps x) (x : Int) from rfl)
   have C1 := Aside0.mk c1
   replace c1 := eq_true c1
   obtain ⟨k1, rfl⟩ : ∃ k1, gk = k1 + 1 := ⟨gk - 1, by have := HK.out; have := C1.out; omega⟩
   go_wp2_with fail
   apply wp_scope_straight
   go_wp2_with fail
   apply wp_label
   rename_i hK
   refine hK _ _ ?_
   clear hK
   apply wp_seq_k
   intro _ _
   go_cut [6] (fun v6 wc => ∃ (a : Int) (st : List Int), v6 = .int .i64 a ∧ Aside0 (go1 ps (ps.length + 1) (cycZ ps x).1 (x : Int) = (st, a)) ∧ Aside0 (rowB wc g st) ∧ Aside0 (OfSt w0 gp Bo Bl ps ((roundC ps (cycZ ps x) (x : Int)).2.map (leastC ps)) (fun k => g < k) wc))
   case first =>
    go_wp2_with fail
    go_loopg [6] (ps.length + 1) (fun kq v6 w' => ∃ (a : Int) (st : List Int), v6 = .int .i64 a ∧ Aside0 (go1 ps kq st a = go1 ps (ps.length + 1) (cycZ ps x).1 (x : Int) ∧ a < ps.length ∧ st.length = ps.length ∧ zeros st < kq ∧ ∀ j : Int, 0 ≤ j → j < ps.length → rd st j = 0 ∨ rd st j = 1 ∨ rd st j = 2) ∧ Aside0 (rowB w' g st) ∧ Aside0 (OfSt w0 gp Bo Bl ps ((cycZ ps x).2.map (leastC ps)) (fun k => g < k) w'))
    case atStart => exact ⟨x, _, rfl, ⟨rfl, by have := C1.out; omega, HI1.out.len, by have := zeros_le (cycZ ps x).1; have := HI1.out.len; omega, fun j j0 j1 => (HI1.out.two j j0 j1).elim .inl (fun h => .inr (.inr h))⟩, HG, HX⟩
    case round =>
     clear HG HX
     obtain ⟨a, st, rfl, HA, HG, HX⟩ := hrel
     obtain ⟨kf, rfl⟩ : ∃ kf, gk = kf + 1 := ⟨gk - 1, by have := HA.out.2.2.2.1; omega⟩
     by_cases c2 : a < 0
     ·have c2b := decide_eq_true c2
      have H1 : Aside0 (go1 ps (ps.length + 1) (cycZ ps x).1 (x : Int) = (st, a)) := ⟨by rw [← HA.out.1]; unfold go1; rw [if_neg (by omega)]⟩
      have H2 : Aside0 ((roundC ps (cycZ ps x) (x : Int)).2 = (cycZ ps x).2) := ⟨by unfold roundC; dsimp only; rw [H1.out]; dsimp only; rw [if_neg (by omega)]⟩
      replace c2 := eq_true c2
      go_wp2_with fail
      go_meet
      case rel => exact ⟨a, st, rfl, H1, HG, ⟨by rw [H2.out]; exact HX.out⟩⟩
     ·have c2b := decide_eq_false c2
      have p2 : 0 ≤ a := by omega
      have c3 : a < (ps.length : Int) := HA.out.2.1
      have hcell := rowB_cell HG.out p2 (by rw [HA.out.2.2.1]; exact c3)
      have hcol := HA.out.2.2.2.2 a p2 c3
      replace c2 := eq_false c2
      replace p2 := eq_true p2
      replace c3 := eq_true c3
      rcases hcol with hv | hv | hv
      ·have H1 : Aside0 (go1 ps kf (st.set a.toNat 1) (rd ps a) = go1 ps (ps.length + 1) (cycZ ps x).1 (x : Int)) := ⟨by rw [← HA.out.1, go1_on ⟨of_eq_true p2, hv⟩]⟩
       have HZ := Aside0.mk (zeros_set (of_eq_true p2) (by rw [HA.out.2.2.1]; exact of_eq_true c3) hv)
       have HR := Aside0.mk (inR_rd HP.out (of_eq_true p2) (of_eq_true c3))
       have HS := Aside0.mk (rowB_set HG.out a.toNat 1)
       have hgs := grownBy_set wr g a.toNat (.int .i64 1)
       have HXs := Aside0.mk (HX.out.kept hgs (by have := HPg.out; omega) (by have := HPg.out; omega) (by have := HPg.out; omega) (fun k hk => by omega) HWg.out)
       have hfz := rowB_frozen HG.out a.toNat
       have HSet := Aside0.mk (fun (j : Int) (hj : 0 ≤ j) => rdC_set st a j 1 (of_eq_true p2) (by rw [HA.out.2.2.1]; exact of_eq_true c3) hj)
       have hx := rowB_cell HXs.out.row (of_eq_true p2) (of_eq_true c3)
       clear hgs
       rw [hv] at hcell
       go_wp2_with fail
       go_roundg kf
       case measure => omega
       case rel => exact ⟨rd ps a, st.set a.toNat 1, rfl, ⟨H1.out, HR.out.2, by rw [List.length_set]; exact HA.out.2.2.1, by have := HZ.out; have := HA.out.2.2.2.1; omega, fun j j0 j1 => by
        rw [HSet.out j j0]
        split
        ·exact .inr (.inl rfl)
        ·exact HA.out.2.2.2.2 j j0 j1⟩, HS, HXs⟩
      ·have H1 : Aside0 (go1 ps (ps.length + 1) (cycZ ps x).1 (x : Int) = (st, a)) := ⟨by rw [← HA.out.1, go1_stop (by omega)]⟩
       have H2 : Aside0 ((roundC ps (cycZ ps x) (x : Int)).2 = (cycZ ps x).2 ++ [a]) := ⟨by unfold roundC; dsimp only; rw [H1.out]; dsimp only; rw [if_pos ⟨of_eq_true p2, hv⟩]⟩
       have HCy := Aside0.mk (show ∃ L, Cyc ps L a from ((HCal.out (x + 1) (by have := C1.out; omega)).cyc a (by rw [HN.out, H2.out]; simp)).2)
       have QA := Aside0.mk (of1_calls ps HP.out HL.out gp Bo Bl g w0 a (of_eq_true p2) (of_eq_true c3) HCy.out ((cycZ ps x).2.map (leastC ps)) (by have := cyc_len ps x; have := HL.out; have := C1.out; rw [List.length_map]; omega) wr ⟨by have := HPg.out; omega, by have := HPg.out; omega, by have := HPg.out; omega, HNe.out.1, HNe.out.2⟩ HWl.out (rowB_lt HG.out) HX.out)
       rw [hv] at hcell
       go_wp2_with (go_at_call 107; refine QA.out.mono ?_; rintro e w3 ⟨rfl, hb3, hg3⟩; have HX3 := Aside0.mk hb3; have HG3 := Aside0.mk (rowB_heap HG.out hg3); clear hb3 hg3)
       go_meet
       case rel => exact ⟨a, st, rfl, H1, HG3, ⟨by rw [H2.out, List.map_append]; exact HX3.out⟩⟩
      ·have H1 : Aside0 (go1 ps (ps.length + 1) (cycZ ps x).1 (x : Int) = (st, a)) := ⟨by rw [← HA.out.1, go1_stop (by omega)]⟩
       have H2 : Aside0 ((roundC ps (cycZ ps x) (x : Int)).2 = (cycZ ps x).2) := ⟨by unfold roundC; dsimp only; rw [H1.out]; dsimp only; rw [if_neg (by omega)]⟩
       rw [hv] at hcell
       go_wp2_with fail
       go_meet
       case rel => exact ⟨a, st, rfl, H1, HG, ⟨by rw [H2.out]; exact HX.out⟩⟩
   case rest =>
    obtain ⟨a, st, rfl, H1, HG2, HX2⟩ := hcut
    obtain ⟨w5, rfl⟩ : ∃ w5 : World, w5 = wc := ⟨_, rfl⟩
    have HLen := Aside0.mk (show st.length = ps.length by have h := go1_len ps (ps.length + 1) (cycZ ps x).1 (x : Int); rw [H1.out] at h; exact h.trans HI1.out.len)
    clear HG HX
    go_wp2_with fail
    go_loopg [6] (ps.length + 1) (fun kq v6 w' => ∃ (a : Int) (sb : List Int), v6 = .int .i64 a ∧ Aside0 (go2 ps kq sb a = go2 ps (ps.length + 1) st (x : Int) ∧ a < ps.length ∧ sb.length = ps.length ∧ ones sb < kq) ∧ Aside0 (rowB w' g sb) ∧ Aside0 (OfSt w0 gp Bo Bl ps ((roundC ps (cycZ ps x) (x : Int)).2.map (leastC ps)) (fun k => g < k) w'))
    case atStart => exact ⟨x, st, rfl, ⟨rfl, by have := C1.out; omega, HLen.out, by have : ones st ≤ st.length := List.countP_le_length; have := HLen.out; omega⟩, HG2, HX2⟩
    case round =>
     clear HG2 HX2
     obtain ⟨a, sb, rfl, HA, HG, HX⟩ := hrel
     obtain ⟨kf, rfl⟩ : ∃ kf, gk = kf + 1 := ⟨gk - 1, by have := HA.out.2.2.2; omega⟩
     by_cases c2 : a < 0
     ·have c2b := decide_eq_true c2
      have HE := Aside0.mk (show (cycZ ps (x + 1)).1 = sb from by rw [HN.out]; unfold roundC; dsimp only; rw [H1.out]; dsimp only; rw [← HA.out.1, go2_stop (fun h => by omega)])
      have c2g : decide (0 ≤ a) = false := decide_eq_false (by omega)
      have c2h : (0 ≤ a) = False := eq_false (by omega)
      clear c2 c2b
      go_wp2_with fail
      rw [Exit.noGoto_normal]
      go_wp2_with fail
      go_roundg k1
      case measure => omega
      case rel => exact ⟨x + 1, by rw [HW1.out], ⟨by have := HK.out; omega⟩, ⟨by rw [HE.out]; exact HG.out⟩, ⟨by rw [HN.out]; exact HX.out⟩⟩
     ·have c2b := decide_eq_false c2
      have p2 : 0 ≤ a := by omega
      have c3 : a < (ps.length : Int) := HA.out.2.1
      have hcell := rowB_cell HG.out p2 (by rw [HA.out.2.2.1]; exact c3)
      by_cases hv : rd sb a = 1
      ·have H3 : Aside0 (go2 ps kf (sb.set a.toNat 2) (rd ps a) = go2 ps (ps.length + 1) st (x : Int)) := ⟨by rw [← HA.out.1, go2_on ⟨p2, hv⟩]⟩
       have HZ := Aside0.mk (ones_set p2 (by rw [HA.out.2.2.1]; exact c3) hv)
       have HR := Aside0.mk (inR_rd HP.out p2 c3)
       have HS := Aside0.mk (rowB_set HG.out a.toNat 2)
       have hgs := grownBy_set wr g a.toNat (.int .i64 2)
       have HXs := Aside0.mk (HX.out.kept hgs (by have := HPg.out; omega) (by have := HPg.out; omega) (by have := HPg.out; omega) (fun k hk => by omega) HWg.out)
       have hfz := rowB_frozen HG.out a.toNat
       have hx := rowB_cell HXs.out.row p2 c3
       clear hgs
       replace c2 := eq_false c2
       replace p2 := eq_true p2
       replace c3 := eq_true c3
       rw [hv] at hcell
       go_wp2_with fail
       go_roundg kf
       case measure => omega
       case rel => exact ⟨rd ps a, sb.set a.toNat 2, rfl, ⟨H3.out, HR.out.2, by rw [List.length_set]; exact HA.out.2.2.1, by have := HZ.out; have := HA.out.2.2.2; omega⟩, HS, HXs⟩
      ·have hvb := decide_eq_false hv
       have HE := Aside0.mk (show (cycZ ps (x + 1)).1 = sb from by rw [HN.out]; unfold roundC; dsimp only; rw [H1.out]; dsimp only; rw [← HA.out.1, go2_stop (fun h => hv h.2)])
       replace c2 := eq_false c2
       replace p2 := eq_true p2
       replace c3 := eq_true c3
       generalize hq : rd sb a = q at *
       go_wp2_with fail
       rw [Exit.noGoto_normal]
       go_wp2_with fail
       go_roundg k1
       case measure => omega
       case rel => exact ⟨x + 1, by rw [HW1.out], ⟨by have := HK.out; omega⟩, ⟨by rw [HE.out]; exact HG.out⟩, ⟨by rw [HN.out]; exact HX.out⟩⟩
  ·have c1b := decide_eq_false c1
   have hx : x = ps.length := by have := HK.out; omega
   subst hx
   go_wp2
   go_end0
   exact ⟨rfl, HX.out⟩
end Go.Proofs.YtgknjgionicncaaGreat.L
namespace Go.Proofs.YtgknjgionicncaaGreat.L
open Go.RowKit Go.Proofs.YtgknjgionicncaaGreat.Q Go.Proofs.YtgknjgionicncaaGreatW.PrintWords Go.Proofs.YtgknjgionicncaaGreatW.PrintLast Go.Proofs.YtgknjgionicncaaGreatW.PrintMore Go.Proofs.YtgknjgionicncaaGreatW.Lib Go.Proofs.YtgknjgionicncaaGreatW.MapB Go.Maps
open Go.WideMaps hiding rd
set_option linter.unusedVariables false
def fstI (l : List S36) (i : Int) : Nat → Int
 | 0 => -1
 | k + 1 => if fstI l i k < 0 then (if (rd_T36 l (k : Int)).f1 = i then (k : Int) else -1) else fstI l i k
theorem fstI_in (l : List S36) (i : Int) : ∀ k, -1 ≤ fstI l i k ∧ fstI l i k < k
 | 0 => by simp [fstI]
 | k + 1 => by
  have := fstI_in l i k
  unfold fstI
  split
  ·split <;> omega
  ·omega
def fstM (l : List S36) : Nat → DataW Unit
 | 0 => .map []
 | k + 1 => if fstI l (rd_T36 l (k : Int)).f1 k < 0 then (fstM l k).put (keyI (rd_T36 l (k : Int)).f1) (.lit (.int .i64 k)) else fstM l k
theorem fstM_tidy (l : List S36) : ∀ k, Tidy (fstM l k)
 | 0 => tidy_empty
 | k + 1 => by
  unfold fstM
  split
  ·exact (fstM_tidy l k).put (keyI_is _) _
  ·exact fstM_tidy l k
theorem fstM_spec (l : List S36) (i : Int) (z : DataW Unit) : ∀ k, has (fstM l k) (keyI i) = decide (0 ≤ fstI l i k) ∧ (fstM l k).atKey (keyI i) z = if 0 ≤ fstI l i k then .lit (.int .i64 (fstI l i k)) else z
 | 0 => by
  refine ⟨by simp [fstM, fstI, has], ?_⟩
  rw [if_neg (by simp [fstI])]
  rfl
 | k + 1 => by
  obtain ⟨h1, h2⟩ := fstM_spec l i z k
  have hin := fstI_in l i k
  unfold fstM
  by_cases e : (rd_T36 l (k : Int)).f1 = i
  ·rw [e]
   by_cases c : fstI l i k < 0
   ·have e2 : fstI l i (k + 1) = (k : Int) := by
     show (if _ then _ else _) = _
     rw [if_pos c, if_pos e]
    rw [if_pos c, e2, has_put_same (fstM_tidy l k).isMap (keyI_is _), atKey_put_same (fstM_tidy l k).isMap (keyI_is _), if_pos (by omega)]
    exact ⟨by simp, rfl⟩
   ·have e2 : fstI l i (k + 1) = fstI l i k := by
     show (if _ then _ else _) = _
     rw [if_neg c]
    rw [if_neg c, e2]
    exact ⟨h1, h2⟩
  ·have e2 : fstI l i (k + 1) = fstI l i k := by
    show (if _ then _ else _) = _
    by_cases c : fstI l i k < 0
    ·rw [if_pos c, if_neg e]; omega
    ·rw [if_neg c]
   rw [e2]
   split
   ·have hk : keyI i ≠ keyI (rd_T36 l (k : Int)).f1 := fun h => e (keyI_inj _ _ h).symm
    rw [has_put_other hk, atKey_put_other hk]
    exact ⟨h1, h2⟩
   ·exact ⟨h1, h2⟩
theorem scan_fst (l : List S36) (id : Int) (hid : id ≠ 0) : ∀ (j : Nat) (p : Int), scanD l id j p = if 0 ≤ fstI l id j then fstI l id j else p
 | 0, p => by rw [if_neg (by simp [fstI])]; rfl
 | j + 1, p => by
  have hin := fstI_in l id j
  unfold scanD
  rw [scan_fst l id hid j]
  show _ = if 0 ≤ (if fstI l id j < 0 then (if (rd_T36 l (j : Int)).f1 = id then (j : Int) else -1) else fstI l id j) then _ else p
  by_cases c : fstI l id j < 0
  ·rw [if_neg (by omega), if_pos c]
   show _ = if _ then (if fstI l id j < 0 then (if (rd_T36 l (j : Int)).f1 = id then (j : Int) else -1) else fstI l id j) else p
   rw [if_pos c]
   by_cases e : (rd_T36 l (j : Int)).f1 = id
   ·rw [if_pos ⟨hid, e⟩, if_pos e, if_pos (by omega)]
   ·rw [if_neg (fun h => e h.2), if_neg e, if_neg (by omega)]
  ·rw [if_pos (by omega), if_neg c, if_pos (by omega)]
   show _ = (if fstI l id j < 0 then (if (rd_T36 l (j : Int)).f1 = id then (j : Int) else -1) else fstI l id j)
   rw [if_neg c]
theorem scan_zero (l : List S36) : ∀ (j : Nat) (p : Int), scanD l 0 j p = p
 | 0, p => rfl
 | j + 1, p => by
  unfold scanD
  rw [if_neg (fun h => h.1 rfl)]
  exact scan_zero l j p
theorem raw_at (l : List S36) (i : Nat) (hi : i < l.length) : rd (rawL l) (i : Int) = if (rd_T36 l (i : Int)).f2 = 0 ∨ fstI l (rd_T36 l (i : Int)).f2 l.length < 0 then -1 else fstI l (rd_T36 l (i : Int)).f2 l.length := by
 have hr : rd_T36 l (i : Int) = l[i] := by simp [rd_T36, List.getD, hi]
 have e : rd (rawL l) (i : Int) = scanD l l[i].f2 l.length (-1) := by simp [rd, List.getD, rawL, hi]
 rw [e, hr]
 by_cases c : l[i].f2 = 0
 ·rw [c, scan_zero, if_pos (.inl rfl)]
 ·rw [scan_fst l _ c]
  have hin := fstI_in l l[i].f2 l.length
  by_cases d : 0 ≤ fstI l l[i].f2 l.length
  ·rw [if_pos d, if_neg (fun h => h.elim c (fun h => by omega))]
  ·rw [if_neg d, if_pos (.inr (by omega))]
theorem rawL_inR (l : List S36) : inR (rawL l).length (rawL l) := ⟨rfl, by rw [rawL_length]; exact rawL_in l (by omega)⟩
theorem parL_mark (l : List S36) : mark (-1) (losers (rawL l)) (rawL l) = parL l := by
 rw [mark_par (rawL_inR l), rawL_length]
 rfl
def fillL (l : List S36) (k : Nat) : List Int := (rawL l).take k ++ List.replicate (l.length - k) 0
theorem fillL_len (l : List S36) (k : Nat) (h : k ≤ l.length) : (fillL l k).length = l.length := by
 simp [fillL, rawL_length]; omega
theorem fillL_set (l : List S36) (k : Nat) (h : k < l.length) : (fillL l k).set k (rd (rawL l) (k : Int)) = fillL l (k + 1) := by
 have hx : k < (rawL l).length := by rw [rawL_length]; exact h
 have hr : rd (rawL l) (k : Int) = (rawL l)[k] := by simp [rd, List.getD, hx]
 have hl : ((rawL l).take k).length = k := by rw [List.length_take, rawL_length]; omega
 unfold fillL
 rw [hr, List.set_append, if_neg (by omega), hl, Nat.sub_self, List.take_succ_eq_append_getElem hx, List.append_assoc]
 congr 1
 obtain ⟨m, hm⟩ : ∃ m, l.length - k = m + 1 := ⟨l.length - k - 1, by omega⟩
 rw [hm, show l.length - (k + 1) = m by omega, List.replicate_succ]
 rfl
theorem fillL_end (l : List S36) : fillL l l.length = rawL l := by
 unfold fillL
 rw [Nat.sub_self, List.take_of_length_le (by rw [rawL_length]; exact Nat.le_refl _)]
 simp
set_option linter.unusedSimpArgs false
def fitP (s : S36) : Prop := (Lit.int .u64 s.f1).wf = true ∧ (Lit.int .u64 s.f2).wf = true
instance : DecidablePred fitP := fun s => by unfold fitP; infer_instance
theorem lawU : Keyed Tryz.prog 23 := int_keyed Tryz.underlying23
theorem zeroI (w : World) : (zeroValue 3).run Tryz.prog w = .ok (.int .i64 0) w := by kernel_rfl
theorem at_S {l : List S36} {x : Nat} (h : x < l.length) : rd_T36 l (x : Int) ∈ l := by
 rw [show rd_T36 l (x : Int) = l[x] by simp [rd_T36, List.getD, h]]
 exact List.getElem_mem _
theorem rowB_R {W : World} {g base : Nat} {st : List Int} (h : rowB W g st) (hb : base ≤ g) (hl : st.length ≤ 1000000) : Kd.R (Kd.int .i64) 3 W base (fun _ => True) (.slice (some ⟨g, 0, none⟩) st.length st.length) st := by
 refine ⟨fun _ _ => trivial, st.map (Value.int .i64), ⟨by show _ = st.length * 1; simp, .inr ⟨g, st.length, _, rfl, hb, h, Nat.le_refl _, by unfold maxLen; omega, by show _ = st.length * 1; simp, ?_⟩⟩, ?_⟩
 ·show List.take (st.length * 1) _ = _
  rw [Nat.mul_one]
  show List.take st.length (st.map (Value.int .i64)) = _
  exact List.take_of_length_le (by simp)
 ·refine ⟨by show _ = st.length * 1; simp, fun j p hp => ?_⟩
  show (((st.map (Value.int .i64)).drop (j * 1)).take 1) = [.int .i64 p]
  rw [Nat.mul_one]
  obtain ⟨hj, rfl⟩ := List.getElem?_eq_some_iff.1 hp
  rw [List.drop_eq_getElem_cons (by simpa using hj)]
  simp
set_option maxHeartbeats 2000000 in
set_option maxRecDepth 100000 in
theorem parents_calls (l : List S36) (hl : l.length ≤ 1000000) (hf : ∀ s ∈ l, fitP s) (A0 : Option Addr) (c0 : Nat) (w : World) (hr0 : Kd.C k36 w A0 l.length l) :
  Calls Tryz.prog 60 #[.slice A0 l.length c0] w fun e w' => ∃ v : Value, e = .returned v ∧ Kd.R (Kd.int .i64) 3 w' w.heap.size (fun _ => True) v (parL l) ∧ Below w.heap.size w w' := by
 have hmm := @run_makeMap Tryz.prog
 have hmf : ∀ (fn : Fn) (first cap : Array Value) (w : World), (Instr.makeFunc fn first cap).run Tryz.prog w = .ok (.func fn first cap) w := fun _ _ _ _ => rfl
 have hmk := print_make 43 3 .i64 8 Tryz.underlying43 (by kernel_rfl) (by omega) l.length (by omega)
 have HR0 := Aside0.mk hr0
 have HL := Aside0.mk hl
 have HF := Aside0.mk hf
 have hn0 : decide ((l.length : Int) < 0) = false := decide_eq_false (by omega)
 have hnm : decide ((9223372036854775807 : Int) < (l.length : Int)) = false := decide_eq_false (by omega)
 have HB0 := Aside0.mk (Below.refl w.heap.size w)
 clear hr0 hl hf
 go_enter Tryz.func60, Tryz.ntmps60
 go_wp2_with fail
 go_loopg [19] l.length (fun kq v19 w' => ∃ x : Nat, v19 = .int .i64 (x : Int) ∧ Aside0 (x + kq = l.length) ∧ Aside0 (∃ c, c ≤ x ∧ w'.ownsMap Tryz.prog 23 (plainElem Tryz.prog 3) w.heap.size c (fstM l x)) ∧ Aside0 (Below w.heap.size w w'))
 case atStart => exact ⟨0, rfl, ⟨by omega⟩, ⟨0, Nat.le_refl _, World.ownsMap_made _ _ _ _⟩, ⟨(Below.refl _ _).alloc (Nat.le_refl _) _⟩⟩
 case round =>
  obtain ⟨x, rfl, HK, HM0, HB⟩ := hrel
  obtain ⟨c, hcx, hm⟩ := HM0.out
  have HC := Aside0.mk hcx
  have HM := Aside0.mk hm
  clear HM0 hcx hm
  by_cases c1 : (x : Int) < (l.length : Int)
  ·have c1b := decide_eq_true c1
   have p1 : (0 : Int) ≤ (x : Int) := by omega
   have hxl : x < l.length := by omega
   have HFx := Aside0.mk (HF.out _ (at_S hxl))
   obtain ⟨ad1, e1, hx1⟩ := at_T36 HR0.out (x : Int) p1 c1
   cases e1
   obtain ⟨hx1_0, hx1_1, hx1_2, hx1_3, hx1_4, hx1_5, hx1_6, hx1_7⟩ := zc8 HB.out hx1
   rw [Int.toNat_natCast] at hx1_0 hx1_1 hx1_2 hx1_3 hx1_4 hx1_5 hx1_6 hx1_7
   have HSp := Aside0.mk (fstM_spec l (rd_T36 l (x : Int)).f1 (.lit (.int .i64 0)) x)
   have HNx := Aside0.mk (show fstM l (x + 1) = if fstI l (rd_T36 l (x : Int)).f1 x < 0 then (fstM l x).put (keyI (rd_T36 l (x : Int)).f1) (.lit (.int .i64 x)) else fstM l x from rfl)
   generalize rd_T36 l (x : Int) = s at *
   have HKey := Aside0.mk (keyOf_int_mk Tryz.underlying23 HFx.out.1)
   have W1 := Aside0.mk (show wrap64 ((x : Int) + 1) = ((x + 1 : Nat) : Int) from by unfold wrap64; have := HL.out; omega)
   have HXl := Aside0.mk hxl
   obtain ⟨k1, rfl⟩ : ∃ k1, gk = k1 + 1 := ⟨gk - 1, by have := HK.out; omega⟩
   clear hxl
   replace p1 := eq_true p1
   replace c1 := eq_true c1
   by_cases c2 : fstI l s.f1 x < 0
   ·have HV := Aside0.mk (show has (fstM l x) (keyI s.f1) = false ∧ (fstM l x).atKey (keyI s.f1) (.lit (.int .i64 0)) = .lit (.int .i64 0) from by
     obtain ⟨h1, h2⟩ := HSp.out
     rw [h1, h2, if_neg (by omega)]
     exact ⟨decide_eq_false (by omega), rfl⟩)
    rw [if_pos c2] at HNx
    clear c2 HSp
    go_wp2_with (first
     | (at_lookup; refine lookup_ok_known _ rfl _ _ 41 rfl 23 3 .i64 lawU Tryz.underlying41 Tryz.underlying3 (zeroI _) w.heap.size c (fstM l x) rfl (HM.out.alloc _) _ _ rfl HKey.out 0 HV.out.2 false HV.out.1 ?_)
     | (at_mapUpdate; refine wpList_mapUpdate_own _ rfl _ _ _ 41 rfl 23 3 lawU Tryz.underlying41 _ w.heap.size c _ rfl (HM.out.alloc _) ?mN _ _ _ rfl rfl HKey.out _ [] (plainElem_int Tryz.underlying3 ?mW) ?_; (case mN => have := HC.out; have := HL.out; have := HXl.out; show c < 9223372036854775807; omega); (case mW => exact WalkArith.wf_i64 (by have := HL.out; have := HXl.out; omega)); intro w2 hown2 hgrow2; have HM2 := Aside0.mk hown2; have HB2 := Aside0.mk (below_map (below_alloc HB.out _) hgrow2 (Nat.le_refl _) (below_alloc HB.out _).size); clear hown2 hgrow2))
    go_roundg k1
    case measure => omega
    case rel => exact ⟨x + 1, by rw [W1.out], ⟨by have := HK.out; omega⟩, ⟨c + 1, by have := HC.out; omega, by rw [HNx.out]; exact HM2.out⟩, HB2⟩
   ·have HV := Aside0.mk (show has (fstM l x) (keyI s.f1) = true ∧ (fstM l x).atKey (keyI s.f1) (.lit (.int .i64 0)) = .lit (.int .i64 (fstI l s.f1 x)) from by
     obtain ⟨h1, h2⟩ := HSp.out
     rw [h1, h2, if_pos (by omega)]
     exact ⟨decide_eq_true (by omega), rfl⟩)
    rw [if_neg c2] at HNx
    clear c2 HSp
    go_wp2_with ((at_lookup; refine lookup_ok_known _ rfl _ _ 41 rfl 23 3 .i64 lawU Tryz.underlying41 Tryz.underlying3 (zeroI _) w.heap.size c (fstM l x) rfl (HM.out.alloc _) _ _ rfl HKey.out (fstI l s.f1 x) HV.out.2 true HV.out.1 ?_))
    go_roundg k1
    case measure => omega
    case rel => exact ⟨x + 1, by rw [W1.out], ⟨by have := HK.out; omega⟩, ⟨c, by have := HC.out; omega, by rw [HNx.out]; exact HM.out.alloc _⟩, ⟨below_alloc HB.out _⟩⟩
  ·have c1b := decide_eq_false c1
   have ex : x = l.length := by have := HK.out; omega
   subst ex
   clear c1
   go_wp2_with fail
   have HMc := Aside0.mk (show ∃ c, w.heap.size < wr.heap.size ∧ wr.ownsMap Tryz.prog 23 (plainElem Tryz.prog 3) w.heap.size c (fstM l l.length) from ⟨c, HM.out.lt, HM.out⟩)
   have HG0 : Aside0 (rowB ((wr.alloc (.cells (madeCells #[Value.int .i64 0] l.length) 3)).alloc (.cells #[.slice (some ⟨wr.heap.size, 0, none⟩) l.length l.length] 43)) wr.heap.size (fillL l 0)) := ⟨by
    refine rowB_kept (row := none) ?_ (World.grownBy_alloc _ _ none) (by simp)
    show _ = some (Obj.cells ((fillL l 0).map (Value.int .i64)).toArray 3 (0, 0))
    rw [show fillL l 0 = List.replicate l.length 0 by simp [fillL], List.map_replicate]
    exact heap_made wr _ _ _⟩
   have HX0 : Aside0 (Boxed ((wr.alloc (.cells (madeCells #[Value.int .i64 0] l.length) 3)).alloc (.cells #[.slice (some ⟨wr.heap.size, 0, none⟩) l.length l.length] 43)) (wr.heap.size + 1) 43 (.slice (some ⟨wr.heap.size, 0, none⟩) l.length l.length)) := ⟨by
    have h := Boxed.new (wr.alloc (.cells (madeCells #[Value.int .i64 0] l.length) 3)) 43 (.slice (some ⟨wr.heap.size, 0, none⟩) l.length l.length)
    rw [show (wr.alloc (.cells (madeCells #[Value.int .i64 0] l.length) 3)).heap.size = wr.heap.size + 1 by simp] at h
    exact h⟩
   obtain ⟨c', hlt, hm2⟩ := HMc.out
   have HM2 := Aside0.mk ((hm2.alloc (.cells (madeCells #[Value.int .i64 0] l.length) 3)).alloc (.cells #[.slice (some ⟨wr.heap.size, 0, none⟩) l.length l.length] 43))
   have HB2 := Aside0.mk (below_alloc (below_alloc HB.out (.cells (madeCells #[Value.int .i64 0] l.length) 3)) (.cells #[.slice (some ⟨wr.heap.size, 0, none⟩) l.length l.length] 43))
   have HLt := Aside0.mk hlt
   clear HMc hm2 hlt HM HB HC HK
   generalize wr.heap.size = gp at *
   go_loopg [43] l.length (fun kq v43 w' => ∃ x : Nat, v43 = .int .i64 (x : Int) ∧ Aside0 (x + kq = l.length) ∧ Aside0 (rowB w' gp (fillL l x)) ∧ Aside0 (Boxed w' (gp + 1) 43 (.slice (some ⟨gp, 0, none⟩) l.length l.length)) ∧ Aside0 (w'.ownsMap Tryz.prog 23 (plainElem Tryz.prog 3) w.heap.size c' (fstM l l.length)) ∧ Aside0 (Below w.heap.size w w'))
   case atStart => exact ⟨0, rfl, ⟨by omega⟩, HG0, HX0, HM2, HB2⟩
   case round =>
    clear HG0 HX0 HM2 HB2
    obtain ⟨x, rfl, HK, HG, HX, HM, HB⟩ := hrel
    by_cases c1 : (x : Int) < (l.length : Int)
    ·have c1b := decide_eq_true c1
     have p1 : (0 : Int) ≤ (x : Int) := by omega
     have hxl : x < l.length := by omega
     have HFx := Aside0.mk (HF.out _ (at_S hxl))
     obtain ⟨ad1, e1, hx1⟩ := at_T36 HR0.out (x : Int) p1 c1
     cases e1
     obtain ⟨hx1_0, hx1_1, hx1_2, hx1_3, hx1_4, hx1_5, hx1_6, hx1_7⟩ := zc8 HB.out hx1
     rw [Int.toNat_natCast] at hx1_0 hx1_1 hx1_2 hx1_3 hx1_4 hx1_5 hx1_6 hx1_7
     have HSp := Aside0.mk (fstM_spec l (rd_T36 l (x : Int)).f2 (.lit (.int .i64 0)) l.length)
     have HRaw := Aside0.mk (raw_at l x hxl)
     have HFill := Aside0.mk (fillL_set l x hxl)
     have HFl := Aside0.mk (fillL_len l x (by omega))
     generalize rd_T36 l (x : Int) = s at *
     have HKey := Aside0.mk (keyOf_int_mk Tryz.underlying23 HFx.out.2)
     have W1 := Aside0.mk (show wrap64 ((x : Int) + 1) = ((x + 1 : Nat) : Int) from by unfold wrap64; have := HL.out; omega)
     obtain ⟨k1, rfl⟩ : ∃ k1, gk = k1 + 1 := ⟨gk - 1, by have := HK.out; omega⟩
     have hcell : ∀ o, (wr.alloc o).cell? ⟨gp, x, none⟩ = some (.int .i64 (rd (fillL l x) (x : Int))) := fun o => by
      have h := rowB_cell (rowB_kept HG.out (World.grownBy_alloc wr o none) (by simp)) p1 (by rw [HFl.out]; exact c1)
      rw [Int.toNat_natCast] at h
      exact h
     have hfz := fun o => rowB_frozen (rowB_kept HG.out (World.grownBy_alloc wr o none) (by simp)) x
     have hbx := fun o => (HX.out.alloc o).cell
     have HXl := Aside0.mk hxl
     have HSet := Aside0.mk (fun (v : Int) (W : World) (h : rowB W gp (fillL l x)) => rowB_set h x v)
     clear hxl
     replace p1 := eq_true p1
     replace c1 := eq_true c1
     have fin : ∀ (v : Int) (W : World), rd (rawL l) (x : Int) = v → Aside0 (rowB W gp (fillL l x)) → Aside0 (Boxed W (gp + 1) 43 (.slice (some ⟨gp, 0, none⟩) l.length l.length)) → Aside0 (W.ownsMap Tryz.prog 23 (plainElem Tryz.prog 3) w.heap.size c' (fstM l l.length)) → Aside0 (Below w.heap.size w W) → Aside0 (rowB (W.setCell ⟨gp, x, none⟩ (.int .i64 v)) gp (fillL l (x + 1))) ∧ Aside0 (Boxed (W.setCell ⟨gp, x, none⟩ (.int .i64 v)) (gp + 1) 43 (.slice (some ⟨gp, 0, none⟩) l.length l.length)) ∧ Aside0 ((W.setCell ⟨gp, x, none⟩ (.int .i64 v)).ownsMap Tryz.prog 23 (plainElem Tryz.prog 3) w.heap.size c' (fstM l l.length)) ∧ Aside0 (Below w.heap.size w (W.setCell ⟨gp, x, none⟩ (.int .i64 v))) := by
      intro v W hv h1 h2 h3 h4
      have hgs := grownBy_set W gp x (.int .i64 v)
      refine ⟨⟨?_⟩, ⟨h2.out.kept hgs (by simp)⟩, ⟨h3.out.kept hgs (by have := HLt.out; intro e; have := Option.some.inj e; omega)⟩, ⟨h4.out.grown hgs h4.out.size (fun j hj => by cases hj; have := HLt.out; omega)⟩⟩
      rw [← HFill.out, hv]
      exact rowB_set h1.out x v
     have FIN := Aside0.mk fin
     clear fin
     by_cases c2 : fstI l s.f2 l.length < 0
     ·have HV := Aside0.mk (show has (fstM l l.length) (keyI s.f2) = false ∧ (fstM l l.length).atKey (keyI s.f2) (.lit (.int .i64 0)) = .lit (.int .i64 0) from by
       obtain ⟨h1, h2⟩ := HSp.out
       rw [h1, h2, if_neg (by omega)]
       exact ⟨decide_eq_false (by omega), rfl⟩)
      rw [if_pos (.inr c2)] at HRaw
      clear c2 HSp
      go_wp2_with ((at_lookup; refine lookup_ok_known _ rfl _ _ 41 rfl 23 3 .i64 lawU Tryz.underlying41 Tryz.underlying3 (zeroI _) w.heap.size c' (fstM l l.length) rfl (HM.out.alloc _) _ _ rfl HKey.out 0 HV.out.2 false HV.out.1 ?_))
      go_roundg k1
      case measure => omega
      case rel =>
       obtain ⟨q1, q2, q3, q4⟩ := FIN.out _ _ HRaw.out ⟨rowB_kept HG.out (World.grownBy_alloc _ _ none) (by simp)⟩ ⟨HX.out.alloc _⟩ ⟨HM.out.alloc _⟩ ⟨below_alloc HB.out _⟩
       exact ⟨x + 1, by rw [W1.out], ⟨by have := HK.out; omega⟩, q1, q2, q3, q4⟩
     ·have HV := Aside0.mk (show has (fstM l l.length) (keyI s.f2) = true ∧ (fstM l l.length).atKey (keyI s.f2) (.lit (.int .i64 0)) = .lit (.int .i64 (fstI l s.f2 l.length)) from by
       obtain ⟨h1, h2⟩ := HSp.out
       rw [h1, h2, if_pos (by omega)]
       exact ⟨decide_eq_true (by omega), rfl⟩)
      by_cases c3 : s.f2 = 0
      ·rw [if_pos (.inl c3)] at HRaw
       have c3b : (s.f2 == 0) = true := by rw [c3]; rfl
       have c3d := decide_eq_true c3
       clear c2 HSp c3
       go_wp2_with ((at_lookup; refine lookup_ok_known _ rfl _ _ 41 rfl 23 3 .i64 lawU Tryz.underlying41 Tryz.underlying3 (zeroI _) w.heap.size c' (fstM l l.length) rfl (HM.out.alloc _) _ _ rfl HKey.out (fstI l s.f2 l.length) HV.out.2 true HV.out.1 ?_))
       go_roundg k1
       case measure => omega
       case rel =>
        obtain ⟨q1, q2, q3, q4⟩ := FIN.out _ _ HRaw.out ⟨rowB_kept HG.out (World.grownBy_alloc _ _ none) (by simp)⟩ ⟨HX.out.alloc _⟩ ⟨HM.out.alloc _⟩ ⟨below_alloc HB.out _⟩
        exact ⟨x + 1, by rw [W1.out], ⟨by have := HK.out; omega⟩, q1, q2, q3, q4⟩
      ·rw [if_neg (fun h => h.elim c3 c2)] at HRaw
       have c3b : (s.f2 == 0) = false := by rw [beq_eq_false_iff_ne]; exact c3
       have c3d := decide_eq_false c3
       clear c2 HSp c3
       go_wp2_with ((at_lookup; refine lookup_ok_known _ rfl _ _ 41 rfl 23 3 .i64 lawU Tryz.underlying41 Tryz.underlying3 (zeroI _) w.heap.size c' (fstM l l.length) rfl (HM.out.alloc _) _ _ rfl HKey.out (fstI l s.f2 l.length) HV.out.2 true HV.out.1 ?_))
       go_roundg k1
       case measure => omega
       case rel =>
        obtain ⟨q1, q2, q3, q4⟩ := FIN.out _ _ HRaw.out ⟨rowB_kept HG.out (World.grownBy_alloc _ _ none) (by simp)⟩ ⟨HX.out.alloc _⟩ ⟨HM.out.alloc _⟩ ⟨below_alloc HB.out _⟩
        exact ⟨x + 1, by rw [W1.out], ⟨by have := HK.out; omega⟩, q1, q2, q3, q4⟩
    ·have c1b := decide_eq_false c1
     have ex : x = l.length := by have := HK.out; omega
     subst ex
     clear c1
     have HG1 : Aside0 (rowB wr gp (rawL l)) := ⟨by have h := HG.out; rw [fillL_end] at h; exact h⟩
     have hbx := fun o => (HX.out.alloc o).cell
     have hst : OfSt w gp (gp + 1) wr.heap.size (rawL l) [] (fun k => (wr.alloc (.cells #[.slice none 0 0] 43)).heap.size < k) (wr.alloc (.cells #[.slice none 0 0] 43)) := by
      refine ⟨rowB_kept HG1.out (World.grownBy_alloc _ _ none) (by simp), ?_, ⟨_, Boxed.new _ _ _, Kd.R_nil _ _ _ _ _⟩, below_alloc HB.out _⟩
      rw [rawL_length]
      exact HX.out.alloc _
     have QC := cycles_of (rawL l) (rawL_inR l) (by rw [rawL_length]; exact HL.out) gp (gp + 1) wr.heap.size w _ ⟨by have := HX.out.lt; omega, by have := rowB_lt HG1.out; omega⟩ HB.out.size hst
     rw [show (#[Value.slice (some ⟨gp, 0, none⟩) (rawL l).length (rawL l).length, .func (.func 107) #[] #[.pointer (some ⟨gp + 1, 0, none⟩), .pointer (some ⟨wr.heap.size, 0, none⟩)]] : Array Value) = #[.slice (some ⟨gp, 0, none⟩) l.length l.length, .func (.func 107) #[] #[.pointer (some ⟨gp + 1, 0, none⟩), .pointer (some ⟨wr.heap.size, 0, none⟩)]] from by rw [rawL_length]] at QC
     have QC2 := Aside0.mk QC
     have HWl := Aside0.mk (show gp < (wr.alloc (.cells #[.slice none 0 0] 43)).heap.size from by have := rowB_lt HG1.out; simp; omega)
     clear QC hst
     go_wp2_with (go_at_call 106; refine QC2.out.mono ?_; rintro e w2 ⟨rfl, hst⟩; obtain ⟨v, hb, hR⟩ := hst.lose; obtain ⟨Al, cl, rfl⟩ := Kd.R_slice hR; have hbl := hb.cell; have hbo := hst.out.cell; have HSt := Aside0.mk hst; have HR := Aside0.mk hR; clear hst hb hR)
     generalize (wr.alloc (.cells #[.slice none 0 0] 43)).heap.size = gb at *
     have HG2 := Aside0.mk (show rowB w2 gp (mark (-1) ((losers (rawL l)).take 0) (rawL l)) from HSt.out.row)
     have HX2 : Aside0 (Boxed w2 (gp + 1) 43 (.slice (some ⟨gp, 0, none⟩) l.length l.length)) := ⟨by have h := HSt.out.out; rw [rawL_length] at h; exact h⟩
     have HB3 := Aside0.mk HSt.out.below
     have HIn := Aside0.mk (losers_in (rawL_inR l))
     have HLl := Aside0.mk (show (losers (rawL l)).length ≤ l.length from by
      have h := cyc_len (rawL l) (rawL l).length
      rw [rawL_length] at h
      unfold losers
      rw [List.length_map, rawL_length]
      exact h)
     have HMk := Aside0.mk (parL_mark l)
     have HRl := Aside0.mk (rawL_length l)
     clear HSt HG1 HX HM HB hbo
     generalize losers (rawL l) = L at *
     go_loopg [72] L.length (fun kq v72 w' => ∃ x : Nat, v72 = .int .i64 (x : Int) ∧ Aside0 (x + kq = L.length) ∧ Aside0 (rowB w' gp (mark (-1) (L.take x) (rawL l))) ∧ Aside0 (Boxed w' (gp + 1) 43 (.slice (some ⟨gp, 0, none⟩) l.length l.length)) ∧ Aside0 (Kd.R (Kd.int .i64) 3 w' w.heap.size (fun k => gb < k) (.slice Al L.length cl) L) ∧ Aside0 (Below w.heap.size w w'))
     case atStart => exact ⟨0, rfl, ⟨by omega⟩, HG2, HX2, HR, HB3⟩
     case round =>
      clear HG2 HX2 HR HB3 hbl
      obtain ⟨x, rfl, HK, HG, HX, HR, HB⟩ := hrel
      by_cases c1 : (x : Int) < (L.length : Int)
      ·have c1b := decide_eq_true c1
       have p1 : (0 : Int) ≤ (x : Int) := by omega
       have hxl : x < L.length := by omega
       obtain ⟨ad1, e1, hx⟩ := Kd.at_int (Kd.R_reads' HR.out).2.2 (x : Int) p1 c1
       cases e1
       rw [Int.toNat_natCast] at hx
       have hr : rd L (x : Int) = L[x] := by simp [rd, List.getD, hxl]
       have hi := HIn.out _ (List.getElem_mem hxl)
       rw [HRl.out, ← hr] at hi
       have HMx := Aside0.mk (show mark (-1) (L.take (x + 1)) (rawL l) = (mark (-1) (L.take x) (rawL l)).set (rd L (x : Int)).toNat (-1) from by
        rw [List.take_succ_eq_append_getElem hxl, hr]
        unfold mark
        rw [List.foldl_append]
        rfl)
       have W1 := Aside0.mk (show wrap64 ((x : Int) + 1) = ((x + 1 : Nat) : Int) from by unfold wrap64; have := HLl.out; have := HL.out; omega)
       obtain ⟨k1, rfl⟩ : ∃ k1, gk = k1 + 1 := ⟨gk - 1, by have := HK.out; omega⟩
       generalize rd L (x : Int) = i at *
       have hbx := HX.out.cell
       have hcell := rowB_cell HG.out hi.1 (by rw [mark_len, HRl.out]; exact hi.2)
       have hfz := rowB_frozen HG.out i.toNat
       have i0 := eq_true hi.1
       have i1 := eq_true hi.2
       clear hi hr hxl
       replace p1 := eq_true p1
       replace c1 := eq_true c1
       go_wp2_with fail
       go_roundg k1
       case measure => omega
       case rel =>
        have hgs := grownBy_set wr gp i.toNat (.int .i64 (-1))
        refine ⟨x + 1, by rw [W1.out], ⟨by have := HK.out; omega⟩, ⟨by rw [HMx.out]; exact rowB_set HG.out i.toNat (-1)⟩, ⟨HX.out.kept hgs (by simp)⟩, ⟨Kd.R_grown HR.out hgs (fun k hk e => by have := Option.some.inj e; have := HWl.out; omega)⟩, ⟨HB.out.grown hgs HB.out.size (fun j hj => by cases hj; have := HLt.out; omega)⟩⟩
      ·have c1b := decide_eq_false c1
       have ex : x = L.length := by have := HK.out; omega
       subst ex
       have hg := HG.out
       rw [List.take_length, HMk.out] at hg
       have HF2 := Aside0.mk (rowB_R hg (show w.heap.size ≤ gp from by have := HLt.out; omega) (by rw [parL_length]; exact HL.out))
       have hbx := HX.out.cell
       clear hg c1
       go_wp2_with fail
       go_ret
       refine ⟨_, rfl, ?_, HB.out⟩
       have h := HF2.out
       rw [parL_length] at h
       exact h
end Go.Proofs.YtgknjgionicncaaGreat.L
namespace Go.Proofs.YtgknjgionicncaaGreat.L
open Go.RowKit Go.Proofs.YtgknjgionicncaaGreat.Q Go.Proofs.YtgknjgionicncaaGreatW.PrintWords Go.Proofs.YtgknjgionicncaaGreatW.PrintLast Go.Proofs.YtgknjgionicncaaGreatW.PrintMore Go.Proofs.YtgknjgionicncaaGreatW.Lib Go.Proofs.YtgknjgionicncaaGreatW.MapB
set_option linter.unusedVariables false
set_option maxHeartbeats 1000000 in
set_option maxRecDepth 100000 in
theorem cycles_right (ps : List Int) (hp : inR ps.length ps) (hl : ps.length ≤ 1000000) (A0 : Option Addr) (c0 B : Nat) (w0 w : World) (hr0 : Kd.C (Kd.int .i64) w0 A0 ps.length ps) (hb0 : Below w0.heap.size w0 w) (hBb : w0.heap.size ≤ B) (hbox : Boxed w B 4 (.bool true)) :
  Calls Tryz.prog 106 #[.slice A0 ps.length c0, .func (.func 126) #[] #[.pointer (some ⟨B, 0, none⟩)]] w fun e w' => e = .returned (.tuple #[]) ∧ Boxed w' B 4 (.bool (decide ((cycZ ps ps.length).2 = []))) ∧ Below w0.heap.size w0 w' := by
 have hmk := print_make 43 3 .i64 8 Tryz.underlying43 (by kernel_rfl) (by omega) ps.length (by omega)
 have HR0 := Aside0.mk hr0
 have HB0 := Aside0.mk (fun o => below_alloc hb0 o)
 have HX := Aside0.mk (fun o => hbox.alloc o)
 have HBg := Aside0.mk hbox.lt
 have HP := Aside0.mk hp
 have HL := Aside0.mk hl
 have HI := Aside0.mk (cyc_inv hp)
 have hn0 : decide ((ps.length : Int) < 0) = false := decide_eq_false (by omega)
 have hnm : decide ((9223372036854775807 : Int) < (ps.length : Int)) = false := decide_eq_false (by omega)
 clear hr0 hb0 hbox hp hl
 go_enter Tryz.func106, Tryz.ntmps106
 go_wp2_with fail
 have HG0 : Aside0 (rowB (w.alloc (.cells (madeCells #[Value.int .i64 0] ps.length) 3)) w.heap.size (cycZ ps 0).1) := ⟨by
  show _ = some (Obj.cells ((List.replicate ps.length (0 : Int)).map (Value.int .i64)).toArray 3 (0, 0))
  rw [List.map_replicate]
  exact heap_made w _ _ _⟩
 generalize hgg : w.heap.size = g at *
 have HWg := Aside0.mk (show w0.heap.size ≤ g from by have := HBg.out; omega)
 go_loopg [12] ps.length (fun kq v12 w' => ∃ x : Nat, v12 = .int .i64 (x : Int) ∧ Aside0 (x + kq = ps.length) ∧ Aside0 (rowB w' g (cycZ ps x).1) ∧ Aside0 (Boxed w' B 4 (.bool (decide ((cycZ ps x).2 = [])))) ∧ Aside0 (Below w0.heap.size w0 w'))
 case atStart => exact ⟨0, rfl, ⟨by omega⟩, HG0, ⟨HX.out _⟩, ⟨HB0.out _⟩⟩
 case round =>
  clear HG0 HB0 HX
  obtain ⟨x, rfl, HK, HG, HX, HB⟩ := hrel
  by_cases c1 : (x : Int) < (ps.length : Int)
  ·have c1b := decide_eq_true c1
   have HI1 := Aside0.mk (HI.out x (by omega)).1
   have HW1 := Aside0.mk (show wrap64 ((x : Int) + 1) = ((x + 1 : Nat) : Int) from by unfold wrap64; have := HL.out; omega)
   have HN := Aside0.mk (show cycZ ps (x + 1) = roundC ps (cycZ ps x) (x : Int) from rfl)
   have C1 := Aside0.mk c1
   replace c1 := eq_true c1
   obtain ⟨k1, rfl⟩ : ∃ k1, gk = k1 + 1 := ⟨gk - 1, by have := HK.out; have := C1.out; omega⟩
   go_wp2_with fail
   apply wp_scope_straight
   go_wp2_with fail
   apply wp_label
   rename_i hK
   refine hK _ _ ?_
   clear hK
   apply wp_seq_k
   intro _ _
   go_cut [6] (fun v6 wc => ∃ (a : Int) (st : List Int), v6 = .int .i64 a ∧ Aside0 (go1 ps (ps.length + 1) (cycZ ps x).1 (x : Int) = (st, a)) ∧ Aside0 (rowB wc g st) ∧ Aside0 (Boxed wc B 4 (.bool (decide ((roundC ps (cycZ ps x) (x : Int)).2 = [])))) ∧ Aside0 (Below w0.heap.size w0 wc))
   case first =>
    go_wp2_with fail
    go_loopg [6] (ps.length + 1) (fun kq v6 w' => ∃ (a : Int) (st : List Int), v6 = .int .i64 a ∧ Aside0 (go1 ps kq st a = go1 ps (ps.length + 1) (cycZ ps x).1 (x : Int) ∧ a < ps.length ∧ st.length = ps.length ∧ zeros st < kq ∧ ∀ j : Int, 0 ≤ j → j < ps.length → rd st j = 0 ∨ rd st j = 1 ∨ rd st j = 2) ∧ Aside0 (rowB w' g st) ∧ Aside0 (Boxed w' B 4 (.bool (decide ((cycZ ps x).2 = [])))) ∧ Aside0 (Below w0.heap.size w0 w'))
    case atStart => exact ⟨x, _, rfl, ⟨rfl, by have := C1.out; omega, HI1.out.len, by have := zeros_le (cycZ ps x).1; have := HI1.out.len; omega, fun j j0 j1 => (HI1.out.two j j0 j1).elim .inl (fun h => .inr (.inr h))⟩, HG, HX, HB⟩
    case round =>
     clear HG HX HB
     obtain ⟨a, st, rfl, HA, HG, HX, HB⟩ := hrel
     obtain ⟨kf, rfl⟩ : ∃ kf, gk = kf + 1 := ⟨gk - 1, by have := HA.out.2.2.2.1; omega⟩
     by_cases c2 : a < 0
     ·have c2b := decide_eq_true c2
      have H1 : Aside0 (go1 ps (ps.length + 1) (cycZ ps x).1 (x : Int) = (st, a)) := ⟨by rw [← HA.out.1]; unfold go1; rw [if_neg (by omega)]⟩
      have H2 : Aside0 ((roundC ps (cycZ ps x) (x : Int)).2 = (cycZ ps x).2) := ⟨by unfold roundC; dsimp only; rw [H1.out]; dsimp only; rw [if_neg (by omega)]⟩
      replace c2 := eq_true c2
      go_wp2_with fail
      go_meet
      case rel => exact ⟨a, st, rfl, H1, HG, ⟨by rw [H2.out]; exact HX.out⟩, HB⟩
     ·have c2b := decide_eq_false c2
      have p2 : 0 ≤ a := by omega
      have c3 : a < (ps.length : Int) := HA.out.2.1
      have hcell := rowB_cell HG.out p2 (by rw [HA.out.2.2.1]; exact c3)
      have hcol := HA.out.2.2.2.2 a p2 c3
      replace c2 := eq_false c2
      replace p2 := eq_true p2
      replace c3 := eq_true c3
      rcases hcol with hv | hv | hv
      ·have H1 : Aside0 (go1 ps kf (st.set a.toNat 1) (rd ps a) = go1 ps (ps.length + 1) (cycZ ps x).1 (x : Int)) := ⟨by rw [← HA.out.1, go1_on ⟨of_eq_true p2, hv⟩]⟩
       have HZ := Aside0.mk (zeros_set (of_eq_true p2) (by rw [HA.out.2.2.1]; exact of_eq_true c3) hv)
       have HR := Aside0.mk (inR_rd HP.out (of_eq_true p2) (of_eq_true c3))
       have HS := Aside0.mk (rowB_set HG.out a.toNat 1)
       have hgs := grownBy_set wr g a.toNat (.int .i64 1)
       have HXs := Aside0.mk (HX.out.kept hgs (fun e => by have h := Option.some.inj e; have := HBg.out; omega))
       have HBs := Aside0.mk (HB.out.grown hgs HB.out.size (fun j hj => by cases hj; exact HWg.out))
       have hfz := rowB_frozen HG.out a.toNat
       have HSet := Aside0.mk (fun (j : Int) (hj : 0 ≤ j) => rdC_set st a j 1 (of_eq_true p2) (by rw [HA.out.2.2.1]; exact of_eq_true c3) hj)
       obtain ⟨ad, e1, hx⟩ := Kd.at_int (Kd.C_below HR0.out HBs.out) a (of_eq_true p2) (of_eq_true c3)
       cases e1
       clear hgs
       rw [hv] at hcell
       go_wp2_with fail
       go_roundg kf
       case measure => omega
       case rel => exact ⟨rd ps a, st.set a.toNat 1, rfl, ⟨H1.out, HR.out.2, by rw [List.length_set]; exact HA.out.2.2.1, by have := HZ.out; have := HA.out.2.2.2.1; omega, fun j j0 j1 => by
        rw [HSet.out j j0]
        split
        ·exact .inr (.inl rfl)
        ·exact HA.out.2.2.2.2 j j0 j1⟩, HS, HXs, HBs⟩
      ·have H1 : Aside0 (go1 ps (ps.length + 1) (cycZ ps x).1 (x : Int) = (st, a)) := ⟨by rw [← HA.out.1, go1_stop (by omega)]⟩
       have H2 : Aside0 ((roundC ps (cycZ ps x) (x : Int)).2 ≠ []) := ⟨by unfold roundC; dsimp only; rw [H1.out]; dsimp only; rw [if_pos ⟨of_eq_true p2, hv⟩]; simp⟩
       rw [hv] at hcell
       go_wp2_with (go_at_call 126; refine (no_calls _ _ _ _ HX.out).mono ?_; rintro e w3 ⟨rfl, hb3, hg3⟩; have HX3 := Aside0.mk hb3; have HG3 := Aside0.mk (rowB_kept HG.out hg3 (fun e => by have h := Option.some.inj e; have := HBg.out; omega)); have HB3 := Aside0.mk (HB.out.grown hg3 HB.out.size (fun j hj => by cases hj; exact hBb)); clear hb3 hg3)
       go_meet
       case rel => exact ⟨a, st, rfl, H1, HG3, ⟨by rw [decide_eq_false H2.out]; exact HX3.out⟩, HB3⟩
      ·have H1 : Aside0 (go1 ps (ps.length + 1) (cycZ ps x).1 (x : Int) = (st, a)) := ⟨by rw [← HA.out.1, go1_stop (by omega)]⟩
       have H2 : Aside0 ((roundC ps (cycZ ps x) (x : Int)).2 = (cycZ ps x).2) := ⟨by unfold roundC; dsimp only; rw [H1.out]; dsimp only; rw [if_neg (by omega)]⟩
       rw [hv] at hcell
       go_wp2_with fail
       go_meet
       case rel => exact ⟨a, st, rfl, H1, HG, ⟨by rw [H2.out]; exact HX.out⟩, HB⟩
   case rest =>
    obtain ⟨a, st, rfl, H1, HG2, HX2, HB2⟩ := hcut
    obtain ⟨w5, rfl⟩ : ∃ w5 : World, w5 = wc := ⟨_, rfl⟩
    have HLen := Aside0.mk (show st.length = ps.length by have h := go1_len ps (ps.length + 1) (cycZ ps x).1 (x : Int); rw [H1.out] at h; exact h.trans HI1.out.len)
    clear HG HX HB
    go_wp2_with fail
    go_loopg [6] (ps.length + 1) (fun kq v6 w' => ∃ (a : Int) (sb : List Int), v6 = .int .i64 a ∧ Aside0 (go2 ps kq sb a = go2 ps (ps.length + 1) st (x : Int) ∧ a < ps.length ∧ sb.length = ps.length ∧ ones sb < kq) ∧ Aside0 (rowB w' g sb) ∧ Aside0 (Boxed w' B 4 (.bool (decide ((roundC ps (cycZ ps x) (x : Int)).2 = [])))) ∧ Aside0 (Below w0.heap.size w0 w'))
    case atStart => exact ⟨x, st, rfl, ⟨rfl, by have := C1.out; omega, HLen.out, by have : ones st ≤ st.length := List.countP_le_length; have := HLen.out; omega⟩, HG2, HX2, HB2⟩
    case round =>
     clear HG2 HX2 HB2
     obtain ⟨a, sb, rfl, HA, HG, HX, HB⟩ := hrel
     obtain ⟨kf, rfl⟩ : ∃ kf, gk = kf + 1 := ⟨gk - 1, by have := HA.out.2.2.2; omega⟩
     by_cases c2 : a < 0
     ·have c2b := decide_eq_true c2
      have HE := Aside0.mk (show (cycZ ps (x + 1)).1 = sb from by rw [HN.out]; unfold roundC; dsimp only; rw [H1.out]; dsimp only; rw [← HA.out.1, go2_stop (fun h => by omega)])
      have c2g : decide (0 ≤ a) = false := decide_eq_false (by omega)
      have c2h : (0 ≤ a) = False := eq_false (by omega)
      clear c2 c2b
      go_wp2_with fail
      rw [Exit.noGoto_normal]
      go_wp2_with fail
      go_roundg k1
      case measure => omega
      case rel => exact ⟨x + 1, by rw [HW1.out], ⟨by have := HK.out; omega⟩, ⟨by rw [HE.out]; exact HG.out⟩, ⟨by rw [HN.out]; exact HX.out⟩, HB⟩
     ·have c2b := decide_eq_false c2
      have p2 : 0 ≤ a := by omega
      have c3 : a < (ps.length : Int) := HA.out.2.1
      have hcell := rowB_cell HG.out p2 (by rw [HA.out.2.2.1]; exact c3)
      by_cases hv : rd sb a = 1
      ·have H3 : Aside0 (go2 ps kf (sb.set a.toNat 2) (rd ps a) = go2 ps (ps.length + 1) st (x : Int)) := ⟨by rw [← HA.out.1, go2_on ⟨p2, hv⟩]⟩
       have HZ := Aside0.mk (ones_set p2 (by rw [HA.out.2.2.1]; exact c3) hv)
       have HR := Aside0.mk (inR_rd HP.out p2 c3)
       have HS := Aside0.mk (rowB_set HG.out a.toNat 2)
       have hgs := grownBy_set wr g a.toNat (.int .i64 2)
       have HXs := Aside0.mk (HX.out.kept hgs (fun e => by have h := Option.some.inj e; have := HBg.out; omega))
       have HBs := Aside0.mk (HB.out.grown hgs HB.out.size (fun j hj => by cases hj; exact HWg.out))
       have hfz := rowB_frozen HG.out a.toNat
       obtain ⟨ad, e1, hx⟩ := Kd.at_int (Kd.C_below HR0.out HBs.out) a p2 c3
       cases e1
       clear hgs
       replace c2 := eq_false c2
       replace p2 := eq_true p2
       replace c3 := eq_true c3
       rw [hv] at hcell
       go_wp2_with fail
       go_roundg kf
       case measure => omega
       case rel => exact ⟨rd ps a, sb.set a.toNat 2, rfl, ⟨H3.out, HR.out.2, by rw [List.length_set]; exact HA.out.2.2.1, by have := HZ.out; have := HA.out.2.2.2; omega⟩, HS, HXs, HBs⟩
      ·have hvb := decide_eq_false hv
       have HE := Aside0.mk (show (cycZ ps (x + 1)).1 = sb from by rw [HN.out]; unfold roundC; dsimp only; rw [H1.out]; dsimp only; rw [← HA.out.1, go2_stop (fun h => hv h.2)])
       replace c2 := eq_false c2
       replace p2 := eq_true p2
       replace c3 := eq_true c3
       generalize hq : rd sb a = q at *
       go_wp2_with fail
       rw [Exit.noGoto_normal]
       go_wp2_with fail
       go_roundg k1
       case measure => omega
       case rel => exact ⟨x + 1, by rw [HW1.out], ⟨by have := HK.out; omega⟩, ⟨by rw [HE.out]; exact HG.out⟩, ⟨by rw [HN.out]; exact HX.out⟩, HB⟩
  ·have c1b := decide_eq_false c1
   have hx : x = ps.length := by have := HK.out; omega
   subst hx
   go_wp2
   go_end0
   exact ⟨rfl, HX.out, HB.out⟩
end Go.Proofs.YtgknjgionicncaaGreat.L
namespace Go.Proofs.YtgknjgionicncaaGreat.L
open Go.RowKit Go.Proofs.YtgknjgionicncaaGreat.Q Go.Proofs.YtgknjgionicncaaGreatW.PrintWords Go.Proofs.YtgknjgionicncaaGreatW.Lib
set_option linter.unusedVariables false
def rightB (ps : List Int) : Bool := ps.all (fun p => decide (-1 ≤ p) && decide (p < ps.length)) && (List.range ps.length).all (fun i : Nat => decide (upL ps i (ps.length + 1) < 0))
theorem rightB_cyc {ps : List Int} (hp : inR ps.length ps) : rightB ps = decide ((cycZ ps ps.length).2 = []) := by
 rw [Bool.eq_iff_iff, decide_eq_true_eq, cyc_none hp]
 unfold rightB
 rw [Bool.and_eq_true, List.all_eq_true, List.all_eq_true]
 constructor
 ·rintro ⟨_, h⟩ a a0 a1
  have := h a.toNat (List.mem_range.2 (by omega))
  rw [decide_eq_true_eq, show ((a.toNat : Nat) : Int) = a by omega] at this
  exact ⟨_, this⟩
 ·intro h
  refine ⟨fun p hm => by have := hp.2 p hm; simp only [Bool.and_eq_true, decide_eq_true_eq]; exact this, fun i hi => ?_⟩
  have hi' := List.mem_range.1 hi
  rw [decide_eq_true_eq]
  exact (ends_in hp (by omega)).1 (h i (by omega) (by omega))
end Go.Proofs.YtgknjgionicncaaGreat.L
namespace Go.Proofs.YtgknjgionicncaaGreat.L
open Go.RowKit Go.Proofs.YtgknjgionicncaaGreat.Q Go.Proofs.YtgknjgionicncaaGreatW.PrintWords Go.Proofs.YtgknjgionicncaaGreatW.PrintLast Go.Proofs.YtgknjgionicncaaGreatW.PrintMore Go.Proofs.YtgknjgionicncaaGreatW.Lib Go.Proofs.YtgknjgionicncaaGreatW.MapB
set_option linter.unusedVariables false
def okP (n : Nat) (p : Int) : Bool := decide (-1 ≤ p) && decide (p < n)
theorem rightB_bad {ps : List Int} {x : Int} (h0 : 0 ≤ x) (h1 : x < ps.length) (hb : okP ps.length (rd ps x) = false) : rightB ps = false := by
 have hlt : x.toNat < ps.length := by omega
 have e : rd ps x = ps[x.toNat] := by simp [rd, List.getD, hlt]
 rw [e] at hb
 unfold rightB
 rw [Bool.and_eq_false_iff]
 left
 rw [Bool.eq_false_iff]
 intro h
 have := List.all_eq_true.1 h ps[x.toNat] (List.getElem_mem hlt)
 unfold okP at hb
 rw [hb] at this
 cases this
set_option maxHeartbeats 1000000 in
set_option maxRecDepth 100000 in
theorem right_calls (ps : List Int) (hl : ps.length ≤ 1000000) (A0 : Option Addr) (c0 : Nat) (w : World) (hr0 : Kd.C (Kd.int .i64) w A0 ps.length ps) (hc0 : ps.length ≤ c0) :
  Calls Tryz.prog 89 #[.slice A0 ps.length c0] w fun e w' => e = .returned (.bool (rightB ps)) ∧ Below w.heap.size w w' := by
 have hmf : ∀ (fn : Fn) (first cap : Array Value) (w : World), (Instr.makeFunc fn first cap).run Tryz.prog w = .ok (.func fn first cap) w := fun _ _ _ _ => rfl
 have HR0 := Aside0.mk hr0
 have HL := Aside0.mk hl
 have HB0 := Aside0.mk (Below.refl w.heap.size w)
 have QC := Aside0.mk (fun hp B w1 h1 h2 h3 => cycles_right ps hp hl A0 c0 B w w1 hr0 h1 h2 h3)
 clear hr0 hl hc0
 go_enter Tryz.func89, Tryz.ntmps89
 go_wp2_with fail
 go_loopg [8] ps.length (fun kq v8 w' => ∃ x8 : Int, v8 = .int .i64 x8 ∧ Aside0 (0 ≤ x8 ∧ x8 + kq = ps.length ∧ ∀ j : Nat, (j : Int) < x8 → okP ps.length (rd ps j) = true) ∧ Aside0 (w' = w))
 case atStart => exact ⟨0, rfl, ⟨by omega, by omega, fun j hj => by omega⟩, ⟨rfl⟩⟩
 case round =>
  obtain ⟨x8, rfl, HK, HW⟩ := hrel
  obtain rfl := HW.out
  by_cases c1 : x8 < (ps.length : Int)
  ·have c1b := decide_eq_true c1
   have p1 : 0 ≤ x8 := HK.out.1
   obtain ⟨ad1, e1, hx0⟩ := Kd.at_int HR0.out x8 p1 c1
   cases e1
   have W1 := Aside0.mk (show wrap64 (x8 + 1) = x8 + 1 from by unfold wrap64; have := HL.out; omega)
   have HBad := Aside0.mk (fun h => rightB_bad (ps := ps) (x := x8) p1 c1 h)
   have P1 := Aside0.mk p1
   have Q1 := Aside0.mk c1
   obtain ⟨k1, rfl⟩ : ∃ k1, gk = k1 + 1 := ⟨gk - 1, by have := HK.out; omega⟩
   replace p1 := eq_true p1
   replace c1 := eq_true c1
   generalize hq : rd ps x8 = p at *
   have HQ := Aside0.mk hq
   clear hq
   by_cases c2 : p < -1
   ·have c2b := decide_eq_true c2
    have HF := Aside0.mk (HBad.out (by unfold okP; rw [decide_eq_false (by omega)]; rfl))
    replace c2 := eq_true c2
    go_wp2_with fail
    go_ret
    exact ⟨by rw [HF.out]; rfl, HB0.out⟩
   ·have c2b := decide_eq_false c2
    by_cases c3 : (ps.length : Int) ≤ p
    ·have c3b := decide_eq_true c3
     have HF := Aside0.mk (HBad.out (by unfold okP; rw [decide_eq_false (show ¬ p < ps.length by omega)]; simp))
     replace c2 := eq_false c2
     replace c3 := eq_true c3
     go_wp2_with fail
     go_ret
     exact ⟨by rw [HF.out]; rfl, HB0.out⟩
    ·have c3b := decide_eq_false c3
     have HO := Aside0.mk (show okP ps.length p = true from by unfold okP; rw [decide_eq_true (show -1 ≤ p by omega), decide_eq_true (show p < ps.length by omega)]; rfl)
     replace c2 := eq_false c2
     replace c3 := eq_false c3
     go_wp2_with fail
     go_roundg k1
     case measure => omega
     case rel => exact ⟨x8 + 1, by rw [W1.out], ⟨by have := P1.out; omega, by have := HK.out; omega, fun j hj => by
      by_cases e : (j : Int) = x8
      ·rw [e, HQ.out]; exact HO.out
      ·exact HK.out.2.2 j (by omega)⟩, ⟨rfl⟩⟩
  ·have c1b := decide_eq_false c1
   have hin : inR ps.length ps := ⟨rfl, fun p hp => by
    obtain ⟨j, hj, rfl⟩ := List.getElem_of_mem hp
    have h := HK.out.2.2 j (by have := HK.out; omega)
    have e : rd ps (j : Int) = ps[j] := by simp [rd, List.getD, hj]
    rw [e] at h
    unfold okP at h
    rw [Bool.and_eq_true, decide_eq_true_eq, decide_eq_true_eq] at h
    exact h⟩
   have QR := Aside0.mk (QC.out hin wr.heap.size (wr.alloc (.cells #[.bool true] 4)) (below_alloc HB0.out _) (Nat.le_refl _) (Boxed.new _ _ _))
   have HE := Aside0.mk (rightB_cyc hin)
   clear hin QC c1
   go_wp2_with (go_at_call 106; refine QR.out.mono ?_; rintro e w1 ⟨rfl, hb, hbl⟩; have hcb := hb.cell; have HB := Aside0.mk hbl; clear hb hbl)
   go_ret
   exact ⟨by rw [HE.out]; rfl, HB.out⟩
end Go.Proofs.YtgknjgionicncaaGreat.L
namespace Go.Proofs.YtgknjgionicncaaGreat.L
open Go.RowKit Go.Proofs.YtgknjgionicncaaGreatW.PrintWords Go.Proofs.YtgknjgionicncaaGreatW.Lib
set_option linter.unusedVariables false
def kidsL (ps : List Int) (x : Int) : Nat → List Int
 | 0 => []
 | k + 1 => if rd ps (k : Int) = x then kidsL ps x k ++ [(k : Int)] else kidsL ps x k
theorem kidsL_len (ps : List Int) (x : Int) : ∀ k, (kidsL ps x k).length ≤ k
 | 0 => Nat.le_refl _
 | k + 1 => by
  have := kidsL_len ps x k
  unfold kidsL
  split
  ·rw [List.length_append, List.length_singleton]; omega
  ·omega
theorem kidsL_mem (ps : List Int) (x y : Int) : ∀ k, y ∈ kidsL ps x k ↔ 0 ≤ y ∧ y < k ∧ rd ps y = x
 | 0 => by simp only [kidsL, List.not_mem_nil, false_iff]; omega
 | k + 1 => by
  have ih := kidsL_mem ps x y k
  unfold kidsL
  split
  ·rename_i c
   rw [List.mem_append, List.mem_singleton, ih]
   constructor
   ·rintro (h | h)
    ·exact ⟨h.1, by omega, h.2.2⟩
    ·rw [h]; exact ⟨by omega, by omega, c⟩
   ·rintro ⟨h0, h1, h2⟩
    by_cases e : y = (k : Int)
    ·exact .inr e
    ·exact .inl ⟨h0, by omega, h2⟩
  ·rename_i c
   rw [ih]
   constructor
   ·rintro h
    exact ⟨h.1, by omega, h.2.2⟩
   ·rintro ⟨h0, h1, h2⟩
    refine ⟨h0, ?_, h2⟩
    by_cases e : y = (k : Int)
    ·rw [e] at h2; exact absurd h2 c
    ·omega
end Go.Proofs.YtgknjgionicncaaGreat.L
namespace Go.Proofs.YtgknjgionicncaaGreat.L
open Go.RowKit Go.Proofs.YtgknjgionicncaaGreat.Q Go.Proofs.YtgknjgionicncaaGreatW.PrintWords Go.Proofs.YtgknjgionicncaaGreatW.Lib
set_option linter.unusedVariables false
abbrev Item := S75
def rowF (ps : List Int) : Nat → Int → Int → List Item
 | 0, _, _ => []
 | f + 1, p, d => (kidsL ps p ps.length).flatMap (fun i => (⟨i, d, p⟩ : Item) :: rowF ps f i (d + 1))
def rowL (ps : List Int) : List Item := if rightB ps = true then rowF ps (ps.length + 1) (-1) 0 else []
def deepP (ps : List Int) : Nat → Int → Prop
 | 0, p => kidsL ps p ps.length = []
 | f + 1, p => ∀ i ∈ kidsL ps p ps.length, deepP ps f i
theorem kid_iff {ps : List Int} {p i : Int} : i ∈ kidsL ps p ps.length ↔ 0 ≤ i ∧ i < ps.length ∧ rd ps i = p := kidsL_mem ps p i ps.length
theorem Walk.snoc {ps : List Int} {q : Int} {L : List Int} {i : Int} (h : Walk ps q L i) (h0 : 0 ≤ i) : Walk ps q (L ++ [i]) (rd ps i) := h.app (.step h0 (.none _))
theorem deep_of (ps : List Int) : ∀ (f : Nat) (p : Int), (∀ (q : Int) L, 0 ≤ q → q < ps.length → Walk ps q L p → L.length ≠ f + 1) → deepP ps f p
 | 0, p, h => by
  show kidsL ps p ps.length = []
  cases hk : kidsL ps p ps.length with
  | nil => rfl
  | cons i K =>
   have hi : i ∈ kidsL ps p ps.length := by rw [hk]; exact List.mem_cons_self ..
   obtain ⟨h0, h1, h2⟩ := kid_iff.1 hi
   have := (Walk.none i : Walk ps i [] i).snoc h0
   rw [h2] at this
   exact absurd rfl (h i _ h0 h1 this)
 | f + 1, p, h => by
  intro i hi
  obtain ⟨h0, h1, h2⟩ := kid_iff.1 hi
  refine deep_of ps f i (fun q L q0 q1 hw hl => ?_)
  have := hw.snoc h0
  rw [h2] at this
  exact h q _ q0 q1 this (by rw [List.length_append, List.length_singleton, hl])
theorem Walk.nonneg {ps : List Int} {q : Int} {L : List Int} {b : Int} (h : Walk ps q L b) : ∀ j, j < L.length → 0 ≤ upL ps q j := by
 induction h with
 | none a => intro j hj; simp at hj
 | @step a L b h0 _ ih =>
  intro j hj
  cases j with
  | zero => exact h0
  | succ j =>
   show 0 ≤ (if a < 0 then a else upL ps (rd ps a) j)
   rw [if_neg (by omega)]
   exact ih j (by rw [List.length_cons] at hj; omega)
def ancB (ps : List Int) (p x : Int) (m : Nat) : Bool := decide (0 ≤ upL ps x (m - 1)) && decide (upL ps x m = p)
def ancN (ps : List Int) (p x : Int) : Nat → Nat
 | 0 => 0
 | f + 1 => ancN ps p x f + (if ancB ps p x (f + 1) = true then 1 else 0)
theorem upL_succ (ps : List Int) (x : Int) (m : Nat) (h : 0 ≤ upL ps x m) : upL ps x (m + 1) = rd ps (upL ps x m) := by
 rw [upL_add ps m 1 x]
 show (if upL ps x m < 0 then upL ps x m else upL ps (rd ps (upL ps x m)) 0) = _
 rw [if_neg (by omega)]; rfl
theorem kidsL_nodup (ps : List Int) (p : Int) : ∀ k, (kidsL ps p k).Nodup
 | 0 => List.nodup_nil
 | k + 1 => by
  have ih := kidsL_nodup ps p k
  unfold kidsL
  split
  ·refine List.nodup_append.2 ⟨ih, by simp, ?_⟩
   intro a ha b hb
   rw [List.mem_singleton] at hb
   have := (kidsL_mem ps p a k).1 ha
   omega
  ·exact ih
def placeN (l : List Item) (x : Int) : Nat := l.countP (fun it => decide (it.f0 = x))
theorem placeN_flat (x : Int) (g : Int → List Item) : ∀ K : List Int, placeN (K.flatMap g) x = (K.map fun i => placeN (g i) x).sum
 | [] => rfl
 | i :: K => by
  have := placeN_flat x g K
  unfold placeN at *
  rw [List.flatMap_cons, List.countP_append, this]; simp
theorem sum_zero {K : List Int} {f : Int → Nat} (h : ∀ i ∈ K, f i = 0) : (K.map f).sum = 0 := by
 induction K with
 | nil => rfl
 | cons a K ih => simp [h a (List.mem_cons_self ..), ih (fun i hi => h i (List.mem_cons_of_mem _ hi))]
theorem sum_one {K : List Int} (nd : K.Nodup) (c : Int) (P : Int → Bool) (hP : ∀ i, P i = true → i = c) : (K.map fun i => if P i = true then 1 else 0).sum = if c ∈ K ∧ P c = true then 1 else 0 := by
 induction K with
 | nil => simp
 | cons a K ih =>
  obtain ⟨n1, n2⟩ := List.nodup_cons.1 nd
  simp only [List.map_cons, List.sum_cons]
  rw [ih n2]
  by_cases hc : c = a
  ·subst hc
   by_cases hp : P c = true
   ·rw [if_pos hp, if_neg (fun h => n1 h.1), if_pos ⟨List.mem_cons_self .., hp⟩]
   ·rw [if_neg hp, if_neg (fun h => hp h.2), if_neg (fun h => hp h.2)]
  ·have hpa : ¬ P a = true := fun h => hc (hP a h).symm
   rw [if_neg hpa, Nat.zero_add]
   by_cases hm : c ∈ K ∧ P c = true
   ·rw [if_pos hm, if_pos ⟨List.mem_cons_of_mem _ hm.1, hm.2⟩]
   ·rw [if_neg hm, if_neg (fun h => hm ⟨(List.mem_cons.1 h.1).resolve_left hc, h.2⟩)]
theorem sum_add (K : List Int) (f g : Int → Nat) : (K.map fun i => f i + g i).sum = (K.map f).sum + (K.map g).sum := by
 induction K with
 | nil => rfl
 | cons a K ih => simp only [List.map_cons, List.sum_cons]; omega
theorem anc_kids (ps : List Int) (p x : Int) (h0 : 0 ≤ x) (h1 : x < ps.length) (hin : inR ps.length ps) : ∀ f : Nat, ((kidsL ps p ps.length).map fun i => ancN ps i x f).sum + (if ancB ps p x 1 = true then 1 else 0) = ancN ps p x (f + 1)
 | 0 => by
  rw [sum_zero (f := fun i => ancN ps i x 0) (fun i _ => rfl)]
  simp [ancN]
 | f + 1 => by
  have ih := anc_kids ps p x h0 h1 hin f
  have e : (fun i => ancN ps i x (f + 1)) = fun i => ancN ps i x f + (if ancB ps i x (f + 1) = true then 1 else 0) := rfl
  rw [e, sum_add]
  have e2 : ancN ps p x (f + 1 + 1) = ancN ps p x (f + 1) + (if ancB ps p x (f + 1 + 1) = true then 1 else 0) := rfl
  rw [e2, ← ih]
  have key : ((kidsL ps p ps.length).map fun i => if ancB ps i x (f + 1) = true then 1 else 0).sum = if ancB ps p x (f + 1 + 1) = true then 1 else 0 := by
   rw [sum_one (kidsL_nodup ps p _) (upL ps x (f + 1)) (fun i => ancB ps i x (f + 1)) (fun i hi => by
    unfold ancB at hi
    rw [Bool.and_eq_true, decide_eq_true_eq, decide_eq_true_eq] at hi
    exact hi.2.symm)]
   have hiff : (upL ps x (f + 1) ∈ kidsL ps p ps.length ∧ ancB ps (upL ps x (f + 1)) x (f + 1) = true) ↔ ancB ps p x (f + 1 + 1) = true := by
    unfold ancB
    simp only [Nat.add_sub_cancel, Bool.and_eq_true, decide_eq_true_eq, and_true]
    constructor
    ·rintro ⟨hk, h⟩
     obtain ⟨k0, k1, k2⟩ := kid_iff.1 hk
     exact ⟨k0, by rw [upL_succ ps x (f + 1) k0]; exact k2⟩
    ·rintro ⟨k0, k1⟩
     rw [upL_succ ps x (f + 1) k0] at k1
     have hprev : 0 ≤ upL ps x f := by
      rcases Int.lt_or_le (upL ps x f) 0 with c | c
      ·have := upL_more ps f x c 1
       omega
      ·exact c
     have hlt : ∀ m : Nat, 0 ≤ upL ps x m → upL ps x m < ps.length := by
      intro m
      induction m with
      | zero => intro _; exact h1
      | succ m ihm =>
       intro hm
       have hp0 : 0 ≤ upL ps x m := by
        rcases Int.lt_or_le (upL ps x m) 0 with c | c
        ·have := upL_more ps m x c 1
         omega
        ·exact c
       rw [upL_succ ps x m hp0]
       exact (inR_rd hin hp0 (ihm hp0)).2
     exact ⟨kid_iff.2 ⟨k0, hlt _ k0, k1⟩, hprev⟩
   by_cases c : ancB ps p x (f + 1 + 1) = true
   ·rw [if_pos c, if_pos (hiff.2 c)]
   ·rw [if_neg c, if_neg (fun h => c (hiff.1 h))]
  rw [key]
  omega
theorem row_count (ps : List Int) (hin : inR ps.length ps) (x : Int) (h0 : 0 ≤ x) (h1 : x < ps.length) : ∀ (f : Nat) (p d : Int), placeN (rowF ps f p d) x = ancN ps p x f
 | 0, p, d => rfl
 | f + 1, p, d => by
  unfold rowF
  rw [placeN_flat, ← anc_kids ps p x h0 h1 hin f]
  have e : (fun i => placeN ((⟨i, d, p⟩ : Item) :: rowF ps f i (d + 1)) x) = fun i => ancN ps i x f + (if decide (i = x) = true then 1 else 0) := by
   funext i
   have := row_count ps hin x h0 h1 f i (d + 1)
   unfold placeN at *
   rw [List.countP_cons, this]
  rw [e, sum_add, sum_one (kidsL_nodup ps p _) x (fun i => decide (i = x)) (fun i hi => by simpa using hi)]
  congr 1
  have hiff : (x ∈ kidsL ps p ps.length ∧ decide (x = x) = true) ↔ ancB ps p x 1 = true := by
   unfold ancB
   simp only [Nat.sub_self, Bool.and_eq_true, decide_eq_true_eq, and_true]
   rw [kid_iff, upL_succ ps x 0 h0]
   show _ ↔ 0 ≤ x ∧ rd ps x = p
   constructor
   ·rintro ⟨_, _, h⟩; exact ⟨h0, h⟩
   ·rintro ⟨_, h⟩; exact ⟨h0, h1, h⟩
  by_cases c : ancB ps p x 1 = true
  ·rw [if_pos c, if_pos (hiff.2 c)]
  ·rw [if_neg c, if_neg (fun h => c (hiff.1 h))]
theorem anc_one (ps : List Int) (x : Int) (hm1 : ∀ m, -1 ≤ upL ps x m) (h0 : 0 ≤ x) : ∀ f, ancN ps (-1) x f = if upL ps x f < 0 then 1 else 0
 | 0 => by
  have : ¬ upL ps x 0 < 0 := by show ¬ x < 0; omega
  rw [if_neg this]; rfl
 | f + 1 => by
  have ih := anc_one ps x hm1 h0 f
  show ancN ps (-1) x f + (if ancB ps (-1) x (f + 1) = true then 1 else 0) = _
  rw [ih]
  unfold ancB
  rw [Nat.add_sub_cancel]
  by_cases c : upL ps x f < 0
  ·have h2 := upL_more ps f x c 1
   rw [if_pos c, if_pos h2, if_neg (by rw [decide_eq_false (show ¬ 0 ≤ upL ps x f by omega)]; simp)]
  ·rw [if_neg c, decide_eq_true (show 0 ≤ upL ps x f by omega), Bool.true_and]
   have := hm1 (f + 1)
   by_cases d : upL ps x (f + 1) < 0
   ·rw [if_pos d, if_pos (decide_eq_true (by omega))]
   ·rw [if_neg d, if_neg (by rw [decide_eq_true_eq]; omega)]
theorem up_low {ps : List Int} (hin : inR ps.length ps) {x : Int} (h0 : -1 ≤ x) (h1 : x < ps.length) : ∀ m : Nat, -1 ≤ upL ps x m ∧ upL ps x m < ps.length
 | 0 => ⟨h0, h1⟩
 | m + 1 => by
  obtain ⟨a, b⟩ := up_low hin h0 h1 m
  rcases Int.lt_or_le (upL ps x m) 0 with c | c
  ·have := upL_neg ps c 1
   rw [upL_add ps m 1 x, this]
   exact ⟨a, b⟩
  ·rw [upL_succ ps x m c]
   exact inR_rd hin c b
theorem rightB_in {ps : List Int} (h : rightB ps = true) : inR ps.length ps := by
 refine ⟨rfl, fun p hp => ?_⟩
 unfold rightB at h
 rw [Bool.and_eq_true] at h
 have := List.all_eq_true.1 h.1 p hp
 simpa using this
theorem rightB_ends {ps : List Int} (h : rightB ps = true) {x : Int} (h0 : 0 ≤ x) (h1 : x < ps.length) : upL ps x (ps.length + 1) < 0 := by
 unfold rightB at h
 rw [Bool.and_eq_true] at h
 have := List.all_eq_true.1 h.2 x.toNat (List.mem_range.2 (by omega))
 rw [decide_eq_true_eq, show ((x.toNat : Nat) : Int) = x by omega] at this
 exact this
theorem rowL_count {ps : List Int} (h : rightB ps = true) {x : Int} (h0 : 0 ≤ x) (h1 : x < ps.length) : placeN (rowL ps) x = 1 := by
 have hin := rightB_in h
 unfold rowL
 rw [if_pos h, row_count ps hin x h0 h1, anc_one ps x (fun m => (up_low hin (by omega) h1 m).1) h0, if_pos (rightB_ends h h0 h1)]
theorem row_in {ps : List Int} : ∀ (f : Nat) (p d : Int), ∀ it ∈ rowF ps f p d, 0 ≤ it.f0 ∧ it.f0 < ps.length ∧ it.f2 = rd ps it.f0
 | 0, p, d, it, h => by cases h
 | f + 1, p, d, it, h => by
  unfold rowF at h
  obtain ⟨i, hi, hit⟩ := List.mem_flatMap.1 h
  obtain ⟨k0, k1, k2⟩ := kid_iff.1 hi
  rcases List.mem_cons.1 hit with e | e
  ·rw [e]; exact ⟨k0, k1, k2.symm⟩
  ·exact row_in f i (d + 1) it e
theorem count_len : ∀ (n : Nat) (l : List Int), (∀ x ∈ l, 0 ≤ x ∧ x < (n : Int)) → (∀ x : Int, 0 ≤ x → x < n → l.countP (fun y => decide (y = x)) = 1) → l.Perm ((List.range n).map fun i : Nat => (i : Int)) := by
 intro n l h1 h2
 refine List.perm_iff_count.2 fun x => ?_
 have hn : ((List.range n).map fun i : Nat => (i : Int)).Nodup := by
  rw [List.nodup_iff_pairwise_ne, List.pairwise_map]
  exact (List.nodup_range.imp fun h => by omega)
 have hc : ∀ m : List Int, m.count x = m.countP (fun y => decide (y = x)) := fun m => by
  unfold List.count
  congr 1
 by_cases c : 0 ≤ x ∧ x < n
 ·rw [hc, h2 x c.1 c.2]
  have hm : x ∈ (List.range n).map fun i : Nat => (i : Int) := List.mem_map.2 ⟨x.toNat, List.mem_range.2 (by omega), by omega⟩
  have a := List.count_pos_iff.2 hm
  have b := List.nodup_iff_count.1 hn x
  omega
 ·rw [List.count_eq_zero_of_not_mem (fun h => c (h1 x h)), List.count_eq_zero_of_not_mem (fun h => ?_)]
  obtain ⟨i, hi, rfl⟩ := List.mem_map.1 h
  exact c ⟨by omega, by have := List.mem_range.1 hi; omega⟩
theorem rowL_places {ps : List Int} (h : rightB ps = true) : ((rowL ps).map (·.f0)).Perm ((List.range ps.length).map fun i : Nat => (i : Int)) := by
 refine count_len ps.length _ (fun x hx => ?_) (fun x h0 h1 => ?_)
 ·obtain ⟨it, hit, rfl⟩ := List.mem_map.1 hx
  unfold rowL at hit
  rw [if_pos h] at hit
  have := row_in _ _ _ it hit
  exact ⟨this.1, this.2.1⟩
 ·rw [List.countP_map]
  exact rowL_count h h0 h1
theorem rowL_len {ps : List Int} (h : rightB ps = true) : (rowL ps).length = ps.length := by
 have := (rowL_places h).length_eq
 simpa using this
theorem deep_root {ps : List Int} (h : rightB ps = true) : deepP ps (ps.length + 1) (-1) := by
 refine deep_of ps _ _ (fun q L q0 q1 hw hl => ?_)
 have h1 := hw.nonneg (ps.length + 1) (by omega)
 have := rightB_ends h q0 q1
 omega
end Go.Proofs.YtgknjgionicncaaGreat.L
namespace Go.Proofs.YtgknjgionicncaaGreat.L
open Go.RowKit Go.Proofs.YtgknjgionicncaaGreatW.PrintWords Go.Proofs.YtgknjgionicncaaGreatW.PrintLast Go.Proofs.YtgknjgionicncaaGreatW.PrintMore Go.Proofs.YtgknjgionicncaaGreatW.MapB Go.Maps Go.WideMaps Go.ChangeMaps Go.MapKept Go.ChangeShapes
open Go.WideElems (Fit)
set_option linter.unusedVariables false
def gDat (zs : List Int) : DataW Unit := if zs = [] then .nil else .slice (lits .i64 zs) []
theorem lits_inj {a b : List Int} (h : lits (H := Unit) .i64 a = lits .i64 b) : a = b := by
 unfold lits at h
 exact (List.map_inj_right (fun x y hxy => by injection hxy with h; injection h)).1 h
theorem gDat_row {w : World} {base : Nat} {e : TypeId} {v : Value} {zs gs : List Int} (ho : w.ownsInts base e .i64 v zs) (h : gDat gs = rowDatum (H := Unit) .i64 v zs) : zs = gs := by
 unfold gDat at h
 rcases ho.datum (H := Unit) with ⟨hd, rfl⟩ | hd
 ·rw [hd] at h
  by_cases e : gs = []
  ·exact e.symm
  ·rw [if_neg e] at h; cases h
 ·rw [hd] at h
  by_cases e : gs = []
  ·rw [if_pos e] at h; cases h
  ·rw [if_neg e] at h
   injection h with h
   exact (lits_inj h).symm
theorem zeroRow (w : World) : (zeroValue 43).run Tryz.prog w = .ok (.slice none 0 0) w := by kernel_rfl
theorem look_det {H : Type} {P : Program} {k e t : TypeId} {R : Value → Option (DataW H × List MemPlace)} {es : Array MapEntry} {clock : Nat} {w w' : World} {b : Nat} (K : Keyed P k) (ht : P.underlying t = some (.map k e)) {z : Value} (hz : ∀ w, (zeroValue e).run P w = .ok z w)
  (hb : w.heap[b]? = some (.map es clock)) (hb' : w'.heap[b]? = some (.map es clock)) (F : Fit P k R es clock) {key : Value} {kl : Lit} (hkey : keyOf P k key = some kl) {v : Value} (hrun : (Instr.lookup t (.map (some b)) key false).run P w = .ok v w) :
  (Instr.lookup t (.map (some b)) key false).run P w' = .ok v w' := by
 have same : ∀ (a : MapEntry), a ∈ es.toList → ∀ (c : MapEntry), c ∈ es.toList → a.key = key → c.key = key → a = c := by
  intro a ha c hc e1 e2
  obtain ⟨i, hi, rfl⟩ := List.getElem_of_mem ha
  obtain ⟨j, hj, rfl⟩ := List.getElem_of_mem hc
  have hp := List.pairwise_iff_getElem.1 ((stamped_iff es clock).1 F.stamped).2.2
  rcases Nat.lt_trichotomy i j with h | h | h
  ·exact absurd (e1.trans e2.symm) (hp i j hi hj h)
  ·subst h; rfl
  ·exact absurd (e2.trans e1.symm) (hp j i hj hi h)
 rcases Maps.fit_look false K ht (hz w) hb F hkey with ⟨h1, h2, _⟩ | ⟨e0, y, hm, hke, h1, _⟩
 ·rcases Maps.fit_look false K ht (hz w') hb' F hkey with ⟨h3, _, _⟩ | ⟨e1, y, hm, hke, _, _⟩
  ·rw [h1] at hrun
   injection hrun with hrun
   rw [h3, hrun]
  ·exact absurd hke (h2 e1 hm)
 ·rcases Maps.fit_look false K ht (hz w') hb' F hkey with ⟨_, h2, _⟩ | ⟨e1, y', hm', hke', h3, _⟩
  ·exact absurd hke (h2 e0 hm)
  ·rw [h1] at hrun
   injection hrun with hrun
   rw [h3, ← hrun, same e0 hm e1 hm' hke hke']
theorem heap_alloc_old (w : World) (o : Obj) (b : Nat) (h : b < w.heap.size) : (w.alloc o).heap[b]? = w.heap[b]? := (MapKept.heap_alloc w o).2 b h
theorem step_append_at {P : Program} {ops : Array Oper} {o : Oper} {a : Act} {w : World} {Q : Exit → Act → World → Prop} {K : Act → World → Prop} (hw : Region.wanted o (yielded ops a.tmps) = true) (s x : Operand) (t : TypeId)
  (ho : o.op = .call { callee := .builtin .append, args := #[s, x], argTypes := #[t, t] })
  (base : Nat) (e : TypeId) (i : TypeInfo) (z : Value) (size bytes : Nat) (ht : P.underlying t = some (.slice e)) (hi : P.info? e = some i) (hz : i.zero = some z)
  (hsize : i.size = size) (hby : i.bytes = bytes) (hzs : z.cells.size = size) (hsz : 0 < size)
  (v : Value) (n : Nat) (xs : List Value) (hs : a.eval s = v) (hown : w.ownsRow base e size v n xs)
  (ad : Addr) (m c : Nat) (news : List Value) (hx : a.eval x = .slice (some ad) m c) (hl : news.length = m * size) (hnews : ∀ j u, news[j]? = some u → w.cell? (ad.add j) = some u) (h1 : ∀ u ∈ news, u.oneCell' = true)
  (h63 : n + m ≤ maxLen) (hbytes : (n + m) * bytes ≤ 140737488355328) (hbase : base ≤ w.heap.size)
  (h : ∀ v' w', w'.ownsRow base e size v' (n + m) (xs ++ news) → w.grownBy w' v.ownBlock → (v'.ownBlock = v.ownBlock ∨ v'.ownBlock = some w.heap.size) → K (a.put o.dst v') w') :
  if Region.wanted o (yielded ops a.tmps) = true then Oper.wp P o a w K Q else K (a.put o.dst undef) w := by
 rw [if_pos hw]
 obtain ⟨v', w', hr, q1, q2, _, q4⟩ := run_append_own_at (P := P) (w := w) base t o.type e i z size bytes ht hi hz hsize hby hzs hsz v n xs hown ad m c news hl hnews h1 h63 hbytes hbase
 unfold Oper.wp execOp
 simp only [ho, resolve, invoke, builtin, Sem.run_bind, Sem.run_pure, Result.andThen_ok, List.map_toArray, List.map_cons, List.map_nil, hs, hx, hr]
 exact h v' w' q1 q2 q4
end Go.Proofs.YtgknjgionicncaaGreat.L
namespace Go.Proofs.YtgknjgionicncaaGreat.L
open Go.RowKit Go.Proofs.YtgknjgionicncaaGreat.Q Go.Proofs.YtgknjgionicncaaGreatW.PrintWords Go.Proofs.YtgknjgionicncaaGreatW.Lib Go.Maps Go.ChangeShapes
set_option linter.unusedVariables false
abbrev keyZ (i : Int) : Lit := .int .i64 i
theorem keyZ_is (i : Int) : WideAt.IsKeyLit (keyZ i) := trivial
theorem keyZ_inj {i j : Int} (h : keyZ i = keyZ j) : i = j := by injection h
def mapK (ps : List Int) : Nat → DataW Unit
 | 0 => .map []
 | k + 1 => (mapK ps k).put (keyZ (rd ps (k : Int))) (.slice (lits .i64 (kidsL ps (rd ps (k : Int)) (k + 1))) [])
theorem mapK_tidy (ps : List Int) : ∀ k, Tidy (mapK ps k)
 | 0 => tidy_empty
 | k + 1 => (mapK_tidy ps k).put (keyZ_is _) _
theorem mapK_at (ps : List Int) (p : Int) : ∀ k, (mapK ps k).atKey (keyZ p) .nil = gDat (kidsL ps p k)
 | 0 => by simp [mapK, kidsL, gDat, DataW.atKey]
 | k + 1 => by
  have h1 := mapK_at ps p k
  show ((mapK ps k).put (keyZ (rd ps (k : Int))) (.slice (lits .i64 (kidsL ps (rd ps (k : Int)) (k + 1))) [])).atKey (keyZ p) .nil = _
  by_cases e : rd ps (k : Int) = p
  ·rw [e, atKey_put_same (mapK_tidy ps k).isMap (keyZ_is _)]
   have e2 : kidsL ps p (k + 1) = kidsL ps p k ++ [(k : Int)] := by
    show (if _ then _ else _) = _
    rw [if_pos e]
   unfold gDat
   rw [e2, if_neg (by simp)]
  ·rw [atKey_put_other (fun h => e (keyZ_inj h).symm)]
   have e2 : kidsL ps p (k + 1) = kidsL ps p k := by
    show (if _ then _ else _) = _
    rw [if_neg e]
   rw [e2]
   exact h1
theorem mapK_next (ps : List Int) (k : Nat) : (mapK ps k).put (keyZ (rd ps (k : Int))) (.slice (lits .i64 (kidsL ps (rd ps (k : Int)) k ++ [(k : Int)])) []) = mapK ps (k + 1) := by
 have e2 : kidsL ps (rd ps (k : Int)) (k + 1) = kidsL ps (rd ps (k : Int)) k ++ [(k : Int)] := by
  show (if _ then _ else _) = _
  rw [if_pos rfl]
 show _ = (mapK ps k).put (keyZ (rd ps (k : Int))) (.slice (lits .i64 (kidsL ps (rd ps (k : Int)) (k + 1))) [])
 rw [e2]
end Go.Proofs.YtgknjgionicncaaGreat.L
