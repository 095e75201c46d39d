/- Texts joined by wip/tools/merge.py: Shelf TalS TalG ArrP CovP CovA CovS CovG CovH FunV OwnC RcovP RcovW CycP CycA CycG CycL CycW UpR RightG Rx0 Tx0 Ux0 Qx1 Qx8 Rx1. -/
import Derived.Shelf.SlSortCmp.NoneTotal
import Derived.Test.YtmfdhcgdibefiaaProg
import Derived.Test.YtmfdhcgdibefiaaJStatsTallies24
import Derived.Test.YtmfdhcgdibefiaaJStatsTallies22
import Derived.Test.YtmfdhcgdibefiaaJStatsTallies19
import Derived.StillTailTactics
import Derived.Sort.Grow
import Derived.Lib.Strings
import Derived.Maps.RangeWalk
import Derived.StringKeys
import Derived.WalkArith
import Derived.Deep.RegionHeld3
import Derived.Sort.KeysCollected
import Derived.Test.YtmfdhcgdibefiaaJStatsTallies3
import Derived.Lib.OwnBridge
import Derived.Lib.SliceRun
import Derived.Test.YtmfdhcgdibefiaaJStatsTallies21
import Derived.Deep.QuietTactic
import Derived.BigQuiet
import Derived.RangeFuncBox
import Derived.WalkMore
import Derived.Below
import Derived.Deep.Draws
import Derived.Deep.AppendLies
import Derived.Maps.AppendAt
import Derived.OwnWalk
import Derived.Laws.BytesArg
import Derived.Laws.MakeOwn
import Derived.Laws.OwnMore
import Derived.Deep.OwnRows
import Derived.Tactics
import Derived.Lib.ConvBytes
import Derived.Laws.Slices
import Derived.WalkKit
import Derived.KernelRfl
import Derived.RowKit3
import Derived.Deep.LoopGhost
import Derived.WideLaws
import Derived.Deep.DeepCutAuto
import Derived.Deep.CutBlock
import Derived.Laws.Rows
import Derived.Lib.AppendStr
import Derived.ArgAppend
import Derived.Laws.IdiomCopy
import Derived.OrdersHeld
import Derived.Laws.BitsLemmas
import Derived.RowKit
import Derived.Test.YtmfdhcgdibefiaaJStatsTallies2
import Derived.Test.YtmfdhcgdibefiaaJStatsTallies0
import Derived.Test.YtmfdhcgdibefiaaJStatsTallies4
import Derived.Test.YtmfdhcgdibefiaaJStatsTallies5
import Derived.Test.YtmfdhcgdibefiaaJStatsTallies6
import Derived.Test.YtmfdhcgdibefiaaJStatsTallies7
import Derived.Test.YtmfdhcgdibefiaaJStatsTallies8
import Derived.Test.YtmfdhcgdibefiaaJStatsTallies9
import Derived.Test.YtmfdhcgdibefiaaJStatsTallies10
import Derived.Test.YtmfdhcgdibefiaaJStatsTallies11
import Derived.Test.YtmfdhcgdibefiaaJStatsTallies12
import Derived.Test.YtmfdhcgdibefiaaJStatsTallies13
import Derived.Test.YtmfdhcgdibefiaaJStatsTallies14
import Derived.Test.YtmfdhcgdibefiaaJStatsTallies15
import Derived.Test.YtmfdhcgdibefiaaJStatsTallies1
import Derived.Test.YtmfdhcgdibefiaaJStatsTallies16
import Derived.Test.YtmfdhcgdibefiaaJStatsTallies17
import Derived.Test.YtmfdhcgdibefiaaJStatsTallies18
import Derived.Test.YtmfdhcgdibefiaaJStatsTallies20
/- Contracts of the library at this translation: for each the table of numbers, and that the bodies are those that the contract was proved of. -/
namespace Go.Proofs
open Go.Shelf
def Try.sortCov_ren : Go.Shelf.Ren := ⟨fun | 6 => 37 | 15 => 91 | 14 => 90 | 28 => 141 | 29 => 142 | 20 => 133 | 21 => 134 | 22 => 135 | 23 => 136 | 24 => 137 | 25 => 138 | 26 => 139 | 27 => 140 | 46 => 168 | 47 => 169 | 48 => 170 | 49 => 171 | 50 => 172 | 57 => 181 | n => n, fun | 22 => 22 | 24 => 26 | 25 => 78 | 3 => 3 | 39 => 151 | 0 => 0 | 53 => 198 | 55 => 24 | 4 => 4 | 46 => 192 | 45 => 191 | 50 => 169 | 5 => 5 | 9 => 9 | 66 => 220 | 70 => 224 | 76 => 231 | 77 => 232 | n => n, fun | n => n⟩
theorem Try.sortCov : Go.Proofs.SlLaysF0.n6 Try.prog Try.sortCov_ren := {
  mixed := by kernel_rfl
  f6 := ⟨Try.f37.name, by decide, Try.func37.trans (congrArg some (by kernel_rfl))⟩
  f14 := ⟨Try.f90.name, by decide, Try.func90.trans (congrArg some (by kernel_rfl))⟩
  f15 := Try.func91.trans (congrArg some (by kernel_rfl))
  f20 := ⟨Try.f133.name, by decide, Try.func133.trans (congrArg some (by kernel_rfl))⟩
  f21 := ⟨Try.f134.name, by decide, Try.func134.trans (congrArg some (by kernel_rfl))⟩
  f22 := ⟨Try.f135.name, by decide, Try.func135.trans (congrArg some (by kernel_rfl))⟩
  f23 := ⟨Try.f136.name, by decide, Try.func136.trans (congrArg some (by kernel_rfl))⟩
  f24 := ⟨Try.f137.name, by decide, Try.func137.trans (congrArg some (by kernel_rfl))⟩
  f25 := ⟨Try.f138.name, by decide, Try.func138.trans (congrArg some (by kernel_rfl))⟩
  f26 := ⟨Try.f139.name, by decide, Try.func139.trans (congrArg some (by kernel_rfl))⟩
  f27 := ⟨Try.f140.name, by decide, Try.func140.trans (congrArg some (by kernel_rfl))⟩
  f28 := Try.func141.trans (congrArg some (by kernel_rfl))
  f29 := Try.func142.trans (congrArg some (by kernel_rfl))
  f46 := ⟨Try.f168.name, by decide, Try.func168.trans (congrArg some (by kernel_rfl))⟩
  f47 := Try.func169.trans (congrArg some (by kernel_rfl))
  f48 := Try.func170.trans (congrArg some (by kernel_rfl))
  f49 := ⟨Try.f171.name, by decide, Try.func171.trans (congrArg some (by kernel_rfl))⟩
  f50 := ⟨Try.f172.name, by decide, Try.func172.trans (congrArg some (by kernel_rfl))⟩
  f57 := ⟨Try.f181.name, by decide, Try.func181.trans (congrArg some (by kernel_rfl))⟩
  t0 := Try.underlying0
  a0 := Try.isAgg0
  z0 := Try.sizeOf0
  v0 := Try.zeroValue0
  t3 := Try.underlying3
  a3 := Try.isAgg3
  z3 := Try.sizeOf3
  v3 := Try.zeroValue3
  t4 := Try.underlying4
  a4 := Try.isAgg4
  z4 := Try.sizeOf4
  v4 := Try.zeroValue4
  t5 := Try.underlying5
  a5 := Try.isAgg5
  z5 := Try.sizeOf5
  v5 := Try.zeroValue5
  t9 := Try.underlying9
  a9 := Try.isAgg9
  z9 := Try.sizeOf9
  v9 := Try.zeroValue9
  t22 := Try.underlying22
  a22 := Try.isAgg22
  z22 := Try.sizeOf22
  v22 := Try.zeroValue22
  t25 := Try.underlying78
  a25 := Try.isAgg78
  z25 := Try.sizeOf78
  v25 := Try.zeroValue78
  t39 := Try.underlying151
  a39 := Try.isAgg151
  z39 := Try.sizeOf151
  v39 := Try.zeroValue151
  t45 := Try.underlying191
  a45 := Try.isAgg191
  z45 := Try.sizeOf191
  v45 := Try.zeroValue191
  t46 := Try.underlying192
  a46 := Try.isAgg192
  z46 := Try.sizeOf192
  v46 := Try.zeroValue192
  t50 := Try.underlying169
  a50 := Try.isAgg169
  z50 := Try.sizeOf169
  v50 := Try.zeroValue169
  t53 := Try.underlying198
  a53 := Try.isAgg198
  z53 := Try.sizeOf198
  v53 := Try.zeroValue198
  t55 := Try.underlying24
  a55 := Try.isAgg24
  z55 := Try.sizeOf24
  v55 := Try.zeroValue24
  t66 := Try.underlying220
  a66 := Try.isAgg220
  z66 := Try.sizeOf220
  v66 := Try.zeroValue220
  t70 := Try.underlying224
  a70 := Try.isAgg224
  z70 := Try.sizeOf224
  v70 := Try.zeroValue224
  t76 := Try.underlying231
  a76 := Try.isAgg231
  z76 := Try.sizeOf231
  v76 := Try.zeroValue231
  t77 := Try.underlying232
  a77 := Try.isAgg232
  z77 := Try.sizeOf232
  v77 := Try.zeroValue232 }
def Try.sortTal_ren : Go.Shelf.Ren := ⟨fun | 6 => 47 | 15 => 91 | 14 => 99 | 28 => 141 | 29 => 142 | 20 => 144 | 21 => 145 | 22 => 146 | 23 => 147 | 24 => 148 | 25 => 149 | 26 => 150 | 27 => 151 | 46 => 173 | 47 => 169 | 48 => 170 | 49 => 174 | 50 => 175 | 57 => 182 | n => n, fun | 22 => 41 | 24 => 44 | 25 => 87 | 3 => 3 | 39 => 151 | 0 => 0 | 53 => 198 | 55 => 24 | 4 => 4 | 46 => 192 | 45 => 191 | 50 => 169 | 5 => 5 | 9 => 9 | 66 => 220 | 70 => 224 | 76 => 231 | 77 => 232 | n => n, fun | n => n⟩
theorem Try.sortTal : Go.Proofs.SlLaysF0.n6 Try.prog Try.sortTal_ren := {
  mixed := by kernel_rfl
  f6 := ⟨Try.f47.name, by decide, Try.func47.trans (congrArg some (by kernel_rfl))⟩
  f14 := ⟨Try.f99.name, by decide, Try.func99.trans (congrArg some (by kernel_rfl))⟩
  f15 := Try.func91.trans (congrArg some (by kernel_rfl))
  f20 := ⟨Try.f144.name, by decide, Try.func144.trans (congrArg some (by kernel_rfl))⟩
  f21 := ⟨Try.f145.name, by decide, Try.func145.trans (congrArg some (by kernel_rfl))⟩
  f22 := ⟨Try.f146.name, by decide, Try.func146.trans (congrArg some (by kernel_rfl))⟩
  f23 := ⟨Try.f147.name, by decide, Try.func147.trans (congrArg some (by kernel_rfl))⟩
  f24 := ⟨Try.f148.name, by decide, Try.func148.trans (congrArg some (by kernel_rfl))⟩
  f25 := ⟨Try.f149.name, by decide, Try.func149.trans (congrArg some (by kernel_rfl))⟩
  f26 := ⟨Try.f150.name, by decide, Try.func150.trans (congrArg some (by kernel_rfl))⟩
  f27 := ⟨Try.f151.name, by decide, Try.func151.trans (congrArg some (by kernel_rfl))⟩
  f28 := Try.func141.trans (congrArg some (by kernel_rfl))
  f29 := Try.func142.trans (congrArg some (by kernel_rfl))
  f46 := ⟨Try.f173.name, by decide, Try.func173.trans (congrArg some (by kernel_rfl))⟩
  f47 := Try.func169.trans (congrArg some (by kernel_rfl))
  f48 := Try.func170.trans (congrArg some (by kernel_rfl))
  f49 := ⟨Try.f174.name, by decide, Try.func174.trans (congrArg some (by kernel_rfl))⟩
  f50 := ⟨Try.f175.name, by decide, Try.func175.trans (congrArg some (by kernel_rfl))⟩
  f57 := ⟨Try.f182.name, by decide, Try.func182.trans (congrArg some (by kernel_rfl))⟩
  t0 := Try.underlying0
  a0 := Try.isAgg0
  z0 := Try.sizeOf0
  v0 := Try.zeroValue0
  t3 := Try.underlying3
  a3 := Try.isAgg3
  z3 := Try.sizeOf3
  v3 := Try.zeroValue3
  t4 := Try.underlying4
  a4 := Try.isAgg4
  z4 := Try.sizeOf4
  v4 := Try.zeroValue4
  t5 := Try.underlying5
  a5 := Try.isAgg5
  z5 := Try.sizeOf5
  v5 := Try.zeroValue5
  t9 := Try.underlying9
  a9 := Try.isAgg9
  z9 := Try.sizeOf9
  v9 := Try.zeroValue9
  t22 := Try.underlying41
  a22 := Try.isAgg41
  z22 := Try.sizeOf41
  v22 := Try.zeroValue41
  t25 := Try.underlying87
  a25 := Try.isAgg87
  z25 := Try.sizeOf87
  v25 := Try.zeroValue87
  t39 := Try.underlying151
  a39 := Try.isAgg151
  z39 := Try.sizeOf151
  v39 := Try.zeroValue151
  t45 := Try.underlying191
  a45 := Try.isAgg191
  z45 := Try.sizeOf191
  v45 := Try.zeroValue191
  t46 := Try.underlying192
  a46 := Try.isAgg192
  z46 := Try.sizeOf192
  v46 := Try.zeroValue192
  t50 := Try.underlying169
  a50 := Try.isAgg169
  z50 := Try.sizeOf169
  v50 := Try.zeroValue169
  t53 := Try.underlying198
  a53 := Try.isAgg198
  z53 := Try.sizeOf198
  v53 := Try.zeroValue198
  t55 := Try.underlying24
  a55 := Try.isAgg24
  z55 := Try.sizeOf24
  v55 := Try.zeroValue24
  t66 := Try.underlying220
  a66 := Try.isAgg220
  z66 := Try.sizeOf220
  v66 := Try.zeroValue220
  t70 := Try.underlying224
  a70 := Try.isAgg224
  z70 := Try.sizeOf224
  v70 := Try.zeroValue224
  t76 := Try.underlying231
  a76 := Try.isAgg231
  z76 := Try.sizeOf231
  v76 := Try.zeroValue231
  t77 := Try.underlying232
  a77 := Try.isAgg232
  z77 := Try.sizeOf232
  v77 := Try.zeroValue232 }
end Go.Proofs

/- stats.Of's sort: tallies in the order of their hosts. -/
namespace Go.Proofs.Ytmfdhcgdibefiaa.L
open Go.RowKit Go.Proofs.Ytmfdhcgdibefiaa.Q Go.Proofs.YtmfdhcgdibefiaaW.PrintWords Go.Proofs.YtmfdhcgdibefiaaW.PrintLast Go.Proofs.YtmfdhcgdibefiaaW.PrintMore Go.Proofs.YtmfdhcgdibefiaaW.Lib Go.Proofs.YtmfdhcgdibefiaaW.RowB Go.Sort Go.Lib
set_option linter.unusedVariables false

set_option maxHeartbeats 1000000 in
set_option maxRecDepth 100000 in
theorem compareT_calls (a b : ByteArray) (w : World) : Calls Try.prog 49 #[.string a, .string b] w fun e w' => e = .returned (.int .i64 (cmpB a b)) ∧ w' = w := by
  have hb : Calls Try.prog 100 #[.string a, .string b] w fun e w' => e = .returned (.int .i64 (cmpB a b)) ∧ w' = w := by
    unfold cmpB
    go_enter Try.func100, Try.ntmps100
    go_wp2
    rw [run_callFunc_extern Try.func152 (by kernel_rfl) (by kernel_rfl) (by kernel_rfl) (e := Extern.BytealgCompare.compare) (by kernel_rfl), Go.Lib.run_compareString]
    simp only [Result.andThen]
    rw [Oper.upon_value]
    go_wp2
    go_ret
    exact ⟨rfl, rfl⟩
  go_enter Try.func49, Try.ntmps49
  go_wp2_with (go_at_call 100; refine hb.mono ?_; rintro e w' ⟨rfl, rfl⟩)
  go_ret
  exact ⟨rfl, rfl⟩
/-- How tallies stand in order. -/
def cmpT (x y : Tal) : Int := cmpB x.f0 y.f0
set_option maxRecDepth 100000 in
set_option maxHeartbeats 4000000 in
theorem cmpT_grow (a b : Tal) (W : World) :
    Calls Try.prog 48 #[.agg #[.string a.f0, .int .i64 a.f1, .int .i64 a.f2, .int .i64 a.f3, .int .i64 a.f4], .agg #[.string b.f0, .int .i64 b.f1, .int .i64 b.f2, .int .i64 b.f3, .int .i64 b.f4]] W
      fun e w' => e = .returned (.int .i64 (cmpT a b)) ∧ ∃ q os', w' = Go.Sort.grow (W.drewN q) os' := by
  obtain ⟨a0, a1, a2, a3, a4⟩ := a
  obtain ⟨b0, b1, b2, b3, b4⟩ := b
  go_enter Try.func48, Try.ntmps48
  go_wp2_with (go_at_call 49; refine (compareT_calls _ _ _).mono ?_; rintro e w1 ⟨rfl, rfl⟩)
  go_ret
  obtain ⟨os, ho⟩ : ∃ os, (W.alloc (.cells #[.string a0, .int .i64 a1, .int .i64 a2, .int .i64 a3, .int .i64 a4] 44)).alloc (.cells #[.string b0, .int .i64 b1, .int .i64 b2, .int .i64 b3, .int .i64 b4] 44) = Go.Sort.grow W os := ⟨_, by rw [Go.Sort.alloc_eq_grow, Go.Sort.alloc_eq_grow, Go.Sort.grow_grow]⟩
  exact ⟨rfl, 0, os, ho⟩

def encT (x : Tal) : List Value := [.string x.f0, .int .i64 x.f1, .int .i64 x.f2, .int .i64 x.f3, .int .i64 x.f4]
theorem ltT (x y : Tal) : ltOf cmpT x y = decide (cmpB x.f0 y.f0 < 0) := rfl
theorem swoT : SWO (ltOf cmpT) := by
  refine ⟨fun x => ?_, fun x y z h1 h2 => ?_, fun x y z h1 h2 => ?_⟩
  · have := (cmpB_is.zero x.f0 x.f0).2 rfl
    simp [ltT, this]
  · simp only [ltT, decide_eq_true_eq] at *
    have t := cmpB_is.trans x.f0 y.f0 z.f0 (by omega) (by omega)
    rcases Int.lt_or_eq_of_le t with h | h
    · exact h
    · have e := (cmpB_is.zero x.f0 z.f0).1 h
      have := cmpB_is.anti x.f0 y.f0
      rw [← e] at h2
      omega
  · simp only [ltT, decide_eq_false_iff_not, Int.not_lt] at *
    have a1 := cmpB_is.anti x.f0 y.f0
    have a2 := cmpB_is.anti y.f0 z.f0
    have a3 := cmpB_is.anti x.f0 z.f0
    have t := cmpB_is.trans z.f0 y.f0 x.f0 (by omega) (by omega)
    omega
instance : Inhabited Tal := ⟨tal0 ByteArray.empty⟩
theorem cmpT_lays (blk off size : Nat) (w : World) : CmpLays Try.prog 48 #[] encT 5 cmpT blk off size w := fun _ _ _ _ x y => cmpT_grow x y _
theorem sorted_tals {l : List Tal} {d' : Array Tal} (hp : PermIn 0 l.toArray.size l.toArray d') (hs : SortedIn (ltOf cmpT) 0 l.toArray.size d') : d'.toList.Perm l ∧ d'.toList.Pairwise (fun a b => cmpB a.f0 b.f0 ≤ 0) := by
  obtain ⟨h1, _, h3⟩ := hp
  have e1 : d'.extract 0 l.toArray.size = d' := by rw [← h1]; exact Array.extract_size
  have e2 : l.toArray.extract 0 l.toArray.size = l.toArray := Array.extract_size
  rw [e1, e2] at h3
  refine ⟨h3, List.pairwise_iff_getElem.2 ?_⟩
  intro i j hi hj hij
  have h := hs i j (Nat.zero_le _) hij (by rw [← h1]; simpa using hj)
  rw [ltT, decide_eq_false_iff_not] at h
  rw [getElem!_pos d' j (by simpa using hj), getElem!_pos d' i (by simpa using hi)] at h
  have := cmpB_is.anti d'[i].f0 d'[j].f0
  simp only [Array.getElem_toList]
  omega
set_option maxHeartbeats 1000000 in
theorem sortT_calls (l : List Tal) (hl : l.length ≤ 1759218604441) (B : Nat) (v : Value) (w : World) (hR : Kd.R k44 44 w B (fun _ => True) v l) (hBs : B ≤ w.heap.size) :
    Calls Try.prog 47 #[v, .func (.func 48) #[] #[]] w fun e w' => e = .returned (.tuple #[]) ∧ ∃ l', l'.Perm l ∧ l'.Pairwise (fun a b => cmpB a.f0 b.f0 ≤ 0) ∧ Kd.R k44 44 w' B (fun _ => True) v l' ∧ Below B w w' := by
  obtain ⟨hok, inner, how, hre⟩ := hR
  have hre' : Reps (fun x c => c = encT x) 5 l inner := hre.imp_ (fun x c h => k44_openM h)
  by_cases h0 : l = []
  · subst h0
    have hv : ∃ p cap, v = .slice p 0 cap := by
      rcases how.2 with ⟨h, _⟩ | ⟨g, cap, cur, h, _⟩
      · exact ⟨none, 0, h⟩
      · exact ⟨_, cap, h⟩
    obtain ⟨p, cap, rfl⟩ := hv
    refine (AnyF.slices_SortFunc_none Try.sortTal p cap (.func (.func 48) #[] #[]) w).mono ?_
    rintro e w' ⟨rfl, rfl⟩
    exact ⟨rfl, [], List.Perm.refl _, List.Pairwise.nil, ⟨hok, inner, how, hre⟩, Below.refl _ _⟩
  · have hpos : 0 < l.length := by
      rcases Nat.eq_zero_or_pos l.length with h | h
      · exact absurd (List.length_eq_zero_iff.1 h) h0
      · exact h
    rcases how.2 with ⟨_, h⟩ | ⟨g, cap, cur, rfl, hg, hh, hcap, hcm, hcs, htake⟩
    · omega
    have hH : HoldsK encT 5 w g 0 l.toArray := holdsK_of (enc := encT) (k := 5) (l := l) (fun _ => rfl) hh htake hre'
    have hlt : g < w.heap.size := (Array.getElem?_eq_some_iff.1 hh).1
    have eg : ∀ args w, (callFunc 48 args).run Try.prog w = .ok (.enter 48 args) w := enters_of Try.func48 (by kernel_rfl) rfl
    have hcon := AnyQ.slices_SortFunc Try.sortTal 5 Try.isAgg44 Try.sizeOf44 encT (fun _ => rfl) (fun x v hv => by simp [encT] at hv; rcases hv with rfl | rfl | rfl | rfl | rfl <;> rfl) cmpT swoT 48 #[] g 0 cap l.toArray w eg (cmpT_lays g 0 l.toArray.size w) hH hlt (by simp; omega)
    have hcon2 : Calls Try.prog 47 #[.slice (some ⟨g, 0, none⟩) l.length cap, .func (.func 48) #[] #[]] w _ := hcon
    refine hcon2.mono ?_
    rintro e w' ⟨rfl, d', n, os, hp, hs, rfl⟩
    obtain ⟨q1, q2⟩ := sorted_tals hp hs
    have hds : d'.size = l.length := by have := hp.1; simpa using this
    obtain ⟨inner', how', hre2⟩ := own_sorted (n := n) (os := os) (d := d') (base := B) (enc := encT) (fun _ => rfl) hg hh (by rw [hds]; exact hcap) hcm hcs
    rw [hds] at how'
    refine ⟨rfl, d'.toList, q1, q2, ⟨fun _ _ => trivial, inner', by rw [show d'.toList.length = l.length by simpa using hds]; exact how', ?_⟩, below_sorted hg hBs⟩
    exact hre2.imp_ (fun x c h => by rw [h]; exact k44_mkM _ _ _ x)
end Go.Proofs.Ytmfdhcgdibefiaa.L

/- stats.Of: the hosts' tallies. -/
namespace Go.Proofs.Ytmfdhcgdibefiaa.L
open Go.RowKit Go.Proofs.Ytmfdhcgdibefiaa.Q Go.Proofs.YtmfdhcgdibefiaaW.PrintWords Go.Proofs.YtmfdhcgdibefiaaW.PrintLast Go.Proofs.YtmfdhcgdibefiaaW.PrintMore Go.Proofs.YtmfdhcgdibefiaaW.MapB Go.Proofs.YtmfdhcgdibefiaaW.Lib Go.Maps Go.WideMaps
set_option linter.unusedVariables false
set_option linter.unusedSimpArgs false

theorem new_blockT (w : World) (cs : Array Value) (t : TypeId) : (w.alloc (.cells cs t)).heap[w.heap.size]? = some (.cells cs t (0, 0)) := (MapKept.heap_alloc w _).1
theorem lawStrT : Keyed Try.prog 9 := string_keyed Try.underlying9
theorem rdT_mem {l : List S37} {x : Int} (h0 : 0 ≤ x) (h1 : x < l.length) : rd_T37 l x ∈ l := by
  have hlt : x.toNat < l.length := by omega
  have e : rd_T37 l x = l[x.toNat] := by simp [rd_T37, List.getD, hlt]
  rw [e]
  exact List.getElem_mem _
theorem mayT_calls (s : S37) (h : fitS s) (w : World) : Calls Try.prog 43 #[.agg #[.int .u64 s.f0, .int .u64 s.f1, .int .u64 s.f2, .int .u8 s.f3, .string s.f4, .string s.f5, .int .i64 s.f6, .int .i64 s.f7]] w fun e w' => e = .returned (.bool (mayS s)) ∧ Below w.heap.size w w' := by
  obtain ⟨k, hk⟩ := Ev.rounds (may_ev s.f0 s.f1 s.f2 s.f3 s.f4 s.f5 s.f6 s.f7 h.2.1 h.2.2)
  exact span_May.calls k _ _ _ _ _ _ _ _ _ w hk
theorem zeroTal (w : World) : (zeroValue 44).run Try.prog w = .ok (vT (tal0 ⟨#[]⟩)) w := by kernel_rfl
theorem row_iterT {H : Type} {α : Type} {d : Kd α} {t : Nat} {base : Nat} {P : Program} {k : TypeId} {R : Value → Option (DataW H × List MemPlace)} {w w1 : World} {b r n : Nat} {D : DataW H} {left : Lit → Bool} {cnt : Nat} {v : Value} {xs : List α}
    (hrg : w.ranges P k R b r n D left cnt) (hr : d.R t w base (fun _ => True) v xs) (hg : w.grownBy w1 (some r)) : d.R t w1 base (fun _ => True) v xs := by
  obtain ⟨_, _, _, _, _, _, _, _, _, hit, _⟩ := hrg
  refine Kd.R_mono (Kd.R_move (Kd.R_bound hr) (fun i hi => hg.block i hi.2.2.1 (fun e => ?_))) (fun _ _ => trivial)
  obtain ⟨_, _, _, q, _, cells, hc⟩ := hi
  obtain rfl : i = r := Option.some.inj e
  rw [hit] at hc
  cases hc
theorem range_rowT {H : Type} {α : Type} {d : Kd α} {t : Nat} {base : Nat} {ok : Nat → Prop} {P : Program} {k : TypeId} {R : Value → Option (DataW H × List MemPlace)} {w w1 : World} {b r n : Nat} {D : DataW H} {left : Lit → Bool} {cnt : Nat} {v : Value} {xs : List α}
    (hrg : w.ranges P k R b r n D left cnt) (hr : d.R t w base ok v xs) (hg : w.grownBy w1 v.ownBlock) : w1.ranges P k R b r n D left cnt := by
  have h1 := hrg
  obtain ⟨es, clock, _, _, _, hb, _, _, _, hit, _⟩ := h1
  obtain ⟨_, inner, ho, _⟩ := hr
  refine hrg.kept hg (map_ne_row hrg.owns ho) (fun e => ?_)
  obtain ⟨cells, hc⟩ := own_typed ho r e.symm
  rw [hit] at hc
  cases hc
/-- 'm[k]' at tallies, where it is known what stands there. -/
theorem lookup_tal {ops : Array Oper} {rest : List Oper} {o : Oper} {a : Act} {Q : Exit → Act → World → Prop} (w : World) (hg : o.guard = none) (m x : Operand) (t : TypeId) (hop : o.op = Op.lookup t m x false) (k : TypeId) (K : Keyed Try.prog k)
    (ht : Try.prog.underlying t = some (.map k 44)) (b n : Nat) (D : DataW Unit) (hm : a.eval m = .map (some b)) (hown : w.ownsMap Try.prog k elemT b n D) (key : Value) (kl : Lit) (hx : a.eval x = key) (hkey : keyOf Try.prog k key = some kl)
    (y : Tal) (hy : D.atKey kl (dT (tal0 ⟨#[]⟩)) = dT y)
    (hK : wpList Try.prog ops Q rest (a.put o.dst (vT y)) w) : wpList Try.prog ops Q (o :: rest) a w := by
  refine wpList_plain hg fun K' hK' => ?_
  obtain ⟨v, ps, hrun, hv⟩ := hown.lookup K ht (zeroTal w) (elemT_mk _) hkey
  rw [hy] at hv
  obtain rfl := elemT_inv hv
  unfold Oper.wp
  simp [execOp, hop, hm, hx, hrun, Result.andThen]
  exact hK' _ _ hK
set_option maxHeartbeats 8000000 in
set_option maxRecDepth 100000 in
theorem tals_calls (l0 : List S37) (hl : l0.length ≤ 1759218604441) (hf : ∀ x ∈ l0, fitS x) (A0 : Option Addr) (c0 : Nat) (w : World) (hr0 : Kd.C k37 w A0 l0.length l0) (hc0 : l0.length ≤ c0) :
    Calls Try.prog 21 #[.slice A0 l0.length c0] w fun e w' => ∃ v : Value, e = .returned v ∧ Kd.R k44 44 w' w.heap.size (fun _ => True) v (talsL l0) ∧ Below w.heap.size w w' := by
  have hmm := @run_makeMap Try.prog
  have HR0 := Aside0.mk hr0
  have HL := Aside0.mk hl
  have HF := Aside0.mk hf
  clear hr0 hc0 hl hf
  go_enter Try.func21, Try.ntmps21
  go_wp2_with fail
  go_loopg [13] l0.length (fun kq v13 w' => ∃ x13 : Int, v13 = .int .i64 x13 ∧ Aside0 (0 ≤ x13 ∧ x13 + kq = l0.length) ∧ Aside0 (w'.ownsMap Try.prog 9 elemT w.heap.size (goodL (l0.take x13.toNat)).length (mapT (goodL (l0.take x13.toNat)))) ∧ Aside0 (Below w.heap.size w w'))
  case atStart => exact ⟨0, rfl, ⟨by omega, by omega⟩, ⟨World.ownsMap_made _ _ _ _⟩, ⟨below_alloc (Below.refl _ _) _⟩⟩
  case round =>
    obtain ⟨x13, rfl, HK, HM, HB⟩ := hrel
    by_cases c1 : x13 < (l0.length : Int)
    · have c1b := decide_eq_true c1
      have p1 : 0 ≤ x13 := HK.out.1
      obtain ⟨ad1, e1, hx0, hx1, hx2, hx3, hx4, hx5, hx6, hx7⟩ := at_T37 HR0.out x13 p1 c1
      cases e1
      replace hx0 := (HB.out.cell (World.block_lt_of_cell? w _ hx0)).trans hx0
      replace hx1 := (HB.out.cell (World.block_lt_of_cell? w _ hx1)).trans hx1
      replace hx2 := (HB.out.cell (World.block_lt_of_cell? w _ hx2)).trans hx2
      replace hx3 := (HB.out.cell (World.block_lt_of_cell? w _ hx3)).trans hx3
      replace hx4 := (HB.out.cell (World.block_lt_of_cell? w _ hx4)).trans hx4
      replace hx5 := (HB.out.cell (World.block_lt_of_cell? w _ hx5)).trans hx5
      replace hx6 := (HB.out.cell (World.block_lt_of_cell? w _ hx6)).trans hx6
      replace hx7 := (HB.out.cell (World.block_lt_of_cell? w _ hx7)).trans hx7
      have HT := Aside0.mk (HF.out _ (rdT_mem p1 c1))
      have HNx := Aside0.mk (goodL_next l0 x13 p1 c1)
      have HLn := Aside0.mk (goodL_length (l0.take x13.toNat))
      have HDu := Aside0.mk (goodL_dur (l := l0.take x13.toNat))
      have P1 := Aside0.mk p1
      have Q1 := Aside0.mk c1
      have W1 := Aside0.mk (show wrap64 (x13 + 1) = x13 + 1 from by unfold wrap64; have := HL.out; have := P1.out; have := Q1.out; omega)
      generalize hgs : rd_T37 l0 x13 = s at *
      clear hgs
      generalize goodL (l0.take x13.toNat) = g at *
      replace p1 := eq_true p1
      replace c1 := eq_true c1
      obtain ⟨k1, rfl⟩ : ∃ k1, gk = k1 + 1 := ⟨gk - 1, by have := HK.out; have := Q1.out; omega⟩
      have QM := Aside0.mk (mayT_calls s HT.out)
      have HKey := Aside0.mk (keyOf_string_mk Try.underlying9 (s := s.f4) (Nat.le_trans HT.out.2.1 (by decide)))
      by_cases hm : mayS s = true
      · rw [hm] at QM
        go_wp2_with (first
          | (go_at_call 43; refine (QM.out _).mono ?_; rintro e w4 ⟨rfl, hb⟩; have HB4 := Aside0.mk (below_step (below_alloc HB.out _) hb); have HM4 := Aside0.mk (map_below (HM.out.alloc _) hb); have bk := (hb.block wr.heap.size (by simp)).trans (new_blockT wr #[.int .u64 s.f0, .int .u64 s.f1, .int .u64 s.f2, .int .u8 s.f3, .string s.f4, .string s.f5, .int .i64 s.f6, .int .i64 s.f7] 37); have hlt : wr.heap.size < w4.heap.size := Nat.lt_of_lt_of_le (by simp) hb.size; have hne1 : (wr.heap.size = w4.heap.size) = False := eq_false (by omega); have hne2 : (w4.heap.size = wr.heap.size) = False := eq_false (by omega); have hk0 : w4.cell? ⟨wr.heap.size, 0, none⟩ = some (.int .u64 s.f0) := (blk_cell bk 0).trans rfl; have hq0 : ∀ o, (w4.alloc o).cell? ⟨wr.heap.size, 0, none⟩ = some (.int .u64 s.f0) := fun o => (World.cell?_alloc_lt _ _ _ hlt).trans hk0; have hk1 : w4.cell? ⟨wr.heap.size, 1, none⟩ = some (.int .u64 s.f1) := (blk_cell bk 1).trans rfl; have hq1 : ∀ o, (w4.alloc o).cell? ⟨wr.heap.size, 1, none⟩ = some (.int .u64 s.f1) := fun o => (World.cell?_alloc_lt _ _ _ hlt).trans hk1; have hk2 : w4.cell? ⟨wr.heap.size, 2, none⟩ = some (.int .u64 s.f2) := (blk_cell bk 2).trans rfl; have hq2 : ∀ o, (w4.alloc o).cell? ⟨wr.heap.size, 2, none⟩ = some (.int .u64 s.f2) := fun o => (World.cell?_alloc_lt _ _ _ hlt).trans hk2; have hk3 : w4.cell? ⟨wr.heap.size, 3, none⟩ = some (.int .u8 s.f3) := (blk_cell bk 3).trans rfl; have hq3 : ∀ o, (w4.alloc o).cell? ⟨wr.heap.size, 3, none⟩ = some (.int .u8 s.f3) := fun o => (World.cell?_alloc_lt _ _ _ hlt).trans hk3; have hk4 : w4.cell? ⟨wr.heap.size, 4, none⟩ = some (.string s.f4) := (blk_cell bk 4).trans rfl; have hq4 : ∀ o, (w4.alloc o).cell? ⟨wr.heap.size, 4, none⟩ = some (.string s.f4) := fun o => (World.cell?_alloc_lt _ _ _ hlt).trans hk4; have hk5 : w4.cell? ⟨wr.heap.size, 5, none⟩ = some (.string s.f5) := (blk_cell bk 5).trans rfl; have hq5 : ∀ o, (w4.alloc o).cell? ⟨wr.heap.size, 5, none⟩ = some (.string s.f5) := fun o => (World.cell?_alloc_lt _ _ _ hlt).trans hk5; have hk6 : w4.cell? ⟨wr.heap.size, 6, none⟩ = some (.int .i64 s.f6) := (blk_cell bk 6).trans rfl; have hq6 : ∀ o, (w4.alloc o).cell? ⟨wr.heap.size, 6, none⟩ = some (.int .i64 s.f6) := fun o => (World.cell?_alloc_lt _ _ _ hlt).trans hk6; have hk7 : w4.cell? ⟨wr.heap.size, 7, none⟩ = some (.int .i64 s.f7) := (blk_cell bk 7).trans rfl; have hq7 : ∀ o, (w4.alloc o).cell? ⟨wr.heap.size, 7, none⟩ = some (.int .i64 s.f7) := fun o => (World.cell?_alloc_lt _ _ _ hlt).trans hk7; clear bk; clear hb)
          | (at_lookup; go_loud (refine lookup_tal _ rfl _ _ 84 rfl 9 lawStrT Try.underlying84 w.heap.size _ _ rfl HM4.out _ _ rfl HKey.out (talAt g s.f4) (mapT_get g s.f4) ?_; unfold vT))
          | (at_mapUpdate; go_loud (refine wpList_mapUpdate_own _ rfl _ _ _ 84 rfl 9 44 lawStrT Try.underlying84 elemT w.heap.size g.length _ rfl (HM4.out.alloc _) ?mN _ _ _ rfl rfl HKey.out (dT ⟨_, _, _, _, _⟩) [] (elemT_mk ⟨_, _, _, _, _⟩) ?_); (case mN => have h1 := HLn.out; have h2 := HL.out; rw [List.length_take] at h1; show g.length < 9223372036854775807; omega); intro w5 hown hgrow; have HM5 := Aside0.mk hown; have HB5 := Aside0.mk (below_map (below_alloc HB4.out _) hgrow (Nat.le_refl _) (below_alloc HB4.out _).size); clear hown hgrow))
        all_goals
          go_roundg k1
          case measure => omega
          case rel =>
            have hx := HNx.out
            rw [if_pos hm] at hx
            have hq := HM5.out
            refine ⟨x13 + 1, by rw [W1.out], ⟨by have := P1.out; omega, by have := HK.out; omega⟩, ⟨?_⟩, HB5⟩
            rw [hx, mapT_snoc, List.length_append, talAt_step]
            obtain ⟨n0, n1, d0, d1, cc0, s0, cs⟩ := talAt_in g s.f4 HDu.out
            have hd := (mayB_le hm).2.2.1
            have gl : (g.length : Int) ≤ 1759218604441 := by have h1 := HLn.out; have h2 := HL.out; rw [List.length_take] at h1; omega
            have e2 := talStep_min d0 d1 hd
            have wr1 : ∀ x : Int, -9223372036854775808 ≤ x → x < 9223372036854775808 → wrap64 x = x := fun x h1 h2 => wrap_id h1 h2
            have key2 : ∀ t : Tal, t = talStep (talAt g s.f4) s → w5.ownsMap Try.prog 9 elemT w.heap.size (g.length + 1) ((mapT g).put (key s.f4) (dT t)) → w5.ownsMap Try.prog 9 elemT w.heap.size (g.length + [s].length) ((mapT g).put (key s.f4) (dT (talStep (talAt g s.f4) s))) := fun t e h => e ▸ h
            refine key2 _ ?_ hq
            rw [wr1 (9223372036854775807 - (talAt g s.f4).f2) (by omega) (by omega), ← e2, wr1 (talStep (talAt g s.f4) s).f2 (by simp only [talStep]; split <;> omega) (by simp only [talStep]; split <;> omega)]
            try rw [wr1 ((talAt g s.f4).f1 + 1) (by omega) (by omega)]
            try rw [wr1 ((talAt g s.f4).f3 + 1) (by omega) (by omega)]
            try rw [wr1 ((talAt g s.f4).f4 + 1) (by omega) (by omega)]
            simp_all [talStep]
      · have hm' : mayS s = false := by simpa using hm
        rw [hm'] at QM
        rw [if_neg hm] at HNx
        go_wp2_with (first
          | (go_at_call 43; refine (QM.out _).mono ?_; rintro e w4 ⟨rfl, hb⟩; have HB4 := Aside0.mk (below_step (below_alloc HB.out _) hb); have HM4 := Aside0.mk (map_below (HM.out.alloc _) hb); clear hb))
        go_roundg k1
        case measure => omega
        case rel => exact ⟨x13 + 1, by rw [W1.out], ⟨by have := P1.out; omega, by have := HK.out; omega⟩, ⟨by rw [HNx.out]; exact HM4.out⟩, HB4⟩
    · have c1b := decide_eq_false c1
      have hx : x13.toNat = l0.length := by have := HK.out; omega
      have hg := HM.out
      rw [hx, List.take_length] at hg
      have HMn := Aside0.mk hg
      have HLn := Aside0.mk (Nat.le_trans (goodL_length l0) HL.out)
      have HLd := Aside0.mk (laid_start (goodL l0))
      have HEnd : Aside0 (∀ (left : Lit → Bool) (out m : List Tal), Laid (goodL l0) left out → (∀ kl, left kl = false) → m.Perm out → (m.Pairwise fun a b => cmpB a.f0 b.f0 ≤ 0) → m = talsL l0) := ⟨fun left out m H h0 hp hs => laid_end H h0 hp hs⟩
      have HFg : Aside0 (∀ h ∈ hs4 (goodL l0), h.size ≤ 4611686018427387904) := ⟨fun h hh => by
        obtain ⟨s, hs, rfl⟩ := List.mem_map.1 hh
        exact Nat.le_trans (HF.out s (goodL_mem hs).1).2.1 (by decide)⟩
      clear hg hx HM HK c1
      go_wp2_with (first
        | (at_range; refine wpList_range_own _ rfl _ 84 rfl 9 44 lawStrT Try.underlying84 _ w.heap.size (goodL l0).length _ rfl HMn.out ?_; intro w3 hrg3 hg3 hs3; have HRg := Aside0.mk hrg3; have HB3 := Aside0.mk (HB.out.grown hg3 HB.out.size (fun _ h => by cases h)); have HRs := Aside0.mk (show w.heap.size ≤ wr.heap.size from HB.out.size); clear hrg3 hg3 hs3))
      go_frame
      generalize wr.heap.size = rg at HRg HRs ⊢
      have HD : Aside0 (∀ h, has (mapT (goodL l0)) (key h) = true → h ∈ hs4 (goodL l0)) := ⟨fun h hh => (mapT_at (goodL l0) h .nil).2.1 hh⟩
      have HV : Aside0 (∀ h t, h ∈ hs4 (goodL l0) → (∀ z, (mapT (goodL l0)).atKey (key h) z = dT t) → t = talOf (goodL l0) h) := ⟨fun h t hh hz => by
        have e := (mapT_at (goodL l0) h .nil).1
        rw [hz, if_pos hh] at e
        exact dT_inj e⟩
      generalize mapT (goodL l0) = D at *
      have HO3 := Aside0.mk (Kd.R_nil k44 44 w3 w.heap.size (fun _ => True))
      go_loopg [7] (Maps.size D) (fun kq v7 w' => ∃ (left : Lit → Bool) (cnt : Nat) (out : List Tal), Aside0 (cnt ≤ kq) ∧ Aside0 (w'.ranges Try.prog 9 elemT w.heap.size rg (goodL l0).length D left cnt) ∧ Aside0 (∀ kl, left kl = true → has D kl = true) ∧ Aside0 (Laid (goodL l0) left out) ∧ Aside0 (Kd.R k44 44 w' w.heap.size (fun _ => True) v7 out) ∧ Aside0 (Below w.heap.size w w'))
      case atStart => exact ⟨has D, Maps.size D, [], ⟨Nat.le_refl _⟩, HRg, ⟨fun _ h => h⟩, HLd, HO3, HB3⟩
      case round =>
        clear HRg HLd HO3 HB3
        obtain ⟨left, cnt, out, HC, HRg, HLf, HLd, HO, HB3⟩ := hrel
        have invK : ∀ key kl, keyOf Try.prog 9 key = some kl → ∃ x : ByteArray, key = .string x := fun key kl hk => by
          obtain ⟨x, hx, _⟩ := Go.Maps.keyOf_str Try.underlying9 hk
          exact ⟨_, hx⟩
        have invV : ∀ v y, elemT v = some y → ∃ t : Tal, v = vT t := fun v y hv => by
          obtain ⟨t, h, _⟩ := elemT_some hv
          exact ⟨t, h⟩
        go_wp2_with (first
          | (at_next; refine wpList_next_ranges _ rfl _ rfl 9 lawStrT elemT Value.string vT invK invV w.heap.size rg (goodL l0).length D left cnt rfl HRg.out ?_ ?_))
        · intro _ hl0
          have HOut := Aside0.mk (Nat.le_trans (laid_length HLd.out) HLn.out)
          have HE := Aside0.mk (HEnd.out left out)
          have hq := HLd.out
          have HE2 := Aside0.mk (fun m => HEnd.out left out m hq hl0)
          have QS := Aside0.mk (sortT_calls out HOut.out w.heap.size _ _ HO.out HB3.out.size)
          go_wp2_with (first
            | (go_at_call 47; go_loud (refine QS.out.mono ?_; rintro e w5 ⟨rfl, m, hp, hs, hr, hb⟩; have he := HE2.out m hp hs; subst he; have HM := Aside0.mk hr; have HB5 := Aside0.mk (Go.RowKit.Below.trans HB3.out hb); clear hp hs hr hb)))
          go_ret
          exact ⟨_, rfl, HM.out, HB5.out⟩
        · intro x c kl d ps w4 cnt4 hkey hlk hv hat hrg4 hlt4 hg4 hsz4 hen
          obtain ⟨y, hy, hkl, hyl⟩ := Go.Maps.keyOf_str Try.underlying9 hkey
          have hkl2 : kl = key x := by
            have h1 := keyOf_string_mk Try.underlying9 (s := x) (by
              injection hy with hy
              rw [hy]
              show (y.toArray).size ≤ _
              rw [List.size_toArray]; exact hyl)
            exact Option.some.inj (hkey.symm.trans h1)
          clear hy hkl hyl y
          subst hkl2
          have hh : x ∈ hs4 (goodL l0) := HD.out x (HLf.out _ hlk)
          obtain ⟨t1, ht1, htd⟩ := elemT_some hv
          have hc1 := vT_inj ht1
          subst hc1
          obtain ⟨rfl, rfl⟩ := Prod.mk.inj htd
          have hc2 := HV.out x c hh hat
          have hld := laid_step HLd.out hh hlk
          rw [← hc2] at hld
          have HLd4 := Aside0.mk hld
          have HO4 := Aside0.mk (row_iterT HRg.out HO.out hg4)
          have HB4 := Aside0.mk (HB3.out.grown hg4 HB3.out.size (fun i hi => by cases hi; exact HRs.out))
          have HRg4 := Aside0.mk hrg4
          have HLf4 := Aside0.mk (show ∀ kl, (left kl && !kl.sameKey (key x)) = true → has D kl = true from fun kl h => HLf.out kl (Bool.and_eq_true _ _ ▸ h : left kl = true ∧ _).1)
          have HCt := Aside0.mk hlt4
          have HOl := Aside0.mk (Nat.le_trans (laid_length HLd.out) HLn.out)
          obtain ⟨A7, n7, e7⟩ := Kd.R_slice HO4.out
          subst e7
          clear hld hc2 htd ht1 hh hv hat hlk hkey hrg4 hlt4 hg4 hsz4 HRg HO HB3 HLf HLd
          obtain ⟨k1, rfl⟩ : ∃ k1, gk = k1 + 1 := ⟨gk - 1, by have := HC.out; have := HCt.out; omega⟩
          obtain ⟨c1, c2, c3, c4, c5⟩ := c
          unfold vT at hen ⊢
          go_wp2_with (first
            | ((with_reducible refine gate_builtin (b := .append) (xs := #[.tmp 66, .tmp 68]) rfl ?_); at_builtin; go_loud (refine Kd.R_append k44 (w0 := w) w.heap.size rfl (.tmp 66) (.tmp 68) 41 44 (.agg #[(.string ⟨#[]⟩), (.int .i64 0), (.int .i64 0), (.int .i64 0), (.int .i64 0)]) 48 rfl Try.underlying41 (by kernel_rfl) rfl (by decide) (by omega) (.slice A7 out.length n7) out (⟨c1, c2, c3, c4, c5⟩ : Tal) [.string c1, .int .i64 c2, .int .i64 c3, .int .i64 c4, .int .i64 c5] (fun _ => True) (fun _ => False) rfl ?aX ?aP (fun _ hk => hk.elim) ?aF ?aO ?aB ?aS ?aL ?_; (case aX => first | rfl | (go_simp; done) | (simp; done)); (case aP => exact k44_mkM _ _ _ _); (case aB => exact below_alloc HB4.out _); (case aF => exact (fun _ _ => trivial)); (case aO => exact Kd.R_alloc HO4.out _); (case aS => exact (below_alloc HB4.out _).size); (case aL => have := HOl.out; show (out.length + 1) * 48 ≤ 140737488355328; omega); intro v5 w5 ho hb hg5 hat5; have HO5 := Aside0.mk ho; have HB5 := Aside0.mk hb; have HRg5 := Aside0.mk (range_rowT (HRg4.out.alloc _) (Kd.R_alloc HO4.out _) hg5); clear ho hb hg5 hat5)))
          go_roundg k1
          case measure => omega
          case rel => exact ⟨_, cnt4, _, ⟨by have := HC.out; have := HCt.out; omega⟩, HRg5, HLf4, HLd4, HO5, HB5⟩
end Go.Proofs.Ytmfdhcgdibefiaa.L

/- Rows of arrays of two numbers. -/
namespace Go.Proofs.Ytmfdhcgdibefiaa.L
open Go.RowKit Go.Proofs.YtmfdhcgdibefiaaW.PrintWords Go.Proofs.YtmfdhcgdibefiaaW.PrintLast Go.Proofs.YtmfdhcgdibefiaaW.PrintMore
set_option linter.unusedVariables false

abbrev kP : Kd (Int × Int) := Kd.pair (Kd.int .i64) (Kd.int .i64)
theorem kP_open {w : World} {x : Int × Int} {cs : List Value} (h : kP.K w x cs) : cs = [.int .i64 x.1, .int .i64 x.2] := by
  obtain ⟨_, _, rfl, rfl, rfl⟩ := h
  exact rfl
theorem kP_openM {w : World} {base : Nat} {ok : Nat → Prop} {x : Int × Int} {cs : List Value} (h : kP.M w base ok x cs) : cs = [.int .i64 x.1, .int .i64 x.2] := by
  obtain ⟨_, _, rfl, rfl, rfl⟩ := h
  exact rfl
theorem kP_mkM (w : World) (base : Nat) (ok : Nat → Prop) (x : Int × Int) : kP.M w base ok x [.int .i64 x.1, .int .i64 x.2] := ⟨[.int .i64 x.1], [.int .i64 x.2], rfl, rfl, rfl⟩
def rdP (xs : List (Int × Int)) (i : Int) : Int × Int := xs.getD i.toNat (0, 0)
theorem at_P {w : World} {A : Option Addr} {n : Nat} {xs : List (Int × Int)} (h : Kd.C kP w A n xs) (i : Int) (h0 : 0 ≤ i) (h1 : i < n) : ∃ ad, A = some ad ∧ w.cell? (ad.add (i.toNat * 2)) = some (.int .i64 (rdP xs i).1) ∧ w.cell? ⟨(ad.add (i.toNat * 2)).block, (ad.add (i.toNat * 2)).off + 1, none⟩ = some (.int .i64 (rdP xs i).2) := by
  obtain ⟨ad, c, e, _, hK, hc0⟩ := Kd.C_get h (0, 0) i h0 h1
  have hc : ∀ j u, c[j]? = some u → w.cell? (ad.add (i.toNat * 2 + j)) = some u := hc0
  obtain rfl := kP_open hK
  exact ⟨ad, e, hc 0 _ rfl, by rw [← add_field _ _ 1 (by omega)]; exact hc 1 _ rfl⟩
end Go.Proofs.Ytmfdhcgdibefiaa.L

/- What stretches cover, plain: how many numbers; by stretches in order of their starts, and by neighbouring ends. -/
namespace Go.Proofs.Ytmfdhcgdibefiaa.L
set_option linter.unusedVariables false

/-- How many of n numbers from a on have p. -/
def cnt (p : Int → Bool) (a : Int) : Nat → Nat
  | 0 => 0
  | n + 1 => cnt p a n + if p (a + (n : Int)) = true then 1 else 0
theorem cnt_add (p : Int → Bool) (a : Int) (m : Nat) : ∀ n, cnt p a (m + n) = cnt p a m + cnt p (a + (m : Int)) n
  | 0 => rfl
  | n + 1 => by
    show cnt p a (m + n) + (if p (a + ((m + n : Nat) : Int)) = true then 1 else 0) = cnt p a m + (cnt p (a + (m : Int)) n + (if p (a + (m : Int) + (n : Int)) = true then 1 else 0))
    rw [cnt_add p a m n, show a + ((m + n : Nat) : Int) = a + (m : Int) + (n : Int) by omega]
    omega
theorem cnt_congr {p q : Int → Bool} {a : Int} : ∀ {n : Nat}, (∀ x : Int, a ≤ x → x < a + n → p x = q x) → cnt p a n = cnt q a n
  | 0, _ => rfl
  | n + 1, h => by
    simp only [cnt]
    rw [cnt_congr (n := n) (fun x h0 h1 => h x h0 (by omega)), h (a + n) (by omega) (by omega)]
theorem cnt_all {p : Int → Bool} {a : Int} : ∀ {n : Nat}, (∀ x : Int, a ≤ x → x < a + n → p x = true) → cnt p a n = n
  | 0, _ => rfl
  | n + 1, h => by
    simp only [cnt]
    rw [cnt_all (n := n) (fun x h0 h1 => h x h0 (by omega)), h (a + n) (by omega) (by omega)]
    rfl
theorem cnt_no {p : Int → Bool} {a : Int} : ∀ {n : Nat}, (∀ x : Int, a ≤ x → x < a + n → p x = false) → cnt p a n = 0
  | 0, _ => rfl
  | n + 1, h => by
    simp only [cnt]
    rw [cnt_no (n := n) (fun x h0 h1 => h x h0 (by omega)), h (a + n) (by omega) (by omega)]
    rfl
theorem cnt_le {p q : Int → Bool} {a : Int} : ∀ {n : Nat}, (∀ x : Int, p x = true → q x = true) → cnt p a n ≤ cnt q a n
  | 0, _ => Nat.le_refl _
  | n + 1, h => by
    have ih := cnt_le (n := n) (a := a) h
    have := h (a + n)
    simp only [cnt]
    by_cases c : p (a + n) = true
    · rw [if_pos c, if_pos (this c)]; omega
    · rw [if_neg c]; omega
/-- How many from a to ahead of b. -/
def btw (p : Int → Bool) (a b : Int) : Nat := cnt p a (b - a).toNat
theorem btw_add (p : Int → Bool) {a b c : Int} (h : a ≤ b) (h2 : b ≤ c) : btw p a c = btw p a b + btw p b c := by
  unfold btw
  rw [show (c - a).toNat = (b - a).toNat + (c - b).toNat by omega, cnt_add, show a + (((b - a).toNat : Nat) : Int) = b by omega]
theorem btw_congr {p q : Int → Bool} {a b : Int} (h : ∀ x, a ≤ x → x < b → p x = q x) : btw p a b = btw q a b := cnt_congr fun x h0 h1 => h x h0 (by omega)
theorem btw_all {p : Int → Bool} {a b : Int} (h : ∀ x, a ≤ x → x < b → p x = true) : btw p a b = (b - a).toNat := cnt_all fun x h0 h1 => h x h0 (by omega)
theorem btw_no {p : Int → Bool} {a b : Int} (h : ∀ x, a ≤ x → x < b → p x = false) : btw p a b = 0 := cnt_no fun x h0 h1 => h x h0 (by omega)
theorem btw_le_len (p : Int → Bool) (a b : Int) : btw p a b ≤ (b - a).toNat := by
  have h : btw (fun _ => true) a b = (b - a).toNat := btw_all (fun _ _ _ => rfl)
  rw [← h]
  exact cnt_le fun _ _ => rfl

/-- Is a number within one of the stretches? -/
def covB (l : List (Int × Int)) (x : Int) : Bool := l.any fun s => decide (s.1 ≤ x) && decide (x < s.2)
theorem covB_iff {l : List (Int × Int)} {x : Int} : covB l x = true ↔ ∃ s ∈ l, s.1 ≤ x ∧ x < s.2 := by
  unfold covB
  rw [List.any_eq_true]
  exact ⟨fun ⟨s, h, h2⟩ => ⟨s, h, by simpa using h2⟩, fun ⟨s, h, h2⟩ => ⟨s, h, by simpa using h2⟩⟩
theorem covB_snoc (l : List (Int × Int)) (s : Int × Int) (x : Int) : covB (l ++ [s]) x = (covB l x || (decide (s.1 ≤ x) && decide (x < s.2))) := by
  unfold covB; rw [List.any_append]; simp
abbrev loI : Int := -9223372036854775808
abbrev hiI : Int := 9223372036854775807
/-- How many numbers stretches cover. -/
def coverN (l : List (Int × Int)) : Nat := btw (covB l) loI hiI
def inI (s : Int × Int) : Prop := loI ≤ s.1 ∧ s.1 ≤ hiI ∧ loI ≤ s.2 ∧ s.2 ≤ hiI
instance : DecidablePred inI := fun s => by unfold inI; infer_instance
theorem coverN_lt (l : List (Int × Int)) : coverN l < 18446744073709551616 := Nat.lt_of_le_of_lt (btw_le_len _ _ _) (by decide)
/-- One more stretch, behind those that start no later: the sum, and the end. -/
def covStep (z : Int × Int) (s : Int × Int) : Int × Int := if max s.1 z.2 < s.2 then (z.1 + (s.2 - max s.1 z.2), s.2) else z
structure CovInv (pre : List (Int × Int)) (z : Int × Int) : Prop where
  sum : z.1 = (coverN pre : Int)
  lo : loI ≤ z.2
  hi : z.2 ≤ hiI
  above : ∀ x, covB pre x = true → x < z.2
  from_ : z.2 = loI ∨ ∃ t ∈ pre, t.2 = z.2
theorem covInv_nil : CovInv [] (0, loI) := by
  refine ⟨?_, by simp, by decide, ?_, .inl rfl⟩
  · show (0 : Int) = (coverN [] : Int)
    have : coverN [] = 0 := btw_no (fun _ _ _ => rfl)
    rw [this]; rfl
  · intro x h; simp [covB] at h
theorem covInv_step {pre : List (Int × Int)} {z : Int × Int} {s : Int × Int} (h : CovInv pre z) (hs : inI s) (ho : ∀ t ∈ pre, t.1 ≤ s.1) : CovInv (pre ++ [s]) (covStep z s) := by
  obtain ⟨s1, s2⟩ := s
  obtain ⟨z1, e⟩ := z
  obtain ⟨hsum, hlo, hhi, habove, hfrom⟩ := h
  obtain ⟨i1, i2, i3, i4⟩ := hs
  dsimp only at *
  have inner : ∀ x, s1 ≤ x → x < e → covB pre x = true := by
    intro x h0 h1
    rcases hfrom with h | ⟨t, ht, h⟩
    · omega
    · exact covB_iff.2 ⟨t, ht, by have := ho t ht; omega, by omega⟩
  have outer : ∀ x, e ≤ x → covB pre x = false := by
    intro x h0
    cases hc : covB pre x with
    | false => rfl
    | true => have := habove x hc; omega
  by_cases c : max s1 e < s2
  · have hst : covStep (z1, e) (s1, s2) = (z1 + (s2 - max s1 e), s2) := by unfold covStep; rw [if_pos c]
    rw [hst]
    refine ⟨?_, i3, i4, ?_, .inr ⟨(s1, s2), by simp, rfl⟩⟩
    · dsimp only
      have hn : ∀ x, covB (pre ++ [(s1, s2)]) x = (covB pre x || (decide (s1 ≤ x) && decide (x < s2))) := covB_snoc pre (s1, s2)
      have a1 : btw (covB (pre ++ [(s1, s2)])) loI e = btw (covB pre) loI e := btw_congr fun x h0 h1 => by
        rw [hn]
        by_cases d : s1 ≤ x
        · rw [inner x d h1]; rfl
        · rw [decide_eq_false d]; simp
      have a2 : btw (covB (pre ++ [(s1, s2)])) e (max s1 e) = 0 := btw_no fun x h0 h1 => by
        rw [hn, outer x h0, decide_eq_false (show ¬ s1 ≤ x by omega)]; rfl
      have a3 : btw (covB (pre ++ [(s1, s2)])) (max s1 e) s2 = (s2 - max s1 e).toNat := btw_all fun x h0 h1 => by
        rw [hn, decide_eq_true (show s1 ≤ x by omega), decide_eq_true h1]; simp
      have a4 : btw (covB (pre ++ [(s1, s2)])) s2 hiI = 0 := btw_no fun x h0 h1 => by
        rw [hn, outer x (by omega), decide_eq_false (show ¬ x < s2 by omega)]; simp
      have b1 : btw (covB pre) e hiI = 0 := btw_no fun x h0 h1 => outer x h0
      have t1 : coverN (pre ++ [(s1, s2)]) = btw (covB pre) loI e + (s2 - max s1 e).toNat := by
        unfold coverN
        rw [btw_add _ hlo hhi, a1, btw_add _ (show e ≤ max s1 e by omega) (show max s1 e ≤ hiI by omega), a2, btw_add _ (show max s1 e ≤ s2 by omega) i4, a3, a4]
        omega
      have t2 : coverN pre = btw (covB pre) loI e := by
        unfold coverN
        rw [btw_add _ hlo hhi, b1]; rfl
      rw [t1, ← t2, hsum]
      omega
    · intro x hx
      rw [covB_snoc] at hx
      cases hp : covB pre x with
      | true => have := habove x hp; dsimp only; omega
      | false =>
        rw [hp] at hx
        simp at hx
        exact hx.2
  · have hst : covStep (z1, e) (s1, s2) = (z1, e) := by unfold covStep; rw [if_neg c]
    rw [hst]
    have hn : ∀ x, covB (pre ++ [(s1, s2)]) x = covB pre x := by
      intro x
      rw [covB_snoc]
      by_cases d : s1 ≤ x ∧ x < s2
      · rw [inner x d.1 (by omega)]; rfl
      · have : (decide (s1 ≤ x) && decide (x < s2)) = false := by
          rw [Bool.eq_false_iff]; intro h; simp at h; exact d h
        dsimp only
        rw [this]; simp
    refine ⟨?_, hlo, hhi, ?_, ?_⟩
    · have : coverN (pre ++ [(s1, s2)]) = coverN pre := btw_congr fun x _ _ => hn x
      rw [this]; exact hsum
    · intro x hx; rw [hn] at hx; exact habove x hx
    · rcases hfrom with h | ⟨t, ht, h⟩
      · exact .inl h
      · exact .inr ⟨t, List.mem_append_left _ ht, h⟩
theorem fold_inv : ∀ (rest pre : List (Int × Int)) (z : Int × Int), CovInv pre z → (∀ s ∈ rest, inI s) → (pre ++ rest).Pairwise (fun a b => a.1 ≤ b.1) → CovInv (pre ++ rest) (rest.foldl covStep z)
  | [], pre, z, h, _, _ => by rw [List.append_nil]; exact h
  | s :: rest, pre, z, h, hi, hp => by
    have e : pre ++ s :: rest = (pre ++ [s]) ++ rest := by simp
    rw [e]
    refine fold_inv rest (pre ++ [s]) (covStep z s) (covInv_step h (hi s (List.mem_cons_self ..)) ?_) (fun x hx => hi x (List.mem_cons_of_mem _ hx)) (by rw [← e]; exact hp)
    intro t ht
    exact (List.pairwise_append.1 hp).2.2 t ht s (List.mem_cons_self ..)
/-- By stretches in the order of their starts. -/
theorem fold_cover {l : List (Int × Int)} (hi : ∀ s ∈ l, inI s) (hp : l.Pairwise (fun a b => a.1 ≤ b.1)) : (l.foldl covStep (0, loI)).1 = (coverN l : Int) := by
  have h := (fold_inv l [] (0, loI) covInv_nil hi (by simpa using hp)).sum
  simpa using h
/-! What StatsMore says. -/
theorem coverN_congr {l m : List (Int × Int)} (h : ∀ s, s ∈ l ↔ s ∈ m) : coverN l = coverN m := by
  refine btw_congr fun x _ _ => ?_
  rw [Bool.eq_iff_iff, covB_iff, covB_iff]
  exact ⟨fun ⟨s, a, b⟩ => ⟨s, (h s).1 a, b⟩, fun ⟨s, a, b⟩ => ⟨s, (h s).2 a, b⟩⟩
end Go.Proofs.Ytmfdhcgdibefiaa.L

/- slices.Clone of stretches; the order of stretches, as a closure; both by hand. -/
namespace Go.Proofs.Ytmfdhcgdibefiaa.L
open Go.RowKit Go.Proofs.YtmfdhcgdibefiaaW.PrintWords Go.Proofs.YtmfdhcgdibefiaaW.PrintLast Go.Proofs.YtmfdhcgdibefiaaW.PrintMore Go.Proofs.YtmfdhcgdibefiaaW.Lib Go.Proofs.YtmfdhcgdibefiaaW.MapB
set_option linter.unusedVariables false

/-- cmp.Compare of whole numbers. -/
def cmpJ (x y : Int) : Int := if x < y then -1 else if y < x then 1 else 0
theorem cmpI64_calls (x y : Int) (w : World) : Calls Try.prog 39 #[.int .i64 x, .int .i64 y] w fun e w' => e = .returned (.int .i64 (cmpJ x y)) ∧ w' = w := by
  by_cases h1 : x < y
  · have e : cmpJ x y = -1 := by unfold cmpJ; rw [if_pos h1]
    rw [e]; clear e
    go_enter Try.func39, Try.ntmps39
    go_wp2
    go_ret
    exact ⟨rfl, rfl⟩
  · by_cases h2 : y < x
    · have e : cmpJ x y = 1 := by unfold cmpJ; rw [if_neg h1, if_pos h2]
      rw [e]; clear e
      go_enter Try.func39, Try.ntmps39
      go_wp2
      go_ret
      exact ⟨rfl, rfl⟩
    · have e : cmpJ x y = 0 := by unfold cmpJ; rw [if_neg h1, if_neg h2]
      rw [e]; clear e
      go_enter Try.func39, Try.ntmps39
      go_wp2
      go_ret
      exact ⟨rfl, rfl⟩
theorem cloneP_calls (l : List (Int × Int)) (hl : l.length ≤ 1759218604441) (A : Option Addr) (c : Nat) (w : World) (hr : Kd.C kP w A l.length l) (hc : l.length ≤ c) :
    Calls Try.prog 36 #[.slice A l.length c] w fun e w' => ∃ v : Value, e = .returned v ∧ Kd.R kP 26 w' w.heap.size (fun _ => True) v l ∧ Below w.heap.size w w' := by
  have q : ∀ (w : World) (a : Option Addr) (n c n' c' : Nat), (binOp .eql 22 (.slice a n c) (.slice none n' c')).run Try.prog w = .ok (.bool a.isNone) w := fun w a n c n' c' => Go.Lib.run_eql_slice_nil w _ _ a n c n' c' Try.underlying22
  cases A with
  | none =>
    have h0 : l = [] := by
      cases l with
      | nil => rfl
      | cons x l => obtain ⟨ad, h, _⟩ := hr.2.2 (by simp); exact absurd h (by simp)
    subst h0
    go_enter Try.func36, Try.ntmps36
    go_wp2
    go_ret
    exact ⟨_, rfl, Kd.R_nil _ _ _ _ _, Below.refl _ _⟩
  | some ad =>
    have HR0 := Aside0.mk hr
    clear hr
    have HL := Aside0.mk hl
    clear hl
    go_enter Try.func36, Try.ntmps36
    go_wp2_with (first
      | ((with_reducible refine gate_dst (N := 5) rfl ?_); refine Kd.R_lit kP _ 26 ?hg (N := 5) ?hd (xs := ([] : List (Int × Int))) (inner := []) (ok := fun _ => True) (okp := fun _ => True) ?hr ?hp (fun _ hk => hk) trivial (Below.refl _ _) (Nat.le_refl _) (by simp) ?_; (case hd => rfl); (case hg => rfl); (case hr => first | (go_simp; done) | (go_simp; rfl)); (case hp => exact (Reps.none _ _)); intro v1 w1 ho hb hg_ hnew_; clear hg_ hnew_; have HO := Aside0.mk ho; have HB := Aside0.mk hb; clear ho hb)
      | ((with_reducible refine gate_builtin (b := .append) (xs := #[.tmp 5, .tmp 6]) rfl ?_); at_builtin; refine Kd.R_append_rows kP (w0 := w) w.heap.size rfl (.tmp 5) (.tmp 6) 22 26 (.agg #[(.int .i64 0), (.int .i64 0)]) 16 rfl Try.underlying22 (by kernel_rfl) rfl (by decide) (by omega) v1 [] l _ _ _ (fun _ => True) (fun _ => False) rfl rfl ?aO ?aR (fun _ _ h => h) (fun _ h => h.elim) ?aF ?aB ?aS ?aL ?_; (case aR => exact (Kd.C_below HR0.out HB.out)); (case aB => exact HB.out); (case aF => exact (fun _ _ => trivial)); (case aO => exact HO.out); (case aS => exact HB.out.size); (case aL => have := HL.out; simp only [List.length_nil]; omega); intro v2 w2 ho hb hg hat; rw [List.nil_append] at ho; have HB2 := Aside0.mk hb; have HO2 := Aside0.mk ho; clear ho hb hg hat))
    go_ret
    exact ⟨_, rfl, HO2.out, HB2.out⟩
/-- How stretches stand in order. -/
def cmpP (x y : Int × Int) : Int := cmpJ x.1 y.1
set_option maxRecDepth 100000 in
set_option maxHeartbeats 4000000 in
theorem cmpP_grow (a b : Int × Int) (W : World) :
    Calls Try.prog 38 #[.agg #[.int .i64 a.1, .int .i64 a.2], .agg #[.int .i64 b.1, .int .i64 b.2]] W
      fun e w' => e = .returned (.int .i64 (cmpP a b)) ∧ ∃ q os', w' = Go.Sort.grow (W.drewN q) os' := by
  obtain ⟨a0, a1⟩ := a
  obtain ⟨b0, b1⟩ := b
  go_enter Try.func38, Try.ntmps38
  go_wp2_with (go_at_call 39; refine (cmpI64_calls _ _ _).mono ?_; rintro e w1 ⟨rfl, rfl⟩)
  go_ret
  obtain ⟨os, ho⟩ : ∃ os, (W.alloc (.cells #[.int .i64 a0, .int .i64 a1] 26)).alloc (.cells #[.int .i64 b0, .int .i64 b1] 26) = Go.Sort.grow W os := ⟨_, by rw [Go.Sort.alloc_eq_grow, Go.Sort.alloc_eq_grow, Go.Sort.grow_grow]⟩
  exact ⟨rfl, 0, os, ho⟩
end Go.Proofs.Ytmfdhcgdibefiaa.L

/- stats.Cover: the sort of a copy, and the sum. -/
namespace Go.Proofs.Ytmfdhcgdibefiaa.L
open Go.RowKit Go.Proofs.YtmfdhcgdibefiaaW.PrintWords Go.Proofs.YtmfdhcgdibefiaaW.PrintLast Go.Proofs.YtmfdhcgdibefiaaW.PrintMore Go.Proofs.YtmfdhcgdibefiaaW.Lib Go.Proofs.YtmfdhcgdibefiaaW.RowB Go.Sort Go.Lib
set_option linter.unusedVariables false

def encP (x : Int × Int) : List Value := [.int .i64 x.1, .int .i64 x.2]
theorem ltP (x y : Int × Int) : ltOf cmpP x y = decide (x.1 < y.1) := by
  unfold ltOf cmpP cmpJ
  rw [Bool.eq_iff_iff]
  simp only [decide_eq_true_eq]
  split
  · constructor <;> intro _ <;> omega
  · split <;> constructor <;> intro _ <;> omega
theorem swoP : SWO (ltOf cmpP) := by
  refine ⟨fun x => ?_, fun x y z h1 h2 => ?_, fun x y z h1 h2 => ?_⟩
  · rw [ltP]; simp
  · rw [ltP, decide_eq_true_eq] at *; omega
  · rw [ltP, decide_eq_false_iff_not] at *; omega
theorem cmpP_lays (blk off size : Nat) (w : World) : CmpLays Try.prog 38 #[] encP 2 cmpP blk off size w := fun _ _ _ _ x y => cmpP_grow x y _
/-- Arrays that stand in order: as lists. -/
theorem sorted_list {l : List (Int × Int)} {d' : Array (Int × Int)} (hp : PermIn 0 l.toArray.size l.toArray d') (hs : SortedIn (ltOf cmpP) 0 l.toArray.size d') : d'.toList.Perm l ∧ d'.toList.Pairwise (fun a b => a.1 ≤ b.1) := by
  obtain ⟨h1, _, h3⟩ := hp
  have e1 : d'.extract 0 l.toArray.size = d' := by rw [← h1]; exact Array.extract_size
  have e2 : l.toArray.extract 0 l.toArray.size = l.toArray := Array.extract_size
  rw [e1, e2] at h3
  refine ⟨h3, List.pairwise_iff_getElem.2 ?_⟩
  intro i j hi hj hij
  have h := hs i j (Nat.zero_le _) hij (by rw [← h1]; simpa using hj)
  rw [ltP, decide_eq_false_iff_not] at h
  rw [getElem!_pos d' j (by simpa using hj), getElem!_pos d' i (by simpa using hi)] at h
  simp only [Array.getElem_toList]
  omega
set_option maxHeartbeats 1000000 in
theorem sortP_calls (l : List (Int × Int)) (hl : l.length ≤ 1759218604441) (B : Nat) (v : Value) (w : World) (hR : Kd.R kP 26 w B (fun _ => True) v l) (hBs : B ≤ w.heap.size) :
    Calls Try.prog 37 #[v, .func (.func 38) #[] #[]] w fun e w' => e = .returned (.tuple #[]) ∧ ∃ l', l'.Perm l ∧ l'.Pairwise (fun a b => a.1 ≤ b.1) ∧ Kd.R kP 26 w' B (fun _ => True) v l' ∧ Below B w w' := by
  obtain ⟨hok, inner, how, hre⟩ := hR
  have hre' : Reps (fun x c => c = encP x) 2 l inner := hre.imp_ (fun x c h => kP_openM h)
  by_cases h0 : l = []
  · subst h0
    have hv : ∃ p cap, v = .slice p 0 cap := by
      rcases how.2 with ⟨h, _⟩ | ⟨g, cap, cur, h, _⟩
      · exact ⟨none, 0, h⟩
      · exact ⟨_, cap, h⟩
    obtain ⟨p, cap, rfl⟩ := hv
    refine (AnyF.slices_SortFunc_none Try.sortCov p cap (.func (.func 38) #[] #[]) w).mono ?_
    rintro e w' ⟨rfl, rfl⟩
    exact ⟨rfl, [], List.Perm.refl _, List.Pairwise.nil, ⟨hok, inner, how, hre⟩, Below.refl _ _⟩
  · have hpos : 0 < l.length := by
      rcases Nat.eq_zero_or_pos l.length with h | h
      · exact absurd (List.length_eq_zero_iff.1 h) h0
      · exact h
    rcases how.2 with ⟨_, h⟩ | ⟨g, cap, cur, rfl, hg, hh, hcap, hcm, hcs, htake⟩
    · omega
    have hH : HoldsK encP 2 w g 0 l.toArray := holdsK_of (enc := encP) (k := 2) (l := l) (fun _ => rfl) hh htake hre'
    have hlt : g < w.heap.size := (Array.getElem?_eq_some_iff.1 hh).1
    have eg : ∀ args w, (callFunc 38 args).run Try.prog w = .ok (.enter 38 args) w := enters_of Try.func38 (by kernel_rfl) rfl
    have hcon := AnyQ.slices_SortFunc Try.sortCov 2 Try.isAgg26 Try.sizeOf26 encP (fun _ => rfl) (fun x v hv => by simp [encP] at hv; rcases hv with rfl | rfl <;> rfl) cmpP swoP 38 #[] g 0 cap l.toArray w eg (cmpP_lays g 0 l.toArray.size w) hH hlt (by simp; omega)
    have hcon2 : Calls Try.prog 37 #[.slice (some ⟨g, 0, none⟩) l.length cap, .func (.func 38) #[] #[]] w _ := hcon
    refine hcon2.mono ?_
    rintro e w' ⟨rfl, d', n, os, hp, hs, rfl⟩
    obtain ⟨q1, q2⟩ := sorted_list hp hs
    have hds : d'.size = l.length := by have := hp.1; simpa using this
    obtain ⟨inner', how', hre2⟩ := own_sorted (n := n) (os := os) (d := d') (base := B) (enc := encP) (fun _ => rfl) hg hh (by rw [hds]; exact hcap) hcm hcs
    rw [hds] at how'
    refine ⟨rfl, d'.toList, q1, q2, ⟨fun _ _ => trivial, inner', by rw [show d'.toList.length = l.length by simpa using hds]; exact how', ?_⟩, below_sorted hg hBs⟩
    exact hre2.imp_ (fun x c h => by rw [h]; exact kP_mkM _ _ _ x)
end Go.Proofs.Ytmfdhcgdibefiaa.L

/- stats.Cover: how much stretches cover. -/
namespace Go.Proofs.Ytmfdhcgdibefiaa.L
open Go.RowKit Go.Proofs.YtmfdhcgdibefiaaW.PrintWords Go.Proofs.YtmfdhcgdibefiaaW.PrintLast Go.Proofs.YtmfdhcgdibefiaaW.PrintMore Go.Proofs.YtmfdhcgdibefiaaW.Lib
set_option linter.unusedVariables false
attribute [local go_sem] max2_int min2_int max_two min_two   -- for this text's walks alone

def covZ (l : List (Int × Int)) : Int × Int := l.foldl covStep (0, loI)
theorem covZ_inv {l : List (Int × Int)} (hi : ∀ s ∈ l, inI s) (hp : l.Pairwise (fun a b => a.1 ≤ b.1)) (k : Nat) : CovInv (l.take k) (covZ (l.take k)) := by
  have h := fold_inv (l.take k) [] (0, loI) covInv_nil (fun s hs => hi s (List.mem_of_mem_take hs)) (by simpa using hp.sublist (List.take_sublist _ _))
  rw [List.nil_append] at h
  exact h
theorem covZ_next (l : List (Int × Int)) (x : Int) (h0 : 0 ≤ x) (h1 : x < l.length) : covZ (l.take (x + 1).toNat) = covStep (covZ (l.take x.toNat)) (rdP l x) := by
  have hlt : x.toNat < l.length := by omega
  rw [show (x + 1).toNat = x.toNat + 1 by omega, List.take_succ_eq_append_getElem hlt]
  unfold covZ
  rw [List.foldl_append]
  have : rdP l x = l[x.toNat] := by simp [rdP, List.getD, hlt]
  rw [this]
  rfl
theorem rdP_mem {l : List (Int × Int)} {x : Int} (h0 : 0 ≤ x) (h1 : x < l.length) : rdP l x ∈ l := by
  have hlt : x.toNat < l.length := by omega
  have : rdP l x = l[x.toNat] := by simp [rdP, List.getD, hlt]
  rw [this]
  exact List.getElem_mem _

theorem u64_sum {z m s : Int} (h0 : 0 ≤ z) (h1 : m < s) (h2 : loI ≤ m) (h3 : m ≤ hiI) (h4 : loI ≤ s) (h5 : s ≤ hiI) (h6 : z + (s - m) < 18446744073709551616) : IntKind.u64.wrap (z + IntKind.u64.wrap (IntKind.u64.wrap s - IntKind.u64.wrap m)) = z + (s - m) := by
  have hw : ∀ x : Int, IntKind.u64.wrap x = x % 18446744073709551616 := fun x => by simp [IntKind.wrap, IntKind.signed, IntKind.bits]
  rw [hw s, hw m, hw, hw]
  omega
theorem covStep_pos {z1 e s1 s2 m : Int} (hm : max s1 e = m) (c : m < s2) : covStep (z1, e) (s1, s2) = (z1 + (s2 - m), s2) := by
  unfold covStep; dsimp only; rw [hm, if_pos c]
theorem covStep_neg {z1 e s1 s2 m : Int} (hm : max s1 e = m) (c : ¬ m < s2) : covStep (z1, e) (s1, s2) = (z1, e) := by
  unfold covStep; dsimp only; rw [hm, if_neg c]

set_option maxHeartbeats 4000000 in
set_option maxRecDepth 100000 in
theorem cover_calls (l0 : List (Int × Int)) (hl : l0.length ≤ 1759218604441) (hi : ∀ s ∈ l0, inI s) (A0 : Option Addr) (c0 : Nat) (w : World) (hr0 : Kd.C kP w A0 l0.length l0) (hc0 : l0.length ≤ c0) :
    Calls Try.prog 13 #[.slice A0 l0.length c0] w fun e w' => e = .returned (.int .u64 (coverN l0 : Int)) ∧ Below w.heap.size w w' := by
  have QC := Aside0.mk (cloneP_calls l0 hl A0 c0 w hr0 hc0)
  have QS := Aside0.mk (fun v w1 h1 h2 => sortP_calls l0 hl w.heap.size v w1 h1 h2)
  have HL := Aside0.mk hl
  have HI := Aside0.mk hi
  clear hr0 hc0 hl hi
  obtain ⟨r, hr⟩ : ∃ r : Int, (coverN l0 : Int) = r := ⟨_, rfl⟩
  rw [hr]
  have HR := Aside0.mk hr
  clear hr
  go_enter Try.func13, Try.ntmps13
  go_wp2_with (first
    | (go_at_call 36; refine QC.out.mono ?_; rintro e w1 ⟨v, rfl, ho, hb⟩; have HO := Aside0.mk ho; have HB := Aside0.mk hb; clear ho hb)
    | (go_at_call 37; refine (QS.out _ _ HO.out HB.out.size).mono ?_; rintro e w2 ⟨rfl, l1, hp, hq, ho, hb⟩; have HP := Aside0.mk hp; have HQ := Aside0.mk hq; have HB2 := Aside0.mk (HB.out.trans hb); have HN := Aside0.mk hp.length_eq; obtain ⟨Av, cv, rfl⟩ := Kd.R_slice ho; have HO2 := Aside0.mk ho; clear ho hb hp hq))
  have HE := Aside0.mk ((coverN_congr (l := l1) (m := l0) (fun s => HP.out.mem_iff)).symm ▸ HR.out)
  have HI1 := Aside0.mk (fun s hs => HI.out s (HP.out.mem_iff.1 hs) : ∀ s ∈ l1, inI s)
  have HINV := Aside0.mk (fun k => covZ_inv HI1.out HQ.out k)
  have HNX := Aside0.mk (covZ_next l1)
  clear HP HQ HI HR QC QS HO
  go_loopg [4, 5, 15] l1.length (fun kq v4 v5 v15 w' => ∃ x15 : Int, v15 = .int .i64 x15 ∧ v4 = .int .u64 (covZ (l1.take x15.toNat)).1 ∧ v5 = .int .i64 (covZ (l1.take x15.toNat)).2 ∧ Aside0 (0 ≤ x15 ∧ x15 + kq = l1.length) ∧ Aside0 (Below w.heap.size w w') ∧ Aside0 (Kd.R kP 26 w' w.heap.size (fun _ => True) (.slice Av l1.length cv) l1))
  case atStart => exact ⟨0, rfl, rfl, rfl, ⟨by omega, by omega⟩, HB2, HO2⟩
  case round =>
    clear HB2 HO2 HB
    obtain ⟨x15, rfl, rfl, rfl, HK, HB, HO⟩ := hrel
    by_cases c1 : x15 < (l1.length : Int)
    · have c1b := decide_eq_true c1
      have p1 : 0 ≤ x15 := HK.out.1
      obtain ⟨ad1, e1, hx0, hx1⟩ := at_P (Kd.R_reads' HO.out).2.2 x15 p1 c1
      cases e1
      have HS := Aside0.mk (HI1.out _ (rdP_mem p1 c1))
      have HV := Aside0.mk (HINV.out x15.toNat)
      have HX := Aside0.mk (HNX.out x15 p1 c1)
      have HV2 := Aside0.mk (HINV.out (x15 + 1).toNat)
      have P1 := Aside0.mk p1
      have Q1 := Aside0.mk c1
      replace p1 := eq_true p1
      replace c1 := eq_true c1
      have W1 := Aside0.mk (show wrap64 (x15 + 1) = x15 + 1 from by unfold wrap64; have := HN.out; have := HL.out; have := P1.out; have := Q1.out; omega)
      obtain ⟨k1, rfl⟩ : ∃ k1, gk = k1 + 1 := ⟨gk - 1, by have := HK.out; have := Q1.out; omega⟩
      generalize hz : covZ (l1.take x15.toNat) = z at *
      generalize hs : rdP l1 x15 = s at *
      obtain ⟨z1, e⟩ := z
      obtain ⟨s1, s2⟩ := s
      clear hz hs
      dsimp only at hx0 hx1 ⊢
      by_cases c3 : s1 < e
      · have C3 := Aside0.mk c3
        have c3b := decide_eq_true c3
        replace c3 := eq_true c3
        by_cases c2 : e < s2
        · have HY := Aside0.mk (HX.out.trans (covStep_pos (show max s1 e = e by have := C3.out; omega) c2))
          have c2b := decide_eq_true c2
          have C2 := Aside0.mk c2
          have HU := Aside0.mk (u64_sum (z := z1) (m := e) (s := s2) (by have h : z1 = _ := HV.out.sum; omega) c2 (by have := HS.out.1; have := HV.out.lo; dsimp only at *; omega) (by have := HS.out.2.1; have := HV.out.hi; dsimp only at *; omega) HS.out.2.2.1 HS.out.2.2.2 (by have h := HV2.out.sum; rw [HY.out] at h; have h2 := coverN_lt (l1.take (x15 + 1).toNat); dsimp only at h; omega))
          replace c2 := eq_true c2
          go_wp2_with fail
          go_roundg k1
          case measure => omega
          case rel => exact ⟨x15 + 1, by rw [W1.out], by rw [HY.out, HU.out], by rw [HY.out], ⟨by have := P1.out; omega, by have := HK.out; omega⟩, ⟨below_alloc HB.out _⟩, ⟨Kd.R_alloc HO.out _⟩⟩
        · have HY := Aside0.mk (HX.out.trans (covStep_neg (show max s1 e = e by have := C3.out; omega) c2))
          have c2b := decide_eq_false c2
          replace c2 := eq_false c2
          go_wp2_with fail
          go_roundg k1
          case measure => omega
          case rel => exact ⟨x15 + 1, by rw [W1.out], by rw [HY.out], by rw [HY.out], ⟨by have := P1.out; omega, by have := HK.out; omega⟩, ⟨below_alloc HB.out _⟩, ⟨Kd.R_alloc HO.out _⟩⟩
      · have C3 := Aside0.mk c3
        have c3b := decide_eq_false c3
        replace c3 := eq_false c3
        by_cases c2 : s1 < s2
        · have HY := Aside0.mk (HX.out.trans (covStep_pos (show max s1 e = s1 by have := C3.out; omega) c2))
          have c2b := decide_eq_true c2
          have C2 := Aside0.mk c2
          have HU := Aside0.mk (u64_sum (z := z1) (m := s1) (s := s2) (by have h : z1 = _ := HV.out.sum; omega) c2 (by have := HS.out.1; have := HV.out.lo; dsimp only at *; omega) (by have := HS.out.2.1; have := HV.out.hi; dsimp only at *; omega) HS.out.2.2.1 HS.out.2.2.2 (by have h := HV2.out.sum; rw [HY.out] at h; have h2 := coverN_lt (l1.take (x15 + 1).toNat); dsimp only at h; omega))
          replace c2 := eq_true c2
          go_wp2_with fail
          go_roundg k1
          case measure => omega
          case rel => exact ⟨x15 + 1, by rw [W1.out], by rw [HY.out, HU.out], by rw [HY.out], ⟨by have := P1.out; omega, by have := HK.out; omega⟩, ⟨below_alloc HB.out _⟩, ⟨Kd.R_alloc HO.out _⟩⟩
        · have HY := Aside0.mk (HX.out.trans (covStep_neg (show max s1 e = s1 by have := C3.out; omega) c2))
          have c2b := decide_eq_false c2
          replace c2 := eq_false c2
          go_wp2_with fail
          go_roundg k1
          case measure => omega
          case rel => exact ⟨x15 + 1, by rw [W1.out], by rw [HY.out], by rw [HY.out], ⟨by have := P1.out; omega, by have := HK.out; omega⟩, ⟨below_alloc HB.out _⟩, ⟨Kd.R_alloc HO.out _⟩⟩
    · have c1b := decide_eq_false c1
      have hx : x15.toNat = l1.length := by have := HK.out; omega
      have HZ := Aside0.mk (show (covZ l1).1 = r by have h := (HINV.out l1.length).sum; rw [List.take_length] at h; exact h.trans HE.out)
      go_wp2
      go_ret
      exact ⟨by show Ending.returned (.int .u64 (covZ l1).1) = _; rw [HZ.out], HB.out⟩
end Go.Proofs.Ytmfdhcgdibefiaa.L

/- Rows of structs told by pairs. -/
namespace Go.Proofs.Ytmfdhcgdibefiaa.L
open Go.RowKit Go.Proofs.YtmfdhcgdibefiaaW.PrintWords Go.Proofs.YtmfdhcgdibefiaaW.PrintLast Go.Proofs.YtmfdhcgdibefiaaW.PrintMore
set_option linter.unusedVariables false

theorem C_iso {α β : Type} {d : Kd α} {f : β → α} {w : World} {A : Option Addr} {n : Nat} {xs : List β} (h : Kd.C (Kd.iso d f) w A n xs) : Kd.C d w A n (xs.map f) := by
  obtain ⟨h1, h2, h3⟩ := h
  refine ⟨by rw [List.length_map]; exact h1, h2, fun h0 => ?_⟩
  obtain ⟨ad, e, hc⟩ := h3 h0
  refine ⟨ad, e, fun j p hp => ?_⟩
  rw [List.getElem?_map] at hp
  cases hx : xs[j]? with
  | none => rw [hx] at hp; cases hp
  | some x =>
    rw [hx] at hp
    obtain rfl := Option.some.inj hp
    exact hc j x hx
theorem mapI {β : Type} {f : β → Int × Int} {l : List β} (h : ∀ s ∈ l, inI (f s)) : ∀ s ∈ l.map f, inI s := by
  intro s hs
  obtain ⟨x, hx, rfl⟩ := List.mem_map.1 hs
  exact h x hx
end Go.Proofs.Ytmfdhcgdibefiaa.L

/- A call of a function that lies in a variable. -/
namespace Go.Proofs.YtmfdhcgdibefiaaW.FunV
open Go.RowKit Go.Proofs.YtmfdhcgdibefiaaW.PrintWords Go.Proofs.YtmfdhcgdibefiaaW.PrintLast
section
variable {P : Program} {ops : Array Oper} {Q : Exit → Act → World → Prop}
theorem gate_value {rest : List Oper} {o : Oper} {a : Act} {W : World} {x : Operand} {ags : Array Operand} {ts : Array TypeId} (_ho : o.op = .call { callee := .value x, args := ags, argTypes := ts }) (h : wpList P ops Q (o :: rest) a W) : wpList P ops Q (o :: rest) a W := h
theorem goesV_ {rest : List Oper} {oi : Oper} {a : Act} {w : World} (N : Option Tmp) (hd : oi.dst = N) (hg : oi.guard = none) {f : FuncId} {fn : Func} {x : Operand} {ags : Array Operand} {ts : Array TypeId} (hf : P.funcs[f]? = some fn) (hname : (fn.name == "runtime.NumGoroutine") = false) (hb : fn.body.isSome = true) (args : Array Value)
    (hop : oi.op = .call { callee := .value x, args := ags, argTypes := ts }) (hx : a.eval x = .func (.func f) #[] #[]) (hargs : ags.map a.eval = args)
    (h : Calls P f args w fun e w' => ∃ v, e = .returned v ∧ wpList P ops Q rest (a.put N v) w') : wpList P ops Q (oi :: rest) a w := by
  refine wpList_plain hg fun K hK => ?_
  have he := enters_ hf hname hb args w
  have hrun : (execOp a.eval oi).run P w = .ok (.enter f args) w := by
    unfold execOp
    simp [hop, resolve, Deferred.ofValue, invoke, hx, hargs, he]
  unfold Oper.wp
  rw [hrun, Oper.upon_enter]
  refine h.mono fun e w'' hh => ?_
  obtain ⟨v, rfl, hk⟩ := hh
  subst hd
  exact hK _ _ hk
end
end Go.Proofs.YtmfdhcgdibefiaaW.FunV

/- stats.Own's closure: whether a span may not be. -/
namespace Go.Proofs.Ytmfdhcgdibefiaa.L
open Go.RowKit Go.Proofs.Ytmfdhcgdibefiaa.Q Go.Proofs.YtmfdhcgdibefiaaW.PrintWords Go.Proofs.YtmfdhcgdibefiaaW.PrintLast Go.Proofs.YtmfdhcgdibefiaaW.PrintMore Go.Proofs.YtmfdhcgdibefiaaW.MapB Go.Proofs.YtmfdhcgdibefiaaW.Lib
set_option linter.unusedVariables false
set_option linter.unusedSimpArgs false
theorem ownspan_calls (s : S37) (h : fitS s) (w : World) : Calls Try.prog 43 #[.agg #[.int .u64 s.f0, .int .u64 s.f1, .int .u64 s.f2, .int .u8 s.f3, .string s.f4, .string s.f5, .int .i64 s.f6, .int .i64 s.f7]] w fun e w' => e = .returned (.bool (mayS s)) ∧ Below w.heap.size w w' := by
  obtain ⟨k, hk⟩ := Ev.rounds (may_ev s.f0 s.f1 s.f2 s.f3 s.f4 s.f5 s.f6 s.f7 h.2.1 h.2.2)
  exact span_May.calls k _ _ _ _ _ _ _ _ _ w hk
set_option maxRecDepth 100000 in
theorem ownmay_calls (s : S37) (h : fitS s) (w : World) : Calls Try.prog 42 #[.agg #[.int .u64 s.f0, .int .u64 s.f1, .int .u64 s.f2, .int .u8 s.f3, .string s.f4, .string s.f5, .int .i64 s.f6, .int .i64 s.f7]] w fun e w' => e = .returned (.bool (!mayS s)) ∧ Below w.heap.size w w' := by
  have HB := Aside0.mk (Below.refl w.heap.size w)
  have QM := Aside0.mk (ownspan_calls s h)
  clear h
  go_enter Try.func42, Try.ntmps42
  go_wp2_with (go_at_call 43; refine (QM.out _).mono ?_; rintro e w1 ⟨rfl, hb⟩; have HB1 := Aside0.mk (below_step (below_alloc HB.out _) hb); clear hb)
  go_ret
  exact ⟨rfl, HB1.out⟩
set_option maxHeartbeats 4000000 in
set_option maxRecDepth 100000 in
theorem own_index  (es : List S37) (hn : es.length ≤ 1000000000) (A0 : Option Addr) (c0 : Nat) (w : World) (hr0 : Kd.C k37 w A0 es.length es)
    (QL0 : ∀ e ∈ es, ∀ W, Below w.heap.size w W → Calls Try.prog 42 #[.agg #[.int .u64 e.f0, .int .u64 e.f1, .int .u64 e.f2, .int .u8 e.f3, .string e.f4, .string e.f5, .int .i64 e.f6, .int .i64 e.f7]] W fun r w' => r = .returned (.bool ((fun s => !mayS s) e)) ∧ Below W.heap.size W w') :
    Calls Try.prog 95 #[.slice A0 es.length c0, .func (.func 42) #[] #[]] w fun r w' => ∃ i : Int, r = .returned (.int .i64 i) ∧ decide (0 ≤ i) = es.any (fun s => !mayS s) ∧ Below w.heap.size w w' := by
  have HB0 := Aside0.mk (Below.refl w.heap.size w)
  have HR0 := Aside0.mk hr0
  have HN := Aside0.mk hn
  have QL := Aside0.mk QL0
  clear hr0 hn QL0
  generalize hpp : (fun s => !mayS s) = pp at *
  clear hpp
  go_enter Try.func95, Try.ntmps95
  go_wp2_with fail
  go_loopg [8] es.length (fun kq v8 w' => ∃ x8 : Int, v8 = .int .i64 x8 ∧ Aside0 (0 ≤ x8 ∧ x8 + kq = es.length) ∧ Aside0 (∀ e ∈ es.take x8.toNat, pp e = false) ∧ Aside0 (Below w.heap.size w w'))
  case atStart => exact ⟨0, rfl, ⟨by omega, by omega⟩, ⟨by simp⟩, HB0⟩
  case round =>
    obtain ⟨x8, rfl, HK, HA, HB⟩ := hrel
    by_cases c1 : x8 < (es.length : Int)
    · have c1b := decide_eq_true c1
      have p1 : 0 ≤ x8 := HK.out.1
      obtain ⟨ad, e1, hx0, hx1, hx2, hx3, hx4, hx5, hx6, hx7⟩ := at_T37 HR0.out x8 p1 c1
      cases e1
      replace hx0 := (HB.out.cell (World.block_lt_of_cell? w _ hx0)).trans hx0
      replace hx1 := (HB.out.cell (World.block_lt_of_cell? w _ hx1)).trans hx1
      replace hx2 := (HB.out.cell (World.block_lt_of_cell? w _ hx2)).trans hx2
      replace hx3 := (HB.out.cell (World.block_lt_of_cell? w _ hx3)).trans hx3
      replace hx4 := (HB.out.cell (World.block_lt_of_cell? w _ hx4)).trans hx4
      replace hx5 := (HB.out.cell (World.block_lt_of_cell? w _ hx5)).trans hx5
      replace hx6 := (HB.out.cell (World.block_lt_of_cell? w _ hx6)).trans hx6
      replace hx7 := (HB.out.cell (World.block_lt_of_cell? w _ hx7)).trans hx7
      have hit : x8.toNat < es.length := by omega
      have hev : rd_T37 es x8 = es[x8.toNat] := by simp [rd_T37, List.getD, hit]
      have hem : rd_T37 es x8 ∈ es := by rw [hev]; exact List.getElem_mem _
      have HE := Aside0.mk (show es.take (x8 + 1).toNat = es.take x8.toNat ++ [rd_T37 es x8] from by
        rw [show (x8 + 1).toNat = x8.toNat + 1 by omega, List.take_succ_eq_append_getElem hit, hev])
      have QE := Aside0.mk (QL.out _ hem wr HB.out)
      have HM := Aside0.mk hem
      have P1 := Aside0.mk p1
      have Q1 := Aside0.mk c1
      have W1 := Aside0.mk (show wrap64 (x8 + 1) = x8 + 1 from by unfold wrap64; have := HN.out; have := P1.out; have := Q1.out; omega)
      clear hev hem hit
      generalize rd_T37 es x8 = e at *
      replace p1 := eq_true p1
      replace c1 := eq_true c1
      obtain ⟨k1, rfl⟩ : ∃ k1, gk = k1 + 1 := ⟨gk - 1, by have := HK.out; have := Q1.out; omega⟩
      cases hq : pp e with
      | false =>
        rw [hq] at QE
        have HQ := Aside0.mk hq
        clear hq
        go_wp2_with (go_at_call 42; refine QE.out.mono ?_; rintro r w1 ⟨rfl, hb⟩; have HB1 := Aside0.mk (below_step HB.out hb); clear hb)
        go_roundg k1
        case measure => omega
        case rel => exact ⟨x8 + 1, by rw [W1.out], ⟨by have := P1.out; omega, by have := HK.out; omega⟩, ⟨by
          rw [HE.out]
          intro y hy
          rcases List.mem_append.1 hy with h | h
          · exact HA.out y h
          · rw [List.mem_singleton.1 h]; exact HQ.out⟩, HB1⟩
      | true =>
        rw [hq] at QE
        have HQ := Aside0.mk hq
        clear hq
        go_wp2_with (go_at_call 42; refine QE.out.mono ?_; rintro r w1 ⟨rfl, hb⟩; have HB1 := Aside0.mk (below_step HB.out hb); clear hb)
        go_ret
        refine ⟨x8, rfl, ?_, HB1.out⟩
        rw [decide_eq_true P1.out]
        exact (List.any_eq_true.2 ⟨e, HM.out, HQ.out⟩).symm
    · have c1b := decide_eq_false c1
      have hx : x8.toNat = es.length := by have := HK.out; omega
      have ha := HA.out
      rw [hx, List.take_length] at ha
      have HAll := Aside0.mk ha
      clear ha hx c1
      go_wp2_with fail
      go_ret
      refine ⟨-1, rfl, ?_, HB.out⟩
      exact (List.any_eq_false.2 (fun e he => by rw [HAll.out e he]; simp)).symm
set_option maxHeartbeats 2000000 in
set_option maxRecDepth 100000 in
theorem own_contains  (es : List S37) (hn : es.length ≤ 1000000000) (A0 : Option Addr) (c0 : Nat) (w : World) (hr0 : Kd.C k37 w A0 es.length es)
    (QL0 : ∀ e ∈ es, ∀ W, Below w.heap.size w W → Calls Try.prog 42 #[.agg #[.int .u64 e.f0, .int .u64 e.f1, .int .u64 e.f2, .int .u8 e.f3, .string e.f4, .string e.f5, .int .i64 e.f6, .int .i64 e.f7]] W fun r w' => r = .returned (.bool ((fun s => !mayS s) e)) ∧ Below W.heap.size W w') :
    Calls Try.prog 41 #[.slice A0 es.length c0, .func (.func 42) #[] #[]] w fun r w' => r = .returned (.bool (es.any (fun s => !mayS s))) ∧ Below w.heap.size w w' := by
  have HB0 := Aside0.mk (Below.refl w.heap.size w)
  have QI := Aside0.mk (own_index  es hn A0 c0 w hr0 QL0)
  clear hn hr0 QL0
  go_enter Try.func41, Try.ntmps41
  go_wp2_with (go_at_call 95; refine QI.out.mono ?_; rintro r w1 ⟨i, rfl, hd, hb⟩; have HD := Aside0.mk hd; have HB2 := Aside0.mk hb; clear hb hd)
  go_ret
  refine ⟨?_, HB2.out⟩
  rw [← HD.out]
  rfl
end Go.Proofs.Ytmfdhcgdibefiaa.L

/- The document's Cover, plain: the ends in order, and the sum over neighbouring ones. -/
namespace Go.Proofs.Ytmfdhcgdibefiaa.L
open Go.RowKit Go.Proofs.YtmfdhcgdibefiaaW.PrintWords Go.Proofs.YtmfdhcgdibefiaaW.Lib
set_option linter.unusedVariables false
end Go.Proofs.Ytmfdhcgdibefiaa.L

/- The document's Cover: the walk. -/
namespace Go.Proofs.Ytmfdhcgdibefiaa.L
open Go.RowKit Go.Proofs.Ytmfdhcgdibefiaa.Q Go.Proofs.YtmfdhcgdibefiaaW.PrintWords Go.Proofs.YtmfdhcgdibefiaaW.PrintLast Go.Proofs.YtmfdhcgdibefiaaW.PrintMore Go.Proofs.YtmfdhcgdibefiaaW.Lib Go.Proofs.YtmfdhcgdibefiaaW.MapB
set_option linter.unusedVariables false
set_option linter.unusedSimpArgs false
end Go.Proofs.Ytmfdhcgdibefiaa.L

/- parent.cycles, plain: places are coloured along each walk up; none is called just if all walks up end. -/
namespace Go.Proofs.Ytmfdhcgdibefiaa.L
open Go.RowKit Go.Proofs.YtmfdhcgdibefiaaW.PrintWords
set_option linter.unusedVariables false

theorem rdC_set (l : List Int) (i j v : Int) (h0 : 0 ≤ i) (h1 : i < l.length) (hj : 0 ≤ j) : rd (l.set i.toNat v) j = if i = j then v else rd l j := by
  unfold rd
  simp only [List.getD_eq_getElem?_getD, List.getElem?_set]
  by_cases e : i = j
  · subst e
    rw [if_pos rfl, if_pos rfl, if_pos (by omega)]; rfl
  · rw [if_neg e, if_neg (by omega)]
/-- So many parents up. -/
def upL (ps : List Int) (at_ : Int) : Nat → Int
  | 0 => at_
  | k + 1 => if at_ < 0 then at_ else upL ps (rd ps at_) k
theorem upL_neg (ps : List Int) {a : Int} (h : a < 0) : ∀ k, upL ps a k = a
  | 0 => rfl
  | k + 1 => by unfold upL; rw [if_pos h]
theorem upL_more (ps : List Int) : ∀ (k : Nat) (a : Int), upL ps a k < 0 → ∀ d, upL ps a (k + d) < 0
  | 0, a, h, d => by
    have h' : a < 0 := h
    rw [upL_neg ps h']
    exact h'
  | k + 1, a, h, d => by
    rw [show k + 1 + d = (k + d) + 1 by omega]
    unfold upL at h ⊢
    split
    · assumption
    · rename_i c
      rw [if_neg c] at h
      exact upL_more ps k _ h d
def endsAt (ps : List Int) (a : Int) : Prop := ∃ k, upL ps a k < 0
/-- A walk up by these places, to another one. -/
inductive Walk (ps : List Int) : Int → List Int → Int → Prop
  | none (a : Int) : Walk ps a [] a
  | step {a : Int} {L : List Int} {b : Int} : 0 ≤ a → Walk ps (rd ps a) L b → Walk ps a (a :: L) b
theorem Walk.up {ps : List Int} {a : Int} {L : List Int} {b : Int} (h : Walk ps a L b) : upL ps a L.length = b := by
  induction h with
  | none a => rfl
  | step h0 _ ih => simp only [List.length_cons, upL]; rw [if_neg (by omega)]; exact ih
theorem Walk.ends {ps : List Int} {a : Int} {L : List Int} {b : Int} (h : Walk ps a L b) (hb : endsAt ps b) : endsAt ps a ∧ ∀ x ∈ L, endsAt ps x := by
  induction h with
  | none a => exact ⟨hb, fun x hx => by cases hx⟩
  | @step a L b h0 _ ih =>
    obtain ⟨⟨k, hk⟩, h2⟩ := ih hb
    have ha : endsAt ps a := ⟨k + 1, by unfold upL; rw [if_neg (by omega)]; exact hk⟩
    refine ⟨ha, fun x hx => ?_⟩
    rcases List.mem_cons.1 hx with e | e
    · rw [e]; exact ha
    · exact h2 x e
/-- What a walk goes on to. -/
theorem Walk.next {ps : List Int} {a : Int} {L : List Int} {b : Int} (h : Walk ps a L b) : ∀ x ∈ L, 0 ≤ x ∧ (rd ps x ∈ L ∨ rd ps x = b) := by
  induction h with
  | none a => intro x hx; cases hx
  | @step a L b h0 hw ih =>
    intro x hx
    rcases List.mem_cons.1 hx with e | e
    · subst e
      refine ⟨h0, ?_⟩
      cases hw with
      | none => exact .inr rfl
      | step _ _ => exact .inl (List.mem_cons_of_mem _ (List.mem_cons_self ..))
    · obtain ⟨h1, h2⟩ := ih x e
      exact ⟨h1, h2.elim (fun h => .inl (List.mem_cons_of_mem _ h)) .inr⟩
/-- A walk back to one of its own places: from there, and from all ahead, none ends. -/
theorem Walk.round {ps : List Int} {a : Int} {L : List Int} {b : Int} (h : Walk ps a L b) (hb : b ∈ L) : ∀ x ∈ L, ¬ endsAt ps x := by
  have hn := h.next
  have key : ∀ (k : Nat) (x : Int), x ∈ L → 0 ≤ upL ps x k := by
    intro k
    induction k with
    | zero => intro x hx; exact (hn x hx).1
    | succ k ih =>
      intro x hx
      obtain ⟨h0, h1⟩ := hn x hx
      unfold upL
      rw [if_neg (by omega)]
      rcases h1 with h1 | h1
      · exact ih _ h1
      · rw [h1]; exact ih _ hb
  rintro x hx ⟨k, hk⟩
  have := key k x hx
  omega
/-- Places, coloured. -/
def mark (v : Int) (L : List Int) (st : List Int) : List Int := L.foldl (fun s x => s.set x.toNat v) st
theorem mark_len (v : Int) : ∀ (L st : List Int), (mark v L st).length = st.length
  | [], _ => rfl
  | x :: L, st => by
    have := mark_len v L (st.set x.toNat v)
    rw [List.length_set] at this
    exact this
theorem rd_mark (v : Int) : ∀ (L st : List Int), (∀ x ∈ L, 0 ≤ x ∧ x < st.length) → ∀ j : Int, 0 ≤ j → rd (mark v L st) j = if j ∈ L then v else rd st j
  | [], st, _, j, _ => by simp [mark]
  | x :: L, st, h, j, hj => by
    have hx := h x (List.mem_cons_self ..)
    have e : mark v (x :: L) st = mark v L (st.set x.toNat v) := rfl
    rw [e, rd_mark v L _ (fun y hy => by rw [List.length_set]; exact h y (List.mem_cons_of_mem _ hy)) j hj, rdC_set st x j v hx.1 hx.2 hj]
    by_cases c : j ∈ L
    · rw [if_pos c, if_pos (List.mem_cons_of_mem _ c)]
    · rw [if_neg c]
      by_cases d : x = j
      · rw [if_pos d, if_pos (by rw [d]; exact List.mem_cons_self ..)]
      · rw [if_neg d, if_neg (fun h => (List.mem_cons.1 h).elim (fun h => d h.symm) c)]
/-- Up, as long as places are fresh. -/
def go1 (ps : List Int) : Nat → List Int → Int → List Int × Int
  | 0, st, a => (st, a)
  | f + 1, st, a => if 0 ≤ a ∧ rd st a = 0 then go1 ps f (st.set a.toNat 1) (rd ps a) else (st, a)
/-- Up, as long as places are on the walk. -/
def go2 (ps : List Int) : Nat → List Int → Int → List Int
  | 0, st, _ => st
  | f + 1, st, a => if 0 ≤ a ∧ rd st a = 1 then go2 ps f (st.set a.toNat 2) (rd ps a) else st
def inR (n : Nat) (ps : List Int) : Prop := ps.length = n ∧ ∀ p ∈ ps, -1 ≤ p ∧ p < n
theorem inR_rd {n : Nat} {ps : List Int} (h : inR n ps) {a : Int} (h0 : 0 ≤ a) (h1 : a < n) : -1 ≤ rd ps a ∧ rd ps a < n := by
  have hx : a.toNat < ps.length := by rw [h.1]; omega
  have e : rd ps a = ps[a.toNat] := by simp [rd, List.getD, hx]
  rw [e]
  exact h.2 _ (List.getElem_mem _)
def zeros (st : List Int) : Nat := st.countP (fun x => decide (x = 0))
theorem zeros_set {st : List Int} {a : Int} (h0 : 0 ≤ a) (h1 : a < st.length) (hz : rd st a = 0) : zeros (st.set a.toNat 1) + 1 = zeros st := by
  have hx : a.toNat < st.length := by omega
  have e : st[a.toNat] = 0 := by simpa [rd, List.getD, hx] using hz
  unfold zeros
  rw [List.countP_set hx, e]
  have : 0 < st.countP (fun x => decide (x = 0)) := List.countP_pos_iff.2 ⟨0, by rw [← e]; exact List.getElem_mem _, by decide⟩
  simp
  omega
theorem go1_spec {n : Nat} {ps : List Int} (hp : inR n ps) : ∀ (f : Nat) (st : List Int) (a : Int), st.length = n → zeros st < f → a < n → ∃ L b, go1 ps f st a = (mark 1 L st, b) ∧ Walk ps a L b ∧ L.Nodup ∧ (∀ x ∈ L, 0 ≤ x ∧ x < n ∧ rd st x = 0) ∧ b < n ∧ (b < 0 ∨ rd (mark 1 L st) b ≠ 0)
  | 0, st, a, hl, hz, ha => by omega
  | f + 1, st, a, hl, hz, ha => by
    unfold go1
    by_cases c : 0 ≤ a ∧ rd st a = 0
    · rw [if_pos c]
      have hzs := zeros_set c.1 (by rw [hl]; exact ha) c.2
      obtain ⟨L, b, h1, h2, h3, h4, h5, h6⟩ := go1_spec hp f (st.set a.toNat 1) (rd ps a) (by rw [List.length_set, hl]) (by omega) (inR_rd hp c.1 ha).2
      have hset : ∀ x : Int, 0 ≤ x → rd (st.set a.toNat 1) x = if a = x then 1 else rd st x := fun x hx => rdC_set st a x 1 c.1 (by rw [hl]; exact ha) hx
      have hna : ∀ x ∈ L, x ≠ a ∧ rd st x = 0 := by
        intro x hx
        obtain ⟨g0, g1, g2⟩ := h4 x hx
        rw [hset x g0] at g2
        by_cases e : a = x
        · rw [if_pos e] at g2; omega
        · rw [if_neg e] at g2; exact ⟨fun h => e h.symm, g2⟩
      refine ⟨a :: L, b, h1, .step c.1 h2, List.nodup_cons.2 ⟨fun h => (hna a h).1 rfl, h3⟩, ?_, h5, h6⟩
      intro x hx
      rcases List.mem_cons.1 hx with e | e
      · rw [e]; exact ⟨c.1, ha, c.2⟩
      · exact ⟨(h4 x e).1, (h4 x e).2.1, (hna x e).2⟩
    · rw [if_neg c]
      refine ⟨[], a, rfl, .none a, List.nodup_nil, (fun x hx => absurd hx (by simp)), ha, ?_⟩
      show a < 0 ∨ rd st a ≠ 0
      rcases Int.lt_or_le a 0 with h | h
      · exact .inl h
      · exact .inr fun e => c ⟨h, e⟩
theorem go2_spec {ps : List Int} {a : Int} {L : List Int} {b : Int} (h : Walk ps a L b) : ∀ (f : Nat) (st : List Int), L.Nodup → (∀ x ∈ L, 0 ≤ x ∧ x < st.length ∧ rd st x = 1) → (b < 0 ∨ rd (mark 2 L st) b ≠ 1) → L.length < f → go2 ps f st a = mark 2 L st := by
  induction h with
  | none a =>
    intro f st _ _ hb hf
    obtain ⟨f, rfl⟩ : ∃ g, f = g + 1 := ⟨f - 1, by simp at hf; omega⟩
    unfold go2
    rw [if_neg (fun c => hb.elim (fun h => by omega) (fun h => h c.2))]
    rfl
  | @step a L b h0 hw ih =>
    intro f st nd hx hb hf
    rw [List.length_cons] at hf
    obtain ⟨f, rfl⟩ : ∃ g, f = g + 1 := ⟨f - 1, by omega⟩
    have ha := hx a (List.mem_cons_self ..)
    have nd2 := List.nodup_cons.1 nd
    unfold go2
    rw [if_pos ⟨h0, ha.2.2⟩]
    refine ih f (st.set a.toNat 2) nd2.2 ?_ hb (by omega)
    intro x hxl
    obtain ⟨g0, g1, g2⟩ := hx x (List.mem_cons_of_mem _ hxl)
    rw [List.length_set, rdC_set st a x 2 h0 ha.2.1 g0, if_neg (show ¬ a = x from fun e => nd2.1 (by rw [e]; exact hxl))]
    exact ⟨g0, g1, g2⟩
/-- One place's round: the colours, and who is called. -/
def roundC (ps : List Int) (z : List Int × List Int) (i : Int) : List Int × List Int :=
  let r := go1 ps (ps.length + 1) z.1 i
  (go2 ps (ps.length + 1) r.1 i, if 0 ≤ r.2 ∧ rd r.1 r.2 = 1 then z.2 ++ [r.2] else z.2)
structure CycInv (n : Nat) (ps : List Int) (z : List Int × List Int) : Prop where
  len : z.1.length = n
  two : ∀ a : Int, 0 ≤ a → a < n → rd z.1 a = 0 ∨ rd z.1 a = 2
  ends : z.2 = [] → ∀ a : Int, 0 ≤ a → a < n → rd z.1 a = 2 → endsAt ps a
  bad : z.2 ≠ [] → ∃ a : Int, 0 ≤ a ∧ a < n ∧ ¬ endsAt ps a
theorem zeros_le (st : List Int) : zeros st ≤ st.length := List.countP_le_length
theorem nodup_len {n : Nat} {L : List Int} (nd : L.Nodup) (h : ∀ x ∈ L, 0 ≤ x ∧ x < n) : L.length ≤ n := by
  have key : ∀ (l m : List Int), l.Nodup → (∀ x ∈ l, x ∈ m) → l.length ≤ m.length := by
    intro l
    induction l with
    | nil => intro m _ _; exact Nat.zero_le _
    | cons a l ih =>
      intro m nd h
      have ha := h a (List.mem_cons_self ..)
      have nd2 := List.nodup_cons.1 nd
      have := ih (m.erase a) nd2.2 (fun x hx => (List.mem_erase_of_ne (show x ≠ a from fun e => nd2.1 (by rw [← e]; exact hx))).2 (h x (List.mem_cons_of_mem _ hx)))
      rw [List.length_erase_of_mem ha] at this
      have h0 : 0 < m.length := List.length_pos_of_mem ha
      rw [List.length_cons]
      omega
  have := key L ((List.range n).map fun i : Nat => (i : Int)) nd (fun x hx => List.mem_map.2 ⟨x.toNat, List.mem_range.2 (by have := h x hx; omega), by have := h x hx; omega⟩)
  simpa using this
theorem round_inv {n : Nat} {ps : List Int} (hp : inR n ps) {z : List Int × List Int} (h : CycInv n ps z) {i : Int} (h0 : 0 ≤ i) (h1 : i < n) : CycInv n ps (roundC ps z i) ∧ rd (roundC ps z i).1 i = 2 ∧ ∀ a : Int, 0 ≤ a → a < n → rd z.1 a = 2 → rd (roundC ps z i).1 a = 2 := by
  obtain ⟨st, fl⟩ := z
  obtain ⟨hlen, htwo, hends, hbad⟩ := h
  dsimp only at hlen htwo hends hbad
  have hzl := zeros_le st
  obtain ⟨L, b, g1, g2, g3, g4, g5, g6⟩ := go1_spec hp (ps.length + 1) st i hlen (by rw [hp.1]; omega) h1
  have hL : L.length ≤ n := nodup_len g3 (fun x hx => ⟨(g4 x hx).1, (g4 x hx).2.1⟩)
  have m1 : ∀ j : Int, 0 ≤ j → rd (mark 1 L st) j = if j ∈ L then 1 else rd st j := rd_mark 1 L st (fun x hx => ⟨(g4 x hx).1, by rw [hlen]; exact (g4 x hx).2.1⟩)
  have m2 : ∀ j : Int, 0 ≤ j → rd (mark 2 L (mark 1 L st)) j = if j ∈ L then 2 else rd st j := by
    intro j hj
    rw [rd_mark 2 L _ (fun x hx => ⟨(g4 x hx).1, by rw [mark_len, hlen]; exact (g4 x hx).2.1⟩) j hj, m1 j hj]
    by_cases c : j ∈ L
    · rw [if_pos c, if_pos c]
    · rw [if_neg c, if_neg c]; rw [if_neg c]
  have e2 : go2 ps (ps.length + 1) (mark 1 L st) i = mark 2 L (mark 1 L st) := by
    refine go2_spec g2 _ _ g3 (fun x hx => ⟨(g4 x hx).1, by rw [mark_len, hlen]; exact (g4 x hx).2.1, by rw [m1 x (g4 x hx).1, if_pos hx]⟩) ?_ (by rw [hp.1]; omega)
    rcases Int.lt_or_le b 0 with c | c
    · exact .inl c
    · refine .inr ?_
      rw [m2 b c]
      by_cases d : b ∈ L
      · rw [if_pos d]; decide
      · rw [if_neg d]
        rcases htwo b c g5 with e | e <;> omega
  have hround : roundC ps (st, fl) i = (mark 2 L (mark 1 L st), if 0 ≤ b ∧ b ∈ L then fl ++ [b] else fl) := by
    unfold roundC
    dsimp only
    rw [g1]
    dsimp only
    rw [e2]
    congr 1
    by_cases c : 0 ≤ b
    · rw [m1 b c]
      by_cases d : b ∈ L
      · rw [if_pos d, if_pos ⟨c, rfl⟩, if_pos ⟨c, d⟩]
      · rw [if_neg d, if_neg (show ¬ (0 ≤ b ∧ rd st b = 1) from fun h => by rcases htwo b c g5 with e | e <;> omega), if_neg (show ¬ (0 ≤ b ∧ b ∈ L) from fun h => d h.2)]
    · rw [if_neg (fun h => c h.1), if_neg (fun h => c h.1)]
  have hi2 : rd (mark 2 L (mark 1 L st)) i = 2 := by
    rw [m2 i h0]
    by_cases d : i ∈ L
    · rw [if_pos d]
    · rw [if_neg d]
      rcases htwo i h0 h1 with e | e
      · exfalso
        cases g2 with
        | none =>
          rcases g6 with h | h
          · omega
          · exact h e
        | step _ _ => exact d (List.mem_cons_self ..)
      · exact e
  rw [hround]
  refine ⟨⟨by rw [mark_len, mark_len, hlen], ?_, ?_, ?_⟩, hi2, ?_⟩
  · intro a a0 a1
    dsimp only
    rw [m2 a a0]
    by_cases d : a ∈ L
    · rw [if_pos d]; exact .inr rfl
    · rw [if_neg d]; exact htwo a a0 a1
  · intro hf a a0 a1 h2
    dsimp only at hf h2
    by_cases c : 0 ≤ b ∧ b ∈ L
    · rw [if_pos c] at hf; simp at hf
    · rw [if_neg c] at hf
      rw [m2 a a0] at h2
      by_cases d : a ∈ L
      · have hb : endsAt ps b := by
          rcases Int.lt_or_le b 0 with e | e
          · exact ⟨0, e⟩
          · have hnb : b ∉ L := fun h => c ⟨e, h⟩
            refine hends hf b e g5 ?_
            rcases htwo b e g5 with q | q
            · exfalso
              rcases g6 with g | g
              · omega
              · rw [m1 b e, if_neg hnb] at g; exact g q
            · exact q
        exact (g2.ends hb).2 a d
      · rw [if_neg d] at h2
        exact hends hf a a0 a1 h2
  · intro hf
    dsimp only at hf
    by_cases c : 0 ≤ b ∧ b ∈ L
    · exact ⟨b, c.1, g5, g2.round c.2 b c.2⟩
    · rw [if_neg c] at hf
      exact hbad hf
  · intro a a0 a1 h2
    dsimp only at h2 ⊢
    rw [m2 a a0]
    by_cases d : a ∈ L
    · rw [if_pos d]
    · rw [if_neg d]; exact h2
def cycZ (ps : List Int) : Nat → List Int × List Int
  | 0 => (List.replicate ps.length 0, [])
  | k + 1 => roundC ps (cycZ ps k) (k : Int)
theorem cyc_inv {n : Nat} {ps : List Int} (hp : inR n ps) : ∀ k : Nat, k ≤ n → CycInv n ps (cycZ ps k) ∧ ∀ a : Int, 0 ≤ a → a < k → rd (cycZ ps k).1 a = 2
  | 0, _ => by
    have hr : ∀ a : Int, 0 ≤ a → a < n → rd (List.replicate ps.length (0 : Int)) a = 0 := fun a a0 a1 => by
      have hx : a.toNat < ps.length := by rw [hp.1]; omega
      simp [rd, List.getD, hx]
    refine ⟨⟨by simp [cycZ, hp.1], fun a a0 a1 => .inl (hr a a0 a1), ?_, fun h => absurd rfl h⟩, fun a a0 a1 => by omega⟩
    intro _ a a0 a1 h
    have := hr a a0 a1
    have h' : rd (List.replicate ps.length (0 : Int)) a = 2 := h
    omega
  | k + 1, hk => by
    obtain ⟨h1, h2⟩ := cyc_inv hp k (by omega)
    obtain ⟨g1, g2, g3⟩ := round_inv hp h1 (i := (k : Int)) (by omega) (by omega)
    refine ⟨g1, fun a a0 a1 => ?_⟩
    by_cases e : a = (k : Int)
    · rw [e]; exact g2
    · exact g3 a a0 (by omega) (h2 a a0 (by omega))
/-- None is called just if all walks up end. -/
theorem cyc_none {n : Nat} {ps : List Int} (hp : inR n ps) : (cycZ ps n).2 = [] ↔ ∀ a : Int, 0 ≤ a → a < n → endsAt ps a := by
  obtain ⟨h1, h2⟩ := cyc_inv hp n (Nat.le_refl _)
  constructor
  · intro h a a0 a1
    exact h1.ends h a a0 a1 (h2 a a0 a1)
  · intro h
    cases hc : (cycZ ps n).2 with
    | nil => rfl
    | cons x l =>
      obtain ⟨a, a0, a1, hb⟩ := h1.bad (by rw [hc]; simp)
      exact absurd (h a a0 a1) hb
/-- A walk that ends does so within as many steps as there are places, and one. -/
theorem ends_in {n : Nat} {ps : List Int} (hp : inR n ps) {a : Int} (a1 : a < n) : endsAt ps a ↔ upL ps a (n + 1) < 0 := by
  refine ⟨fun h => ?_, fun h => ⟨_, h⟩⟩
  have hz := zeros_le (List.replicate n (0 : Int))
  rw [List.length_replicate] at hz
  obtain ⟨L, b, g1, g2, g3, g4, g5, g6⟩ := go1_spec hp (n + 1) (List.replicate n 0) a (by simp) (by omega) a1
  have hL : L.length ≤ n := nodup_len g3 (fun x hx => ⟨(g4 x hx).1, (g4 x hx).2.1⟩)
  rcases Int.lt_or_le b 0 with c | c
  · have := upL_more ps L.length a (by rw [g2.up]; exact c) (n + 1 - L.length)
    rw [show L.length + (n + 1 - L.length) = n + 1 by omega] at this
    exact this
  · exfalso
    have hbL : b ∈ L := by
      rcases g6 with g | g
      · omega
      · rw [rd_mark 1 L _ (fun x hx => ⟨(g4 x hx).1, by rw [List.length_replicate]; exact (g4 x hx).2.1⟩) b c] at g
        by_cases d : b ∈ L
        · exact d
        · rw [if_neg d] at g
          exfalso
          apply g
          have hx : b.toNat < n := by omega
          simp [rd, List.getD, hx]
    have hr := g2.round hbL
    cases g2 with
    | none => cases hbL
    | step _ _ => exact hr a (List.mem_cons_self ..) h
end Go.Proofs.Ytmfdhcgdibefiaa.L

/- parent.Right's closure: it says no. -/
namespace Go.Proofs.Ytmfdhcgdibefiaa.L
open Go.RowKit Go.Proofs.Ytmfdhcgdibefiaa.Q Go.Proofs.YtmfdhcgdibefiaaW.PrintWords Go.Proofs.YtmfdhcgdibefiaaW.PrintLast Go.Proofs.YtmfdhcgdibefiaaW.PrintMore Go.Proofs.YtmfdhcgdibefiaaW.Lib Go.Proofs.YtmfdhcgdibefiaaW.MapB
set_option linter.unusedVariables false

theorem no_calls (x : Int) (B : Nat) (b : Bool) (w : World) (hb : Boxed w B 4 (.bool b)) :
    Calls Try.prog 94 #[.int .i64 x, .pointer (some ⟨B, 0, none⟩)] w fun e w' => e = .returned (.tuple #[]) ∧ Boxed w' B 4 (.bool false) ∧ w.grownBy w' (some B) := by
  have hc := hb.cell
  have hf := hb.frozen
  go_enter Try.func94, Try.ntmps94
  go_wp2
  go_end0
  exact ⟨rfl, hb.set _, grownBy_setCell' _ _ _⟩
end Go.Proofs.Ytmfdhcgdibefiaa.L

/- parent.cycles : the block of colours. -/
namespace Go.Proofs.Ytmfdhcgdibefiaa.L
open Go.RowKit Go.Proofs.Ytmfdhcgdibefiaa.Q Go.Proofs.YtmfdhcgdibefiaaW.PrintWords Go.Proofs.YtmfdhcgdibefiaaW.PrintLast Go.Proofs.YtmfdhcgdibefiaaW.PrintMore Go.Proofs.YtmfdhcgdibefiaaW.Lib Go.Proofs.YtmfdhcgdibefiaaW.MapB
set_option linter.unusedVariables false

/-- A block of whole numbers. -/
def rowB (W : World) (g : Nat) (st : List Int) : Prop := W.heap[g]? = some (.cells (st.map (Value.int .i64)).toArray 3 (0, 0))
theorem rowB_cell {W : World} {g : Nat} {st : List Int} (h : rowB W g st) {a : Int} (h0 : 0 ≤ a) (h1 : a < st.length) : W.cell? ⟨g, a.toNat, none⟩ = some (.int .i64 (rd st a)) := by
  have hx : a.toNat < st.length := by omega
  unfold rowB at h
  simp [World.cell?, h, rd, List.getD, hx]
theorem rowB_frozen {W : World} {g : Nat} {st : List Int} (h : rowB W g st) (a : Nat) : W.frozen? ⟨g, a, none⟩ = false := by
  unfold rowB at h
  simp [World.frozen?, h]
theorem rowB_set {W : World} {g : Nat} {st : List Int} (h : rowB W g st) (a : Nat) (v : Int) : rowB (W.setCell ⟨g, a, none⟩ (.int .i64 v)) g (st.set a v) := by
  unfold rowB at *
  obtain ⟨hlt, hk⟩ := Array.getElem?_eq_some_iff.1 h
  show (W.heap.modify g _)[g]? = _
  rw [Array.getElem?_eq_getElem (by rw [Array.size_modify]; exact hlt), Array.getElem_modify_self, hk]
  simp [List.map_set]
theorem rowB_kept {W W' : World} {g : Nat} {st : List Int} {row : Option Nat} (h : rowB W g st) (hg : W.grownBy W' row) (hne : some g ≠ row) : rowB W' g st := (hg.block g (Array.getElem?_eq_some_iff.1 h).1 hne).trans h
theorem heap_made (W : World) (z : Value) (n : Nat) (e : TypeId) : (W.alloc (.cells (madeCells #[z] n) e)).heap[W.heap.size]? = some (.cells (List.replicate n z).toArray e (0, 0)) := by
  have h := (MapKept.heap_alloc W (.cells (madeCells #[z] n) e)).1
  have e1 : madeCells #[z] n = (List.replicate n z).toArray := by
    apply Array.ext
    · simp [madeCells]
    · intro i h1 h2
      simp [madeCells, Nat.mod_one]
  exact h.trans (by rw [e1])
end Go.Proofs.Ytmfdhcgdibefiaa.L

/- parent.cycles: small facts of its walk. -/
namespace Go.Proofs.Ytmfdhcgdibefiaa.L
open Go.RowKit Go.Proofs.Ytmfdhcgdibefiaa.Q Go.Proofs.YtmfdhcgdibefiaaW.PrintWords Go.Proofs.YtmfdhcgdibefiaaW.PrintLast Go.Proofs.YtmfdhcgdibefiaaW.PrintMore Go.Proofs.YtmfdhcgdibefiaaW.Lib Go.Proofs.YtmfdhcgdibefiaaW.MapB
set_option linter.unusedVariables false

theorem grownBy_set (W : World) (g o : Nat) (v : Value) : W.grownBy (W.setCell ⟨g, o, none⟩ v) (some g) :=
  ⟨rfl, rfl, rfl, (KeepsWalks.setCell W _ v).size, fun k _ hk => Below.heap_setCell _ _ _ k (fun e => hk (by rw [e]))⟩
theorem go1_on {ps : List Int} {f : Nat} {st : List Int} {a : Int} (c : 0 ≤ a ∧ rd st a = 0) : go1 ps (f + 1) st a = go1 ps f (st.set a.toNat 1) (rd ps a) := by
  show (if _ then _ else _) = _
  rw [if_pos c]
theorem go1_stop {ps : List Int} {f : Nat} {st : List Int} {a : Int} (c : ¬ rd st a = 0) : go1 ps (f + 1) st a = (st, a) := by
  show (if _ then _ else _) = _
  rw [if_neg (fun h => c h.2)]
theorem go1_len (ps : List Int) : ∀ (f : Nat) (st : List Int) (a : Int), (go1 ps f st a).1.length = st.length
  | 0, _, _ => rfl
  | f + 1, st, a => by
    unfold go1
    split
    · rw [go1_len ps f, List.length_set]
    · rfl
def ones (st : List Int) : Nat := st.countP (fun x => decide (x = 1))
theorem ones_set {st : List Int} {a : Int} (h0 : 0 ≤ a) (h1 : a < st.length) (hz : rd st a = 1) : ones (st.set a.toNat 2) + 1 = ones st := by
  have hx : a.toNat < st.length := by omega
  have e : st[a.toNat] = 1 := by simpa [rd, List.getD, hx] using hz
  unfold ones
  rw [List.countP_set hx, e]
  have : 0 < st.countP (fun x => decide (x = 1)) := List.countP_pos_iff.2 ⟨1, by rw [← e]; exact List.getElem_mem _, by decide⟩
  simp
  omega
theorem go2_on {ps : List Int} {f : Nat} {st : List Int} {a : Int} (c : 0 ≤ a ∧ rd st a = 1) : go2 ps (f + 1) st a = go2 ps f (st.set a.toNat 2) (rd ps a) := by
  show (if _ then _ else _) = _
  rw [if_pos c]
theorem go2_stop {ps : List Int} {f : Nat} {st : List Int} {a : Int} (c : ¬ (0 ≤ a ∧ rd st a = 1)) : go2 ps (f + 1) st a = st := by
  show (if _ then _ else _) = _
  rw [if_neg c]
end Go.Proofs.Ytmfdhcgdibefiaa.L

/- parent.cycles with parent.Right's closure: the walk. -/
namespace Go.Proofs.Ytmfdhcgdibefiaa.L
open Go.RowKit Go.Proofs.Ytmfdhcgdibefiaa.Q Go.Proofs.YtmfdhcgdibefiaaW.PrintWords Go.Proofs.YtmfdhcgdibefiaaW.PrintLast Go.Proofs.YtmfdhcgdibefiaaW.PrintMore Go.Proofs.YtmfdhcgdibefiaaW.Lib Go.Proofs.YtmfdhcgdibefiaaW.MapB
set_option linter.unusedVariables false

set_option maxHeartbeats 1000000 in
set_option maxRecDepth 100000 in
theorem cycles_right (ps : List Int) (hp : inR ps.length ps) (hl : ps.length ≤ 1000000) (A0 : Option Addr) (c0 B : Nat) (w0 w : World) (hr0 : Kd.C (Kd.int .i64) w0 A0 ps.length ps) (hb0 : Below w0.heap.size w0 w) (hBb : w0.heap.size ≤ B) (hbox : Boxed w B 4 (.bool true)) :
    Calls Try.prog 93 #[.slice A0 ps.length c0, .func (.func 94) #[] #[.pointer (some ⟨B, 0, none⟩)]] w fun e w' => e = .returned (.tuple #[]) ∧ Boxed w' B 4 (.bool (decide ((cycZ ps ps.length).2 = []))) ∧ Below w0.heap.size w0 w' := by
  have hmk := print_make 29 3 .i64 8 Try.underlying29 (by kernel_rfl) (by omega) ps.length (by omega)
  have HR0 := Aside0.mk hr0
  have HB0 := Aside0.mk (fun o => below_alloc hb0 o)
  have HX := Aside0.mk (fun o => hbox.alloc o)
  have HBg := Aside0.mk hbox.lt
  have HP := Aside0.mk hp
  have HL := Aside0.mk hl
  have HI := Aside0.mk (cyc_inv hp)
  have hn0 : decide ((ps.length : Int) < 0) = false := decide_eq_false (by omega)
  have hnm : decide ((9223372036854775807 : Int) < (ps.length : Int)) = false := decide_eq_false (by omega)
  clear hr0 hb0 hbox hp hl
  go_enter Try.func93, Try.ntmps93
  go_wp2_with fail
  have HG0 : Aside0 (rowB (w.alloc (.cells (madeCells #[Value.int .i64 0] ps.length) 3)) w.heap.size (cycZ ps 0).1) := ⟨by
    show _ = some (Obj.cells ((List.replicate ps.length (0 : Int)).map (Value.int .i64)).toArray 3 (0, 0))
    rw [List.map_replicate]
    exact heap_made w _ _ _⟩
  generalize hgg : w.heap.size = g at *
  have HWg := Aside0.mk (show w0.heap.size ≤ g from by have := HBg.out; omega)
  go_loopg [12] ps.length (fun kq v12 w' => ∃ x : Nat, v12 = .int .i64 (x : Int) ∧ Aside0 (x + kq = ps.length) ∧ Aside0 (rowB w' g (cycZ ps x).1) ∧ Aside0 (Boxed w' B 4 (.bool (decide ((cycZ ps x).2 = [])))) ∧ Aside0 (Below w0.heap.size w0 w'))
  case atStart => exact ⟨0, rfl, ⟨by omega⟩, HG0, ⟨HX.out _⟩, ⟨HB0.out _⟩⟩
  case round =>
    clear HG0 HB0 HX
    obtain ⟨x, rfl, HK, HG, HX, HB⟩ := hrel
    by_cases c1 : (x : Int) < (ps.length : Int)
    · have c1b := decide_eq_true c1
      have HI1 := Aside0.mk (HI.out x (by omega)).1
      have HW1 := Aside0.mk (show wrap64 ((x : Int) + 1) = ((x + 1 : Nat) : Int) from by unfold wrap64; have := HL.out; omega)
      have HN := Aside0.mk (show cycZ ps (x + 1) = roundC ps (cycZ ps x) (x : Int) from rfl)
      have C1 := Aside0.mk c1
      replace c1 := eq_true c1
      obtain ⟨k1, rfl⟩ : ∃ k1, gk = k1 + 1 := ⟨gk - 1, by have := HK.out; have := C1.out; omega⟩
      go_wp2_with fail
      apply wp_scope_straight
      go_wp2_with fail
      apply wp_label
      rename_i hK
      refine hK _ _ ?_
      clear hK
      apply wp_seq_k
      intro _ _
      go_cut [6] (fun v6 wc => ∃ (a : Int) (st : List Int), v6 = .int .i64 a ∧ Aside0 (go1 ps (ps.length + 1) (cycZ ps x).1 (x : Int) = (st, a)) ∧ Aside0 (rowB wc g st) ∧ Aside0 (Boxed wc B 4 (.bool (decide ((roundC ps (cycZ ps x) (x : Int)).2 = [])))) ∧ Aside0 (Below w0.heap.size w0 wc))
      case first =>
        go_wp2_with fail
        go_loopg [6] (ps.length + 1) (fun kq v6 w' => ∃ (a : Int) (st : List Int), v6 = .int .i64 a ∧ Aside0 (go1 ps kq st a = go1 ps (ps.length + 1) (cycZ ps x).1 (x : Int) ∧ a < ps.length ∧ st.length = ps.length ∧ zeros st < kq ∧ ∀ j : Int, 0 ≤ j → j < ps.length → rd st j = 0 ∨ rd st j = 1 ∨ rd st j = 2) ∧ Aside0 (rowB w' g st) ∧ Aside0 (Boxed w' B 4 (.bool (decide ((cycZ ps x).2 = [])))) ∧ Aside0 (Below w0.heap.size w0 w'))
        case atStart => exact ⟨x, _, rfl, ⟨rfl, by have := C1.out; omega, HI1.out.len, by have := zeros_le (cycZ ps x).1; have := HI1.out.len; omega, fun j j0 j1 => (HI1.out.two j j0 j1).elim .inl (fun h => .inr (.inr h))⟩, HG, HX, HB⟩
        case round =>
          clear HG HX HB
          obtain ⟨a, st, rfl, HA, HG, HX, HB⟩ := hrel
          obtain ⟨kf, rfl⟩ : ∃ kf, gk = kf + 1 := ⟨gk - 1, by have := HA.out.2.2.2.1; omega⟩
          by_cases c2 : a < 0
          · have c2b := decide_eq_true c2
            have H1 : Aside0 (go1 ps (ps.length + 1) (cycZ ps x).1 (x : Int) = (st, a)) := ⟨by rw [← HA.out.1]; unfold go1; rw [if_neg (by omega)]⟩
            have H2 : Aside0 ((roundC ps (cycZ ps x) (x : Int)).2 = (cycZ ps x).2) := ⟨by unfold roundC; dsimp only; rw [H1.out]; dsimp only; rw [if_neg (by omega)]⟩
            replace c2 := eq_true c2
            go_wp2_with fail
            go_meet
            case rel => exact ⟨a, st, rfl, H1, HG, ⟨by rw [H2.out]; exact HX.out⟩, HB⟩
          · have c2b := decide_eq_false c2
            have p2 : 0 ≤ a := by omega
            have c3 : a < (ps.length : Int) := HA.out.2.1
            have hcell := rowB_cell HG.out p2 (by rw [HA.out.2.2.1]; exact c3)
            have hcol := HA.out.2.2.2.2 a p2 c3
            replace c2 := eq_false c2
            replace p2 := eq_true p2
            replace c3 := eq_true c3
            rcases hcol with hv | hv | hv
            · have H1 : Aside0 (go1 ps kf (st.set a.toNat 1) (rd ps a) = go1 ps (ps.length + 1) (cycZ ps x).1 (x : Int)) := ⟨by rw [← HA.out.1, go1_on ⟨of_eq_true p2, hv⟩]⟩
              have HZ := Aside0.mk (zeros_set (of_eq_true p2) (by rw [HA.out.2.2.1]; exact of_eq_true c3) hv)
              have HR := Aside0.mk (inR_rd HP.out (of_eq_true p2) (of_eq_true c3))
              have HS := Aside0.mk (rowB_set HG.out a.toNat 1)
              have hgs := grownBy_set wr g a.toNat (.int .i64 1)
              have HXs := Aside0.mk (HX.out.kept hgs (fun e => by have h := Option.some.inj e; have := HBg.out; omega))
              have HBs := Aside0.mk (HB.out.grown hgs HB.out.size (fun j hj => by cases hj; exact HWg.out))
              have hfz := rowB_frozen HG.out a.toNat
              have HSet := Aside0.mk (fun (j : Int) (hj : 0 ≤ j) => rdC_set st a j 1 (of_eq_true p2) (by rw [HA.out.2.2.1]; exact of_eq_true c3) hj)
              obtain ⟨ad, e1, hx⟩ := Kd.at_int (Kd.C_below HR0.out HBs.out) a (of_eq_true p2) (of_eq_true c3)
              cases e1
              clear hgs
              rw [hv] at hcell
              go_wp2_with fail
              go_roundg kf
              case measure => omega
              case rel => exact ⟨rd ps a, st.set a.toNat 1, rfl, ⟨H1.out, HR.out.2, by rw [List.length_set]; exact HA.out.2.2.1, by have := HZ.out; have := HA.out.2.2.2.1; omega, fun j j0 j1 => by
                rw [HSet.out j j0]
                split
                · exact .inr (.inl rfl)
                · exact HA.out.2.2.2.2 j j0 j1⟩, HS, HXs, HBs⟩
            · have H1 : Aside0 (go1 ps (ps.length + 1) (cycZ ps x).1 (x : Int) = (st, a)) := ⟨by rw [← HA.out.1, go1_stop (by omega)]⟩
              have H2 : Aside0 ((roundC ps (cycZ ps x) (x : Int)).2 ≠ []) := ⟨by unfold roundC; dsimp only; rw [H1.out]; dsimp only; rw [if_pos ⟨of_eq_true p2, hv⟩]; simp⟩
              rw [hv] at hcell
              go_wp2_with (go_at_call 94; refine (no_calls _ _ _ _ HX.out).mono ?_; rintro e w3 ⟨rfl, hb3, hg3⟩; have HX3 := Aside0.mk hb3; have HG3 := Aside0.mk (rowB_kept HG.out hg3 (fun e => by have h := Option.some.inj e; have := HBg.out; omega)); have HB3 := Aside0.mk (HB.out.grown hg3 HB.out.size (fun j hj => by cases hj; exact hBb)); clear hb3 hg3)
              go_meet
              case rel => exact ⟨a, st, rfl, H1, HG3, ⟨by rw [decide_eq_false H2.out]; exact HX3.out⟩, HB3⟩
            · have H1 : Aside0 (go1 ps (ps.length + 1) (cycZ ps x).1 (x : Int) = (st, a)) := ⟨by rw [← HA.out.1, go1_stop (by omega)]⟩
              have H2 : Aside0 ((roundC ps (cycZ ps x) (x : Int)).2 = (cycZ ps x).2) := ⟨by unfold roundC; dsimp only; rw [H1.out]; dsimp only; rw [if_neg (by omega)]⟩
              rw [hv] at hcell
              go_wp2_with fail
              go_meet
              case rel => exact ⟨a, st, rfl, H1, HG, ⟨by rw [H2.out]; exact HX.out⟩, HB⟩
      case rest =>
        obtain ⟨a, st, rfl, H1, HG2, HX2, HB2⟩ := hcut
        obtain ⟨w5, rfl⟩ : ∃ w5 : World, w5 = wc := ⟨_, rfl⟩
        have HLen := Aside0.mk (show st.length = ps.length by have h := go1_len ps (ps.length + 1) (cycZ ps x).1 (x : Int); rw [H1.out] at h; exact h.trans HI1.out.len)
        clear HG HX HB
        go_wp2_with fail
        go_loopg [6] (ps.length + 1) (fun kq v6 w' => ∃ (a : Int) (sb : List Int), v6 = .int .i64 a ∧ Aside0 (go2 ps kq sb a = go2 ps (ps.length + 1) st (x : Int) ∧ a < ps.length ∧ sb.length = ps.length ∧ ones sb < kq) ∧ Aside0 (rowB w' g sb) ∧ Aside0 (Boxed w' B 4 (.bool (decide ((roundC ps (cycZ ps x) (x : Int)).2 = [])))) ∧ Aside0 (Below w0.heap.size w0 w'))
        case atStart => exact ⟨x, st, rfl, ⟨rfl, by have := C1.out; omega, HLen.out, by have : ones st ≤ st.length := List.countP_le_length; have := HLen.out; omega⟩, HG2, HX2, HB2⟩
        case round =>
          clear HG2 HX2 HB2
          obtain ⟨a, sb, rfl, HA, HG, HX, HB⟩ := hrel
          obtain ⟨kf, rfl⟩ : ∃ kf, gk = kf + 1 := ⟨gk - 1, by have := HA.out.2.2.2; omega⟩
          by_cases c2 : a < 0
          · have c2b := decide_eq_true c2
            have HE := Aside0.mk (show (cycZ ps (x + 1)).1 = sb from by rw [HN.out]; unfold roundC; dsimp only; rw [H1.out]; dsimp only; rw [← HA.out.1, go2_stop (fun h => by omega)])
            have c2g : decide (0 ≤ a) = false := decide_eq_false (by omega)
            have c2h : (0 ≤ a) = False := eq_false (by omega)
            clear c2 c2b
            go_wp2_with fail
            rw [Exit.noGoto_normal]
            go_wp2_with fail
            go_roundg k1
            case measure => omega
            case rel => exact ⟨x + 1, by rw [HW1.out], ⟨by have := HK.out; omega⟩, ⟨by rw [HE.out]; exact HG.out⟩, ⟨by rw [HN.out]; exact HX.out⟩, HB⟩
          · have c2b := decide_eq_false c2
            have p2 : 0 ≤ a := by omega
            have c3 : a < (ps.length : Int) := HA.out.2.1
            have hcell := rowB_cell HG.out p2 (by rw [HA.out.2.2.1]; exact c3)
            by_cases hv : rd sb a = 1
            · have H3 : Aside0 (go2 ps kf (sb.set a.toNat 2) (rd ps a) = go2 ps (ps.length + 1) st (x : Int)) := ⟨by rw [← HA.out.1, go2_on ⟨p2, hv⟩]⟩
              have HZ := Aside0.mk (ones_set p2 (by rw [HA.out.2.2.1]; exact c3) hv)
              have HR := Aside0.mk (inR_rd HP.out p2 c3)
              have HS := Aside0.mk (rowB_set HG.out a.toNat 2)
              have hgs := grownBy_set wr g a.toNat (.int .i64 2)
              have HXs := Aside0.mk (HX.out.kept hgs (fun e => by have h := Option.some.inj e; have := HBg.out; omega))
              have HBs := Aside0.mk (HB.out.grown hgs HB.out.size (fun j hj => by cases hj; exact HWg.out))
              have hfz := rowB_frozen HG.out a.toNat
              obtain ⟨ad, e1, hx⟩ := Kd.at_int (Kd.C_below HR0.out HBs.out) a p2 c3
              cases e1
              clear hgs
              replace c2 := eq_false c2
              replace p2 := eq_true p2
              replace c3 := eq_true c3
              rw [hv] at hcell
              go_wp2_with fail
              go_roundg kf
              case measure => omega
              case rel => exact ⟨rd ps a, sb.set a.toNat 2, rfl, ⟨H3.out, HR.out.2, by rw [List.length_set]; exact HA.out.2.2.1, by have := HZ.out; have := HA.out.2.2.2; omega⟩, HS, HXs, HBs⟩
            · have hvb := decide_eq_false hv
              have HE := Aside0.mk (show (cycZ ps (x + 1)).1 = sb from by rw [HN.out]; unfold roundC; dsimp only; rw [H1.out]; dsimp only; rw [← HA.out.1, go2_stop (fun h => hv h.2)])
              replace c2 := eq_false c2
              replace p2 := eq_true p2
              replace c3 := eq_true c3
              generalize hq : rd sb a = q at *
              go_wp2_with fail
              rw [Exit.noGoto_normal]
              go_wp2_with fail
              go_roundg k1
              case measure => omega
              case rel => exact ⟨x + 1, by rw [HW1.out], ⟨by have := HK.out; omega⟩, ⟨by rw [HE.out]; exact HG.out⟩, ⟨by rw [HN.out]; exact HX.out⟩, HB⟩
    · have c1b := decide_eq_false c1
      have hx : x = ps.length := by have := HK.out; omega
      subst hx
      go_wp2
      go_end0
      exact ⟨rfl, HX.out, HB.out⟩
end Go.Proofs.Ytmfdhcgdibefiaa.L

/- merkhetref10.up and Right: plain. -/
namespace Go.Proofs.Ytmfdhcgdibefiaa.L
open Go.RowKit Go.Proofs.Ytmfdhcgdibefiaa.Q Go.Proofs.YtmfdhcgdibefiaaW.PrintWords Go.Proofs.YtmfdhcgdibefiaaW.Lib
set_option linter.unusedVariables false
/-- A forest's. -/
def rightB (ps : List Int) : Bool := ps.all (fun p => decide (-1 ≤ p) && decide (p < ps.length)) && (List.range ps.length).all (fun i : Nat => decide (upL ps i (ps.length + 1) < 0))
/-- As parent.Right says it. -/
theorem rightB_cyc {ps : List Int} (hp : inR ps.length ps) : rightB ps = decide ((cycZ ps ps.length).2 = []) := by
  rw [Bool.eq_iff_iff, decide_eq_true_eq, cyc_none hp]
  unfold rightB
  rw [Bool.and_eq_true, List.all_eq_true, List.all_eq_true]
  constructor
  · rintro ⟨_, h⟩ a a0 a1
    have := h a.toNat (List.mem_range.2 (by omega))
    rw [decide_eq_true_eq, show ((a.toNat : Nat) : Int) = a by omega] at this
    exact ⟨_, this⟩
  · intro h
    refine ⟨fun p hm => by have := hp.2 p hm; simp only [Bool.and_eq_true, decide_eq_true_eq]; exact this, fun i hi => ?_⟩
    have hi' := List.mem_range.1 hi
    rw [decide_eq_true_eq]
    exact (ends_in hp (by omega)).1 (h i (by omega) (by omega))
end Go.Proofs.Ytmfdhcgdibefiaa.L

/- parent.Right: the walk. -/
namespace Go.Proofs.Ytmfdhcgdibefiaa.L
open Go.RowKit Go.Proofs.Ytmfdhcgdibefiaa.Q Go.Proofs.YtmfdhcgdibefiaaW.PrintWords Go.Proofs.YtmfdhcgdibefiaaW.PrintLast Go.Proofs.YtmfdhcgdibefiaaW.PrintMore Go.Proofs.YtmfdhcgdibefiaaW.Lib Go.Proofs.YtmfdhcgdibefiaaW.MapB
set_option linter.unusedVariables false

def okP (n : Nat) (p : Int) : Bool := decide (-1 ≤ p) && decide (p < n)
theorem rightB_bad {ps : List Int} {x : Int} (h0 : 0 ≤ x) (h1 : x < ps.length) (hb : okP ps.length (rd ps x) = false) : rightB ps = false := by
  have hlt : x.toNat < ps.length := by omega
  have e : rd ps x = ps[x.toNat] := by simp [rd, List.getD, hlt]
  rw [e] at hb
  unfold rightB
  rw [Bool.and_eq_false_iff]
  left
  rw [Bool.eq_false_iff]
  intro h
  have := List.all_eq_true.1 h ps[x.toNat] (List.getElem_mem hlt)
  unfold okP at hb
  rw [hb] at this
  cases this
set_option maxHeartbeats 1000000 in
set_option maxRecDepth 100000 in
theorem right_calls (ps : List Int) (hl : ps.length ≤ 1000000) (A0 : Option Addr) (c0 : Nat) (w : World) (hr0 : Kd.C (Kd.int .i64) w A0 ps.length ps) (hc0 : ps.length ≤ c0) :
    Calls Try.prog 40 #[.slice A0 ps.length c0] w fun e w' => e = .returned (.bool (rightB ps)) ∧ Below w.heap.size w w' := by
  have hmf : ∀ (fn : Fn) (first cap : Array Value) (w : World), (Instr.makeFunc fn first cap).run Try.prog w = .ok (.func fn first cap) w := fun _ _ _ _ => rfl
  have HR0 := Aside0.mk hr0
  have HL := Aside0.mk hl
  have HB0 := Aside0.mk (Below.refl w.heap.size w)
  have QC := Aside0.mk (fun hp B w1 h1 h2 h3 => cycles_right ps hp hl A0 c0 B w w1 hr0 h1 h2 h3)
  clear hr0 hl hc0
  go_enter Try.func40, Try.ntmps40
  go_wp2_with fail
  go_loopg [8] ps.length (fun kq v8 w' => ∃ x8 : Int, v8 = .int .i64 x8 ∧ Aside0 (0 ≤ x8 ∧ x8 + kq = ps.length ∧ ∀ j : Nat, (j : Int) < x8 → okP ps.length (rd ps j) = true) ∧ Aside0 (w' = w))
  case atStart => exact ⟨0, rfl, ⟨by omega, by omega, fun j hj => by omega⟩, ⟨rfl⟩⟩
  case round =>
    obtain ⟨x8, rfl, HK, HW⟩ := hrel
    obtain rfl := HW.out
    by_cases c1 : x8 < (ps.length : Int)
    · have c1b := decide_eq_true c1
      have p1 : 0 ≤ x8 := HK.out.1
      obtain ⟨ad1, e1, hx0⟩ := Kd.at_int HR0.out x8 p1 c1
      cases e1
      have W1 := Aside0.mk (show wrap64 (x8 + 1) = x8 + 1 from by unfold wrap64; have := HL.out; omega)
      have HBad := Aside0.mk (fun h => rightB_bad (ps := ps) (x := x8) p1 c1 h)
      have P1 := Aside0.mk p1
      have Q1 := Aside0.mk c1
      obtain ⟨k1, rfl⟩ : ∃ k1, gk = k1 + 1 := ⟨gk - 1, by have := HK.out; omega⟩
      replace p1 := eq_true p1
      replace c1 := eq_true c1
      generalize hq : rd ps x8 = p at *
      have HQ := Aside0.mk hq
      clear hq
      by_cases c2 : p < -1
      · have c2b := decide_eq_true c2
        have HF := Aside0.mk (HBad.out (by unfold okP; rw [decide_eq_false (by omega)]; rfl))
        replace c2 := eq_true c2
        go_wp2_with fail
        go_ret
        exact ⟨by rw [HF.out]; rfl, HB0.out⟩
      · have c2b := decide_eq_false c2
        by_cases c3 : (ps.length : Int) ≤ p
        · have c3b := decide_eq_true c3
          have HF := Aside0.mk (HBad.out (by unfold okP; rw [decide_eq_false (show ¬ p < ps.length by omega)]; simp))
          replace c2 := eq_false c2
          replace c3 := eq_true c3
          go_wp2_with fail
          go_ret
          exact ⟨by rw [HF.out]; rfl, HB0.out⟩
        · have c3b := decide_eq_false c3
          have HO := Aside0.mk (show okP ps.length p = true from by unfold okP; rw [decide_eq_true (show -1 ≤ p by omega), decide_eq_true (show p < ps.length by omega)]; rfl)
          replace c2 := eq_false c2
          replace c3 := eq_false c3
          go_wp2_with fail
          go_roundg k1
          case measure => omega
          case rel => exact ⟨x8 + 1, by rw [W1.out], ⟨by have := P1.out; omega, by have := HK.out; omega, fun j hj => by
            by_cases e : (j : Int) = x8
            · rw [e, HQ.out]; exact HO.out
            · exact HK.out.2.2 j (by omega)⟩, ⟨rfl⟩⟩
    · have c1b := decide_eq_false c1
      have hin : inR ps.length ps := ⟨rfl, fun p hp => by
        obtain ⟨j, hj, rfl⟩ := List.getElem_of_mem hp
        have h := HK.out.2.2 j (by have := HK.out; omega)
        have e : rd ps (j : Int) = ps[j] := by simp [rd, List.getD, hj]
        rw [e] at h
        unfold okP at h
        rw [Bool.and_eq_true, decide_eq_true_eq, decide_eq_true_eq] at h
        exact h⟩
      have QR := Aside0.mk (QC.out hin wr.heap.size (wr.alloc (.cells #[.bool true] 4)) (below_alloc HB0.out _) (Nat.le_refl _) (Boxed.new _ _ _))
      have HE := Aside0.mk (rightB_cyc hin)
      clear hin QC c1
      go_wp2_with (go_at_call 93; refine QR.out.mono ?_; rintro e w1 ⟨rfl, hb, hbl⟩; have hcb := hb.cell; have HB := Aside0.mk hbl; clear hb hbl)
      go_ret
      exact ⟨by rw [HE.out]; rfl, HB.out⟩
end Go.Proofs.Ytmfdhcgdibefiaa.L

-- Written by wip/tools/gp.py, a program of this session round the kit's printer. Lean checks it.
namespace Go.Proofs.Ytmfdhcgdibefiaa.R
open Go.RowKit Go.Proofs.Ytmfdhcgdibefiaa.Q Go.Proofs.YtmfdhcgdibefiaaW.PrintWords Go.Proofs.YtmfdhcgdibefiaaW.PrintLast Go.Proofs.YtmfdhcgdibefiaaW.PrintMore
attribute [local go_sem] max2_int min2_int max_two min_two max_three min_three max_four min_four   -- for this text's walks alone
set_option linter.unusedVariables false
set_option linter.unusedSimpArgs false




theorem info2 : (Try.prog.info? 2).map (fun i => (i.zero, i.size, i.bytes)) = some (some (.int .i64 0), 1, 8) := by kernel_rfl
theorem info26 : (Try.prog.info? 26).map (fun i => (i.zero, i.size, i.bytes)) = some (some (.agg #[(.int .i64 0), (.int .i64 0)]), 2, 16) := by kernel_rfl
theorem info37 : (Try.prog.info? 37).map (fun i => (i.zero, i.size, i.bytes)) = some (some (.agg #[(.int .u64 0), (.int .u64 0), (.int .u64 0), (.int .u8 0), (.string ⟨#[]⟩), (.string ⟨#[]⟩), (.int .i64 0), (.int .i64 0)]), 8, 80) := by kernel_rfl
/-! #### struct type 26 -/
structure S26 where
  f0 : Int
  f1 : Int
def k26 : Kd S26 := Kd.iso (Kd.pair (Kd.int .i64) (Kd.int .i64)) (fun x : S26 => (x.f0, x.f1))
theorem k26_mkM (w : World) (base : Nat) (ok : Nat → Prop) (x : S26)  : k26.M w base ok x [.int .i64 x.f0, .int .i64 x.f1] := ⟨[.int .i64 x.f0], [.int .i64 x.f1], rfl, rfl, rfl⟩
end Go.Proofs.Ytmfdhcgdibefiaa.R

-- Written by wip/tools/gp.py, a program of this session round the kit's printer. Lean checks it.
namespace Go.Proofs.Ytmfdhcgdibefiaa.T
open Go.RowKit Go.Proofs.Ytmfdhcgdibefiaa.Q Go.Proofs.YtmfdhcgdibefiaaW.PrintWords Go.Proofs.YtmfdhcgdibefiaaW.PrintLast Go.Proofs.YtmfdhcgdibefiaaW.PrintMore
attribute [local go_sem] max2_int min2_int max_two min_two max_three min_three max_four min_four   -- for this text's walks alone
set_option linter.unusedVariables false
set_option linter.unusedSimpArgs false




theorem info37 : (Try.prog.info? 37).map (fun i => (i.zero, i.size, i.bytes)) = some (some (.agg #[(.int .u64 0), (.int .u64 0), (.int .u64 0), (.int .u8 0), (.string ⟨#[]⟩), (.string ⟨#[]⟩), (.int .i64 0), (.int .i64 0)]), 8, 80) := by kernel_rfl
theorem info44 : (Try.prog.info? 44).map (fun i => (i.zero, i.size, i.bytes)) = some (some (.agg #[(.string ⟨#[]⟩), (.int .i64 0), (.int .i64 0), (.int .i64 0), (.int .i64 0)]), 5, 48) := by kernel_rfl
-- the values' own types

end Go.Proofs.Ytmfdhcgdibefiaa.T

-- Written by wip/tools/gp.py, a program of this session round the kit's printer. Lean checks it.
namespace Go.Proofs.Ytmfdhcgdibefiaa.U
open Go.RowKit Go.Proofs.Ytmfdhcgdibefiaa.Q Go.Proofs.Ytmfdhcgdibefiaa.R Go.Proofs.Ytmfdhcgdibefiaa.T Go.Proofs.YtmfdhcgdibefiaaW.PrintWords Go.Proofs.YtmfdhcgdibefiaaW.PrintLast Go.Proofs.YtmfdhcgdibefiaaW.PrintMore
attribute [local go_sem] max2_int min2_int max_two min_two max_three min_three max_four min_four   -- for this text's walks alone
set_option linter.unusedVariables false
set_option linter.unusedSimpArgs false
end Go.Proofs.Ytmfdhcgdibefiaa.U

-- Written by wip/tools/gp.py, a program of this session round the kit's printer. Lean checks it.
namespace Go.Proofs.Ytmfdhcgdibefiaa.Q
open Go.RowKit Go.Proofs.YtmfdhcgdibefiaaW.PrintWords Go.Proofs.YtmfdhcgdibefiaaW.PrintLast Go.Proofs.YtmfdhcgdibefiaaW.PrintMore
attribute [local go_sem] max2_int min2_int max_two min_two max_three min_three max_four min_four   -- for this text's walks alone
set_option linter.unusedVariables false
set_option linter.unusedSimpArgs false

theorem eqA44 (d : Nat) (w : World) (x0 y0 : ByteArray) (x1 y1 : Int) (x2 y2 : Int) (x3 y3 : Int) (x4 y4 : Int) :
    (Op.equalIn (d + 2) 44 (.agg #[.string x0, .int .i64 x1, .int .i64 x2, .int .i64 x3, .int .i64 x4]) (.agg #[.string y0, .int .i64 y1, .int .i64 y2, .int .i64 y3, .int .i64 y4])).run Try.prog w = .ok (x0.toList == y0.toList && (x1 == y1 && (x2 == y2 && (x3 == y3 && (x4 == y4))))) w := by
  refine eqA_of Try.underlying44 (by kernel_rfl) ?_
  refine eqf_cons (by rfl) (by go_simp; rfl) (by go_simp; rfl) (by go_simp) ?_
  refine eqf_cons (by rfl) (by go_simp; rfl) (by go_simp; rfl) (by go_simp) ?_
  refine eqf_cons (by rfl) (by go_simp; rfl) (by go_simp; rfl) (by go_simp) ?_
  refine eqf_cons (by rfl) (by go_simp; rfl) (by go_simp; rfl) (by go_simp) ?_
  exact eqf_last (by rfl) (by go_simp; rfl) (by go_simp; rfl) (by go_simp)
end Go.Proofs.Ytmfdhcgdibefiaa.Q

-- Written by wip/tools/gp.py, a program of this session round the kit's printer. Lean checks it.
namespace Go.Proofs.Ytmfdhcgdibefiaa.Q
open Go.RowKit Go.Proofs.YtmfdhcgdibefiaaW.PrintWords Go.Proofs.YtmfdhcgdibefiaaW.PrintLast Go.Proofs.YtmfdhcgdibefiaaW.PrintMore
attribute [local go_sem] max2_int min2_int max_two min_two max_three min_three max_four min_four   -- for this text's walks alone
set_option linter.unusedVariables false
set_option linter.unusedSimpArgs false

attribute [local go_sem high] eqA44
/-! ### merkhetref27_Same: function 20 -/
def merkhetref27_Same.l0 : Nat → List (S44) → List (S44) → Int → Option (Bool)
  | 0, _, _, _ => none
  | k + 1, x0, x1, x5 => if x5 < (x0.length : Int) then (if 0 ≤ x5 then (if x5 < (x1.length : Int) then (if (!((((rd_T44 x0 x5).f0).toList) == (((rd_T44 x1 x5).f0).toList)) || (!(((rd_T44 x0 x5).f1) == ((rd_T44 x1 x5).f1)) || (!(((rd_T44 x0 x5).f2) == ((rd_T44 x1 x5).f2)) || (!(((rd_T44 x0 x5).f3) == ((rd_T44 x1 x5).f3)) || (!(((rd_T44 x0 x5).f4) == ((rd_T44 x1 x5).f4))))))) = true then (some false) else (merkhetref27_Same.l0 k x0 x1 (wrap64 (x5 + 1)))) else (none)) else (none)) else (some true)
def merkhetref27_Same.f (k : Nat) (l0 : List (S44)) (l1 : List (S44)) : Option (Bool) := if (l0.length : Int) = (l1.length : Int) then (merkhetref27_Same.l0 k l0 l1 0) else (some false)
theorem merkhetref27_Same.mono_l : ∀ k, (∀ y0 y1 y2, LeO (merkhetref27_Same.l0 k y0 y1 y2) (merkhetref27_Same.l0 (k + 1) y0 y1 y2))
  | 0 => fun _ _ _ r h => by simp [merkhetref27_Same.l0] at h
  | k + 1 => by
    have ih0 := merkhetref27_Same.mono_l k
    · intro y0 y1 y2
      unfold merkhetref27_Same.l0
      repeat' first
      | (with_reducible exact ih0 _ _ _)
      | (with_reducible exact LeO.refl _)
      | (with_reducible exact LeO.none _)
      | (with_reducible refine LeO.ite ?_ ?_)
      | (with_reducible refine LeO.bind ?_ (fun _ => ?_))
      | exact ih0 _ _ _
      | exact LeO.none _
      | refine LeO.ite ?_ ?_
      | refine LeO.bind ?_ (fun _ => ?_)
theorem merkhetref27_Same.mono : ∀ a0 a1 k, LeO (merkhetref27_Same.f k a0 a1) (merkhetref27_Same.f (k + 1) a0 a1) := by
  intro a0 a1 k
  have ih0 := merkhetref27_Same.mono_l k
  unfold merkhetref27_Same.f
  repeat' first
      | (with_reducible exact ih0 _ _ _)
      | (with_reducible exact LeO.refl _)
      | (with_reducible exact LeO.none _)
      | (with_reducible refine LeO.ite ?_ ?_)
      | (with_reducible refine LeO.bind ?_ (fun _ => ?_))
      | exact ih0 _ _ _
      | exact LeO.none _
      | refine LeO.ite ?_ ?_
      | refine LeO.bind ?_ (fun _ => ?_)
set_option maxHeartbeats 8000000 in
set_option maxRecDepth 100000 in
theorem merkhetref27_Same.calls (k : Nat) (A0 : Option Addr) (c0 : Nat) (l0 : List (S44)) (A1 : Option Addr) (c1 : Nat) (l1 : List (S44)) (r : Bool) (w : World) (hr0 : Kd.C k44 w A0 l0.length l0) (hc0 : l0.length ≤ c0) (hr1 : Kd.C k44 w A1 l1.length l1) (hc1 : l1.length ≤ c1) (h : merkhetref27_Same.f k l0 l1 = some r) :
    Calls Try.prog 20 #[.slice A0 l0.length c0, .slice A1 l1.length c1] w fun e w' => e = .returned (.bool r) ∧ Drawn0 w w' := by
  have hu44 := Try.underlying44
  have HR0 := Aside0.mk hr0
  have HC0 := Aside0.mk hc0
  clear hr0 hc0
  have HR1 := Aside0.mk hr1
  have HC1 := Aside0.mk hc1
  clear hr1 hc1
  have H : (if (l0.length : Int) = (l1.length : Int) then (merkhetref27_Same.l0 k l0 l1 0) else (some false)) = some r := h
  clear h
  by_cases c3 : (l0.length : Int) = (l1.length : Int)
  · rw [if_pos c3] at H
    have c3b0 : ((l0.length : Int) == (l1.length : Int)) = true := beq_iff_eq.mpr c3
    have c3b1 : ((l0.length : Int) != (l1.length : Int)) = false := bne_eq_false_iff_eq.mpr c3
    have c3b2 : (l0.length == l1.length) = true := by first | simpa using c3 | (simp at c3 ⊢; omega)
    clear c3
    have H' := Aside0.mk H
    clear H
    go_enter Try.func20, Try.ntmps20
    go_wp2
    repeat (go_quiet (fail); try go_wp2)
    go_loopg [5] k (fun kq v5 w' => ∃ (x5_1 : Int), v5 = .int .i64 x5_1 ∧ Aside0 (merkhetref27_Same.l0 kq l0 l1 x5_1 = some r) ∧ Aside0 (kq ≤ k) ∧ Drawn0 w w')
    case atStart => exact ⟨(0), (by first | rfl | (simp; done) | (simp [*]; done)), H', ⟨Nat.le_refl _⟩, by repeat (first | exact Drawn0.refl _ | apply Drawn0.step)⟩
    case round =>
      clear H'
      (try clear c1); (try clear c2); (try clear p2); (try clear c3); (try clear c3b0); (try clear c3b1); (try clear c3b2)
      obtain ⟨x5_1, rfl, HA, HK1, ⟨m1, rfl⟩⟩ := hrel
      cases gk with
      | zero => exact absurd HA.out (by simp [merkhetref27_Same.l0])
      | succ k1 =>
        have H := HA.out
        clear HA
        simp only [merkhetref27_Same.l0] at H
        by_cases c4 : x5_1 < (l0.length : Int)
        · rw [if_pos c4] at H
          have c4b0 : decide (x5_1 < (l0.length : Int)) = true := decide_eq_true c4
          clear c4
          by_cases c5 : 0 ≤ x5_1
          · rw [if_pos c5] at H
            have c5b0 : decide (0 ≤ x5_1) = true := decide_eq_true c5
            clear c5
            by_cases c6 : x5_1 < (l1.length : Int)
            · rw [if_pos c6] at H
              have c6b0 : decide (x5_1 < (l1.length : Int)) = true := decide_eq_true c6
              clear c6
              by_cases c7 : (!((((rd_T44 l0 x5_1).f0).toList) == (((rd_T44 l1 x5_1).f0).toList)) || (!(((rd_T44 l0 x5_1).f1) == ((rd_T44 l1 x5_1).f1)) || (!(((rd_T44 l0 x5_1).f2) == ((rd_T44 l1 x5_1).f2)) || (!(((rd_T44 l0 x5_1).f3) == ((rd_T44 l1 x5_1).f3)) || (!(((rd_T44 l0 x5_1).f4) == ((rd_T44 l1 x5_1).f4))))))) = true
              · rw [if_pos c7] at H
                have c7b0 : (!((((rd_T44 l0 x5_1).f0).toList) == (((rd_T44 l1 x5_1).f0).toList)) || (!(((rd_T44 l0 x5_1).f1) == ((rd_T44 l1 x5_1).f1)) || (!(((rd_T44 l0 x5_1).f2) == ((rd_T44 l1 x5_1).f2)) || (!(((rd_T44 l0 x5_1).f3) == ((rd_T44 l1 x5_1).f3)) || (!(((rd_T44 l0 x5_1).f4) == ((rd_T44 l1 x5_1).f4))))))) = true := c7
                clear c7
                obtain rfl := Option.some.inj H
                have p196 : 0 ≤ (x5_1 : Int) := of_decide_eq_true (by first | (with_reducible assumption) | assumption)
                have q196 : x5_1 < (l0.length : Int) := of_decide_eq_true (by first | (with_reducible assumption) | assumption)
                obtain ⟨ad196, e196, hx196_0, hx196_1, hx196_2, hx196_3, hx196_4⟩ := at_T44 HR0.out x5_1 p196 q196
                cases e196
                replace p196 := eq_true p196
                replace q196 := eq_true q196
                have p197 : 0 ≤ (x5_1 : Int) := of_decide_eq_true (by first | (with_reducible assumption) | assumption)
                have q197 : x5_1 < (l1.length : Int) := of_decide_eq_true (by first | (with_reducible assumption) | assumption)
                obtain ⟨ad197, e197, hx197_0, hx197_1, hx197_2, hx197_3, hx197_4⟩ := at_T44 HR1.out x5_1 p197 q197
                cases e197
                replace p197 := eq_true p197
                replace q197 := eq_true q197
                go_wp2
                repeat (go_quiet (fail); try go_wp2)
                go_ret
                exact ⟨by first | rfl | (simp; done) | (simp [*]; done), by repeat (first | exact Drawn0.refl _ | apply Drawn0.step)⟩
              · rw [if_neg c7] at H
                have c7b0 : (!((((rd_T44 l0 x5_1).f0).toList) == (((rd_T44 l1 x5_1).f0).toList)) || (!(((rd_T44 l0 x5_1).f1) == ((rd_T44 l1 x5_1).f1)) || (!(((rd_T44 l0 x5_1).f2) == ((rd_T44 l1 x5_1).f2)) || (!(((rd_T44 l0 x5_1).f3) == ((rd_T44 l1 x5_1).f3)) || (!(((rd_T44 l0 x5_1).f4) == ((rd_T44 l1 x5_1).f4))))))) = false := by simpa using c7
                clear c7
                have H' := Aside0.mk H
                clear H
                have p196 : 0 ≤ (x5_1 : Int) := of_decide_eq_true (by first | (with_reducible assumption) | assumption)
                have q196 : x5_1 < (l0.length : Int) := of_decide_eq_true (by first | (with_reducible assumption) | assumption)
                obtain ⟨ad196, e196, hx196_0, hx196_1, hx196_2, hx196_3, hx196_4⟩ := at_T44 HR0.out x5_1 p196 q196
                cases e196
                replace p196 := eq_true p196
                replace q196 := eq_true q196
                have p197 : 0 ≤ (x5_1 : Int) := of_decide_eq_true (by first | (with_reducible assumption) | assumption)
                have q197 : x5_1 < (l1.length : Int) := of_decide_eq_true (by first | (with_reducible assumption) | assumption)
                obtain ⟨ad197, e197, hx197_0, hx197_1, hx197_2, hx197_3, hx197_4⟩ := at_T44 HR1.out x5_1 p197 q197
                cases e197
                replace p197 := eq_true p197
                replace q197 := eq_true q197
                go_wp2
                repeat (go_quiet (fail); try go_wp2)
                go_roundg k1
                case measure => have := HK1.out; omega
                case rel => exact ⟨(wrap64 (x5_1 + 1)), (by first | rfl | (simp; done) | (simp [*]; done)), H', ⟨by have := HK1.out; omega⟩, by repeat (first | exact Drawn0.refl _ | apply Drawn0.step)⟩
            · rw [if_neg c6] at H
              exact absurd H (by simp)
          · rw [if_neg c5] at H
            exact absurd H (by simp)
        · rw [if_neg c4] at H
          have c4b0 : decide (x5_1 < (l0.length : Int)) = false := decide_eq_false c4
          clear c4
          obtain rfl := Option.some.inj H
          go_wp2
          repeat (go_quiet (fail); try go_wp2)
          go_ret
          exact ⟨by first | rfl | (simp; done) | (simp [*]; done), by repeat (first | exact Drawn0.refl _ | apply Drawn0.step)⟩
  · rw [if_neg c3] at H
    have c3b0 : ((l0.length : Int) == (l1.length : Int)) = false := beq_eq_false_iff_ne.mpr c3
    have c3b1 : ((l0.length : Int) != (l1.length : Int)) = true := bne_iff_ne.mpr c3
    have c3b2 : (l0.length == l1.length) = false := by first | simpa using c3 | (simp at c3 ⊢; omega)
    obtain rfl := Option.some.inj H
    go_enter Try.func20, Try.ntmps20
    go_wp2
    repeat (go_quiet (fail); try go_wp2)
    go_ret
    exact ⟨by first | rfl | (simp; done) | (simp [*]; done), by repeat (first | exact Drawn0.refl _ | apply Drawn0.step)⟩

end Go.Proofs.Ytmfdhcgdibefiaa.Q

-- Written by wip/tools/gp.py, a program of this session round the kit's printer. Lean checks it.
namespace Go.Proofs.Ytmfdhcgdibefiaa.R
open Go.RowKit Go.Proofs.Ytmfdhcgdibefiaa.Q Go.Proofs.YtmfdhcgdibefiaaW.PrintWords Go.Proofs.YtmfdhcgdibefiaaW.PrintLast Go.Proofs.YtmfdhcgdibefiaaW.PrintMore
attribute [local go_sem] max2_int min2_int max_two min_two max_three min_three max_four min_four   -- for this text's walks alone
set_option linter.unusedVariables false
set_option linter.unusedSimpArgs false

/-! ### merkhetlaw27_fixed_1: function 35 -/
def merkhetlaw27_fixed_1.f (a0 : Int) (a1 : Int) (a2 : Int) : Option (Int × Int × Int × Int × ByteArray × ByteArray × Int × Int) := some (1, a0, 0, 0, (⟨#[97]⟩ : ByteArray), (⟨#[98]⟩ : ByteArray), a1, a2)
set_option maxHeartbeats 8000000 in
set_option maxRecDepth 100000 in
theorem merkhetlaw27_fixed_1.calls (a0 : Int) (a1 : Int) (a2 : Int) (r1 : Int) (r2 : Int) (r3 : Int) (r4 : Int) (r5 : ByteArray) (r6 : ByteArray) (r7 : Int) (r8 : Int) (w : World) (h : merkhetlaw27_fixed_1.f a0 a1 a2 = some (r1, r2, r3, r4, r5, r6, r7, r8)) :
    Calls Try.prog 35 #[.int .u64 a0, .int .i64 a1, .int .i64 a2] w fun e w' => e = .returned (.agg #[.int .u64 r1, .int .u64 r2, .int .u64 r3, .int .u8 r4, .string r5, .string r6, .int .i64 r7, .int .i64 r8]) ∧ Below w.heap.size w w' := by
  have hu37 := Try.underlying37
  have HB := Aside0.mk (Below.refl w.heap.size w)
  have H : (some (1, a0, 0, 0, (⟨#[97]⟩ : ByteArray), (⟨#[98]⟩ : ByteArray), a1, a2)) = some (r1, r2, r3, r4, r5, r6, r7, r8) := h
  clear h
  simp only [Option.some.injEq, Prod.mk.injEq] at H
  obtain ⟨rfl, rfl, rfl, rfl, rfl, rfl, rfl, rfl⟩ := H
  go_enter Try.func35, Try.ntmps35
  go_wp2_with (first | ((with_reducible refine gate_dst (N := 6) rfl ?_); refine box_event ?hg (N := 6) ?hd (cs := #[.int .u64 0, .int .u64 0, .int .u64 0, .int .u8 0, .string (⟨#[]⟩ : ByteArray), .string (⟨#[]⟩ : ByteArray), .int .i64 0, .int .i64 0]) (t := 37) ?hr ?_; (case hd => rfl); (case hg => rfl); (case hr => first | (go_simp; done) | (go_simp; rfl)); intro gb101 hg w4 hbox hb; have n0_ := Aside0.mk (below_step (by repeat (first | (with_reducible first | exact HB.out | apply below_alloc | apply pw_below_drewN | apply below_drew1) | exact HB.out)) hb); have n1_ := Aside0.mk (hbox); have n2_ := Aside0.mk ((by rw [hg]; exact (below_size (by repeat (first | (with_reducible first | exact HB.out | apply below_alloc | apply pw_below_drewN | apply below_drew1) | exact HB.out))) : w.heap.size ≤ gb101)); have n3_ := Aside0.mk ((by rw [hg]; exact (below_size (by repeat (first | (with_reducible first | exact HB.out | apply below_alloc | apply pw_below_drewN | apply below_drew1) | exact HB.out))) : w.heap.size ≤ gb101)); clear HB; have HB := n0_; have BK101 := n1_; have GW101 := n2_; have GE101 := n3_; clear n0_ n1_ n2_ n3_; clear hb hbox hg; have hcz5_0 : w4.cell? ⟨gb101, 0, none⟩ = some (.int .u64 0) := (blk_cell BK101.out 0).trans rfl; have hcz5_1 : w4.cell? ⟨gb101, 1, none⟩ = some (.int .u64 0) := (blk_cell BK101.out 1).trans rfl; have hcz5_2 : w4.cell? ⟨gb101, 2, none⟩ = some (.int .u64 0) := (blk_cell BK101.out 2).trans rfl; have hcz5_3 : w4.cell? ⟨gb101, 3, none⟩ = some (.int .u8 0) := (blk_cell BK101.out 3).trans rfl; have hcz5_4 : w4.cell? ⟨gb101, 4, none⟩ = some (.string (⟨#[]⟩ : ByteArray)) := (blk_cell BK101.out 4).trans rfl; have hcz5_5 : w4.cell? ⟨gb101, 5, none⟩ = some (.string (⟨#[]⟩ : ByteArray)) := (blk_cell BK101.out 5).trans rfl; have hcz5_6 : w4.cell? ⟨gb101, 6, none⟩ = some (.int .i64 0) := (blk_cell BK101.out 6).trans rfl; have hcz5_7 : w4.cell? ⟨gb101, 7, none⟩ = some (.int .i64 0) := (blk_cell BK101.out 7).trans rfl; have hfz5_0 := blk_frozen BK101.out 0; have hfz5_1 := blk_frozen BK101.out 1; have hfz5_2 := blk_frozen BK101.out 2; have hfz5_3 := blk_frozen BK101.out 3; have hfz5_4 := blk_frozen BK101.out 4; have hfz5_5 := blk_frozen BK101.out 5; have hfz5_6 := blk_frozen BK101.out 6; have hfz5_7 := blk_frozen BK101.out 7))
  refine bodyPost_ret (results_cell_row rfl _ _ gb101 37 #[.int .u64 1, .int .u64 a0, .int .u64 0, .int .u8 0, .string (⟨#[97]⟩ : ByteArray), .string (⟨#[98]⟩ : ByteArray), .int .i64 a1, .int .i64 a2] (0, 0) _ rfl (by (with_reducible repeat (first | refine blk_drewN ?_ _ | refine blk_drew ?_ | refine blk_alloc ?_ _)); refine blk_put (cs := #[.int .u64 1, .int .u64 a0, .int .u64 0, .int .u8 0, .string (⟨#[97]⟩ : ByteArray), .string (⟨#[98]⟩ : ByteArray), .int .i64 a1, .int .i64 0]) ?_ 7 _ rfl; (with_reducible repeat (first | refine blk_drewN ?_ _ | refine blk_drew ?_ | refine blk_alloc ?_ _)); refine blk_put (cs := #[.int .u64 1, .int .u64 a0, .int .u64 0, .int .u8 0, .string (⟨#[97]⟩ : ByteArray), .string (⟨#[98]⟩ : ByteArray), .int .i64 0, .int .i64 0]) ?_ 6 _ rfl; (with_reducible repeat (first | refine blk_drewN ?_ _ | refine blk_drew ?_ | refine blk_alloc ?_ _)); refine blk_put (cs := #[.int .u64 1, .int .u64 a0, .int .u64 0, .int .u8 0, .string (⟨#[97]⟩ : ByteArray), .string (⟨#[]⟩ : ByteArray), .int .i64 0, .int .i64 0]) ?_ 5 _ rfl; (with_reducible repeat (first | refine blk_drewN ?_ _ | refine blk_drew ?_ | refine blk_alloc ?_ _)); refine blk_put (cs := #[.int .u64 1, .int .u64 a0, .int .u64 0, .int .u8 0, .string (⟨#[]⟩ : ByteArray), .string (⟨#[]⟩ : ByteArray), .int .i64 0, .int .i64 0]) ?_ 4 _ rfl; (with_reducible repeat (first | refine blk_drewN ?_ _ | refine blk_drew ?_ | refine blk_alloc ?_ _)); refine blk_put (cs := #[.int .u64 1, .int .u64 a0, .int .u64 0, .int .u8 0, .string (⟨#[]⟩ : ByteArray), .string (⟨#[]⟩ : ByteArray), .int .i64 0, .int .i64 0]) ?_ 3 _ rfl; (with_reducible repeat (first | refine blk_drewN ?_ _ | refine blk_drew ?_ | refine blk_alloc ?_ _)); refine blk_put (cs := #[.int .u64 1, .int .u64 a0, .int .u64 0, .int .u8 0, .string (⟨#[]⟩ : ByteArray), .string (⟨#[]⟩ : ByteArray), .int .i64 0, .int .i64 0]) ?_ 2 _ rfl; (with_reducible repeat (first | refine blk_drewN ?_ _ | refine blk_drew ?_ | refine blk_alloc ?_ _)); refine blk_put (cs := #[.int .u64 1, .int .u64 0, .int .u64 0, .int .u8 0, .string (⟨#[]⟩ : ByteArray), .string (⟨#[]⟩ : ByteArray), .int .i64 0, .int .i64 0]) ?_ 1 _ rfl; (with_reducible repeat (first | refine blk_drewN ?_ _ | refine blk_drew ?_ | refine blk_alloc ?_ _)); refine blk_put (cs := #[.int .u64 0, .int .u64 0, .int .u64 0, .int .u8 0, .string (⟨#[]⟩ : ByteArray), .string (⟨#[]⟩ : ByteArray), .int .i64 0, .int .i64 0]) ?_ 0 _ rfl; (with_reducible repeat (first | refine blk_drewN ?_ _ | refine blk_drew ?_ | refine blk_alloc ?_ _)); exact BK101.out) Try.underlying37 rfl (by kernel_rfl)) rfl ?_
  exact ⟨by first | rfl | (simp [errW_none, errW_some] <;> rfl) | (simp [*, errW_none, errW_some] <;> rfl), by repeat (first | (with_reducible first | exact HB.out | apply below_alloc | apply pw_below_drewN | apply below_drew1 | refine below_set ?_ GE101.out) | exact HB.out)⟩

/-! ### stats_Own_1: function 42 (given) -/
def stats_Own_1.f (l0 : List S37) : Option Bool := if l0.length ≤ 1000000000 ∧ (∀ s ∈ l0, L.fitS s) then some (l0.any (fun s => !L.mayS s)) else none
theorem stats_Own_1.calls (A0 : Option Addr) (c0 : Nat) (l0 : List (S37)) (r : Bool) (w : World) (hr0 : Kd.C k37 w A0 l0.length l0) (hc0 : l0.length ≤ c0) (h : stats_Own_1.f l0 = some r) :
    Calls Try.prog 41 #[.slice A0 l0.length c0, .func (.func 42) #[] #[]] w fun e w' => e = .returned (.bool r) ∧ Below w.heap.size w w' := by
  unfold stats_Own_1.f at h
  split at h
  · rename_i hl
    obtain rfl := Option.some.inj h
    exact L.own_contains l0 hl.1 A0 c0 w hr0 (fun e he W hb => L.ownmay_calls e (hl.2 e he) W)
  · cases h

/-! ### stats_Cover: function 13 (given) -/
def stats_Cover.f (l0 : List S26) : Option Int := if l0.length ≤ 1759218604441 ∧ (∀ s ∈ l0, L.inI (s.f0, s.f1)) then some (L.coverN (l0.map (fun s => (s.f0, s.f1))) : Int) else none
theorem stats_Cover.calls (A0 : Option Addr) (c0 : Nat) (l0 : List (S26)) (r : Int) (w : World) (hr0 : Kd.C k26 w A0 l0.length l0) (hc0 : l0.length ≤ c0) (h : stats_Cover.f l0 = some r) :
    Calls Try.prog 13 #[.slice A0 l0.length c0] w fun e w' => e = .returned (.int .u64 r) ∧ Below w.heap.size w w' := by
  unfold stats_Cover.f at h
  split at h
  · rename_i hl
    obtain rfl := Option.some.inj h
    have h1 := L.C_iso (f := fun s : S26 => (s.f0, s.f1)) hr0
    have h2 := L.cover_calls (l0.map (fun s => (s.f0, s.f1))) (by rw [List.length_map]; exact hl.1) (L.mapI hl.2) A0 c0 w (by rw [List.length_map]; exact h1) (by rw [List.length_map]; exact hc0)
    rw [List.length_map] at h2
    exact h2
  · cases h

/-! ### parent_Right: function 40 (given) -/
def parent_Right.f (l0 : List Int) : Option Bool := if l0.length ≤ 1000000 then some (L.rightB l0) else none
theorem parent_Right.calls (A0 : Option Addr) (c0 : Nat) (l0 : List Int) (r : Bool) (w : World) (hr0 : Kd.C (Kd.int .i64) w A0 l0.length l0) (hc0 : l0.length ≤ c0) (h : parent_Right.f l0 = some r) :
    Calls Try.prog 40 #[.slice A0 l0.length c0] w fun e w' => e = .returned (.bool r) ∧ Below w.heap.size w w' := by
  unfold parent_Right.f at h
  split at h
  · rename_i hl
    obtain rfl := Option.some.inj h
    exact L.right_calls l0 hl A0 c0 w hr0 hc0
  · cases h

-- NOT PRINTED: function 95 (api_Span_95)

-- NOT PRINTED: function 41 (api_Span_41)

end Go.Proofs.Ytmfdhcgdibefiaa.R

