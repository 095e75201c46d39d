/- Texts joined by wip/tools/merge.py: PlaneX PlaneY PlaneW CplK Kx0 Kx1 ChtK Cx0 Cx4 ChtB ChtC Zx0 Zx1 ChtF Tx0 Cx1. -/
import Derived.Test.YtmfdhcgdibefiaaJChartTurns24
import Derived.Deep.RegionHeld3
import Derived.OwnWalk
import Derived.Test.YtmfdhcgdibefiaaJChartTurns11
import Derived.Test.YtmfdhcgdibefiaaJChartTurns1
import Derived.Test.YtmfdhcgdibefiaaJChartTurns6
import Derived.Laws.Entries
import Derived.Test.YtmfdhcgdibefiaaProg
import Derived.Below
import Derived.Deep.Draws
import Derived.Deep.AppendLies
import Derived.Maps.AppendAt
import Derived.Laws.BytesArg
import Derived.Laws.MakeOwn
import Derived.Laws.OwnMore
import Derived.Deep.OwnRows
import Derived.Tactics
import Derived.Lib.ConvBytes
import Derived.Laws.Slices
import Derived.WalkKit
import Derived.KernelRfl
import Derived.RowKit3
import Derived.Deep.LoopGhost
import Derived.Deep.QuietTactic
import Derived.BigQuiet
import Derived.WideLaws
import Derived.Deep.DeepCutAuto
import Derived.Deep.CutBlock
import Derived.Laws.Rows
import Derived.Lib.AppendStr
import Derived.ArgAppend
import Derived.Laws.IdiomCopy
import Derived.OrdersHeld
import Derived.Laws.BitsLemmas
import Derived.RowKit
import Derived.Test.YtmfdhcgdibefiaaJChartTurns0
import Derived.Test.YtmfdhcgdibefiaaJChartTurns13
import Derived.Test.YtmfdhcgdibefiaaJChartTurns14
import Derived.Test.YtmfdhcgdibefiaaJChartTurns2
import Derived.Test.YtmfdhcgdibefiaaJChartTurns3
import Derived.Test.YtmfdhcgdibefiaaJChartTurns4
import Derived.Test.YtmfdhcgdibefiaaJChartTurns5
import Derived.Test.YtmfdhcgdibefiaaJChartTurns7
import Derived.Test.YtmfdhcgdibefiaaJChartTurns8
import Derived.Test.YtmfdhcgdibefiaaJChartTurns9
import Derived.Test.YtmfdhcgdibefiaaJChartTurns15
import Derived.Test.YtmfdhcgdibefiaaJChartTurns16
import Derived.Test.YtmfdhcgdibefiaaJChartTurns17
import Derived.Test.YtmfdhcgdibefiaaJChartTurns18
import Derived.Test.YtmfdhcgdibefiaaJChartTurns19
import Derived.Test.YtmfdhcgdibefiaaJChartTurns20
import Derived.Test.YtmfdhcgdibefiaaJChartTurns21
import Derived.Test.YtmfdhcgdibefiaaJChartTurns10
import Derived.Test.YtmfdhcgdibefiaaJChartTurns22
/- plane: Box. -/
namespace Go.Proofs.Ytmfdhcgdibefiaa.Pl
open Go.RowKit Go.Proofs.YtmfdhcgdibefiaaW.PrintWords Go.Proofs.YtmfdhcgdibefiaaW.Lib Go.Proofs.YtmfdhcgdibefiaaW.Flt
set_option linter.unusedVariables false

theorem order_enc (x y : Int) (hx : x.natAbs < 2 ^ 52) (hy : y.natAbs < 2 ^ 52) : FloatKind.f64.format.order (enc x) (enc y) = some (compare x y) := by
  show Ieee.double.order (enc x) (enc y) = _
  unfold Ieee.Format.order
  rw [val_order (val_read (.inl rfl) hx) (val_read (.inl rfl) hy)]
theorem cmp_lt {x y : Int} (h : x < y) : compare x y = .lt := by simp only [compare, compareOfLessAndEq]; rw [if_pos h]
theorem cmp_gt {x y : Int} (h : y < x) : compare x y = .gt := by simp only [compare, compareOfLessAndEq]; rw [if_neg (by omega), if_neg (by omega)]
theorem cmp_eq (x : Int) : compare x x = .eq := by simp only [compare, compareOfLessAndEq]; rw [if_neg (by omega), if_pos trivial]
theorem run_fmin (P : Program) (ts : Array TypeId) (t : TypeId) (x y : Int) (hx : x.natAbs < 2 ^ 52) (hy : y.natAbs < 2 ^ 52) (w : World) : (Builtin.min_ ts t #[.float .f64 (enc x), .float .f64 (enc y)]).run P w = .ok (.float .f64 (enc (min x y))) w := by
  have h := order_enc x y hx hy
  unfold Builtin.min_
  simp only [List.foldlM_cons, List.foldlM_nil, Builtin.min2, h]
  rcases Int.lt_trichotomy x y with g | rfl | g
  · rw [cmp_lt g, Int.min_eq_left (by omega)]; rfl
  · rw [cmp_eq, Int.min_self]; simp
  · rw [cmp_gt g, Int.min_eq_right (by omega)]; rfl
theorem run_fmax (P : Program) (ts : Array TypeId) (t : TypeId) (x y : Int) (hx : x.natAbs < 2 ^ 52) (hy : y.natAbs < 2 ^ 52) (w : World) : (Builtin.max_ ts t #[.float .f64 (enc x), .float .f64 (enc y)]).run P w = .ok (.float .f64 (enc (max x y))) w := by
  have h := order_enc x y hx hy
  unfold Builtin.max_
  simp only [List.foldlM_cons, List.foldlM_nil, Builtin.max2, h]
  rcases Int.lt_trichotomy x y with g | rfl | g
  · rw [cmp_lt g, Int.max_eq_right (by omega)]; rfl
  · rw [cmp_eq, Int.max_self]; simp
  · rw [cmp_gt g, Int.max_eq_left (by omega)]; rfl

/-- What the first k points are within. -/
structure Bx where
  a : Int
  b : Int
  c : Int
  d : Int
def bxI (f : Nat → Int × Int) : Nat → Bx
  | 0 => ⟨0, 0, 0, 0⟩
  | k + 1 => let p := f k; let q := if k = 0 then ⟨p.1, p.2, p.1, p.2⟩ else bxI f k; ⟨min q.a p.1, min q.b p.2, max q.c p.1, max q.d p.2⟩
def allP (g : Nat → Bool) : Nat → Bool
  | 0 => true
  | k + 1 => allP g k && g k
theorem bxI_abs (f : Nat → Int × Int) (n : Nat) (h : ∀ j, j < n → (f j).1.natAbs ≤ 1048576 ∧ (f j).2.natAbs ≤ 1048576) : (bxI f n).a.natAbs ≤ 1048576 ∧ (bxI f n).b.natAbs ≤ 1048576 ∧ (bxI f n).c.natAbs ≤ 1048576 ∧ (bxI f n).d.natAbs ≤ 1048576 := by
  induction n with
  | zero => show (0 : Int).natAbs ≤ 1048576 ∧ (0 : Int).natAbs ≤ 1048576 ∧ (0 : Int).natAbs ≤ 1048576 ∧ (0 : Int).natAbs ≤ 1048576; decide
  | succ n ih =>
    have h1 := h n (by omega)
    obtain ⟨i1, i2, i3, i4⟩ := ih (fun j hj => h j (by omega))
    unfold bxI
    dsimp only
    split
    · dsimp only; omega
    · omega
def cooI (f : Nat → Nat × Nat) (j : Nat) : Int × Int := (truncI (f j).1, truncI (f j).2)
def isP (f : Nat → Nat × Nat) (j : Nat) : Bool := ptB (f j).1 && ptB (f j).2
/-- What Box hands back. -/
def boxV (f : Nat → Nat × Nat) (n : Nat) : (Nat × Nat) × (Nat × Nat) × Bool :=
  if allP (isP f) n && decide (0 < n) then ((enc (bxI (cooI f) n).a, enc (bxI (cooI f) n).b), (enc (bxI (cooI f) n).c, enc (bxI (cooI f) n).d), true) else ((0, 0), (0, 0), false)
theorem allP_out {g : Nat → Bool} {n : Nat} (h : allP g n = true) : ∀ j, j < n → g j = true := by
  induction n with
  | zero => intro j hj; omega
  | succ n ih =>
    unfold allP at h; rw [Bool.and_eq_true] at h
    intro j hj
    by_cases e : j = n
    · subst e; exact h.2
    · exact ih h.1 j (by omega)
theorem allP_not {g : Nat → Bool} {n k : Nat} (hk : k < n) (h : g k = false) : allP g n = false := by
  cases hb : allP g n
  · rfl
  · rw [allP_out hb k hk] at h; cases h
theorem box_bounds (f : Nat → Nat × Nat) (n : Nat) (hf : ∀ j, j < n → (f j).1 < 2 ^ 64 ∧ (f j).2 < 2 ^ 64) (k : Nat) (hk : k ≤ n) (hp : allP (isP f) k = true) :
    (bxI (cooI f) k).a.natAbs ≤ 1048576 ∧ (bxI (cooI f) k).b.natAbs ≤ 1048576 ∧ (bxI (cooI f) k).c.natAbs ≤ 1048576 ∧ (bxI (cooI f) k).d.natAbs ≤ 1048576 := by
  refine bxI_abs _ _ fun j hj => ?_
  obtain ⟨h1, h2⟩ := hf j (by omega)
  have hg := allP_out hp j hj
  unfold isP at hg
  rw [Bool.and_eq_true] at hg
  exact ⟨(ptB_out h1 hg.1).2.1, (ptB_out h2 hg.2).2.1⟩
set_option maxRecDepth 100000 in
set_option maxHeartbeats 2000000 in
theorem Box_calls (ad : Addr) (n c : Nat) (f : Nat → Nat × Nat) (w : World) (hn : n ≤ 1000) (hnc : n ≤ c) (hf : ∀ j, j < n → (f j).1 < 2 ^ 64 ∧ (f j).2 < 2 ^ 64) (hcell : ∀ j, j < n → w.cell? (ad.add j) = some (.complex .f64 (f j).1 (f j).2)) :
    Calls Try.prog 63 #[.slice (some ad) n c] w fun e w' => e = .returned (.tuple #[.complex .f64 (boxV f n).1.1 (boxV f n).1.2, .complex .f64 (boxV f n).2.1.1 (boxV f n).2.1.2, .bool (boxV f n).2.2]) ∧ w' = w := by
  obtain ⟨V, hV⟩ : ∃ V, boxV f n = V := ⟨_, rfl⟩
  rw [hV]
  have HV := Aside0.mk hV
  have HF := Aside0.mk hf
  have HA := Aside0.mk (box_bounds f n hf)
  have HC := Aside0.mk hcell
  clear hV hf hcell
  go_enter Try.func63, Try.ntmps63
  go_wp2_with fail
  go_loop [2, 3, 9] (fun lo hi i => ∃ k : Nat, k ≤ n ∧ i = .int .i64 k ∧ allP (isP f) k = true ∧ (k = 0 → lo = .complex .f64 0 0 ∧ hi = .complex .f64 0 0) ∧ (0 < k → lo = .complex .f64 (enc (bxI (cooI f) k).a) (enc (bxI (cooI f) k).b) ∧ hi = .complex .f64 (enc (bxI (cooI f) k).c) (enc (bxI (cooI f) k).d))) (fun _ _ i => n - (intOf i).toNat)
  case atStart => exact ⟨0, by omega, rfl, rfl, fun _ => ⟨rfl, rfl⟩, fun h => absurd h (by omega)⟩
  case round =>
    obtain ⟨k, hk, rfl, hP, h0, h1⟩ := hrel
    by_cases hkn : k < n
    · have hc := HC.out k hkn
      obtain ⟨fa, fb⟩ := HF.out k hkn
      have Q := Aside0.mk (point_calls (f k).1 (f k).2 fa fb)
      have hq : isP f k = (ptB (f k).1 && ptB (f k).2) := rfl
      rw [← hq] at Q
      cases hp : isP f k
      · rw [hp] at Q
        have e : V = ((0, 0), (0, 0), false) := by rw [← HV.out]; unfold boxV; rw [allP_not hkn hp]; rfl
        subst e
        clear hp hq h0 h1 hP
        go_wp2_with (go_at_call 112; refine (Q.out _).mono ?_; rintro e w' ⟨rfl, rfl⟩)
        go_ret3
        exact ⟨rfl, rfl⟩
      · rw [hp] at Q
        have hg := (Bool.and_eq_true _ _ ▸ (hq ▸ hp : (ptB (f k).1 && ptB (f k).2) = true) : ptB (f k).1 = true ∧ ptB (f k).2 = true)
        obtain ⟨ea, ba, _⟩ := ptB_out fa hg.1
        obtain ⟨eb, bb, _⟩ := ptB_out fb hg.2
        have hX : (cooI f k).1 = truncI (f k).1 := rfl
        have hY : (cooI f k).2 = truncI (f k).2 := rfl
        generalize truncI (f k).1 = X at *
        generalize truncI (f k).2 = Y at *
        rw [ea, eb] at Q hc
        have hP1 : allP (isP f) (k + 1) = true := by unfold allP; rw [hP, hp]; rfl
        have HP1 := Aside0.mk hP1
        clear hp hq hg fa fb hP1 ea eb
        rcases Nat.eq_zero_or_pos k with rfl | hk0
        · obtain ⟨rfl, rfl⟩ := h0 rfl
          have hb : bxI (cooI f) 1 = ⟨X, Y, X, Y⟩ := by unfold bxI; dsimp only; rw [if_pos rfl, hX, hY, Int.min_self, Int.min_self, Int.max_self, Int.max_self]
          have HBX := Aside0.mk hb
          clear h0 h1 hX hY hb hP
          have M1 : ∀ ts t w, (Builtin.min_ ts t #[.float .f64 (enc X), .float .f64 (enc X)]).run Try.prog w = .ok (.float .f64 (enc X)) w := fun ts t w => by rw [run_fmin _ _ _ _ _ (by omega) (by omega), Int.min_self]
          have M2 : ∀ ts t w, (Builtin.min_ ts t #[.float .f64 (enc Y), .float .f64 (enc Y)]).run Try.prog w = .ok (.float .f64 (enc Y)) w := fun ts t w => by rw [run_fmin _ _ _ _ _ (by omega) (by omega), Int.min_self]
          have M3 : ∀ ts t w, (Builtin.max_ ts t #[.float .f64 (enc X), .float .f64 (enc X)]).run Try.prog w = .ok (.float .f64 (enc X)) w := fun ts t w => by rw [run_fmax _ _ _ _ _ (by omega) (by omega), Int.max_self]
          have M4 : ∀ ts t w, (Builtin.max_ ts t #[.float .f64 (enc Y), .float .f64 (enc Y)]).run Try.prog w = .ok (.float .f64 (enc Y)) w := fun ts t w => by rw [run_fmax _ _ _ _ _ (by omega) (by omega), Int.max_self]
          have hc0 : w.cell? ad = some (.complex .f64 (enc X) (enc Y)) := hc
          clear hc
          go_wp2_with (go_at_call 112; refine (Q.out _).mono ?_; rintro e w' ⟨rfl, rfl⟩)
          all_goals first
            | exact ⟨⟨1, by omega, rfl, HP1.out, fun h => absurd h (by omega), fun _ => by rw [HBX.out]; exact ⟨rfl, rfl⟩⟩, by simp only [intOf]; omega⟩
            | trace_state
        · obtain ⟨rfl, rfl⟩ := h1 hk0
          have hb : bxI (cooI f) (k + 1) = ⟨min (bxI (cooI f) k).a X, min (bxI (cooI f) k).b Y, max (bxI (cooI f) k).c X, max (bxI (cooI f) k).d Y⟩ := by
            conv => lhs; unfold bxI
            dsimp only; rw [if_neg (by omega), hX, hY]
          obtain ⟨i1, i2, i3, i4⟩ := HA.out k hk hP
          generalize bxI (cooI f) k = q at *
          have HBX := Aside0.mk hb
          have kz : ((k : Int) == 0) = false := by simp; omega
          clear h0 h1 hX hY hb hP
          have M1 := fun ts t w => run_fmin Try.prog ts t q.a X (by omega) (by omega) w
          have M2 := fun ts t w => run_fmin Try.prog ts t q.b Y (by omega) (by omega) w
          have M3 := fun ts t w => run_fmax Try.prog ts t q.c X (by omega) (by omega) w
          have M4 := fun ts t w => run_fmax Try.prog ts t q.d Y (by omega) (by omega) w
          go_wp2_with (go_at_call 112; refine (Q.out _).mono ?_; rintro e w' ⟨rfl, rfl⟩)
          all_goals first
            | exact ⟨⟨k + 1, by omega, rfl, HP1.out, fun h => absurd h (by omega), fun _ => by rw [HBX.out]; exact ⟨rfl, rfl⟩⟩, by simp only [intOf]; omega⟩
            | trace_state
    · obtain rfl : k = n := by omega
      rcases Nat.eq_zero_or_pos k with rfl | hk0
      · obtain ⟨rfl, rfl⟩ := h0 rfl
        have e : V = ((0, 0), (0, 0), false) := by rw [← HV.out]; unfold boxV; rw [hP]; rfl
        subst e
        clear hP h0 h1
        go_wp2_with fail
        go_ret3
        exact ⟨rfl, rfl⟩
      · obtain ⟨rfl, rfl⟩ := h1 hk0
        have e := HV.out
        unfold boxV at e
        rw [hP, decide_eq_true hk0] at e
        generalize bxI (cooI f) k = q at *
        change ((enc q.a, enc q.b), (enc q.c, enc q.d), true) = V at e
        subst e
        clear hP h0 h1 HV HF HC
        have kz : decide ((0 : Int) < (k : Int)) = true := decide_eq_true (by omega)
        go_wp2_with fail
        all_goals (first | (go_ret3; exact ⟨rfl, rfl⟩) | trace_state)
end Go.Proofs.Ytmfdhcgdibefiaa.Pl

/- plane: the document's Box. -/
namespace Go.Proofs.Ytmfdhcgdibefiaa.Pl
open Go.RowKit Go.Proofs.YtmfdhcgdibefiaaW.PrintWords Go.Proofs.YtmfdhcgdibefiaaW.Lib Go.Proofs.YtmfdhcgdibefiaaW.Flt
set_option linter.unusedVariables false

/-- The running box of the document: whatever is no point counts as 0. -/
def rbx (f : Nat → Int × Int) : Nat → Bx
  | 0 => ⟨(f 0).1, (f 0).2, (f 0).1, (f 0).2⟩
  | k + 1 => let q := rbx f k; let p := f k; ⟨if p.1 < q.a then p.1 else q.a, if p.2 < q.b then p.2 else q.b, if q.c < p.1 then p.1 else q.c, if q.d < p.2 then p.2 else q.d⟩
def rco (f : Nat → Nat × Nat) (j : Nat) : Int × Int := ((coordsV (f j).1 (f j).2).1, (coordsV (f j).1 (f j).2).2.1)
theorem results_cell3 {fn : Func} {a b c : Tmp} {t u : TypeId} (h : fn.results = #[.cell a t, .cell b u, .tmp c]) (tmps : Array Value) (P : Program) (w : World) (ad ae : Addr) (v x : Value) (ha : tmps.getD a undef = .pointer (some ad)) (hb : tmps.getD b undef = .pointer (some ae)) (hl : (loadVar t ad).run P w = .ok v w) (hm : (loadVar u ae).run P w = .ok x w) :
    (results fn tmps).run P w = .ok (.tuple #[v, x, tmps.getD c undef]) w := by
  have ha' : tmps[a]?.getD undef = .pointer (some ad) := by rw [← ha]; simp
  have hb' : tmps[b]?.getD undef = .pointer (some ae) := by rw [← hb]; simp
  have e : ∀ ad w, (asAddr (.pointer (some ad))).run P w = .ok ad w := fun _ _ => rfl
  simp [results, h, ha', hb', hl, hm, e]
theorem cell_lt {W : World} {p : Addr} {v : Value} (h : W.cell? p = some v) : p.block < W.heap.size := by
  unfold World.cell? at h
  cases h1 : W.heap[p.block]? with
  | none => rw [h1] at h; simp at h
  | some o => exact (Array.getElem?_eq_some_iff.1 h1).1
theorem res_keep {W w1 : World} {p q : Addr} {u v : Value} (hb : Own W w1) (r : W.cell? p = some u ∧ W.cell? q = some v ∧ W.frozen? p = false ∧ W.frozen? q = false) : w1.cell? p = some u ∧ w1.cell? q = some v ∧ w1.frozen? p = false ∧ w1.frozen? q = false :=
  ⟨hb.cell r.1, hb.cell r.2.1, hb.frozen r.1 r.2.2.1, hb.frozen r.2.1 r.2.2.2⟩
theorem res_alloc {w : World} {p q : Addr} {u v : Value} (r : w.cell? p = some u ∧ w.cell? q = some v ∧ w.frozen? p = false ∧ w.frozen? q = false) (o : Obj) : (w.alloc o).cell? p = some u ∧ (w.alloc o).cell? q = some v ∧ (w.alloc o).frozen? p = false ∧ (w.alloc o).frozen? q = false := res_keep ((Own.refl w).alloc o) r
theorem coords_ok (a b : Nat) : (coordsV a b).2.2 = (ptB a && ptB b) := by unfold coordsV; cases ptB a && ptB b <;> rfl
theorem alc2_0 (w : World) (x y : Value) (t : TypeId) : (w.alloc (.cells #[x, y] t)).cell? ⟨w.heap.size, 0, none⟩ = some x := by go_simp
theorem alc2_1 (w : World) (x y : Value) (t : TypeId) : (w.alloc (.cells #[x, y] t)).cell? ⟨w.heap.size, 1, none⟩ = some y := by go_simp
theorem rbx_abs (f : Nat → Int × Int) (n : Nat) (hn : 0 < n) (h : ∀ j, j < n → (f j).1.natAbs ≤ 1048576 ∧ (f j).2.natAbs ≤ 1048576) (k : Nat) (hk : k ≤ n) : (rbx f k).a.natAbs ≤ 1048576 ∧ (rbx f k).b.natAbs ≤ 1048576 ∧ (rbx f k).c.natAbs ≤ 1048576 ∧ (rbx f k).d.natAbs ≤ 1048576 := by
  induction k with
  | zero => have := h 0 hn; exact ⟨this.1, this.2, this.1, this.2⟩
  | succ k ih =>
    have h1 := h k (by omega)
    obtain ⟨i1, i2, i3, i4⟩ := ih (by omega)
    refine ⟨?_, ?_, ?_, ?_⟩ <;> (unfold rbx; dsimp only; split <;> omega)
theorem bxI_succ (f : Nat → Int × Int) (k : Nat) (hk : 0 < k) : bxI f (k + 1) = ⟨min (bxI f k).a (f k).1, min (bxI f k).b (f k).2, max (bxI f k).c (f k).1, max (bxI f k).d (f k).2⟩ := by
  conv => lhs; unfold bxI
  dsimp only
  rw [if_neg (by omega)]
theorem bxI_one (f : Nat → Int × Int) : bxI f 1 = ⟨(f 0).1, (f 0).2, (f 0).1, (f 0).2⟩ := by
  unfold bxI
  dsimp only
  rw [if_pos rfl]
  simp only [Int.min_self, Int.max_self]
theorem rbx_succ (f : Nat → Int × Int) (k : Nat) : rbx f (k + 1) = ⟨if (f k).1 < (rbx f k).a then (f k).1 else (rbx f k).a, if (f k).2 < (rbx f k).b then (f k).2 else (rbx f k).b, if (rbx f k).c < (f k).1 then (f k).1 else (rbx f k).c, if (rbx f k).d < (f k).2 then (f k).2 else (rbx f k).d⟩ := rfl
/-- Where all are points, the running box is the one of Box. -/
theorem rbx_bx (f : Nat → Int × Int) (k : Nat) : rbx f (k + 1) = bxI f (k + 1) := by
  induction k with
  | zero => rw [bxI_one, rbx_succ]; show Bx.mk (if (f 0).1 < (f 0).1 then _ else (f 0).1) (if (f 0).2 < (f 0).2 then _ else (f 0).2) (if (f 0).1 < (f 0).1 then _ else (f 0).1) (if (f 0).2 < (f 0).2 then _ else (f 0).2) = _; simp
  | succ k ih =>
    rw [bxI_succ _ _ (by omega), rbx_succ, ih]
    generalize bxI f (k + 1) = q
    congr 1 <;> (split <;> omega)
theorem rbx_cong (f g : Nat → Int × Int) (n : Nat) (hn : 0 < n) (h : ∀ j, j < n → f j = g j) (k : Nat) (hk : k ≤ n) : rbx f k = rbx g k := by
  induction k with
  | zero => unfold rbx; rw [h 0 hn]
  | succ k ih => unfold rbx; rw [ih (by omega), h k (by omega)]
theorem al_0 (w : World) (g : Nat) (hg : w.heap.size = g) (w1 : World) (hb : Own ((w.alloc (.cells #[.int .u64 0, .int .u64 0] 97)).alloc (.cells #[.int .u64 0, .int .u64 0] 97)) w1) : w1.cell? ⟨g, 0, none⟩ = some (.int .u64 0) ∧ w1.cell? ⟨g, 1, none⟩ = some (.int .u64 0) ∧ w1.frozen? ⟨g, 0, none⟩ = false ∧ w1.frozen? ⟨g, 1, none⟩ = false := by
  subst hg
  have c0 : ((w.alloc (.cells #[.int .u64 0, .int .u64 0] 97)).alloc (.cells #[.int .u64 0, .int .u64 0] 97)).cell? ⟨w.heap.size, 0, none⟩ = some (.int .u64 0) := by clear hb; go_simp
  have c1 : ((w.alloc (.cells #[.int .u64 0, .int .u64 0] 97)).alloc (.cells #[.int .u64 0, .int .u64 0] 97)).cell? ⟨w.heap.size, 1, none⟩ = some (.int .u64 0) := by clear hb c0; go_simp
  have f0 : ((w.alloc (.cells #[.int .u64 0, .int .u64 0] 97)).alloc (.cells #[.int .u64 0, .int .u64 0] 97)).frozen? ⟨w.heap.size, 0, none⟩ = false := by clear hb c0 c1; go_simp
  have f1 : ((w.alloc (.cells #[.int .u64 0, .int .u64 0] 97)).alloc (.cells #[.int .u64 0, .int .u64 0] 97)).frozen? ⟨w.heap.size, 1, none⟩ = false := by clear hb c0 c1 f0; go_simp
  exact ⟨hb.cell c0, hb.cell c1, hb.frozen c0 f0, hb.frozen c1 f1⟩
theorem al_1 (w : World) (g : Nat) (hg : w.heap.size = g) (w1 : World) (hb : Own ((w.alloc (.cells #[.int .u64 0, .int .u64 0] 97)).alloc (.cells #[.int .u64 0, .int .u64 0] 97)) w1) : w1.cell? ⟨g + 1, 0, none⟩ = some (.int .u64 0) ∧ w1.cell? ⟨g + 1, 1, none⟩ = some (.int .u64 0) ∧ w1.frozen? ⟨g + 1, 0, none⟩ = false ∧ w1.frozen? ⟨g + 1, 1, none⟩ = false := by
  subst hg
  have c0 : ((w.alloc (.cells #[.int .u64 0, .int .u64 0] 97)).alloc (.cells #[.int .u64 0, .int .u64 0] 97)).cell? ⟨w.heap.size + 1, 0, none⟩ = some (.int .u64 0) := by clear hb; go_simp
  have c1 : ((w.alloc (.cells #[.int .u64 0, .int .u64 0] 97)).alloc (.cells #[.int .u64 0, .int .u64 0] 97)).cell? ⟨w.heap.size + 1, 1, none⟩ = some (.int .u64 0) := by clear hb c0; go_simp
  have f0 : ((w.alloc (.cells #[.int .u64 0, .int .u64 0] 97)).alloc (.cells #[.int .u64 0, .int .u64 0] 97)).frozen? ⟨w.heap.size + 1, 0, none⟩ = false := by clear hb c0 c1; go_simp
  have f1 : ((w.alloc (.cells #[.int .u64 0, .int .u64 0] 97)).alloc (.cells #[.int .u64 0, .int .u64 0] 97)).frozen? ⟨w.heap.size + 1, 1, none⟩ = false := by clear hb c0 c1 f0; go_simp
  exact ⟨hb.cell c0, hb.cell c1, hb.frozen c0 f0, hb.frozen c1 f1⟩
set_option maxRecDepth 100000 in
set_option maxHeartbeats 4000000 in
theorem rBox_calls (ad : Addr) (n c : Nat) (f : Nat → Nat × Nat) (w : World) (hn : n ≤ 1000) (hnc : n ≤ c) (hn0 : 0 < n) (hf : ∀ j, j < n → (f j).1 < 2 ^ 64 ∧ (f j).2 < 2 ^ 64)
    (hcell : ∀ j, j < n → w.cell? (ad.add (j * 2)) = some (.int .u64 (f j).1) ∧ w.cell? ⟨(ad.add (j * 2)).block, (ad.add (j * 2)).off + 1, none⟩ = some (.int .u64 (f j).2)) :
    Calls Try.prog 68 #[.slice (some ad) n c] w fun e w' => e = .returned (.tuple #[.agg #[.int .u64 (boxV f n).1.1, .int .u64 (boxV f n).1.2], .agg #[.int .u64 (boxV f n).2.1.1, .int .u64 (boxV f n).2.1.2], .bool (boxV f n).2.2]) ∧ Own w w' := by
  have h00 := hcell 0 hn0
  have hf0 := hf 0 hn0
  have Q := Aside0.mk (rCoords_calls (f 0).1 (f 0).2 hf0.1 hf0.2)
  rw [rcoords_eq] at Q
  have hz : ((n : Int) == 0) = false := by simp; omega
  obtain ⟨g0, g1⟩ := h00
  rw [Nat.zero_mul, Addr.add_zero'] at g0 g1
  have HF := Aside0.mk hf
  have HC := Aside0.mk hcell
  clear hf hcell
  have y0 := fun o o' => Own.cell (((Own.refl w).alloc o).alloc o') g0
  have y1 := fun o o' => Own.cell (((Own.refl w).alloc o).alloc o') g1
  obtain ⟨g, hg⟩ : ∃ g, w.heap.size = g := ⟨_, rfl⟩
  have HG := Aside0.mk hg
  have R0 := Aside0.mk (al_0 w g hg)
  have R1 := Aside0.mk (al_1 w g hg)
  clear g0 g1
  go_enter Try.func68, Try.ntmps68
  have RA := Aside0.mk (rbx_abs (rco f) n hn0 (fun j hj => coords_abs (f j).1 (f j).2 (HF.out j hj).1 (HF.out j hj).2))
  obtain ⟨V, hV⟩ : ∃ V, boxV f n = V := ⟨_, rfl⟩
  rw [hV]
  have HV := Aside0.mk hV
  clear hV
  have K0 : coordsV (f 0).1 (f 0).2 = ((rbx (rco f) 0).a, (rbx (rco f) 0).b, isP f 0) := by
    have h := coords_ok (f 0).1 (f 0).2
    show coordsV (f 0).1 (f 0).2 = ((coordsV (f 0).1 (f 0).2).1, (coordsV (f 0).1 (f 0).2).2.1, isP f 0)
    unfold isP; rw [← h]
  rw [K0] at Q
  have hac : (rbx (rco f) 0).c = (rbx (rco f) 0).a := rfl
  have hbd : (rbx (rco f) 0).d = (rbx (rco f) 0).b := rfl
  have HAC := Aside0.mk hac
  have HBD := Aside0.mk hbd
  clear K0 hac hbd
  go_wp2_with (go_at_call 66; refine (Q.out _).mono ?_; rintro e w1 ⟨rfl, hb⟩; have HB := Aside0.mk (Own.trans (((Own.refl w).alloc _).alloc _) hb); have r0 := R0.out _ hb; have r1 := R1.out _ hb; clear y0 y1 hb)
  go_loopw [5, 6, 7, 8, 9, 10] (fun va vb vo vc vd vi wr => ∃ k : Nat, k ≤ n ∧ vi = .int .i64 k ∧ va = .int .i64 (rbx (rco f) k).a ∧ vb = .int .i64 (rbx (rco f) k).b ∧ vo = .bool (isP f 0 && allP (isP f) k) ∧ vc = .int .i64 (rbx (rco f) k).c ∧ vd = .int .i64 (rbx (rco f) k).d ∧ Own w wr ∧
      (wr.cell? ⟨g, 0, none⟩ = some (.int .u64 0) ∧ wr.cell? ⟨g, 1, none⟩ = some (.int .u64 0) ∧ wr.frozen? ⟨g, 0, none⟩ = false ∧ wr.frozen? ⟨g, 1, none⟩ = false) ∧
      (wr.cell? ⟨g + 1, 0, none⟩ = some (.int .u64 0) ∧ wr.cell? ⟨g + 1, 1, none⟩ = some (.int .u64 0) ∧ wr.frozen? ⟨g + 1, 0, none⟩ = false ∧ wr.frozen? ⟨g + 1, 1, none⟩ = false)) (fun _ _ _ _ _ i _ => n - (intOf i).toNat)
  case atStart => exact ⟨0, by omega, rfl, rfl, rfl, by unfold allP; rw [Bool.and_true], by rw [HAC.out], by rw [HBD.out], HB.out, r0, r1⟩
  case round =>
    clear r0 r1 HB
    obtain ⟨k, hk, rfl, rfl, rfl, rfl, rfl, rfl, ho, r0, r1⟩ := hrel
    by_cases hkn : k < n
    · obtain ⟨g0, g1⟩ := HC.out k hkn
      replace g0 := Own.cell ho g0
      replace g1 := Own.cell ho g1
      have Qk := Aside0.mk (rCoords_calls (f k).1 (f k).2 (HF.out k hkn).1 (HF.out k hkn).2)
      rw [rcoords_eq] at Qk
      have K1 : coordsV (f k).1 (f k).2 = ((rco f k).1, (rco f k).2, isP f k) := by
        have h := coords_ok (f k).1 (f k).2
        show coordsV (f k).1 (f k).2 = ((coordsV (f k).1 (f k).2).1, (coordsV (f k).1 (f k).2).2.1, isP f k)
        unfold isP; rw [← h]
      rw [K1] at Qk
      have hb1 : rbx (rco f) (k + 1) = ⟨if (rco f k).1 < (rbx (rco f) k).a then (rco f k).1 else (rbx (rco f) k).a, if (rco f k).2 < (rbx (rco f) k).b then (rco f k).2 else (rbx (rco f) k).b, if (rbx (rco f) k).c < (rco f k).1 then (rco f k).1 else (rbx (rco f) k).c, if (rbx (rco f) k).d < (rco f k).2 then (rco f k).2 else (rbx (rco f) k).d⟩ := rfl
      have hp1 : (isP f 0 && allP (isP f) (k + 1)) = ((isP f 0 && allP (isP f) k) && isP f k) := (Bool.and_assoc _ _ _).symm
      have HB1 := Aside0.mk hb1
      have HP1 := Aside0.mk hp1
      have HO := Aside0.mk ho
      generalize rbx (rco f) k = q at *
      generalize (rco f k).1 = X at *
      generalize (rco f k).2 = Y at *
      generalize (isP f 0 && allP (isP f) k) = o at *
      clear K1 hb1 hp1 ho
      cases o
      all_goals
        go_wp2_with (go_at_call 66; refine (Qk.out _).mono ?_; rintro e w2 ⟨rfl, hb⟩; replace HO := Aside0.mk (HO.out.trans hb); replace r0 := res_keep hb r0; replace r1 := res_keep hb r1; clear hb g0 g1)
        all_goals
          go_roundw
          case rel =>
            exact ⟨k + 1, by omega, rfl, by rw [HB1.out]; dsimp only; first | rw [if_pos (by omega)] | rw [if_neg (by omega)], by rw [HB1.out]; dsimp only; first | rw [if_pos (by omega)] | rw [if_neg (by omega)], by rw [HP1.out]; rfl,
              by rw [HB1.out]; dsimp only; first | rw [if_pos (by omega)] | rw [if_neg (by omega)], by rw [HB1.out]; dsimp only; first | rw [if_pos (by omega)] | rw [if_neg (by omega)], HO.out, r0, r1⟩
          case measure => simp only [intOf]; (try dsimp only); omega
    · obtain rfl : k = n := by omega
      have HO := Aside0.mk ho
      have hall : (isP f 0 && allP (isP f) k) = allP (isP f) k := by
        cases h : allP (isP f) k
        · exact Bool.and_false _
        · rw [allP_out h 0 hn0]; rfl
      rw [hall]
      have hV := HV.out
      unfold boxV at hV
      rw [decide_eq_true hn0, Bool.and_true] at hV
      clear ho hall
      cases hA : allP (isP f) k
      · rw [hA] at hV
        change ((0, 0), (0, 0), false) = V at hV
        subst hV
        clear hA HV
        go_wp2_with fail
        refine bodyPost_ret (results_cell3 rfl _ _ _ _ _ (.agg #[.int .u64 0, .int .u64 0]) (.agg #[.int .u64 0, .int .u64 0]) rfl rfl ?_ ?_) rfl ⟨rfl, ((((HO.out.setCell (by rw [HG.out]; show g ≤ g; omega) _).setCell (by rw [HG.out]; show g ≤ g; omega) _).setCell (by rw [HG.out]; show g ≤ g + 1; omega) _).setCell (by rw [HG.out]; show g ≤ g + 1; omega) _)⟩
        · go_simp
        · go_simp
      · rw [hA] at hV
        have hcg : rbx (rco f) k = bxI (cooI f) k := by
          rw [rbx_cong (rco f) (cooI f) k hn0 ?_ k (Nat.le_refl _)]
          · obtain ⟨m, rfl⟩ : ∃ m, k = m + 1 := ⟨k - 1, by omega⟩
            exact rbx_bx _ _
          · intro j hj
            have hp := allP_out hA j hj
            unfold rco cooI coordsV
            unfold isP at hp
            rw [hp]; rfl
        obtain ⟨i1, i2, i3, i4⟩ := RA.out k (Nat.le_refl _)
        rw [← hcg] at hV
        generalize rbx (rco f) k = q at *
        change ((enc q.a, enc q.b), (enc q.c, enc q.d), true) = V at hV
        subst hV
        clear hA HV hcg
        have J1 := Aside0.mk i1
        have J2 := Aside0.mk i2
        have J3 := Aside0.mk i3
        have J4 := Aside0.mk i4
        clear i1 i2 i3 i4
        go_wp2_with (first
          | (go_at_call 59; refine (rPoint_calls _ _ _).mono ?_; rintro e w3 ⟨rfl, hb⟩; rw [pointV_ok J3.out J4.out]
             have r0 := res_keep hb (z0 _); have r1 := res_keep hb (z1 _); have m0 := Own.cell hb (alc2_0 _ _ _ _); have m1 := Own.cell hb (alc2_1 _ _ _ _); have HO3 := Aside0.mk ((HO2.out.alloc _).trans hb); clear hb z0 z1 HO2
             rw [hk2] at m0 m1
             have y0 := fun o => res_alloc r0 o; have y1 := fun o => res_alloc r1 o; have n0 := fun o => Own.cell ((Own.refl w3).alloc o) m0; have n1 := fun o => Own.cell ((Own.refl w3).alloc o) m1)
          | (go_at_call 59; refine (rPoint_calls _ _ _).mono ?_; rintro e w2 ⟨rfl, hb⟩; rw [pointV_ok J1.out J2.out]
             have HO2 := Aside0.mk (HO.out.trans hb); have z0 := fun o => res_alloc (res_keep hb r0) o; have z1 := fun o => res_alloc (res_keep hb r1) o; obtain ⟨k2, hk2⟩ : ∃ k2, w2.heap.size = k2 := ⟨_, rfl⟩; have HK2 := Aside0.mk (hk2 ▸ cell_lt (res_keep hb r1).1 : g + 1 < k2); clear hb r0 r1))
        obtain ⟨k3, hk3⟩ : ∃ k3, w3.heap.size = k3 := ⟨_, rfl⟩
        have h0 := alc2_0 w3 (.int .u64 (enc q.c)) (.int .u64 (enc q.d)) 97
        have h1 := alc2_1 w3 (.int .u64 (enc q.c)) (.int .u64 (enc q.d)) 97
        have l0 := n0 (.cells #[.int .u64 (enc q.c), .int .u64 (enc q.d)] 97)
        have l1 := n1 (.cells #[.int .u64 (enc q.c), .int .u64 (enc q.d)] 97)
        have s0 := y0 (.cells #[.int .u64 (enc q.c), .int .u64 (enc q.d)] 97)
        have s1 := y1 (.cells #[.int .u64 (enc q.c), .int .u64 (enc q.d)] 97)
        have HO4 := Aside0.mk (HO3.out.alloc (.cells #[.int .u64 (enc q.c), .int .u64 (enc q.d)] 97))
        rw [hk3] at h0 h1 ⊢
        have hg2 : g + 1 < k2 := HK2.out
        have hg3 : k2 < k3 := by rw [← hk3]; exact cell_lt m0
        clear n0 n1 y0 y1 HO3 r0 r1 m0 m1 hk2 hk3 HF HC RA
        generalize w3.alloc (.cells #[.int .u64 (enc q.c), .int .u64 (enc q.d)] 97) = W2 at *
        obtain ⟨s00, s01, s02, s03⟩ := s0
        obtain ⟨s10, s11, s12, s13⟩ := s1
        replace s00 : W2.cell? ⟨g, 0, none⟩ = some (.int .u64 0) := s00
        replace s01 : W2.cell? ⟨g, 1, none⟩ = some (.int .u64 0) := s01
        replace s02 : W2.frozen? ⟨g, 0, none⟩ = false := s02
        replace s03 : W2.frozen? ⟨g, 1, none⟩ = false := s03
        replace s10 : W2.cell? ⟨g + 1, 0, none⟩ = some (.int .u64 0) := s10
        replace s11 : W2.cell? ⟨g + 1, 1, none⟩ = some (.int .u64 0) := s11
        replace s12 : W2.frozen? ⟨g + 1, 0, none⟩ = false := s12
        replace s13 : W2.frozen? ⟨g + 1, 1, none⟩ = false := s13
        have d0 : ¬ (g = k2) := by omega
        have d1 : ¬ (g + 1 = k2) := by omega
        have d2 : ¬ (g = k3) := by omega
        have d3 : ¬ (g + 1 = k3) := by omega
        have d4 : ¬ (k2 = g) := by omega
        have d5 : ¬ (k2 = g + 1) := by omega
        have d6 : ¬ (k3 = g) := by omega
        have d7 : ¬ (k3 = g + 1) := by omega
        go_region_held3 (fun w' => w'.cell? ⟨k2, 0, none⟩ = some (.int .u64 (enc q.a)) ∧ w'.cell? ⟨k2, 1, none⟩ = some (.int .u64 (enc q.b)) ∧ w'.cell? ⟨k3, 0, none⟩ = some (.int .u64 (enc q.c)) ∧ w'.cell? ⟨k3, 1, none⟩ = some (.int .u64 (enc q.d)))
          (first | exact ⟨l0, l1, h0, h1⟩ | (refine ⟨?_, ?_, ?_, ?_⟩ <;> go_simp) | assumption)
          (fail)
        all_goals
          go_wp2_with fail
          refine bodyPost_ret (results_cell3 rfl _ _ _ _ _ (.agg #[.int .u64 (enc q.a), .int .u64 (enc q.b)]) (.agg #[.int .u64 (enc q.c), .int .u64 (enc q.d)]) rfl rfl ?_ ?_) rfl ⟨rfl, Own.drew ((((HO4.out.setCell (by rw [HG.out]; show g ≤ g; omega) _).setCell (by rw [HG.out]; show g ≤ g; omega) _).setCell (by rw [HG.out]; show g ≤ g + 1; omega) _).setCell (by rw [HG.out]; show g ≤ g + 1; omega) _)⟩
          · go_simp
          · go_simp
end Go.Proofs.Ytmfdhcgdibefiaa.Pl

/- plane: rows of numbers; a box of none. -/
namespace Go.Proofs.Ytmfdhcgdibefiaa.Pl
open Go.RowKit Go.Proofs.YtmfdhcgdibefiaaW.PrintWords Go.Proofs.YtmfdhcgdibefiaaW.Lib Go.Proofs.YtmfdhcgdibefiaaW.Flt
set_option linter.unusedVariables false
set_option maxRecDepth 100000 in
theorem rBox_nil (A : Option Addr) (c : Nat) (w : World) : Calls Try.prog 68 #[.slice A 0 c] w fun e w' => e = .returned (.tuple #[.agg #[.int .u64 0, .int .u64 0], .agg #[.int .u64 0, .int .u64 0], .bool false]) ∧ Own w w' := by
  go_enter Try.func68, Try.ntmps68
  go_wp2_with fail
  all_goals
    refine bodyPost_ret (results_cell3 rfl _ _ _ _ _ (.agg #[.int .u64 0, .int .u64 0]) (.agg #[.int .u64 0, .int .u64 0]) rfl rfl ?_ ?_) rfl ⟨rfl, ?_⟩
    · go_simp
    · go_simp
    · exact ((Own.refl w).alloc _).alloc _
/-- The first k numbers, as complex values. -/
def cells (f : Nat → Nat × Nat) (k : Nat) : List Value := (List.range k).map fun j => .complex .f64 (f j).1 (f j).2
theorem Own.grown {w a b : World} {v : Value} {e : TypeId} {size n : Nat} {xs : List Value} (ho : Own w a) (hv : a.ownsRow w.heap.size e size v n xs) (hg : a.grownBy b v.ownBlock) : Own w b := by
  intro B hB
  refine (ho B hB).grown hg (Nat.le_trans hB ho.size) fun k hk => ?_
  obtain ⟨_, ⟨rfl, _⟩ | ⟨g, cap, cur, rfl, h2, _⟩⟩ := hv
  · cases hk
  · obtain rfl : g = k := by simpa [Value.ownBlock] using hk
    omega
end Go.Proofs.Ytmfdhcgdibefiaa.Pl

/- Complex values as a kind of one cell: its two halves as numbers of their bits. -/
namespace Go.Proofs.YtmfdhcgdibefiaaW.PrintWords
open Go
@[go_sem] theorem run_store_cplx (P : Program) (w : World) (a : Addr) (m : Mode) (k : FloatKind) (x y : Nat) : (store a (.complex k x y) m).run P w = stored P w a (.complex k x y) m := run_store P w a _ m rfl
end Go.Proofs.YtmfdhcgdibefiaaW.PrintWords
namespace Go.Proofs.YtmfdhcgdibefiaaW.PrintWords.Kd
open Go Go.RowKit
def cplx : Kd (Nat × Nat) := scalar (fun p : Nat × Nat => Value.complex .f64 p.1 p.2) (fun _ => rfl)
theorem at_cplx {w : World} {A : Option Addr} {n : Nat} {xs : List (Nat × Nat)} (h : Kd.cplx.C w A n xs) (i : Int) (h0 : 0 ≤ i) (h1 : i < n) : ∃ ad, A = some ad ∧ w.cell? (ad.add i.toNat) = some (.complex .f64 (rdOf ((0, 0) : Nat × Nat) xs i).1 (rdOf ((0, 0) : Nat × Nat) xs i).2) :=
  ReadsOf.at_ (reads_of_C (enc := fun p : Nat × Nat => Value.complex .f64 p.1 p.2) (d := ((0, 0) : Nat × Nat)) (h1 := fun _ => rfl) h) i h0 h1
end Go.Proofs.YtmfdhcgdibefiaaW.PrintWords.Kd

-- Written by wip/tools/gp.py, a program of this session round the kit's printer. Lean checks it.
namespace Go.Proofs.Ytmfdhcgdibefiaa.K
open Go.RowKit Go.Proofs.Ytmfdhcgdibefiaa.Q Go.Proofs.Ytmfdhcgdibefiaa.A Go.Proofs.Ytmfdhcgdibefiaa.B Go.Proofs.YtmfdhcgdibefiaaW.PrintWords Go.Proofs.YtmfdhcgdibefiaaW.PrintLast Go.Proofs.YtmfdhcgdibefiaaW.PrintMore
attribute [local go_sem] max2_int min2_int max_two min_two max_three min_three max_four min_four   -- for this text's walks alone
set_option linter.unusedVariables false
set_option linter.unusedSimpArgs false




-- the values' own types
/-! #### struct type 97 -/
structure S97 where
  f0 : Int
  f1 : Int
def z97 : S97 := ⟨(0 : Int), (0 : Int)⟩
def k97 : Kd S97 := Kd.iso (Kd.pair (Kd.int .u64) (Kd.int .u64)) (fun x : S97 => (x.f0, x.f1))
theorem k97_open {w : World} {x : S97} {cs : List Value} (h : k97.K w x cs) : cs = [.int .u64 x.f0, .int .u64 x.f1] := by
  obtain ⟨_, _, rfl, rfl, rfl⟩ := h
  exact rfl
theorem k97_mkM (w : World) (base : Nat) (ok : Nat → Prop) (x : S97)  : k97.M w base ok x [.int .u64 x.f0, .int .u64 x.f1] := ⟨[.int .u64 x.f0], [.int .u64 x.f1], rfl, rfl, rfl⟩
def rd_T97 (xs : List S97) (i : Int) : S97 := xs.getD i.toNat z97
theorem at_T97 {w : World} {A : Option Addr} {n : Nat} {xs : List S97} (h : Kd.C k97 w A n xs) (i : Int) (h0 : 0 ≤ i) (h1 : i < n) : ∃ ad , A = some ad ∧ w.cell? (ad.add (i.toNat * 2)) = some (.int .u64 (rd_T97 xs i).f0) ∧ w.cell? ⟨(ad.add (i.toNat * 2)).block, (ad.add (i.toNat * 2)).off + 1, none⟩ = some (.int .u64 (rd_T97 xs i).f1) := by
  obtain ⟨ad, c, e, _, hK, hc0⟩ := Kd.C_get h z97 i h0 h1
  have hc : ∀ j u, c[j]? = some u → w.cell? (ad.add (i.toNat * 2 + j)) = some u := hc0
  obtain rfl := k97_open hK
  exact ⟨ad, e, hc 0 _ rfl, by rw [← add_field _ _ 1 (by omega)]; exact hc 1 _ rfl⟩

/-! #### struct type 101 -/
structure S101 where
  f0 : S97
  f1 : Int
  f2 : ByteArray
def z101 : S101 := ⟨z97, (0 : Int), (⟨#[]⟩ : ByteArray)⟩
def k101 : Kd S101 := Kd.iso (Kd.pair k97 (Kd.pair (Kd.int .i64) Kd.string)) (fun x : S101 => (x.f0, x.f1, x.f2))
theorem k101_open {w : World} {x : S101} {cs : List Value} (h : k101.K w x cs) : cs = [.int .u64 x.f0.f0, .int .u64 x.f0.f1, .int .i64 x.f1, .string x.f2] := by
  obtain ⟨_, _, rfl, s0, ⟨_, _, rfl, rfl, rfl⟩⟩ := h
  obtain rfl := k97_open s0
  exact rfl
theorem k101_mkM (w : World) (base : Nat) (ok : Nat → Prop) (x : S101)  : k101.M w base ok x [.int .u64 x.f0.f0, .int .u64 x.f0.f1, .int .i64 x.f1, .string x.f2] := ⟨[.int .u64 x.f0.f0, .int .u64 x.f0.f1], [.int .i64 x.f1, .string x.f2], rfl, (k97_mkM w base ok x.f0 ), ⟨[.int .i64 x.f1], [.string x.f2], rfl, rfl, rfl⟩⟩
def rd_T101 (xs : List S101) (i : Int) : S101 := xs.getD i.toNat z101
theorem at_T101 {w : World} {A : Option Addr} {n : Nat} {xs : List S101} (h : Kd.C k101 w A n xs) (i : Int) (h0 : 0 ≤ i) (h1 : i < n) : ∃ ad , A = some ad ∧ w.cell? (ad.add (i.toNat * 4)) = some (.int .u64 (rd_T101 xs i).f0.f0) ∧ w.cell? ⟨(ad.add (i.toNat * 4)).block, (ad.add (i.toNat * 4)).off + 1, none⟩ = some (.int .u64 (rd_T101 xs i).f0.f1) ∧ w.cell? ⟨(ad.add (i.toNat * 4)).block, (ad.add (i.toNat * 4)).off + 2, none⟩ = some (.int .i64 (rd_T101 xs i).f1) ∧ w.cell? ⟨(ad.add (i.toNat * 4)).block, (ad.add (i.toNat * 4)).off + 3, none⟩ = some (.string (rd_T101 xs i).f2) := by
  obtain ⟨ad, c, e, _, hK, hc0⟩ := Kd.C_get h z101 i h0 h1
  have hc : ∀ j u, c[j]? = some u → w.cell? (ad.add (i.toNat * 4 + j)) = some u := hc0
  obtain rfl := k101_open hK
  exact ⟨ad, e, hc 0 _ rfl, by rw [← add_field _ _ 1 (by omega)]; exact hc 1 _ rfl, by rw [← add_field _ _ 2 (by omega)]; exact hc 2 _ rfl, by rw [← add_field _ _ 3 (by omega)]; exact hc 3 _ rfl⟩

end Go.Proofs.Ytmfdhcgdibefiaa.K

-- Written by wip/tools/gp.py, a program of this session round the kit's printer. Lean checks it.
namespace Go.Proofs.Ytmfdhcgdibefiaa.K
open Go.RowKit Go.Proofs.Ytmfdhcgdibefiaa.Q Go.Proofs.Ytmfdhcgdibefiaa.A Go.Proofs.Ytmfdhcgdibefiaa.B Go.Proofs.YtmfdhcgdibefiaaW.PrintWords Go.Proofs.YtmfdhcgdibefiaaW.PrintLast Go.Proofs.YtmfdhcgdibefiaaW.PrintMore
attribute [local go_sem] max2_int min2_int max_two min_two max_three min_three max_four min_four   -- for this text's walks alone
set_option linter.unusedVariables false
set_option linter.unusedSimpArgs false

/-! ### merkhetlaw26_great: function 28 -/
def merkhetlaw26_great.l0 : Nat → List (S101) → List (S101) → Int → Int → Option (Bool)
  | 0, _, _, _, _ => none
  | k + 1, x0, x5, x6, x7 => if x7 < x6 then (if 0 ≤ x7 then (if x7 < (x5.length : Int) then (if (((rd_T101 x5 x7).f2).size : Int) > 100 then (some true) else (merkhetlaw26_great.l0 k x0 x5 x6 (wrap64 (x7 + 1)))) else (none)) else (none)) else (some (decide ((x0.length : Int) > 60)))
def merkhetlaw26_great.f (k : Nat) (l0 : List (S101)) : Option (Bool) := merkhetlaw26_great.l0 k l0 l0 (l0.length : Int) 0
theorem merkhetlaw26_great.mono_l : ∀ k, (∀ y0 y1 y2 y3, LeO (merkhetlaw26_great.l0 k y0 y1 y2 y3) (merkhetlaw26_great.l0 (k + 1) y0 y1 y2 y3))
  | 0 => fun _ _ _ _ r h => by simp [merkhetlaw26_great.l0] at h
  | k + 1 => by
    have ih0 := merkhetlaw26_great.mono_l k
    · intro y0 y1 y2 y3
      unfold merkhetlaw26_great.l0
      repeat' first
      | (with_reducible exact ih0 _ _ _ _)
      | (with_reducible exact LeO.refl _)
      | (with_reducible exact LeO.none _)
      | (with_reducible refine LeO.ite ?_ ?_)
      | (with_reducible refine LeO.bind ?_ (fun _ => ?_))
      | exact ih0 _ _ _ _
      | exact LeO.none _
      | refine LeO.ite ?_ ?_
      | refine LeO.bind ?_ (fun _ => ?_)
theorem merkhetlaw26_great.mono : ∀ a0 k, LeO (merkhetlaw26_great.f k a0) (merkhetlaw26_great.f (k + 1) a0) := by
  intro a0 k
  have ih0 := merkhetlaw26_great.mono_l k
  unfold merkhetlaw26_great.f
  repeat' first
      | (with_reducible exact ih0 _ _ _ _)
      | (with_reducible exact LeO.refl _)
      | (with_reducible exact LeO.none _)
      | (with_reducible refine LeO.ite ?_ ?_)
      | (with_reducible refine LeO.bind ?_ (fun _ => ?_))
      | exact ih0 _ _ _ _
      | exact LeO.none _
      | refine LeO.ite ?_ ?_
      | refine LeO.bind ?_ (fun _ => ?_)
set_option maxHeartbeats 8000000 in
set_option maxRecDepth 100000 in
theorem merkhetlaw26_great.calls (k : Nat) (A0 : Option Addr) (c0 : Nat) (l0 : List (S101)) (r : Bool) (w : World) (hr0 : Kd.C k101 w A0 l0.length l0) (hc0 : l0.length ≤ c0) (h : merkhetlaw26_great.f k l0 = some r) :
    Calls Try.prog 28 #[.slice A0 l0.length c0] w fun e w' => e = .returned (.bool r) ∧ Below w.heap.size w w' := by
  have hu101 := Try.underlying101
  have HR0 := Aside0.mk hr0
  have HC0 := Aside0.mk hc0
  clear hr0 hc0
  have HB := Aside0.mk (Below.refl w.heap.size w)
  have H : (merkhetlaw26_great.l0 k l0 l0 (l0.length : Int) 0) = some r := h
  clear h
  have H' := Aside0.mk H
  clear H
  go_enter Try.func28, Try.ntmps28
  go_wp2
  go_loopg [7] k (fun kq v7 w' => ∃ (x7_1 : Int), v7 = .int .i64 x7_1 ∧ Aside0 (merkhetlaw26_great.l0 kq l0 l0 (l0.length : Int) x7_1 = some r) ∧ Aside0 (kq ≤ k) ∧ Aside0 (Below w.heap.size w w'))
  case atStart => exact ⟨(0), (by first | rfl | (simp; done) | (simp [*]; done)), H', ⟨Nat.le_refl _⟩, ⟨by repeat (first | (with_reducible first | exact HB.out | apply below_alloc | apply pw_below_drewN | apply below_drew1) | exact HB.out)⟩⟩
  case round =>
    clear H'
    obtain ⟨x7_1, rfl, HA, HK1, HB⟩ := hrel
    cases gk with
    | zero => exact absurd HA.out (by simp [merkhetlaw26_great.l0])
    | succ k1 =>
      have H := HA.out
      clear HA
      simp only [merkhetlaw26_great.l0] at H
      by_cases c2 : x7_1 < (l0.length : Int)
      · rw [if_pos c2] at H
        have c2b0 : decide (x7_1 < (l0.length : Int)) = true := decide_eq_true c2
        clear c2
        by_cases c3 : 0 ≤ x7_1
        · rw [if_pos c3] at H
          have c3b0 : decide (0 ≤ x7_1) = true := decide_eq_true c3
          clear c3
          by_cases c4 : x7_1 < (l0.length : Int)
          · rw [if_pos c4] at H
            have c4b0 : decide (x7_1 < (l0.length : Int)) = true := decide_eq_true c4
            clear c4
            by_cases c5 : (((rd_T101 l0 x7_1).f2).size : Int) > 100
            · rw [if_pos c5] at H
              have c5b0 : decide (100 < (((rd_T101 l0 x7_1).f2).size : Int)) = true := decide_eq_true c5
              have c5b1 : decide (100 < ((rd_T101 l0 x7_1).f2).size) = true := decide_eq_true (by omega)
              clear c5
              obtain rfl := Option.some.inj H
              have p101 : 0 ≤ (x7_1 : Int) := of_decide_eq_true (by first | (with_reducible assumption) | assumption)
              have q101 : x7_1 < (l0.length : Int) := of_decide_eq_true (by first | (with_reducible assumption) | assumption)
              obtain ⟨ad101, e101, hx101_0, hx101_1, hx101_2, hx101_3⟩ := at_T101 HR0.out x7_1 p101 q101
              cases e101
              replace hx101_0 := (HB.out.cell (World.block_lt_of_cell? w _ hx101_0)).trans hx101_0
              replace hx101_1 := (HB.out.cell (World.block_lt_of_cell? w _ hx101_1)).trans hx101_1
              replace hx101_2 := (HB.out.cell (World.block_lt_of_cell? w _ hx101_2)).trans hx101_2
              replace hx101_3 := (HB.out.cell (World.block_lt_of_cell? w _ hx101_3)).trans hx101_3
              replace p101 := eq_true p101
              replace q101 := eq_true q101
              go_wp2_with (first | ((with_reducible refine gate_dst (N := 4) rfl ?_); refine box_event ?hg (N := 4) ?hd (cs := #[.int .u64 0, .int .u64 0, .int .i64 0, .string (⟨#[]⟩ : ByteArray)]) (t := 101) ?hr ?_; (case hd => rfl); (case hg => rfl); (case hr => first | (go_simp; done) | (go_simp; rfl)); intro gb102 hg w6 hbox hb; have n0_ := Aside0.mk (below_step (by repeat (first | (with_reducible first | exact HB.out | apply below_alloc | apply pw_below_drewN | apply below_drew1) | exact HB.out)) hb); have n1_ := Aside0.mk (hbox); have n2_ := Aside0.mk ((by rw [hg]; exact (below_size (by repeat (first | (with_reducible first | exact HB.out | apply below_alloc | apply pw_below_drewN | apply below_drew1) | exact HB.out))) : w.heap.size ≤ gb102)); have n3_ := Aside0.mk ((by rw [hg]; exact (below_size (by repeat (first | (with_reducible first | exact HB.out | apply below_alloc | apply pw_below_drewN | apply below_drew1) | exact HB.out))) : w.heap.size ≤ gb102)); clear HB; have HB := n0_; have BK102 := n1_; have GW102 := n2_; have GE102 := n3_; clear n0_ n1_ n2_ n3_; clear hb hbox hg; have hcz7_0 : w6.cell? ⟨gb102, 0, none⟩ = some (.int .u64 0) := (blk_cell BK102.out 0).trans rfl; have hcz7_1 : w6.cell? ⟨gb102, 1, none⟩ = some (.int .u64 0) := (blk_cell BK102.out 1).trans rfl; have hcz7_2 : w6.cell? ⟨gb102, 2, none⟩ = some (.int .i64 0) := (blk_cell BK102.out 2).trans rfl; have hcz7_3 : w6.cell? ⟨gb102, 3, none⟩ = some (.string (⟨#[]⟩ : ByteArray)) := (blk_cell BK102.out 3).trans rfl; have hfz7_0 := blk_frozen BK102.out 0; have hfz7_1 := blk_frozen BK102.out 1; have hfz7_2 := blk_frozen BK102.out 2; have hfz7_3 := blk_frozen BK102.out 3))
              go_ret
              exact ⟨by first | rfl | (simp [errW_none, errW_some] <;> rfl) | (simp [*, errW_none, errW_some] <;> rfl), by repeat (first | (with_reducible first | exact HB.out | apply below_alloc | apply pw_below_drewN | apply below_drew1 | refine below_set ?_ GE102.out) | exact HB.out)⟩
            · rw [if_neg c5] at H
              have c5b0 : decide (100 < (((rd_T101 l0 x7_1).f2).size : Int)) = false := decide_eq_false c5
              have c5b1 : decide (100 < ((rd_T101 l0 x7_1).f2).size) = false := decide_eq_false (by omega)
              clear c5
              have H' := Aside0.mk H
              clear H
              have p101 : 0 ≤ (x7_1 : Int) := of_decide_eq_true (by first | (with_reducible assumption) | assumption)
              have q101 : x7_1 < (l0.length : Int) := of_decide_eq_true (by first | (with_reducible assumption) | assumption)
              obtain ⟨ad101, e101, hx101_0, hx101_1, hx101_2, hx101_3⟩ := at_T101 HR0.out x7_1 p101 q101
              cases e101
              replace hx101_0 := (HB.out.cell (World.block_lt_of_cell? w _ hx101_0)).trans hx101_0
              replace hx101_1 := (HB.out.cell (World.block_lt_of_cell? w _ hx101_1)).trans hx101_1
              replace hx101_2 := (HB.out.cell (World.block_lt_of_cell? w _ hx101_2)).trans hx101_2
              replace hx101_3 := (HB.out.cell (World.block_lt_of_cell? w _ hx101_3)).trans hx101_3
              replace p101 := eq_true p101
              replace q101 := eq_true q101
              go_wp2_with (first | ((with_reducible refine gate_dst (N := 4) rfl ?_); refine box_event ?hg (N := 4) ?hd (cs := #[.int .u64 0, .int .u64 0, .int .i64 0, .string (⟨#[]⟩ : ByteArray)]) (t := 101) ?hr ?_; (case hd => rfl); (case hg => rfl); (case hr => first | (go_simp; done) | (go_simp; rfl)); intro gb102 hg w8 hbox hb; have n0_ := Aside0.mk (below_step (by repeat (first | (with_reducible first | exact HB.out | apply below_alloc | apply pw_below_drewN | apply below_drew1) | exact HB.out)) hb); have n1_ := Aside0.mk (hbox); have n2_ := Aside0.mk ((by rw [hg]; exact (below_size (by repeat (first | (with_reducible first | exact HB.out | apply below_alloc | apply pw_below_drewN | apply below_drew1) | exact HB.out))) : w.heap.size ≤ gb102)); have n3_ := Aside0.mk ((by rw [hg]; exact (below_size (by repeat (first | (with_reducible first | exact HB.out | apply below_alloc | apply pw_below_drewN | apply below_drew1) | exact HB.out))) : w.heap.size ≤ gb102)); clear HB; have HB := n0_; have BK102 := n1_; have GW102 := n2_; have GE102 := n3_; clear n0_ n1_ n2_ n3_; clear hb hbox hg; have hcz9_0 : w8.cell? ⟨gb102, 0, none⟩ = some (.int .u64 0) := (blk_cell BK102.out 0).trans rfl; have hcz9_1 : w8.cell? ⟨gb102, 1, none⟩ = some (.int .u64 0) := (blk_cell BK102.out 1).trans rfl; have hcz9_2 : w8.cell? ⟨gb102, 2, none⟩ = some (.int .i64 0) := (blk_cell BK102.out 2).trans rfl; have hcz9_3 : w8.cell? ⟨gb102, 3, none⟩ = some (.string (⟨#[]⟩ : ByteArray)) := (blk_cell BK102.out 3).trans rfl; have hfz9_0 := blk_frozen BK102.out 0; have hfz9_1 := blk_frozen BK102.out 1; have hfz9_2 := blk_frozen BK102.out 2; have hfz9_3 := blk_frozen BK102.out 3))
              go_roundg k1
              case measure => have := HK1.out; omega
              case rel => exact ⟨(wrap64 (x7_1 + 1)), (by first | rfl | (simp; done) | (simp [*]; done)), H', ⟨by have := HK1.out; omega⟩, ⟨by repeat (first | (with_reducible first | exact HB.out | apply below_alloc | apply pw_below_drewN | apply below_drew1 | refine below_set ?_ GE102.out) | exact HB.out)⟩⟩
          · rw [if_neg c4] at H
            exact absurd H (by simp)
        · rw [if_neg c3] at H
          exact absurd H (by simp)
      · rw [if_neg c2] at H
        have c2b0 : decide (x7_1 < (l0.length : Int)) = false := decide_eq_false c2
        clear c2
        obtain rfl := Option.some.inj H
        go_wp2
        go_ret
        exact ⟨by first | rfl | (simp [errW_none, errW_some] <;> rfl) | (simp [*, errW_none, errW_some] <;> rfl), by repeat (first | (with_reducible first | exact HB.out | apply below_alloc | apply pw_below_drewN | apply below_drew1) | exact HB.out)⟩

end Go.Proofs.Ytmfdhcgdibefiaa.K

/- plane's and its document's functions over pairs of bits (for the printed texts). -/
namespace Go.Proofs.Ytmfdhcgdibefiaa.Pl
open Go.RowKit Go.Proofs.Ytmfdhcgdibefiaa.Q Go.Proofs.Ytmfdhcgdibefiaa.K Go.Proofs.YtmfdhcgdibefiaaW.PrintWords Go.Proofs.YtmfdhcgdibefiaaW.Lib Go.Proofs.YtmfdhcgdibefiaaW.Flt
set_option linter.unusedVariables false
set_option linter.unusedSimpArgs false
abbrev NumB := S97
def bitI (n : Int) : Prop := 0 ≤ n ∧ n < 18446744073709551616
instance (n : Int) : Decidable (bitI n) := by unfold bitI; infer_instance
def bitP (p : Nat × Nat) : Prop := p.1 < 18446744073709551616 ∧ p.2 < 18446744073709551616
instance (p : Nat × Nat) : Decidable (bitP p) := by unfold bitP; infer_instance
def bitN (x : NumB) : Prop := bitI x.f0 ∧ bitI x.f1
instance (x : NumB) : Decidable (bitN x) := by unfold bitN; infer_instance
/-- A number's bits, as a complex value's. -/
def cpl (a b : Int) : Nat × Nat := (a.toNat, b.toNat)
theorem own_below {w w' : World} (h : Own w w') : Below w.heap.size w w' := h _ (Nat.le_refl _)
theorem cplx_cells {w : World} {ad : Addr} {l : List (Nat × Nat)} (h : Kd.cplx.C w (some ad) l.length l) (j : Nat) (hj : j < l.length) : w.cell? (ad.add j) = some (.complex .f64 (l.getD j (0, 0)).1 (l.getD j (0, 0)).2) := by
  obtain ⟨ad', e, hc⟩ := Kd.at_cplx h (j : Int) (by omega) (by omega)
  cases e
  rw [Int.toNat_natCast] at hc
  rw [hc]
  rfl
set_option maxRecDepth 100000 in
theorem boxE_calls (A : Option Addr) (c : Nat) (w : World) : Calls Try.prog 63 #[.slice A 0 c] w fun e w' => e = .returned (.tuple #[.complex .f64 0 0, .complex .f64 0 0, .bool false]) ∧ w' = w := by
  go_enter Try.func63, Try.ntmps63
  go_wp2_with fail
  refine wp_loop_once ?_
  go_wp2_with fail
  go_ret3
  exact ⟨rfl, rfl⟩
/-- plane.Box of numbers. -/
def boxC (l : List (Nat × Nat)) : (Nat × Nat) × (Nat × Nat) × Bool := boxV (fun j => l.getD j (0, 0)) l.length
theorem boxC_calls (A : Option Addr) (c : Nat) (l : List (Nat × Nat)) (w : World) (hr : Kd.cplx.C w A l.length l) (hc : l.length ≤ c) (hl : l.length ≤ 1000) (hb : ∀ p ∈ l, bitP p) :
    Calls Try.prog 63 #[.slice A l.length c] w fun e w' => e = .returned (.tuple #[.complex .f64 (boxC l).1.1 (boxC l).1.2, .complex .f64 (boxC l).2.1.1 (boxC l).2.1.2, .bool (boxC l).2.2]) ∧ w' = w := by
  by_cases h0 : l.length = 0
  · obtain rfl : l = [] := List.length_eq_zero_iff.1 h0
    exact boxE_calls A c w
  · obtain ⟨ad, hA, _⟩ := Kd.at_cplx hr 0 (by omega) (by omega)
    subst hA
    refine Box_calls ad l.length c (fun j => l.getD j (0, 0)) w hl hc (fun j hj => ?_) (fun j hj => cplx_cells hr j hj)
    have hm : l.getD j (0, 0) ∈ l := by rw [List.getD_eq_getElem?_getD, List.getElem?_eq_getElem hj]; exact List.getElem_mem _
    exact hb _ hm
theorem bxI_same (f g : Nat → Int × Int) : ∀ k, (∀ j, j < k → f j = g j) → bxI f k = bxI g k
  | 0, _ => rfl
  | k + 1, h => by
    unfold bxI
    rw [h k (by omega), bxI_same f g k (fun j hj => h j (by omega))]
theorem allP_same (f g : Nat → Bool) : ∀ k, (∀ j, j < k → f j = g j) → allP f k = allP g k
  | 0, _ => rfl
  | k + 1, h => by
    unfold allP
    rw [h k (by omega), allP_same f g k (fun j hj => h j (by omega))]
theorem boxV_cong (f g : Nat → Nat × Nat) (n : Nat) (h : ∀ j, j < n → f j = g j) : boxV f n = boxV g n := by
  unfold boxV
  rw [bxI_same (cooI f) (cooI g) n (fun j hj => by unfold cooI; rw [h j hj]), allP_same (isP f) (isP g) n (fun j hj => by unfold isP; rw [h j hj])]
/-- The document's box. -/
def natN (x : NumB) : Nat × Nat := cpl x.f0 x.f1
def boxN (l : List NumB) : Int × Int × Int × Int × Bool := (((boxC (l.map natN)).1.1 : Int), ((boxC (l.map natN)).1.2 : Int), ((boxC (l.map natN)).2.1.1 : Int), ((boxC (l.map natN)).2.1.2 : Int), (boxC (l.map natN)).2.2)
theorem boxN_calls (A : Option Addr) (c : Nat) (l : List NumB) (w : World) (hr : Kd.C k97 w A l.length l) (hc : l.length ≤ c) (hl : l.length ≤ 1000) (hb : ∀ p ∈ l, bitN p) :
    Calls Try.prog 68 #[.slice A l.length c] w fun e w' => e = .returned (.tuple #[.agg #[.int .u64 (boxN l).1, .int .u64 (boxN l).2.1], .agg #[.int .u64 (boxN l).2.2.1, .int .u64 (boxN l).2.2.2.1], .bool (boxN l).2.2.2.2]) ∧ Own w w' := by
  by_cases h0 : l.length = 0
  · obtain rfl : l = [] := List.length_eq_zero_iff.1 h0
    exact rBox_nil A c w
  · obtain ⟨ad, hA, _⟩ := at_T97 hr 0 (by omega) (by omega)
    subst hA
    have hD : ∀ j, j < l.length → (l.map natN).getD j (0, 0) = natN (rd_T97 l (j : Int)) := by
      intro j hj
      rw [List.getD_eq_getElem?_getD, List.getElem?_map, List.getElem?_eq_getElem hj]
      simp [rd_T97, List.getD, hj]
    have hM : ∀ j, j < l.length → bitN (rd_T97 l (j : Int)) := by
      intro j hj
      have e : rd_T97 l (j : Int) = l[j] := by simp [rd_T97, List.getD, hj]
      rw [e]
      exact hb _ (List.getElem_mem _)
    have e5 : boxC (l.map natN) = boxV (fun j => natN (rd_T97 l (j : Int))) l.length := by
      unfold boxC
      rw [List.length_map]
      exact boxV_cong _ _ _ (fun j hj => hD j hj)
    unfold boxN
    rw [e5]
    refine rBox_calls ad l.length c (fun j => natN (rd_T97 l (j : Int))) w hl hc (by omega) (fun j hj => ?_) (fun j hj => ?_)
    · have h := hM j hj
      unfold bitN bitI at h
      unfold natN cpl
      constructor <;> (dsimp only; omega)
    · obtain ⟨ad', e, h0, h1⟩ := at_T97 hr (j : Int) (by omega) (by omega)
      cases e
      rw [Int.toNat_natCast] at h0 h1
      have h := hM j hj
      unfold bitN bitI at h
      unfold natN cpl
      refine ⟨h0.trans ?_, h1.trans ?_⟩
      · dsimp only; congr 2; omega
      · dsimp only; congr 2; omega
end Go.Proofs.Ytmfdhcgdibefiaa.Pl

-- Written by wip/tools/gp.py, a program of this session round the kit's printer. Lean checks it.
namespace Go.Proofs.Ytmfdhcgdibefiaa.C
open Go.RowKit Go.Proofs.Ytmfdhcgdibefiaa.Q Go.Proofs.Ytmfdhcgdibefiaa.A Go.Proofs.Ytmfdhcgdibefiaa.B Go.Proofs.Ytmfdhcgdibefiaa.K Go.Proofs.YtmfdhcgdibefiaaW.PrintWords Go.Proofs.YtmfdhcgdibefiaaW.PrintLast Go.Proofs.YtmfdhcgdibefiaaW.PrintMore
attribute [local go_sem] max2_int min2_int max_two min_two max_three min_three max_four min_four   -- for this text's walks alone
set_option linter.unusedVariables false
set_option linter.unusedSimpArgs false




theorem info66 : (Try.prog.info? 66).map (fun i => (i.zero, i.size, i.bytes)) = some (some (.complex .f64 0 0), 1, 16) := by kernel_rfl
theorem info68 : (Try.prog.info? 68).map (fun i => (i.zero, i.size, i.bytes)) = some (some (.agg #[(.complex .f64 0 0), (.int .i64 0), (.string ⟨#[]⟩)]), 3, 40) := by kernel_rfl
theorem info97 : (Try.prog.info? 97).map (fun i => (i.zero, i.size, i.bytes)) = some (some (.agg #[(.int .u64 0), (.int .u64 0)]), 2, 16) := by kernel_rfl
theorem info101 : (Try.prog.info? 101).map (fun i => (i.zero, i.size, i.bytes)) = some (some (.agg #[(.int .u64 0), (.int .u64 0), (.int .i64 0), (.string ⟨#[]⟩)]), 4, 40) := by kernel_rfl
-- the values' own types
/-! #### struct type 68 -/
structure S68 where
  f0 : (Nat × Nat)
  f1 : Int
  f2 : ByteArray
def z68 : S68 := ⟨((0, 0) : Nat × Nat), (0 : Int), (⟨#[]⟩ : ByteArray)⟩
def k68 : Kd S68 := Kd.iso (Kd.pair Kd.cplx (Kd.pair (Kd.int .i64) Kd.string)) (fun x : S68 => (x.f0, x.f1, x.f2))
theorem k68_open {w : World} {x : S68} {cs : List Value} (h : k68.K w x cs) : cs = [.complex .f64 x.f0.1 x.f0.2, .int .i64 x.f1, .string x.f2] := by
  obtain ⟨_, _, rfl, rfl, ⟨_, _, rfl, rfl, rfl⟩⟩ := h
  exact rfl
theorem k68_mkM (w : World) (base : Nat) (ok : Nat → Prop) (x : S68)  : k68.M w base ok x [.complex .f64 x.f0.1 x.f0.2, .int .i64 x.f1, .string x.f2] := ⟨[.complex .f64 x.f0.1 x.f0.2], [.int .i64 x.f1, .string x.f2], rfl, rfl, ⟨[.int .i64 x.f1], [.string x.f2], rfl, rfl, rfl⟩⟩
def rd_T68 (xs : List S68) (i : Int) : S68 := xs.getD i.toNat z68
theorem at_T68 {w : World} {A : Option Addr} {n : Nat} {xs : List S68} (h : Kd.C k68 w A n xs) (i : Int) (h0 : 0 ≤ i) (h1 : i < n) : ∃ ad , A = some ad ∧ w.cell? (ad.add (i.toNat * 3)) = some (.complex .f64 (rd_T68 xs i).f0.1 (rd_T68 xs i).f0.2) ∧ w.cell? ⟨(ad.add (i.toNat * 3)).block, (ad.add (i.toNat * 3)).off + 1, none⟩ = some (.int .i64 (rd_T68 xs i).f1) ∧ w.cell? ⟨(ad.add (i.toNat * 3)).block, (ad.add (i.toNat * 3)).off + 2, none⟩ = some (.string (rd_T68 xs i).f2) := by
  obtain ⟨ad, c, e, _, hK, hc0⟩ := Kd.C_get h z68 i h0 h1
  have hc : ∀ j u, c[j]? = some u → w.cell? (ad.add (i.toNat * 3 + j)) = some u := hc0
  obtain rfl := k68_open hK
  exact ⟨ad, e, hc 0 _ rfl, by rw [← add_field _ _ 1 (by omega)]; exact hc 1 _ rfl, by rw [← add_field _ _ 2 (by omega)]; exact hc 2 _ rfl⟩

end Go.Proofs.Ytmfdhcgdibefiaa.C

-- Written by wip/tools/gp.py, a program of this session round the kit's printer. Lean checks it.
namespace Go.Proofs.Ytmfdhcgdibefiaa.C
open Go.RowKit Go.Proofs.Ytmfdhcgdibefiaa.Q Go.Proofs.Ytmfdhcgdibefiaa.A Go.Proofs.Ytmfdhcgdibefiaa.B Go.Proofs.Ytmfdhcgdibefiaa.K Go.Proofs.YtmfdhcgdibefiaaW.PrintWords Go.Proofs.YtmfdhcgdibefiaaW.PrintLast Go.Proofs.YtmfdhcgdibefiaaW.PrintMore
attribute [local go_sem] max2_int min2_int max_two min_two max_three min_three max_four min_four   -- for this text's walks alone
set_option linter.unusedVariables false
set_option linter.unusedSimpArgs false

/-! ### plane_Coords: function 61 (given) -/
def plane_Coords.f (a0 : Nat × Nat) : Option (Int × Int × Bool) := if Pl.bitP a0 then some (Pl.coordsV a0.1 a0.2) else none
theorem plane_Coords.calls (a0 : Nat × Nat) (r1 : Int) (r2 : Int) (r3 : Bool) (w : World) (h : plane_Coords.f a0 = some (r1, r2, r3)) :
    Calls Try.prog 61 #[.complex .f64 a0.1 a0.2] w fun e w' => e = .returned (.tuple #[.int .i64 r1, .int .i64 r2, .bool r3]) ∧ Drawn0 w w' := by
  unfold plane_Coords.f at h
  split at h
  · rename_i hl
    have e := Option.some.inj h
    have q := Pl.Coords_calls a0.1 a0.2 hl.1 hl.2 w
    rw [e] at q
    exact q.mono (by rintro e w' ⟨rfl, rfl⟩; exact ⟨rfl, Drawn0.refl _⟩)
  · cases h

/-! ### plane_Turn: function 62 (given) -/
def plane_Turn.f (a0 : Nat × Nat) (a1 : Int) : Option ((Nat × Nat)) := if Pl.bitP a0 then some (Pl.turnV a0.1 a0.2 a1) else none
theorem plane_Turn.calls (a0 : Nat × Nat) (a1 : Int) (r : Nat × Nat) (w : World) (h : plane_Turn.f a0 a1 = some r) :
    Calls Try.prog 62 #[.complex .f64 a0.1 a0.2, .int .i64 a1] w fun e w' => e = .returned (.complex .f64 r.1 r.2) ∧ Drawn0 w w' := by
  unfold plane_Turn.f at h
  split at h
  · rename_i hl
    have e := Option.some.inj h
    have q := Pl.Turn_calls a0.1 a0.2 a1 hl.1 hl.2 w
    rw [e] at q
    exact q.mono (by rintro e w' ⟨rfl, rfl⟩; exact ⟨rfl, Drawn0.refl _⟩)
  · cases h

/-! ### plane_Box: function 63 (given) -/
def plane_Box.f (l0 : List (Nat × Nat)) : Option ((Nat × Nat) × (Nat × Nat) × Bool) := if l0.length ≤ 1000 ∧ ∀ p ∈ l0, Pl.bitP p then some (Pl.boxC l0) else none
theorem plane_Box.calls (A0 : Option Addr) (c0 : Nat) (l0 : List (Nat × Nat)) (r1 : Nat × Nat) (r2 : Nat × Nat) (r3 : Bool) (w : World) (hr0 : Kd.C Kd.cplx w A0 l0.length l0) (hc0 : l0.length ≤ c0) (h : plane_Box.f l0 = some (r1, r2, r3)) :
    Calls Try.prog 63 #[.slice A0 l0.length c0] w fun e w' => e = .returned (.tuple #[.complex .f64 r1.1 r1.2, .complex .f64 r2.1 r2.2, .bool r3]) ∧ Drawn0 w w' := by
  unfold plane_Box.f at h
  split at h
  · rename_i hl
    have e := Option.some.inj h
    have q := Pl.boxC_calls A0 c0 l0 w hr0 hc0 hl.1 hl.2
    rw [e] at q
    exact q.mono (by rintro e w' ⟨rfl, rfl⟩; exact ⟨rfl, Drawn0.refl _⟩)
  · cases h

/-! ### plane_Move: function 64 (given) -/
def plane_Move.f (a0 : Nat × Nat) (a1 : Nat × Nat) : Option ((Nat × Nat) × Bool) := if Pl.bitP a0 ∧ Pl.bitP a1 then some (((Pl.moveV a0.1 a0.2 a1.1 a1.2).1, (Pl.moveV a0.1 a0.2 a1.1 a1.2).2.1), (Pl.moveV a0.1 a0.2 a1.1 a1.2).2.2) else none
theorem plane_Move.calls (a0 : Nat × Nat) (a1 : Nat × Nat) (r1 : Nat × Nat) (r2 : Bool) (w : World) (h : plane_Move.f a0 a1 = some (r1, r2)) :
    Calls Try.prog 64 #[.complex .f64 a0.1 a0.2, .complex .f64 a1.1 a1.2] w fun e w' => e = .returned (.tuple #[.complex .f64 r1.1 r1.2, .bool r2]) ∧ Below w.heap.size w w' := by
  unfold plane_Move.f at h
  split at h
  · rename_i hl
    have e := Option.some.inj h
    obtain ⟨rfl, rfl⟩ := Prod.mk.inj e
    exact (Pl.Move_calls a0.1 a0.2 a1.1 a1.2 hl.1.1 hl.1.2 hl.2.1 hl.2.2 w).mono (by rintro e w' ⟨rfl, hb⟩; exact ⟨rfl, hb _⟩)
  · cases h

/-! ### chart_Turned: function 29 -/
mutual
def chart_Turned.l0 : Nat → List (S68) → Int → List (Nat × Nat) → List (S68) → Int → Int → Option ((List (S68)) × Int)
  | 0, _, _, _, _, _, _ => none
  | k + 1, x0, x1, x6, x20, x21, x22 => if x22 < x21 then (if 0 ≤ x22 then (if x22 < (x20.length : Int) then ((plane_Coords.f ((rd_T68 x20 x22).f0)).bind fun bt153 => (if bt153.2.2 = true then ((plane_Turn.f ((rd_T68 x20 x22).f0) x1).bind fun t156 => (if x6.length < 8796093022208 then (chart_Turned.l0 k x0 x1 (x6 ++ [t156]) x20 x21 (wrap64 (x22 + 1))) else (none))) else (some (([] : List (S68)), 3)))) else (none)) else (none)) else ((plane_Box.f x6).bind fun bt160 => (chart_Turned.l1 k x6 bt160.1 ([] : List (S68)) x0 (x0.length : Int) 0))
def chart_Turned.l1 : Nat → List (Nat × Nat) → (Nat × Nat) → List (S68) → List (S68) → Int → Int → Option ((List (S68)) × Int)
  | 0, _, _, _, _, _, _ => none
  | k + 1, x6, x12, x15, x49, x50, x51 => if x51 < x50 then (if 0 ≤ x51 then (if x51 < (x49.length : Int) then (if x51 < (x6.length : Int) then ((plane_Turn.f x12 2).bind fun t166 => ((plane_Move.f (rdOf ((0, 0) : Nat × Nat) x6 x51) t166).bind fun bt167 => (if bt167.2 = true then (if x15.length < 3518437208883 then (chart_Turned.l1 k x6 x12 (x15 ++ [(⟨bt167.1, (rd_T68 x49 x51).f1, (rd_T68 x49 x51).f2⟩ : S68)]) x49 x50 (wrap64 (x51 + 1))) else (none)) else (some (([] : List (S68)), 4))))) else (none)) else (none)) else (none)) else (some (x15, 0))
end
def chart_Turned.f (k : Nat) (l0 : List (S68)) (a1 : Int) : Option ((List (S68)) × Int) := chart_Turned.l0 k l0 a1 ([] : List (Nat × Nat)) l0 (l0.length : Int) 0
theorem chart_Turned.mono_l : ∀ k, (∀ y0 y1 y2 y3 y4 y5, LeO (chart_Turned.l0 k y0 y1 y2 y3 y4 y5) (chart_Turned.l0 (k + 1) y0 y1 y2 y3 y4 y5)) ∧ (∀ y0 y1 y2 y3 y4 y5, LeO (chart_Turned.l1 k y0 y1 y2 y3 y4 y5) (chart_Turned.l1 (k + 1) y0 y1 y2 y3 y4 y5))
  | 0 => ⟨fun _ _ _ _ _ _ r h => by simp [chart_Turned.l0] at h, fun _ _ _ _ _ _ r h => by simp [chart_Turned.l1] at h⟩
  | k + 1 => by
    obtain ⟨ih0, ih1⟩ := chart_Turned.mono_l k
    refine ⟨?_, ?_⟩
    · intro y0 y1 y2 y3 y4 y5
      unfold chart_Turned.l0
      repeat' first
      | (with_reducible exact ih0 _ _ _ _ _ _)
      | (with_reducible exact ih1 _ _ _ _ _ _)
      | (with_reducible exact LeO.refl _)
      | (with_reducible exact LeO.none _)
      | (with_reducible refine LeO.ite ?_ ?_)
      | (with_reducible refine LeO.bind ?_ (fun _ => ?_))
      | exact ih0 _ _ _ _ _ _
      | exact ih1 _ _ _ _ _ _
      | exact LeO.none _
      | refine LeO.ite ?_ ?_
      | refine LeO.bind ?_ (fun _ => ?_)
    · intro y0 y1 y2 y3 y4 y5
      unfold chart_Turned.l1
      repeat' first
      | (with_reducible exact ih0 _ _ _ _ _ _)
      | (with_reducible exact ih1 _ _ _ _ _ _)
      | (with_reducible exact LeO.refl _)
      | (with_reducible exact LeO.none _)
      | (with_reducible refine LeO.ite ?_ ?_)
      | (with_reducible refine LeO.bind ?_ (fun _ => ?_))
      | exact ih0 _ _ _ _ _ _
      | exact ih1 _ _ _ _ _ _
      | exact LeO.none _
      | refine LeO.ite ?_ ?_
      | refine LeO.bind ?_ (fun _ => ?_)
theorem chart_Turned.mono : ∀ a0 a1 k, LeO (chart_Turned.f k a0 a1) (chart_Turned.f (k + 1) a0 a1) := by
  intro a0 a1 k
  obtain ⟨ih0, ih1⟩ := chart_Turned.mono_l k
  unfold chart_Turned.f
  repeat' first
      | (with_reducible exact ih0 _ _ _ _ _ _)
      | (with_reducible exact ih1 _ _ _ _ _ _)
      | (with_reducible exact LeO.refl _)
      | (with_reducible exact LeO.none _)
      | (with_reducible refine LeO.ite ?_ ?_)
      | (with_reducible refine LeO.bind ?_ (fun _ => ?_))
      | exact ih0 _ _ _ _ _ _
      | exact ih1 _ _ _ _ _ _
      | exact LeO.none _
      | refine LeO.ite ?_ ?_
      | refine LeO.bind ?_ (fun _ => ?_)
def chart_Turned.T15 : Bool × List (List Nat × List Nat) := (true, [([], []), ([], []), ([0, 1], [0, 1]), ([2], [2]), ([], []), ([4], [4]), ([3, 5, 5], [3, 5]), ([6], [6]), ([7], [7]), ([7], [7]), ([8, 6, 0, 1, 2, 3, 4, 5, 6, 7, 8], [8]), ([9, 10, 0, 1, 2, 3, 4, 5, 6, 7, 8, 9, 10], [9])])
def chart_Turned.B15 : List Nat := [0, 0, 3, 7, 0, 16, 63, 127, 255, 255, 511, 2047]
theorem chart_Turned.tab15 : rtab .any (opsOf Try.f29 15) = chart_Turned.T15 := by kernel_rfl
theorem chart_Turned.bits15 : waitsOk chart_Turned.T15.2 chart_Turned.B15 = true := by kernel_rfl
set_option maxHeartbeats 8000000 in
set_option maxRecDepth 100000 in
theorem chart_Turned.calls (k : Nat) (A0 : Option Addr) (c0 : Nat) (l0 : List (S68)) (a1 : Int) (r1 : List (S68)) (r2 : Int) (w : World) (hr0 : Kd.C k68 w A0 l0.length l0) (hc0 : l0.length ≤ c0) (h : chart_Turned.f k l0 a1 = some (r1, r2)) :
    Calls Try.prog 29 #[.slice A0 l0.length c0, .int .i64 a1] w fun e w' => ∃ v0_ : Value, e = .returned (.tuple #[v0_, .int .i64 r2]) ∧ Kd.R k68 68 w' w.heap.size (fun _ => True) v0_ r1 ∧ Below w.heap.size w w' := by
  have hu68 := Try.underlying68
  have HR0 := Aside0.mk hr0
  have HC0 := Aside0.mk hc0
  clear hr0 hc0
  have HB := Aside0.mk (Below.refl w.heap.size w)
  have H : (chart_Turned.l0 k l0 a1 ([] : List (Nat × Nat)) l0 (l0.length : Int) 0) = some (r1, r2) := h
  clear h
  have H' := Aside0.mk H
  clear H
  go_enter Try.func29, Try.ntmps29
  go_wp2
  go_loopg [6, 22] k (fun kq v6 v22 w' => ∃ (x6_1 : List (Nat × Nat)) (x22_1 : Int), v22 = .int .i64 x22_1 ∧ Aside0 (chart_Turned.l0 kq l0 a1 x6_1 l0 (l0.length : Int) x22_1 = some (r1, r2)) ∧ Aside0 (kq ≤ k) ∧ Aside0 (Kd.R Kd.cplx 66 w' w.heap.size (fun _ => True) v6 x6_1) ∧ Aside0 (Below w.heap.size w w'))
  case atStart => exact ⟨(([] : List (Nat × Nat))), (0), (by first | rfl | (simp; done) | (simp [*]; done)), H', ⟨Nat.le_refl _⟩, ⟨by first | exact Kd.R_nil _ _ _ _ _ | exact Kd.N_nil _ _ _ _ _ | exact Kd.V_nil _ _ _ _ _ | exact Kd.Q_nil _ _ _ _ _ | exact Kd.S_nil _ _ _ _ _⟩, ⟨by repeat (first | (with_reducible first | exact HB.out | apply below_alloc | apply pw_below_drewN | apply below_drew1) | exact HB.out)⟩⟩
  case round =>
    clear H'
    (try clear c2); (try clear p2)
    obtain ⟨x6_1, x22_1, rfl, HA, HK1, HO_6, HB⟩ := hrel
    cases gk with
    | zero => exact absurd HA.out (by simp [chart_Turned.l0])
    | succ k1 =>
      have H := HA.out
      clear HA
      simp only [chart_Turned.l0] at H
      by_cases c3 : x22_1 < (l0.length : Int)
      · rw [if_pos c3] at H
        have c3b0 : decide (x22_1 < (l0.length : Int)) = true := decide_eq_true c3
        clear c3
        by_cases c4 : 0 ≤ x22_1
        · rw [if_pos c4] at H
          have c4b0 : decide (0 ≤ x22_1) = true := decide_eq_true c4
          clear c4
          by_cases c5 : x22_1 < (l0.length : Int)
          · rw [if_pos c5] at H
            have c5b0 : decide (x22_1 < (l0.length : Int)) = true := decide_eq_true c5
            clear c5
            replace H := Option.bind_eq_some_iff.mp H
            obtain ⟨⟨t153, t154, t155⟩, A60, H⟩ := H
            replace H : (if t155 = true then ((plane_Turn.f ((rd_T68 l0 x22_1).f0) a1).bind fun t156 => (if x6_1.length < 8796093022208 then (chart_Turned.l0 k1 l0 a1 (x6_1 ++ [t156]) l0 (l0.length : Int) (wrap64 (x22_1 + 1))) else (none))) else (some (([] : List (S68)), 3))) = some (r1, r2) := H
            have A6 := Aside0.mk A60
            clear A60
            by_cases c7 : t155 = true
            · subst c7
              have H1 : ((plane_Turn.f ((rd_T68 l0 x22_1).f0) a1).bind fun t156 => (if x6_1.length < 8796093022208 then (chart_Turned.l0 k1 l0 a1 (x6_1 ++ [t156]) l0 (l0.length : Int) (wrap64 (x22_1 + 1))) else (none))) = some (r1, r2) := by rw [if_pos rfl] at H; exact H
              clear H
              have H := H1
              clear H1
              replace H := Option.bind_eq_some_iff.mp H
              obtain ⟨t156, A80, H⟩ := H
              replace H : (if x6_1.length < 8796093022208 then (chart_Turned.l0 k1 l0 a1 (x6_1 ++ [t156]) l0 (l0.length : Int) (wrap64 (x22_1 + 1))) else (none)) = some (r1, r2) := H
              have A8 := Aside0.mk A80
              clear A80
              by_cases c9 : x6_1.length < 8796093022208
              · rw [if_pos c9] at H
                have LMc9 := Aside0.mk c9
                clear c9
                obtain ⟨y157, hy157⟩ : ∃ y_ : List (Nat × Nat), y_ = (x6_1 ++ [t156]) := ⟨_, rfl⟩
                replace H : (chart_Turned.l0 k1 l0 a1 y157 l0 (l0.length : Int) (wrap64 (x22_1 + 1))) = some (r1, r2) := by first | (rw [hy157]; with_reducible exact H) | (have H2_ := (Option.bind_some _ _).symm.trans H; rw [hy157]; with_reducible exact H2_) | (have H2_ := (Option.bind_some _ _).symm.trans H; with_reducible exact H2_) | with_reducible exact H | (rw [hy157]; exact H) | exact H
                have Ny157 := Aside0.mk hy157
                clear hy157
                have H' := Aside0.mk H
                clear H
                have p151 : 0 ≤ (x22_1 : Int) := of_decide_eq_true (by first | (with_reducible assumption) | assumption)
                have q151 : x22_1 < (l0.length : Int) := of_decide_eq_true (by first | (with_reducible assumption) | assumption)
                obtain ⟨ad151, e151, hx151_0, hx151_1, hx151_2⟩ := at_T68 HR0.out x22_1 p151 q151
                cases e151
                replace hx151_0 := (HB.out.cell (World.block_lt_of_cell? w _ hx151_0)).trans hx151_0
                replace hx151_1 := (HB.out.cell (World.block_lt_of_cell? w _ hx151_1)).trans hx151_1
                replace hx151_2 := (HB.out.cell (World.block_lt_of_cell? w _ hx151_2)).trans hx151_2
                replace p151 := eq_true p151
                replace q151 := eq_true q151
                go_wp2_with (first | ((with_reducible refine gate_dst (N := 8) rfl ?_); refine box_event ?hg (N := 8) ?hd (cs := #[.complex .f64 ((0, 0) : Nat × Nat).1 ((0, 0) : Nat × Nat).2, .int .i64 0, .string (⟨#[]⟩ : ByteArray)]) (t := 68) ?hr ?_; (case hd => rfl); (case hg => rfl); (case hr => first | (go_simp; done) | (go_simp; rfl)); intro gb152 hg w10 hbox hb; have n0_ := Aside0.mk (Kd.R_below (by (with_reducible repeat (first | apply Kd.R_alloc | apply Kd.R_drewN | apply Kd.R_drew)); exact HO_6.out) hb); have n1_ := Aside0.mk (below_step (by repeat (first | (with_reducible first | exact HB.out | apply below_alloc | apply pw_below_drewN | apply below_drew1) | exact HB.out)) hb); have n2_ := Aside0.mk (hbox); have n3_ := Aside0.mk ((by rw [hg]; exact (below_size (by repeat (first | (with_reducible first | exact HB.out | apply below_alloc | apply pw_below_drewN | apply below_drew1) | exact HB.out))) : w.heap.size ≤ gb152)); have n4_ := Aside0.mk ((by rw [hg]; exact (below_size (by repeat (first | (with_reducible first | exact HB.out | apply below_alloc | apply pw_below_drewN | apply below_drew1) | exact HB.out))) : w.heap.size ≤ gb152)); clear HO_6; clear HB; have HO_6 := n0_; have HB := n1_; have BK152 := n2_; have GW152 := n3_; have GE152 := n4_; clear n0_ n1_ n2_ n3_ n4_; clear hb hbox hg; have hcz11_0 : w10.cell? ⟨gb152, 0, none⟩ = some (.complex .f64 ((0, 0) : Nat × Nat).1 ((0, 0) : Nat × Nat).2) := (blk_cell BK152.out 0).trans rfl; have hcz11_1 : w10.cell? ⟨gb152, 1, none⟩ = some (.int .i64 0) := (blk_cell BK152.out 1).trans rfl; have hcz11_2 : w10.cell? ⟨gb152, 2, none⟩ = some (.string (⟨#[]⟩ : ByteArray)) := (blk_cell BK152.out 2).trans rfl; have hfz11_0 := blk_frozen BK152.out 0; have hfz11_1 := blk_frozen BK152.out 1; have hfz11_2 := blk_frozen BK152.out 2) | ((with_reducible refine gate_callee (f := 61) rfl ?_); refine goesL_ (some 29) rfl rfl Try.func61 (by kernel_rfl) rfl #[.complex .f64 ((rd_T68 l0 x22_1).f0).1 ((rd_T68 l0 x22_1).f0).2] rfl (by (try simp only [List.map_toArray, List.map_cons, List.map_nil]); first | done | rfl | (simp only [List.length_drop, List.length_take]; rfl)) ?_; (with_reducible refine (plane_Coords.calls ((rd_T68 l0 x22_1).f0) t153 t154 true _ A6.out).mono ?_); rintro e w' ⟨rfl, ⟨nd, rfl⟩⟩; refine ⟨_, rfl, ?_⟩) | ((with_reducible refine gate_callee (f := 62) rfl ?_); refine goesL_ (some 39) rfl rfl Try.func62 (by kernel_rfl) rfl #[.complex .f64 ((rd_T68 l0 x22_1).f0).1 ((rd_T68 l0 x22_1).f0).2, .int .i64 a1] rfl (by (try simp only [List.map_toArray, List.map_cons, List.map_nil]); first | done | rfl | (simp only [List.length_drop, List.length_take]; rfl)) ?_; (with_reducible refine (plane_Turn.calls ((rd_T68 l0 x22_1).f0) a1 t156 _ A8.out).mono ?_); rintro e w' ⟨rfl, ⟨nd, rfl⟩⟩; refine ⟨_, rfl, ?_⟩) | ((with_reducible refine gate_builtin (b := .append) (xs := #[.tmp 35, .tmp 40]) rfl ?_); at_builtin; refine Kd.R_append Kd.cplx (w0 := w) w.heap.size rfl (.tmp 35) (.tmp 40) 103 66 (.complex .f64 0 0) 16 rfl Try.underlying103 info66 rfl (by decide) (by omega) u6 x6_1 t156 [.complex .f64 t156.1 t156.2] (fun _ => True) (fun _ => False) rfl (by first | (go_simp; done) | (go_simp; rfl)) ?aP (fun _ hk => hk.elim) ?aF ?aO ?aB ?aS ?aL ?_; (case aP => exact rfl); (case aB => exact (by repeat (first | (with_reducible first | exact HB.out | apply below_alloc | apply pw_below_drewN | apply below_drew1 | refine below_set ?_ GE152.out) | exact HB.out))); (case aF => exact (fun _ _ => trivial)); (case aO => exact (by (with_reducible repeat (first | apply Kd.R_alloc | apply Kd.R_drewN | apply Kd.R_drew)); exact Kd.R_mono (Kd.R_far (p := ⟨gb152, 2, none⟩) (Kd.R_far (p := ⟨gb152, 1, none⟩) (Kd.R_far (p := ⟨gb152, 0, none⟩) (Kd.R_types HO_6.out BK152.out (by decide)) (fun _ hk => hk.2) (.complex .f64 ((rd_T68 l0 x22_1).f0).1 ((rd_T68 l0 x22_1).f0).2)) (fun _ hk => hk.2) (.int .i64 ((rd_T68 l0 x22_1).f1))) (fun _ hk => hk.2) (.string ((rd_T68 l0 x22_1).f2))) (fun _ hk => trivial))); (case aS => exact (below_size (by repeat (first | (with_reducible first | exact HB.out | apply below_alloc | apply pw_below_drewN | apply below_drew1 | refine below_set ?_ GE152.out) | exact HB.out)))); (case aL => have := LMc9.out; omega); intro v158 w12 ho hb hg hat; rw [← Ny157.out] at ho; have n0_ := Aside0.mk (blk_grown (g := gb152) (o := .cells #[.complex .f64 ((rd_T68 l0 x22_1).f0).1 ((rd_T68 l0 x22_1).f0).2, .int .i64 ((rd_T68 l0 x22_1).f1), .string ((rd_T68 l0 x22_1).f2)] 68 (0, 0)) (by (with_reducible repeat (first | refine blk_drewN ?_ _ | refine blk_drew ?_ | refine blk_alloc ?_ _)); refine blk_put (cs := #[.complex .f64 ((rd_T68 l0 x22_1).f0).1 ((rd_T68 l0 x22_1).f0).2, .int .i64 ((rd_T68 l0 x22_1).f1), .string (⟨#[]⟩ : ByteArray)]) ?_ 2 _ rfl; (with_reducible repeat (first | refine blk_drewN ?_ _ | refine blk_drew ?_ | refine blk_alloc ?_ _)); refine blk_put (cs := #[.complex .f64 ((rd_T68 l0 x22_1).f0).1 ((rd_T68 l0 x22_1).f0).2, .int .i64 0, .string (⟨#[]⟩ : ByteArray)]) ?_ 1 _ rfl; (with_reducible repeat (first | refine blk_drewN ?_ _ | refine blk_drew ?_ | refine blk_alloc ?_ _)); refine blk_put (cs := #[.complex .f64 ((0, 0) : Nat × Nat).1 ((0, 0) : Nat × Nat).2, .int .i64 0, .string (⟨#[]⟩ : ByteArray)]) ?_ 0 _ rfl; (with_reducible repeat (first | refine blk_drewN ?_ _ | refine blk_drew ?_ | refine blk_alloc ?_ _)); exact BK152.out) hg (Kd.R_ne HO_6.out BK152.out (by decide))); have n1_ := Aside0.mk (hb); have n2_ := Aside0.mk (ho); clear BK152; clear HB; clear HO_6; have BK152 := n0_; have HB := n1_; have HO159 := n2_; clear n0_ n1_ n2_; clear ho hb hg hat))
                go_roundg k1
                case measure => have := HK1.out; omega
                case rel => exact ⟨(y157), (wrap64 (x22_1 + 1)), (by first | rfl | (simp; done) | (simp [*]; done)), H', ⟨by have := HK1.out; omega⟩, ⟨by (with_reducible repeat (first | apply Kd.R_alloc | apply Kd.R_drewN | apply Kd.R_drew)); exact HO159.out⟩, ⟨by repeat (first | (with_reducible first | exact HB.out | apply below_alloc | apply pw_below_drewN | apply below_drew1 | refine below_set ?_ GE152.out) | exact HB.out)⟩⟩
              · rw [if_neg c9] at H
                exact absurd H (by simp)
            · replace c7 := Bool.eq_false_iff.mpr c7
              subst c7
              have H1 : (some (([] : List (S68)), 3)) = some (r1, r2) := by rw [if_neg (show ¬ (false = true) by decide)] at H; exact H
              clear H
              have H := H1
              clear H1
              simp only [Option.some.injEq, Prod.mk.injEq] at H
              obtain ⟨rfl, rfl⟩ := H
              have p151 : 0 ≤ (x22_1 : Int) := of_decide_eq_true (by first | (with_reducible assumption) | assumption)
              have q151 : x22_1 < (l0.length : Int) := of_decide_eq_true (by first | (with_reducible assumption) | assumption)
              obtain ⟨ad151, e151, hx151_0, hx151_1, hx151_2⟩ := at_T68 HR0.out x22_1 p151 q151
              cases e151
              replace hx151_0 := (HB.out.cell (World.block_lt_of_cell? w _ hx151_0)).trans hx151_0
              replace hx151_1 := (HB.out.cell (World.block_lt_of_cell? w _ hx151_1)).trans hx151_1
              replace hx151_2 := (HB.out.cell (World.block_lt_of_cell? w _ hx151_2)).trans hx151_2
              replace p151 := eq_true p151
              replace q151 := eq_true q151
              go_wp2_with (first | ((with_reducible refine gate_dst (N := 8) rfl ?_); refine box_event ?hg (N := 8) ?hd (cs := #[.complex .f64 ((0, 0) : Nat × Nat).1 ((0, 0) : Nat × Nat).2, .int .i64 0, .string (⟨#[]⟩ : ByteArray)]) (t := 68) ?hr ?_; (case hd => rfl); (case hg => rfl); (case hr => first | (go_simp; done) | (go_simp; rfl)); intro gb152 hg w13 hbox hb; have n0_ := Aside0.mk (Kd.R_below (by (with_reducible repeat (first | apply Kd.R_alloc | apply Kd.R_drewN | apply Kd.R_drew)); exact HO_6.out) hb); have n1_ := Aside0.mk (below_step (by repeat (first | (with_reducible first | exact HB.out | apply below_alloc | apply pw_below_drewN | apply below_drew1) | exact HB.out)) hb); have n2_ := Aside0.mk (hbox); have n3_ := Aside0.mk ((by rw [hg]; exact (below_size (by repeat (first | (with_reducible first | exact HB.out | apply below_alloc | apply pw_below_drewN | apply below_drew1) | exact HB.out))) : w.heap.size ≤ gb152)); have n4_ := Aside0.mk ((by rw [hg]; exact (below_size (by repeat (first | (with_reducible first | exact HB.out | apply below_alloc | apply pw_below_drewN | apply below_drew1) | exact HB.out))) : w.heap.size ≤ gb152)); clear HO_6; clear HB; have HO_6 := n0_; have HB := n1_; have BK152 := n2_; have GW152 := n3_; have GE152 := n4_; clear n0_ n1_ n2_ n3_ n4_; clear hb hbox hg; have hcz14_0 : w13.cell? ⟨gb152, 0, none⟩ = some (.complex .f64 ((0, 0) : Nat × Nat).1 ((0, 0) : Nat × Nat).2) := (blk_cell BK152.out 0).trans rfl; have hcz14_1 : w13.cell? ⟨gb152, 1, none⟩ = some (.int .i64 0) := (blk_cell BK152.out 1).trans rfl; have hcz14_2 : w13.cell? ⟨gb152, 2, none⟩ = some (.string (⟨#[]⟩ : ByteArray)) := (blk_cell BK152.out 2).trans rfl; have hfz14_0 := blk_frozen BK152.out 0; have hfz14_1 := blk_frozen BK152.out 1; have hfz14_2 := blk_frozen BK152.out 2) | ((with_reducible refine gate_callee (f := 61) rfl ?_); refine goesL_ (some 29) rfl rfl Try.func61 (by kernel_rfl) rfl #[.complex .f64 ((rd_T68 l0 x22_1).f0).1 ((rd_T68 l0 x22_1).f0).2] rfl (by (try simp only [List.map_toArray, List.map_cons, List.map_nil]); first | done | rfl | (simp only [List.length_drop, List.length_take]; rfl)) ?_; (with_reducible refine (plane_Coords.calls ((rd_T68 l0 x22_1).f0) t153 t154 false _ A6.out).mono ?_); rintro e w' ⟨rfl, ⟨nd, rfl⟩⟩; refine ⟨_, rfl, ?_⟩))
              go_ret2
              exact ⟨_, by first | rfl | (simp [errW_none, errW_some] <;> rfl) | (simp [*, errW_none, errW_some] <;> rfl), by first | exact Kd.R_nil _ _ _ _ _ | exact Kd.N_nil _ _ _ _ _ | exact Kd.V_nil _ _ _ _ _ | exact Kd.Q_nil _ _ _ _ _ | exact Kd.S_nil _ _ _ _ _, by repeat (first | (with_reducible first | exact HB.out | apply below_alloc | apply pw_below_drewN | apply below_drew1 | refine below_set ?_ GE152.out) | exact HB.out)⟩
          · rw [if_neg c5] at H
            exact absurd H (by simp)
        · rw [if_neg c4] at H
          exact absurd H (by simp)
      · rw [if_neg c3] at H
        have c3b0 : decide (x22_1 < (l0.length : Int)) = false := decide_eq_false c3
        clear c3
        replace H := Option.bind_eq_some_iff.mp H
        obtain ⟨⟨t160, t161, t162⟩, A150, H⟩ := H
        replace H : (chart_Turned.l1 k1 x6_1 t160 ([] : List (S68)) l0 (l0.length : Int) 0) = some (r1, r2) := H
        have A15 := Aside0.mk A150
        clear A150
        have H' := Aside0.mk H
        clear H
        obtain ⟨Ao16, co16, eo16⟩ := Kd.R_slice HO_6.out
        subst eo16
        go_wp2_with (first | ((with_reducible refine gate_callee (f := 63) rfl ?_); refine goesL_ (some 45) rfl rfl Try.func63 (by kernel_rfl) rfl #[.slice Ao16 x6_1.length co16] rfl (by (try simp only [List.map_toArray, List.map_cons, List.map_nil]); first | done | rfl | (simp only [List.length_drop, List.length_take]; rfl)) ?_; (with_reducible refine (plane_Box.calls _ _ x6_1 t160 t161 t162 _ ?side1 ?side2 A15.out).mono ?_); (case side1 => repeat (first | exact (Kd.R_reads' HO_6.out).2.2 | (with_reducible refine Kd.C_alloc ?_ _) | (with_reducible refine Kd.C_drewN ?_ _) | (with_reducible refine Kd.C_drew ?_))); (case side2 => exact (Kd.R_reads' HO_6.out).2.1); rintro e w' ⟨rfl, ⟨nd, rfl⟩⟩; refine ⟨_, rfl, ?_⟩))
        go_loopg [15, 51] k1 (fun kq v15 v51 w' => ∃ (x15_2 : List (S68)) (x51_2 : Int), v51 = .int .i64 x51_2 ∧ Aside0 (chart_Turned.l1 kq x6_1 t160 x15_2 l0 (l0.length : Int) x51_2 = some (r1, r2)) ∧ Aside0 (kq ≤ k1) ∧ Aside0 (Kd.R Kd.cplx 66 w' w.heap.size (fun _ => True) (.slice Ao16 x6_1.length co16) x6_1) ∧ Aside0 (Kd.R k68 68 w' w.heap.size (fun _ => True) v15 x15_2) ∧ Aside0 (Below w.heap.size w w'))
        case atStart => exact ⟨(([] : List (S68))), (0), (by first | rfl | (simp; done) | (simp [*]; done)), H', ⟨Nat.le_refl _⟩, ⟨by (with_reducible repeat (first | apply Kd.R_alloc | apply Kd.R_drewN | apply Kd.R_drew)); exact HO_6.out⟩, ⟨by first | exact Kd.R_nil _ _ _ _ _ | exact Kd.N_nil _ _ _ _ _ | exact Kd.V_nil _ _ _ _ _ | exact Kd.Q_nil _ _ _ _ _ | exact Kd.S_nil _ _ _ _ _⟩, ⟨by repeat (first | (with_reducible first | exact HB.out | apply below_alloc | apply pw_below_drewN | apply below_drew1) | exact HB.out)⟩⟩
        case round =>
          clear H'
          (try clear p1); (try clear q1); (try clear hx1); (try clear c2); (try clear p2); (try clear c3); (try clear c3b0); (try clear c4); (try clear c4b0); (try clear c5); (try clear c5b0); (try clear c6); (try clear p6); (try clear c7); (try clear c9); (try clear p15); (try clear q15); (try clear hx15); (try clear hcz11_0); (try clear hcz11_1); (try clear hcz11_2); (try clear hcz14_0); (try clear hcz14_1); (try clear hcz14_2); (try clear hfz11_0); (try clear hfz11_1); (try clear hfz11_2); (try clear hfz14_0); (try clear hfz14_1); (try clear hfz14_2); (try clear hx151_0); (try clear hx151_1); (try clear hx151_2); (try clear p151); (try clear p2); (try clear q151)
          obtain ⟨x15_2, x51_2, rfl, HA, HK2, HO_6, HO_15, HB⟩ := hrel
          cases gk with
          | zero => exact absurd HA.out (by simp [chart_Turned.l1])
          | succ k2 =>
            have H := HA.out
            clear HA
            simp only [chart_Turned.l1] at H
            by_cases c17 : x51_2 < (l0.length : Int)
            · rw [if_pos c17] at H
              have c17b0 : decide (x51_2 < (l0.length : Int)) = true := decide_eq_true c17
              clear c17
              by_cases c18 : 0 ≤ x51_2
              · rw [if_pos c18] at H
                have c18b0 : decide (0 ≤ x51_2) = true := decide_eq_true c18
                clear c18
                by_cases c19 : x51_2 < (l0.length : Int)
                · rw [if_pos c19] at H
                  have c19b0 : decide (x51_2 < (l0.length : Int)) = true := decide_eq_true c19
                  clear c19
                  by_cases c20 : x51_2 < (x6_1.length : Int)
                  · rw [if_pos c20] at H
                    have c20b0 : decide (x51_2 < (x6_1.length : Int)) = true := decide_eq_true c20
                    clear c20
                    replace H := Option.bind_eq_some_iff.mp H
                    obtain ⟨t166, A210, H⟩ := H
                    replace H : ((plane_Move.f (rdOf ((0, 0) : Nat × Nat) x6_1 x51_2) t166).bind fun bt167 => (if bt167.2 = true then (if x15_2.length < 3518437208883 then (chart_Turned.l1 k2 x6_1 t160 (x15_2 ++ [(⟨bt167.1, (rd_T68 l0 x51_2).f1, (rd_T68 l0 x51_2).f2⟩ : S68)]) l0 (l0.length : Int) (wrap64 (x51_2 + 1))) else (none)) else (some (([] : List (S68)), 4)))) = some (r1, r2) := H
                    have A21 := Aside0.mk A210
                    clear A210
                    replace H := Option.bind_eq_some_iff.mp H
                    obtain ⟨⟨t167, t168⟩, A220, H⟩ := H
                    replace H : (if t168 = true then (if x15_2.length < 3518437208883 then (chart_Turned.l1 k2 x6_1 t160 (x15_2 ++ [(⟨t167, (rd_T68 l0 x51_2).f1, (rd_T68 l0 x51_2).f2⟩ : S68)]) l0 (l0.length : Int) (wrap64 (x51_2 + 1))) else (none)) else (some (([] : List (S68)), 4))) = some (r1, r2) := H
                    have A22 := Aside0.mk A220
                    clear A220
                    by_cases c23 : t168 = true
                    · subst c23
                      have H1 : (if x15_2.length < 3518437208883 then (chart_Turned.l1 k2 x6_1 t160 (x15_2 ++ [(⟨t167, (rd_T68 l0 x51_2).f1, (rd_T68 l0 x51_2).f2⟩ : S68)]) l0 (l0.length : Int) (wrap64 (x51_2 + 1))) else (none)) = some (r1, r2) := by rw [if_pos rfl] at H; exact H
                      clear H
                      have H := H1
                      clear H1
                      by_cases c24 : x15_2.length < 3518437208883
                      · rw [if_pos c24] at H
                        have LMc24 := Aside0.mk c24
                        clear c24
                        obtain ⟨y169, hy169⟩ : ∃ y_ : List (S68), y_ = (x15_2 ++ [(⟨t167, (rd_T68 l0 x51_2).f1, (rd_T68 l0 x51_2).f2⟩ : S68)]) := ⟨_, rfl⟩
                        replace H : (chart_Turned.l1 k2 x6_1 t160 y169 l0 (l0.length : Int) (wrap64 (x51_2 + 1))) = some (r1, r2) := by first | (rw [hy169]; with_reducible exact H) | (have H2_ := (Option.bind_some _ _).symm.trans H; rw [hy169]; with_reducible exact H2_) | (have H2_ := (Option.bind_some _ _).symm.trans H; with_reducible exact H2_) | with_reducible exact H | (rw [hy169]; exact H) | exact H
                        have Ny169 := Aside0.mk hy169
                        clear hy169
                        have H' := Aside0.mk H
                        clear H
                        have p163 : 0 ≤ (x51_2 : Int) := of_decide_eq_true (by first | (with_reducible assumption) | assumption)
                        have q163 : x51_2 < (l0.length : Int) := of_decide_eq_true (by first | (with_reducible assumption) | assumption)
                        obtain ⟨ad163, e163, hx163_0, hx163_1, hx163_2⟩ := at_T68 HR0.out x51_2 p163 q163
                        cases e163
                        replace hx163_0 := (HB.out.cell (World.block_lt_of_cell? w _ hx163_0)).trans hx163_0
                        replace hx163_1 := (HB.out.cell (World.block_lt_of_cell? w _ hx163_1)).trans hx163_1
                        replace hx163_2 := (HB.out.cell (World.block_lt_of_cell? w _ hx163_2)).trans hx163_2
                        replace p163 := eq_true p163
                        replace q163 := eq_true q163
                        try go_wp2_with (first | ((with_reducible refine gate_dst (N := 17) rfl ?_); refine box_event ?hg (N := 17) ?hd (cs := #[.complex .f64 ((0, 0) : Nat × Nat).1 ((0, 0) : Nat × Nat).2, .int .i64 0, .string (⟨#[]⟩ : ByteArray)]) (t := 68) ?hr ?_; (case hd => rfl); (case hg => rfl); (case hr => first | (go_simp; done) | (go_simp; rfl)); intro gb164 hg w25 hbox hb; have n0_ := Aside0.mk (Kd.R_below (by (with_reducible repeat (first | apply Kd.R_alloc | apply Kd.R_drewN | apply Kd.R_drew)); exact HO_6.out) hb); have n1_ := Aside0.mk (Kd.R_below (Kd.R_elderB (by (with_reducible repeat (first | apply Kd.R_alloc | apply Kd.R_drewN | apply Kd.R_drew)); exact HO_15.out) gb164 (Nat.le_of_eq hg.symm)) hb); have n2_ := Aside0.mk (below_step (by repeat (first | (with_reducible first | exact HB.out | apply below_alloc | apply pw_below_drewN | apply below_drew1) | exact HB.out)) hb); have n3_ := Aside0.mk (hbox); have n4_ := Aside0.mk ((by rw [hg]; exact (below_size (by repeat (first | (with_reducible first | exact HB.out | apply below_alloc | apply pw_below_drewN | apply below_drew1) | exact HB.out))) : w.heap.size ≤ gb164)); have n5_ := Aside0.mk ((by rw [hg]; exact (below_size (by repeat (first | (with_reducible first | exact HB.out | apply below_alloc | apply pw_below_drewN | apply below_drew1) | exact HB.out))) : w.heap.size ≤ gb164)); clear HO_6; clear HO_15; clear HB; have HO_6 := n0_; have HO_15 := n1_; have HB := n2_; have BK164 := n3_; have GW164 := n4_; have GE164 := n5_; clear n0_ n1_ n2_ n3_ n4_ n5_; clear hb hbox hg; have hcz26_0 : w25.cell? ⟨gb164, 0, none⟩ = some (.complex .f64 ((0, 0) : Nat × Nat).1 ((0, 0) : Nat × Nat).2) := (blk_cell BK164.out 0).trans rfl; have hcz26_1 : w25.cell? ⟨gb164, 1, none⟩ = some (.int .i64 0) := (blk_cell BK164.out 1).trans rfl; have hcz26_2 : w25.cell? ⟨gb164, 2, none⟩ = some (.string (⟨#[]⟩ : ByteArray)) := (blk_cell BK164.out 2).trans rfl; have hfz26_0 := blk_frozen BK164.out 0; have hfz26_1 := blk_frozen BK164.out 1; have hfz26_2 := blk_frozen BK164.out 2))
                        have n0_ : Aside0 (Kd.R Kd.cplx 66 (((w25.setCell ⟨gb164, 0, none⟩ (.complex .f64 ((rd_T68 l0 x51_2).f0).1 ((rd_T68 l0 x51_2).f0).2)).setCell ⟨gb164, 1, none⟩ (.int .i64 ((rd_T68 l0 x51_2).f1))).setCell ⟨gb164, 2, none⟩ (.string ((rd_T68 l0 x51_2).f2))) w.heap.size (fun _ => True) (.slice Ao16 x6_1.length co16) x6_1) := ⟨by (with_reducible repeat (first | apply Kd.R_alloc | apply Kd.R_drewN | apply Kd.R_drew)); exact Kd.R_mono (Kd.R_far (p := ⟨gb164, 2, none⟩) (Kd.R_far (p := ⟨gb164, 1, none⟩) (Kd.R_far (p := ⟨gb164, 0, none⟩) (Kd.R_types HO_6.out BK164.out (by decide)) (fun _ hk => hk.2) (.complex .f64 ((rd_T68 l0 x51_2).f0).1 ((rd_T68 l0 x51_2).f0).2)) (fun _ hk => hk.2) (.int .i64 ((rd_T68 l0 x51_2).f1))) (fun _ hk => hk.2) (.string ((rd_T68 l0 x51_2).f2))) (fun _ hk => trivial)⟩
                        have n1_ : Aside0 (Kd.R k68 68 (((w25.setCell ⟨gb164, 0, none⟩ (.complex .f64 ((rd_T68 l0 x51_2).f0).1 ((rd_T68 l0 x51_2).f0).2)).setCell ⟨gb164, 1, none⟩ (.int .i64 ((rd_T68 l0 x51_2).f1))).setCell ⟨gb164, 2, none⟩ (.string ((rd_T68 l0 x51_2).f2))) w.heap.size (fun k_ => k_ ≠ gb164) u15 x15_2) := ⟨by (with_reducible repeat (first | apply Kd.R_alloc | apply Kd.R_drewN | apply Kd.R_drew)); exact Kd.R_mono (Kd.R_far (p := ⟨gb164, 2, none⟩) (Kd.R_far (p := ⟨gb164, 1, none⟩) (Kd.R_far (p := ⟨gb164, 0, none⟩) (Kd.R_mono HO_15.out (fun k_ hk => (⟨hk, hk.2⟩ : _ ∧ k_ ≠ gb164))) (fun _ hk => hk.2) (.complex .f64 ((rd_T68 l0 x51_2).f0).1 ((rd_T68 l0 x51_2).f0).2)) (fun _ hk => hk.2) (.int .i64 ((rd_T68 l0 x51_2).f1))) (fun _ hk => hk.2) (.string ((rd_T68 l0 x51_2).f2))) (fun _ hk => hk.1.2)⟩
                        have n2_ : Aside0 ((((w25.setCell ⟨gb164, 0, none⟩ (.complex .f64 ((rd_T68 l0 x51_2).f0).1 ((rd_T68 l0 x51_2).f0).2)).setCell ⟨gb164, 1, none⟩ (.int .i64 ((rd_T68 l0 x51_2).f1))).setCell ⟨gb164, 2, none⟩ (.string ((rd_T68 l0 x51_2).f2))).heap[gb164]? = some (.cells #[.complex .f64 ((rd_T68 l0 x51_2).f0).1 ((rd_T68 l0 x51_2).f0).2, .int .i64 ((rd_T68 l0 x51_2).f1), .string ((rd_T68 l0 x51_2).f2)] 68 (0, 0))) := ⟨by (with_reducible repeat (first | refine blk_drewN ?_ _ | refine blk_drew ?_ | refine blk_alloc ?_ _)); refine blk_put (cs := #[.complex .f64 ((rd_T68 l0 x51_2).f0).1 ((rd_T68 l0 x51_2).f0).2, .int .i64 ((rd_T68 l0 x51_2).f1), .string (⟨#[]⟩ : ByteArray)]) ?_ 2 _ rfl; (with_reducible repeat (first | refine blk_drewN ?_ _ | refine blk_drew ?_ | refine blk_alloc ?_ _)); refine blk_put (cs := #[.complex .f64 ((rd_T68 l0 x51_2).f0).1 ((rd_T68 l0 x51_2).f0).2, .int .i64 0, .string (⟨#[]⟩ : ByteArray)]) ?_ 1 _ rfl; (with_reducible repeat (first | refine blk_drewN ?_ _ | refine blk_drew ?_ | refine blk_alloc ?_ _)); refine blk_put (cs := #[.complex .f64 ((0, 0) : Nat × Nat).1 ((0, 0) : Nat × Nat).2, .int .i64 0, .string (⟨#[]⟩ : ByteArray)]) ?_ 0 _ rfl; (with_reducible repeat (first | refine blk_drewN ?_ _ | refine blk_drew ?_ | refine blk_alloc ?_ _)); exact BK164.out⟩
                        have n3_ : Aside0 (Below w.heap.size w (((w25.setCell ⟨gb164, 0, none⟩ (.complex .f64 ((rd_T68 l0 x51_2).f0).1 ((rd_T68 l0 x51_2).f0).2)).setCell ⟨gb164, 1, none⟩ (.int .i64 ((rd_T68 l0 x51_2).f1))).setCell ⟨gb164, 2, none⟩ (.string ((rd_T68 l0 x51_2).f2)))) := ⟨by repeat (first | (with_reducible first | exact HB.out | apply below_alloc | apply pw_below_drewN | apply below_drew1 | refine below_set ?_ GE164.out) | exact HB.out)⟩
                        (try clear HO_6)
                        (try clear HO_15)
                        (try clear BK164)
                        (try clear HB)
                        generalize (((w25.setCell ⟨gb164, 0, none⟩ (.complex .f64 ((rd_T68 l0 x51_2).f0).1 ((rd_T68 l0 x51_2).f0).2)).setCell ⟨gb164, 1, none⟩ (.int .i64 ((rd_T68 l0 x51_2).f1))).setCell ⟨gb164, 2, none⟩ (.string ((rd_T68 l0 x51_2).f2))) = w27 at n0_ n1_ n2_ n3_ ⊢
                        have HO_6 := n0_
                        have HO_15 := n1_
                        have BK164 := n2_
                        have HB := n3_
                        clear n0_ n1_ n2_ n3_
                        have n0_ := Aside0.mk (Kd.R_drew HO_6.out)
                        have n1_ := Aside0.mk (Kd.R_drew HO_15.out)
                        have n2_ := Aside0.mk (blk_drew BK164.out)
                        have n3_ := Aside0.mk (below_drew1 HB.out)
                        clear HO_6
                        clear HO_15
                        clear BK164
                        clear HB
                        have HO_6 := n0_
                        have HO_15 := n1_
                        have BK164 := n2_
                        have HB := n3_
                        clear n0_ n1_ n2_ n3_
                        have p165 : 0 ≤ (x51_2 : Int) := of_decide_eq_true (by first | (with_reducible assumption) | assumption)
                        have q165 : x51_2 < (x6_1.length : Int) := of_decide_eq_true (by first | (with_reducible assumption) | assumption)
                        obtain ⟨ad165, e165, hx165_0⟩ := Kd.at_cplx (Kd.R_reads' HO_6.out).2.2 x51_2 p165 q165
                        cases e165
                        replace p165 := eq_true p165
                        replace q165 := eq_true q165
                        refine start_ (n := 12) (S := fun w' => w'.cell? (ad165.add (x51_2).toNat) = some (.complex .f64 (rdOf ((0, 0) : Nat × Nat) x6_1 x51_2).1 (rdOf ((0, 0) : Nat × Nat) x6_1 x51_2).2)) (ds := []) #[false, false, false, false, false, false, false, false, false, false, false, false] (by kernel_rfl) rfl rfl (hx165_0) (fun hHeld => ?_); refine with_tabW chart_Turned.tab15 chart_Turned.bits15 (fun HT_ HW_ => ?_)
                        generalize w27.drew = w28 at HO_6 HO_15 BK164 HB hx165_0 hHeld ⊢
                        refine pure_ (i := 0) (N := some 57) (v := ?_) (a' := ?_) #[true, false, false, false, false, false, false, false, false, false, false, false] rfl rfl (any_of HT_.out (by kernel_rfl)) (fun _ _ _ h => h) (Or.inl ⟨by rfl, ?_⟩) ?_ ?_
                        rotate_left
                        · intro w'
                          go_simp
                          with_reducible rfl
                        rotate_left
                        · simp only [Act.put, List.setIfInBounds_toArray, List.set_cons_zero, List.set_cons_succ, i64_w, i32_w]
                          rfl
                        refine pure_ (i := 1) (N := some 58) (v := ?_) (a' := ?_) #[true, true, false, false, false, false, false, false, false, false, false, false] rfl rfl (any_of HT_.out (by kernel_rfl)) (fun _ _ _ h => h) (Or.inl ⟨by rfl, ?_⟩) ?_ ?_
                        rotate_left
                        · intro w'
                          go_simp
                          with_reducible rfl
                        rotate_left
                        · simp only [Act.put, List.setIfInBounds_toArray, List.set_cons_zero, List.set_cons_succ, i64_w, i32_w]
                          rfl
                        refine pure_ (i := 2) (N := some 59) (v := ?_) (a' := ?_) #[true, true, true, false, false, false, false, false, false, false, false, false] rfl rfl (any_of HT_.out (by kernel_rfl)) (fun _ _ _ h => h) (Or.inl ⟨by rfl, ?_⟩) ?_ ?_
                        rotate_left
                        · intro w'
                          go_simp
                          with_reducible rfl
                        rotate_left
                        · simp only [Act.put, List.setIfInBounds_toArray, List.set_cons_zero, List.set_cons_succ, i64_w, i32_w]
                          rfl
                        refine pure_ (i := 4) (N := some 61) (v := ?_) (a' := ?_) #[true, true, true, false, true, false, false, false, false, false, false, false] rfl rfl (any_of HT_.out (by kernel_rfl)) (fun _ _ _ h => h) (Or.inl ⟨by rfl, ?_⟩) ?_ ?_
                        rotate_left
                        · intro w'
                          go_simp
                          with_reducible rfl
                        rotate_left
                        · simp only [Act.put, List.setIfInBounds_toArray, List.set_cons_zero, List.set_cons_succ, i64_w, i32_w]
                          rfl
                        refine take_ (i := 3) (N := some 60) (v := ?_) (a' := ?_) #[true, true, true, true, true, false, false, false, false, false, false, false] rfl rfl (take_ofW HT_.out HW_.out (by kernel_rfl)) (fun _ _ _ h => h) (Or.inl ⟨by rfl, ?_⟩) hHeld ?_ ?_
                        rotate_left
                        · intro w' s0
                          go_simp
                          with_reducible rfl
                        rotate_left
                        · simp only [Act.put, List.setIfInBounds_toArray, List.set_cons_zero, List.set_cons_succ, i64_w, i32_w]
                          rfl
                        refine one_ (i := 5) (N := some 62) #[true, true, true, true, true, true, false, false, false, false, false, false] rfl rfl (one_of HT_.out (by kernel_rfl)) (by decide) (fun K hK => ?_)
                        refine goes_ Try.func62 (by kernel_rfl) rfl #[.complex .f64 t160.1 t160.2, .int .i64 2] (by rfl) rfl rfl (by (try simp only [List.map_toArray, List.map_cons, List.map_nil]); first | done | rfl | (simp only [List.length_drop, List.length_take]; rfl)) ?_
                        with_reducible refine (plane_Turn.calls t160 2 t166 _ A21.out).mono ?_
                        rintro e w' ⟨rfl, ⟨nd, rfl⟩⟩
                        refine ⟨_, rfl, ?_⟩
                        refine hK.out _ _ (hHeld) (fun hHeld => ?_)
                        clear hK K
                        refine norm_ (a' := ?_) ?_ ?_
                        rotate_left
                        · show Act.put _ (some 62) _ = _
                          simp only [Act.put, List.setIfInBounds_toArray, List.set_cons_zero, List.set_cons_succ, i64_w, i32_w]
                          rfl
                        refine one_ (i := 6) (N := some 63) #[true, true, true, true, true, true, true, false, false, false, false, false] rfl rfl (one_of HT_.out (by kernel_rfl)) (by decide) (fun K hK => ?_)
                        refine goes_ Try.func64 (by kernel_rfl) rfl #[.complex .f64 (rdOf ((0, 0) : Nat × Nat) x6_1 x51_2).1 (rdOf ((0, 0) : Nat × Nat) x6_1 x51_2).2, .complex .f64 t166.1 t166.2] (by rfl) rfl rfl (by (try simp only [List.map_toArray, List.map_cons, List.map_nil]); first | done | rfl | (simp only [List.length_drop, List.length_take]; rfl)) ?_
                        with_reducible refine (plane_Move.calls (rdOf ((0, 0) : Nat × Nat) x6_1 x51_2) t166 t167 true _ A22.out).mono ?_
                        rintro e w29 ⟨rfl, hb⟩
                        have HS0_ := (hb.cell (World.block_lt_of_cell? _ _ (hHeld))).trans (hHeld)
                        refine ⟨_, rfl, ?_⟩
                        have n0_ := Aside0.mk (Kd.R_below (by (with_reducible repeat (first | apply Kd.R_alloc | apply Kd.R_drewN | apply Kd.R_drew)); exact HO_6.out) hb)
                        have n1_ := Aside0.mk (Kd.R_below (by (with_reducible repeat (first | apply Kd.R_alloc | apply Kd.R_drewN | apply Kd.R_drew)); exact HO_15.out) hb)
                        have n2_ := Aside0.mk (blk_below (g := gb164) (o := .cells #[.complex .f64 ((rd_T68 l0 x51_2).f0).1 ((rd_T68 l0 x51_2).f0).2, .int .i64 ((rd_T68 l0 x51_2).f1), .string ((rd_T68 l0 x51_2).f2)] 68 (0, 0)) (by (with_reducible repeat (first | refine blk_drewN ?_ _ | refine blk_drew ?_ | refine blk_alloc ?_ _)); exact BK164.out) hb)
                        have n3_ := Aside0.mk (below_step (by repeat (first | (with_reducible first | exact HB.out | apply below_alloc | apply pw_below_drewN | apply below_drew1 | refine below_set ?_ GE164.out) | exact HB.out)) hb)
                        clear HO_6
                        clear HO_15
                        clear BK164
                        clear HB
                        have HO_6 := n0_
                        have HO_15 := n1_
                        have BK164 := n2_
                        have HB := n3_
                        clear n0_ n1_ n2_ n3_
                        (try clear hb)
                        (try clear hb2)
                        (try clear hk)
                        (try clear hi)
                        refine hK.out _ _ (HS0_) (fun hHeld => ?_)
                        clear hK K
                        refine norm_ (a' := ?_) ?_ ?_
                        rotate_left
                        · show Act.put _ (some 63) _ = _
                          simp only [Act.put, List.setIfInBounds_toArray, List.set_cons_zero, List.set_cons_succ, i64_w, i32_w]
                          rfl
                        refine pure_ (i := 7) (N := some 56) (v := ?_) (a' := ?_) #[true, true, true, true, true, true, true, true, false, false, false, false] rfl rfl (any_of HT_.out (by kernel_rfl)) (fun _ _ _ h => h) (Or.inl ⟨by rfl, ?_⟩) ?_ ?_
                        rotate_left
                        · intro w'
                          go_simp
                          with_reducible rfl
                        rotate_left
                        · simp only [Act.put, List.setIfInBounds_toArray, List.set_cons_zero, List.set_cons_succ, i64_w, i32_w]
                          rfl
                        refine pure_ (i := 8) (N := some 64) (v := ?_) (a' := ?_) #[true, true, true, true, true, true, true, true, true, false, false, false] rfl rfl (any_of HT_.out (by kernel_rfl)) (fun _ _ _ h => h) (Or.inl ⟨by rfl, ?_⟩) ?_ ?_
                        rotate_left
                        · intro w'
                          go_simp
                          with_reducible rfl
                        rotate_left
                        · simp only [Act.put, List.setIfInBounds_toArray, List.set_cons_zero, List.set_cons_succ, i64_w, i32_w]
                          rfl
                        refine pure_ (i := 9) (N := some 65) (v := ?_) (a' := ?_) #[true, true, true, true, true, true, true, true, true, true, false, false] rfl rfl (any_of HT_.out (by kernel_rfl)) (fun _ _ _ h => h) (Or.inl ⟨by rfl, ?_⟩) ?_ ?_
                        rotate_left
                        · intro w'
                          go_simp
                          with_reducible rfl
                        rotate_left
                        · simp only [Act.put, List.setIfInBounds_toArray, List.set_cons_zero, List.set_cons_succ, i64_w, i32_w]
                          rfl
                        refine pure_ (i := 10) (N := some 18) (v := ?_) (a' := ?_) #[true, true, true, true, true, true, true, true, true, true, true, false] rfl rfl (any_of HT_.out (by kernel_rfl)) (fun _ _ _ h => h) (Or.inl ⟨by rfl, ?_⟩) ?_ ?_
                        rotate_left
                        · intro w'
                          go_simp
                          with_reducible rfl
                        rotate_left
                        · simp only [Act.put, List.setIfInBounds_toArray, List.set_cons_zero, List.set_cons_succ, i64_w, i32_w]
                          rfl
                        refine pure_ (i := 11) (N := some 19) (v := ?_) (a' := ?_) #[true, true, true, true, true, true, true, true, true, true, true, true] rfl rfl (any_of HT_.out (by kernel_rfl)) (fun _ _ _ h => h) (Or.inl ⟨by rfl, ?_⟩) ?_ ?_
                        rotate_left
                        · intro w'
                          go_simp
                          with_reducible rfl
                        rotate_left
                        · simp only [Act.put, List.setIfInBounds_toArray, List.set_cons_zero, List.set_cons_succ, i64_w, i32_w]
                          rfl
                        refine done_ (done_of HT_.out (by kernel_rfl)) ?_
                        have hcz30_0 : w29.cell? ⟨gb164, 0, none⟩ = some (.complex .f64 ((rd_T68 l0 x51_2).f0).1 ((rd_T68 l0 x51_2).f0).2) := (blk_cell BK164.out 0).trans rfl
                        have hcz30_1 : w29.cell? ⟨gb164, 1, none⟩ = some (.int .i64 ((rd_T68 l0 x51_2).f1)) := (blk_cell BK164.out 1).trans rfl
                        have hcz30_2 : w29.cell? ⟨gb164, 2, none⟩ = some (.string ((rd_T68 l0 x51_2).f2)) := (blk_cell BK164.out 2).trans rfl
                        have hfz30_0 := blk_frozen BK164.out 0
                        have hfz30_1 := blk_frozen BK164.out 1
                        have hfz30_2 := blk_frozen BK164.out 2
                        try go_wp2_with (first | ((with_reducible refine gate_builtin (b := .append) (xs := #[.tmp 70, .tmp 72]) rfl ?_); at_builtin; refine Kd.R_append k68 (w0 := w) w.heap.size rfl (.tmp 70) (.tmp 72) 50 68 (.agg #[(.complex .f64 0 0), (.int .i64 0), (.string ⟨#[]⟩)]) 40 rfl Try.underlying50 info68 rfl (by decide) (by omega) u15 x15_2 (⟨t167, (rd_T68 l0 x51_2).f1, (rd_T68 l0 x51_2).f2⟩ : S68) [.complex .f64 t167.1 t167.2, .int .i64 ((rd_T68 l0 x51_2).f1), .string ((rd_T68 l0 x51_2).f2)] (fun k_ => k_ ≠ gb164) (fun _ => False) rfl (by first | (go_simp; done) | (go_simp; rfl)) ?aP (fun _ hk => hk.elim) ?aF ?aO ?aB ?aS ?aL ?_; (case aP => exact k68_mkM _ _ _ (⟨t167, (rd_T68 l0 x51_2).f1, (rd_T68 l0 x51_2).f2⟩ : S68)); (case aB => exact (by repeat (first | (with_reducible first | exact HB.out | apply below_alloc | apply pw_below_drewN | apply below_drew1 | refine below_set ?_ GE164.out) | exact HB.out))); (case aF => exact (fun k_ hk => Kd.freshB (g := gb164) (o := .cells #[.complex .f64 t167.1 t167.2, .int .i64 ((rd_T68 l0 x51_2).f1), .string ((rd_T68 l0 x51_2).f2)] 68 (0, 0)) (by (with_reducible repeat (first | refine blk_drewN ?_ _ | refine blk_drew ?_ | refine blk_alloc ?_ _)); refine blk_put (cs := #[.complex .f64 ((rd_T68 l0 x51_2).f0).1 ((rd_T68 l0 x51_2).f0).2, .int .i64 ((rd_T68 l0 x51_2).f1), .string ((rd_T68 l0 x51_2).f2)]) ?_ 0 _ rfl; (with_reducible repeat (first | refine blk_drewN ?_ _ | refine blk_drew ?_ | refine blk_alloc ?_ _)); exact BK164.out) k_ hk)); (case aO => exact (by (with_reducible repeat (first | apply Kd.R_alloc | apply Kd.R_drewN | apply Kd.R_drew)); exact Kd.R_mono (Kd.R_far (p := ⟨gb164, 0, none⟩) (Kd.R_mono HO_15.out (fun k_ hk => (⟨hk, hk⟩ : _ ∧ k_ ≠ gb164))) (fun _ hk => hk.2) (.complex .f64 t167.1 t167.2)) (fun _ hk => hk.1))); (case aS => exact (below_size (by repeat (first | (with_reducible first | exact HB.out | apply below_alloc | apply pw_below_drewN | apply below_drew1 | refine below_set ?_ GE164.out) | exact HB.out)))); (case aL => have := LMc24.out; omega); intro v170 w31 ho hb hg hat; rw [← Ny169.out] at ho; have n0_ := Aside0.mk (Kd.R_over' (by (with_reducible repeat (first | apply Kd.R_alloc | apply Kd.R_drewN | apply Kd.R_drew)); exact (Kd.R_mono (Kd.R_far (p := ⟨gb164, 0, none⟩) (Kd.R_types HO_6.out BK164.out (by decide)) (fun _ hk => hk.2) (.complex .f64 t167.1 t167.2)) (fun _ h_ => h_.1))) (Kd.R_typed (by (with_reducible repeat (first | apply Kd.R_alloc | apply Kd.R_drewN | apply Kd.R_drew)); exact (Kd.R_mono (Kd.R_far (p := ⟨gb164, 0, none⟩) (Kd.R_mono HO_15.out (fun k_ hk => (⟨hk, hk⟩ : _ ∧ k_ ≠ gb164))) (fun _ hk => hk.2) (.complex .f64 t167.1 t167.2)) (fun _ h_ => h_.1)))) (by decide) hg); have n1_ := Aside0.mk (blk_grown (g := gb164) (o := .cells #[.complex .f64 t167.1 t167.2, .int .i64 ((rd_T68 l0 x51_2).f1), .string ((rd_T68 l0 x51_2).f2)] 68 (0, 0)) (by (with_reducible repeat (first | refine blk_drewN ?_ _ | refine blk_drew ?_ | refine blk_alloc ?_ _)); refine blk_put (cs := #[.complex .f64 ((rd_T68 l0 x51_2).f0).1 ((rd_T68 l0 x51_2).f0).2, .int .i64 ((rd_T68 l0 x51_2).f1), .string ((rd_T68 l0 x51_2).f2)]) ?_ 0 _ rfl; (with_reducible repeat (first | refine blk_drewN ?_ _ | refine blk_drew ?_ | refine blk_alloc ?_ _)); exact BK164.out) hg (Kd.R_away HO_15.out (fun _ hk => hk))); have n2_ := Aside0.mk (hb); have n3_ := Aside0.mk (ho); clear HO_6; clear BK164; clear HB; clear HO_15; have HO_6 := n0_; have BK164 := n1_; have HB := n2_; have HO171 := n3_; clear n0_ n1_ n2_ n3_; clear ho hb hg hat))
                        go_roundg k2
                        case measure => have := HK1.out; have := HK2.out; omega
                        case rel => exact ⟨(y169), (wrap64 (x51_2 + 1)), (by first | rfl | (simp; done) | (simp [*]; done)), H', ⟨by have := HK1.out; have := HK2.out; omega⟩, ⟨by (with_reducible repeat (first | apply Kd.R_alloc | apply Kd.R_drewN | apply Kd.R_drew)); exact HO_6.out⟩, ⟨by (with_reducible repeat (first | apply Kd.R_alloc | apply Kd.R_drewN | apply Kd.R_drew)); exact Kd.R_mono HO171.out (fun _ hk => trivial)⟩, ⟨by repeat (first | (with_reducible first | exact HB.out | apply below_alloc | apply pw_below_drewN | apply below_drew1 | refine below_set ?_ GE164.out) | exact HB.out)⟩⟩
                      · rw [if_neg c24] at H
                        exact absurd H (by simp)
                    · replace c23 := Bool.eq_false_iff.mpr c23
                      subst c23
                      have H1 : (some (([] : List (S68)), 4)) = some (r1, r2) := by rw [if_neg (show ¬ (false = true) by decide)] at H; exact H
                      clear H
                      have H := H1
                      clear H1
                      simp only [Option.some.injEq, Prod.mk.injEq] at H
                      obtain ⟨rfl, rfl⟩ := H
                      have p163 : 0 ≤ (x51_2 : Int) := of_decide_eq_true (by first | (with_reducible assumption) | assumption)
                      have q163 : x51_2 < (l0.length : Int) := of_decide_eq_true (by first | (with_reducible assumption) | assumption)
                      obtain ⟨ad163, e163, hx163_0, hx163_1, hx163_2⟩ := at_T68 HR0.out x51_2 p163 q163
                      cases e163
                      replace hx163_0 := (HB.out.cell (World.block_lt_of_cell? w _ hx163_0)).trans hx163_0
                      replace hx163_1 := (HB.out.cell (World.block_lt_of_cell? w _ hx163_1)).trans hx163_1
                      replace hx163_2 := (HB.out.cell (World.block_lt_of_cell? w _ hx163_2)).trans hx163_2
                      replace p163 := eq_true p163
                      replace q163 := eq_true q163
                      try go_wp2_with (first | ((with_reducible refine gate_dst (N := 17) rfl ?_); refine box_event ?hg (N := 17) ?hd (cs := #[.complex .f64 ((0, 0) : Nat × Nat).1 ((0, 0) : Nat × Nat).2, .int .i64 0, .string (⟨#[]⟩ : ByteArray)]) (t := 68) ?hr ?_; (case hd => rfl); (case hg => rfl); (case hr => first | (go_simp; done) | (go_simp; rfl)); intro gb164 hg w32 hbox hb; have n0_ := Aside0.mk (Kd.R_below (by (with_reducible repeat (first | apply Kd.R_alloc | apply Kd.R_drewN | apply Kd.R_drew)); exact HO_6.out) hb); have n1_ := Aside0.mk (Kd.R_below (Kd.R_elderB (by (with_reducible repeat (first | apply Kd.R_alloc | apply Kd.R_drewN | apply Kd.R_drew)); exact HO_15.out) gb164 (Nat.le_of_eq hg.symm)) hb); have n2_ := Aside0.mk (below_step (by repeat (first | (with_reducible first | exact HB.out | apply below_alloc | apply pw_below_drewN | apply below_drew1) | exact HB.out)) hb); have n3_ := Aside0.mk (hbox); have n4_ := Aside0.mk ((by rw [hg]; exact (below_size (by repeat (first | (with_reducible first | exact HB.out | apply below_alloc | apply pw_below_drewN | apply below_drew1) | exact HB.out))) : w.heap.size ≤ gb164)); have n5_ := Aside0.mk ((by rw [hg]; exact (below_size (by repeat (first | (with_reducible first | exact HB.out | apply below_alloc | apply pw_below_drewN | apply below_drew1) | exact HB.out))) : w.heap.size ≤ gb164)); clear HO_6; clear HO_15; clear HB; have HO_6 := n0_; have HO_15 := n1_; have HB := n2_; have BK164 := n3_; have GW164 := n4_; have GE164 := n5_; clear n0_ n1_ n2_ n3_ n4_ n5_; clear hb hbox hg; have hcz33_0 : w32.cell? ⟨gb164, 0, none⟩ = some (.complex .f64 ((0, 0) : Nat × Nat).1 ((0, 0) : Nat × Nat).2) := (blk_cell BK164.out 0).trans rfl; have hcz33_1 : w32.cell? ⟨gb164, 1, none⟩ = some (.int .i64 0) := (blk_cell BK164.out 1).trans rfl; have hcz33_2 : w32.cell? ⟨gb164, 2, none⟩ = some (.string (⟨#[]⟩ : ByteArray)) := (blk_cell BK164.out 2).trans rfl; have hfz33_0 := blk_frozen BK164.out 0; have hfz33_1 := blk_frozen BK164.out 1; have hfz33_2 := blk_frozen BK164.out 2))
                      have n0_ : Aside0 (Kd.R Kd.cplx 66 (((w32.setCell ⟨gb164, 0, none⟩ (.complex .f64 ((rd_T68 l0 x51_2).f0).1 ((rd_T68 l0 x51_2).f0).2)).setCell ⟨gb164, 1, none⟩ (.int .i64 ((rd_T68 l0 x51_2).f1))).setCell ⟨gb164, 2, none⟩ (.string ((rd_T68 l0 x51_2).f2))) w.heap.size (fun _ => True) (.slice Ao16 x6_1.length co16) x6_1) := ⟨by (with_reducible repeat (first | apply Kd.R_alloc | apply Kd.R_drewN | apply Kd.R_drew)); exact Kd.R_mono (Kd.R_far (p := ⟨gb164, 2, none⟩) (Kd.R_far (p := ⟨gb164, 1, none⟩) (Kd.R_far (p := ⟨gb164, 0, none⟩) (Kd.R_types HO_6.out BK164.out (by decide)) (fun _ hk => hk.2) (.complex .f64 ((rd_T68 l0 x51_2).f0).1 ((rd_T68 l0 x51_2).f0).2)) (fun _ hk => hk.2) (.int .i64 ((rd_T68 l0 x51_2).f1))) (fun _ hk => hk.2) (.string ((rd_T68 l0 x51_2).f2))) (fun _ hk => trivial)⟩
                      have n1_ : Aside0 (Kd.R k68 68 (((w32.setCell ⟨gb164, 0, none⟩ (.complex .f64 ((rd_T68 l0 x51_2).f0).1 ((rd_T68 l0 x51_2).f0).2)).setCell ⟨gb164, 1, none⟩ (.int .i64 ((rd_T68 l0 x51_2).f1))).setCell ⟨gb164, 2, none⟩ (.string ((rd_T68 l0 x51_2).f2))) w.heap.size (fun k_ => k_ ≠ gb164) u15 x15_2) := ⟨by (with_reducible repeat (first | apply Kd.R_alloc | apply Kd.R_drewN | apply Kd.R_drew)); exact Kd.R_mono (Kd.R_far (p := ⟨gb164, 2, none⟩) (Kd.R_far (p := ⟨gb164, 1, none⟩) (Kd.R_far (p := ⟨gb164, 0, none⟩) (Kd.R_mono HO_15.out (fun k_ hk => (⟨hk, hk.2⟩ : _ ∧ k_ ≠ gb164))) (fun _ hk => hk.2) (.complex .f64 ((rd_T68 l0 x51_2).f0).1 ((rd_T68 l0 x51_2).f0).2)) (fun _ hk => hk.2) (.int .i64 ((rd_T68 l0 x51_2).f1))) (fun _ hk => hk.2) (.string ((rd_T68 l0 x51_2).f2))) (fun _ hk => hk.1.2)⟩
                      have n2_ : Aside0 ((((w32.setCell ⟨gb164, 0, none⟩ (.complex .f64 ((rd_T68 l0 x51_2).f0).1 ((rd_T68 l0 x51_2).f0).2)).setCell ⟨gb164, 1, none⟩ (.int .i64 ((rd_T68 l0 x51_2).f1))).setCell ⟨gb164, 2, none⟩ (.string ((rd_T68 l0 x51_2).f2))).heap[gb164]? = some (.cells #[.complex .f64 ((rd_T68 l0 x51_2).f0).1 ((rd_T68 l0 x51_2).f0).2, .int .i64 ((rd_T68 l0 x51_2).f1), .string ((rd_T68 l0 x51_2).f2)] 68 (0, 0))) := ⟨by (with_reducible repeat (first | refine blk_drewN ?_ _ | refine blk_drew ?_ | refine blk_alloc ?_ _)); refine blk_put (cs := #[.complex .f64 ((rd_T68 l0 x51_2).f0).1 ((rd_T68 l0 x51_2).f0).2, .int .i64 ((rd_T68 l0 x51_2).f1), .string (⟨#[]⟩ : ByteArray)]) ?_ 2 _ rfl; (with_reducible repeat (first | refine blk_drewN ?_ _ | refine blk_drew ?_ | refine blk_alloc ?_ _)); refine blk_put (cs := #[.complex .f64 ((rd_T68 l0 x51_2).f0).1 ((rd_T68 l0 x51_2).f0).2, .int .i64 0, .string (⟨#[]⟩ : ByteArray)]) ?_ 1 _ rfl; (with_reducible repeat (first | refine blk_drewN ?_ _ | refine blk_drew ?_ | refine blk_alloc ?_ _)); refine blk_put (cs := #[.complex .f64 ((0, 0) : Nat × Nat).1 ((0, 0) : Nat × Nat).2, .int .i64 0, .string (⟨#[]⟩ : ByteArray)]) ?_ 0 _ rfl; (with_reducible repeat (first | refine blk_drewN ?_ _ | refine blk_drew ?_ | refine blk_alloc ?_ _)); exact BK164.out⟩
                      have n3_ : Aside0 (Below w.heap.size w (((w32.setCell ⟨gb164, 0, none⟩ (.complex .f64 ((rd_T68 l0 x51_2).f0).1 ((rd_T68 l0 x51_2).f0).2)).setCell ⟨gb164, 1, none⟩ (.int .i64 ((rd_T68 l0 x51_2).f1))).setCell ⟨gb164, 2, none⟩ (.string ((rd_T68 l0 x51_2).f2)))) := ⟨by repeat (first | (with_reducible first | exact HB.out | apply below_alloc | apply pw_below_drewN | apply below_drew1 | refine below_set ?_ GE164.out) | exact HB.out)⟩
                      (try clear HO_6)
                      (try clear HO_15)
                      (try clear BK164)
                      (try clear HB)
                      generalize (((w32.setCell ⟨gb164, 0, none⟩ (.complex .f64 ((rd_T68 l0 x51_2).f0).1 ((rd_T68 l0 x51_2).f0).2)).setCell ⟨gb164, 1, none⟩ (.int .i64 ((rd_T68 l0 x51_2).f1))).setCell ⟨gb164, 2, none⟩ (.string ((rd_T68 l0 x51_2).f2))) = w34 at n0_ n1_ n2_ n3_ ⊢
                      have HO_6 := n0_
                      have HO_15 := n1_
                      have BK164 := n2_
                      have HB := n3_
                      clear n0_ n1_ n2_ n3_
                      have n0_ := Aside0.mk (Kd.R_drew HO_6.out)
                      have n1_ := Aside0.mk (Kd.R_drew HO_15.out)
                      have n2_ := Aside0.mk (blk_drew BK164.out)
                      have n3_ := Aside0.mk (below_drew1 HB.out)
                      clear HO_6
                      clear HO_15
                      clear BK164
                      clear HB
                      have HO_6 := n0_
                      have HO_15 := n1_
                      have BK164 := n2_
                      have HB := n3_
                      clear n0_ n1_ n2_ n3_
                      have p165 : 0 ≤ (x51_2 : Int) := of_decide_eq_true (by first | (with_reducible assumption) | assumption)
                      have q165 : x51_2 < (x6_1.length : Int) := of_decide_eq_true (by first | (with_reducible assumption) | assumption)
                      obtain ⟨ad165, e165, hx165_0⟩ := Kd.at_cplx (Kd.R_reads' HO_6.out).2.2 x51_2 p165 q165
                      cases e165
                      replace p165 := eq_true p165
                      replace q165 := eq_true q165
                      refine start_ (n := 12) (S := fun w' => w'.cell? (ad165.add (x51_2).toNat) = some (.complex .f64 (rdOf ((0, 0) : Nat × Nat) x6_1 x51_2).1 (rdOf ((0, 0) : Nat × Nat) x6_1 x51_2).2)) (ds := []) #[false, false, false, false, false, false, false, false, false, false, false, false] (by kernel_rfl) rfl rfl (hx165_0) (fun hHeld => ?_); refine with_tabW chart_Turned.tab15 chart_Turned.bits15 (fun HT_ HW_ => ?_)
                      generalize w34.drew = w35 at HO_6 HO_15 BK164 HB hx165_0 hHeld ⊢
                      refine pure_ (i := 0) (N := some 57) (v := ?_) (a' := ?_) #[true, false, false, false, false, false, false, false, false, false, false, false] rfl rfl (any_of HT_.out (by kernel_rfl)) (fun _ _ _ h => h) (Or.inl ⟨by rfl, ?_⟩) ?_ ?_
                      rotate_left
                      · intro w'
                        go_simp
                        with_reducible rfl
                      rotate_left
                      · simp only [Act.put, List.setIfInBounds_toArray, List.set_cons_zero, List.set_cons_succ, i64_w, i32_w]
                        rfl
                      refine pure_ (i := 1) (N := some 58) (v := ?_) (a' := ?_) #[true, true, false, false, false, false, false, false, false, false, false, false] rfl rfl (any_of HT_.out (by kernel_rfl)) (fun _ _ _ h => h) (Or.inl ⟨by rfl, ?_⟩) ?_ ?_
                      rotate_left
                      · intro w'
                        go_simp
                        with_reducible rfl
                      rotate_left
                      · simp only [Act.put, List.setIfInBounds_toArray, List.set_cons_zero, List.set_cons_succ, i64_w, i32_w]
                        rfl
                      refine pure_ (i := 2) (N := some 59) (v := ?_) (a' := ?_) #[true, true, true, false, false, false, false, false, false, false, false, false] rfl rfl (any_of HT_.out (by kernel_rfl)) (fun _ _ _ h => h) (Or.inl ⟨by rfl, ?_⟩) ?_ ?_
                      rotate_left
                      · intro w'
                        go_simp
                        with_reducible rfl
                      rotate_left
                      · simp only [Act.put, List.setIfInBounds_toArray, List.set_cons_zero, List.set_cons_succ, i64_w, i32_w]
                        rfl
                      refine pure_ (i := 4) (N := some 61) (v := ?_) (a' := ?_) #[true, true, true, false, true, false, false, false, false, false, false, false] rfl rfl (any_of HT_.out (by kernel_rfl)) (fun _ _ _ h => h) (Or.inl ⟨by rfl, ?_⟩) ?_ ?_
                      rotate_left
                      · intro w'
                        go_simp
                        with_reducible rfl
                      rotate_left
                      · simp only [Act.put, List.setIfInBounds_toArray, List.set_cons_zero, List.set_cons_succ, i64_w, i32_w]
                        rfl
                      refine take_ (i := 3) (N := some 60) (v := ?_) (a' := ?_) #[true, true, true, true, true, false, false, false, false, false, false, false] rfl rfl (take_ofW HT_.out HW_.out (by kernel_rfl)) (fun _ _ _ h => h) (Or.inl ⟨by rfl, ?_⟩) hHeld ?_ ?_
                      rotate_left
                      · intro w' s0
                        go_simp
                        with_reducible rfl
                      rotate_left
                      · simp only [Act.put, List.setIfInBounds_toArray, List.set_cons_zero, List.set_cons_succ, i64_w, i32_w]
                        rfl
                      refine one_ (i := 5) (N := some 62) #[true, true, true, true, true, true, false, false, false, false, false, false] rfl rfl (one_of HT_.out (by kernel_rfl)) (by decide) (fun K hK => ?_)
                      refine goes_ Try.func62 (by kernel_rfl) rfl #[.complex .f64 t160.1 t160.2, .int .i64 2] (by rfl) rfl rfl (by (try simp only [List.map_toArray, List.map_cons, List.map_nil]); first | done | rfl | (simp only [List.length_drop, List.length_take]; rfl)) ?_
                      with_reducible refine (plane_Turn.calls t160 2 t166 _ A21.out).mono ?_
                      rintro e w' ⟨rfl, ⟨nd, rfl⟩⟩
                      refine ⟨_, rfl, ?_⟩
                      refine hK.out _ _ (hHeld) (fun hHeld => ?_)
                      clear hK K
                      refine norm_ (a' := ?_) ?_ ?_
                      rotate_left
                      · show Act.put _ (some 62) _ = _
                        simp only [Act.put, List.setIfInBounds_toArray, List.set_cons_zero, List.set_cons_succ, i64_w, i32_w]
                        rfl
                      refine one_ (i := 6) (N := some 63) #[true, true, true, true, true, true, true, false, false, false, false, false] rfl rfl (one_of HT_.out (by kernel_rfl)) (by decide) (fun K hK => ?_)
                      refine goes_ Try.func64 (by kernel_rfl) rfl #[.complex .f64 (rdOf ((0, 0) : Nat × Nat) x6_1 x51_2).1 (rdOf ((0, 0) : Nat × Nat) x6_1 x51_2).2, .complex .f64 t166.1 t166.2] (by rfl) rfl rfl (by (try simp only [List.map_toArray, List.map_cons, List.map_nil]); first | done | rfl | (simp only [List.length_drop, List.length_take]; rfl)) ?_
                      with_reducible refine (plane_Move.calls (rdOf ((0, 0) : Nat × Nat) x6_1 x51_2) t166 t167 false _ A22.out).mono ?_
                      rintro e w36 ⟨rfl, hb⟩
                      have HS0_ := (hb.cell (World.block_lt_of_cell? _ _ (hHeld))).trans (hHeld)
                      refine ⟨_, rfl, ?_⟩
                      have n0_ := Aside0.mk (Kd.R_below (by (with_reducible repeat (first | apply Kd.R_alloc | apply Kd.R_drewN | apply Kd.R_drew)); exact HO_6.out) hb)
                      have n1_ := Aside0.mk (Kd.R_below (by (with_reducible repeat (first | apply Kd.R_alloc | apply Kd.R_drewN | apply Kd.R_drew)); exact HO_15.out) hb)
                      have n2_ := Aside0.mk (blk_below (g := gb164) (o := .cells #[.complex .f64 ((rd_T68 l0 x51_2).f0).1 ((rd_T68 l0 x51_2).f0).2, .int .i64 ((rd_T68 l0 x51_2).f1), .string ((rd_T68 l0 x51_2).f2)] 68 (0, 0)) (by (with_reducible repeat (first | refine blk_drewN ?_ _ | refine blk_drew ?_ | refine blk_alloc ?_ _)); exact BK164.out) hb)
                      have n3_ := Aside0.mk (below_step (by repeat (first | (with_reducible first | exact HB.out | apply below_alloc | apply pw_below_drewN | apply below_drew1 | refine below_set ?_ GE164.out) | exact HB.out)) hb)
                      clear HO_6
                      clear HO_15
                      clear BK164
                      clear HB
                      have HO_6 := n0_
                      have HO_15 := n1_
                      have BK164 := n2_
                      have HB := n3_
                      clear n0_ n1_ n2_ n3_
                      (try clear hb)
                      (try clear hb2)
                      (try clear hk)
                      (try clear hi)
                      refine hK.out _ _ (HS0_) (fun hHeld => ?_)
                      clear hK K
                      refine norm_ (a' := ?_) ?_ ?_
                      rotate_left
                      · show Act.put _ (some 63) _ = _
                        simp only [Act.put, List.setIfInBounds_toArray, List.set_cons_zero, List.set_cons_succ, i64_w, i32_w]
                        rfl
                      refine pure_ (i := 7) (N := some 56) (v := ?_) (a' := ?_) #[true, true, true, true, true, true, true, true, false, false, false, false] rfl rfl (any_of HT_.out (by kernel_rfl)) (fun _ _ _ h => h) (Or.inl ⟨by rfl, ?_⟩) ?_ ?_
                      rotate_left
                      · intro w'
                        go_simp
                        with_reducible rfl
                      rotate_left
                      · simp only [Act.put, List.setIfInBounds_toArray, List.set_cons_zero, List.set_cons_succ, i64_w, i32_w]
                        rfl
                      refine pure_ (i := 8) (N := some 64) (v := ?_) (a' := ?_) #[true, true, true, true, true, true, true, true, true, false, false, false] rfl rfl (any_of HT_.out (by kernel_rfl)) (fun _ _ _ h => h) (Or.inl ⟨by rfl, ?_⟩) ?_ ?_
                      rotate_left
                      · intro w'
                        go_simp
                        with_reducible rfl
                      rotate_left
                      · simp only [Act.put, List.setIfInBounds_toArray, List.set_cons_zero, List.set_cons_succ, i64_w, i32_w]
                        rfl
                      refine pure_ (i := 9) (N := some 65) (v := ?_) (a' := ?_) #[true, true, true, true, true, true, true, true, true, true, false, false] rfl rfl (any_of HT_.out (by kernel_rfl)) (fun _ _ _ h => h) (Or.inl ⟨by rfl, ?_⟩) ?_ ?_
                      rotate_left
                      · intro w'
                        go_simp
                        with_reducible rfl
                      rotate_left
                      · simp only [Act.put, List.setIfInBounds_toArray, List.set_cons_zero, List.set_cons_succ, i64_w, i32_w]
                        rfl
                      refine pure_ (i := 10) (N := some 18) (v := ?_) (a' := ?_) #[true, true, true, true, true, true, true, true, true, true, true, false] rfl rfl (any_of HT_.out (by kernel_rfl)) (fun _ _ _ h => h) (Or.inl ⟨by rfl, ?_⟩) ?_ ?_
                      rotate_left
                      · intro w'
                        go_simp
                        with_reducible rfl
                      rotate_left
                      · simp only [Act.put, List.setIfInBounds_toArray, List.set_cons_zero, List.set_cons_succ, i64_w, i32_w]
                        rfl
                      refine pure_ (i := 11) (N := some 19) (v := ?_) (a' := ?_) #[true, true, true, true, true, true, true, true, true, true, true, true] rfl rfl (any_of HT_.out (by kernel_rfl)) (fun _ _ _ h => h) (Or.inl ⟨by rfl, ?_⟩) ?_ ?_
                      rotate_left
                      · intro w'
                        go_simp
                        with_reducible rfl
                      rotate_left
                      · simp only [Act.put, List.setIfInBounds_toArray, List.set_cons_zero, List.set_cons_succ, i64_w, i32_w]
                        rfl
                      refine done_ (done_of HT_.out (by kernel_rfl)) ?_
                      try go_wp2
                      go_ret2
                      exact ⟨_, by first | rfl | (simp [errW_none, errW_some] <;> rfl) | (simp [*, errW_none, errW_some] <;> rfl), by first | exact Kd.R_nil _ _ _ _ _ | exact Kd.N_nil _ _ _ _ _ | exact Kd.V_nil _ _ _ _ _ | exact Kd.Q_nil _ _ _ _ _ | exact Kd.S_nil _ _ _ _ _, by repeat (first | (with_reducible first | exact HB.out | apply below_alloc | apply pw_below_drewN | apply below_drew1 | refine below_set ?_ GE164.out) | exact HB.out)⟩
                  · rw [if_neg c20] at H
                    exact absurd H (by simp)
                · rw [if_neg c19] at H
                  exact absurd H (by simp)
              · rw [if_neg c18] at H
                exact absurd H (by simp)
            · rw [if_neg c17] at H
              have c17b0 : decide (x51_2 < (l0.length : Int)) = false := decide_eq_false c17
              clear c17
              simp only [Option.some.injEq, Prod.mk.injEq] at H
              obtain ⟨rfl, rfl⟩ := H
              go_wp2
              go_ret2
              exact ⟨_, by first | rfl | (simp [errW_none, errW_some] <;> rfl) | (simp [*, errW_none, errW_some] <;> rfl), by (with_reducible repeat (first | apply Kd.R_alloc | apply Kd.R_drewN | apply Kd.R_drew)); exact HO_15.out, by repeat (first | (with_reducible first | exact HB.out | apply below_alloc | apply pw_below_drewN | apply below_drew1) | exact HB.out)⟩

/-! ### merkhetref25_Coords: function 66 (given) -/
def merkhetref25_Coords.f (a0_0 : Int) (a0_1 : Int) : Option (Int × Int × Bool) := if Pl.bitI a0_0 ∧ Pl.bitI a0_1 then some (Pl.coordsV a0_0.toNat a0_1.toNat) else none
theorem merkhetref25_Coords.calls (a0_0 : Int) (a0_1 : Int) (r1 : Int) (r2 : Int) (r3 : Bool) (w : World) (h : merkhetref25_Coords.f a0_0 a0_1 = some (r1, r2, r3)) :
    Calls Try.prog 66 #[.agg #[.int .u64 a0_0, .int .u64 a0_1]] w fun e w' => e = .returned (.tuple #[.int .i64 r1, .int .i64 r2, .bool r3]) ∧ Below w.heap.size w w' := by
  unfold merkhetref25_Coords.f at h
  split at h
  · rename_i hl
    have e := Option.some.inj h
    obtain ⟨a, rfl⟩ := Int.eq_ofNat_of_zero_le hl.1.1
    obtain ⟨b, rfl⟩ := Int.eq_ofNat_of_zero_le hl.2.1
    have q := Pl.rCoords_calls a b (by have := hl.1.2; omega) (by have := hl.2.2; omega) w
    rw [Pl.rcoords_eq] at q
    rw [Int.toNat_natCast, Int.toNat_natCast] at e
    rw [e] at q
    exact q.mono (by rintro e w' ⟨rfl, hb⟩; exact ⟨rfl, Pl.own_below hb⟩)
  · cases h

/-! ### merkhetref25_Turn: function 67 (given) -/
def merkhetref25_Turn.f (a0_0 : Int) (a0_1 : Int) (a1 : Int) : Option (Int × Int) := if Pl.bitI a0_0 ∧ Pl.bitI a0_1 then some (((Pl.turnV a0_0.toNat a0_1.toNat a1).1 : Int), ((Pl.turnV a0_0.toNat a0_1.toNat a1).2 : Int)) else none
theorem merkhetref25_Turn.calls (a0_0 : Int) (a0_1 : Int) (a1 : Int) (r1 : Int) (r2 : Int) (w : World) (h : merkhetref25_Turn.f a0_0 a0_1 a1 = some (r1, r2)) :
    Calls Try.prog 67 #[.agg #[.int .u64 a0_0, .int .u64 a0_1], .int .i64 a1] w fun e w' => e = .returned (.agg #[.int .u64 r1, .int .u64 r2]) ∧ Below w.heap.size w w' := by
  unfold merkhetref25_Turn.f at h
  split at h
  · rename_i hl
    have e := Option.some.inj h
    obtain ⟨a, rfl⟩ := Int.eq_ofNat_of_zero_le hl.1.1
    obtain ⟨b, rfl⟩ := Int.eq_ofNat_of_zero_le hl.2.1
    have q := Pl.rTurn_calls a b a1 (by have := hl.1.2; omega) (by have := hl.2.2; omega) w
    rw [Int.toNat_natCast, Int.toNat_natCast] at e
    obtain ⟨rfl, rfl⟩ := Prod.mk.inj e
    exact q.mono (by rintro e w' ⟨rfl, hb⟩; exact ⟨rfl, Pl.own_below hb⟩)
  · cases h

/-! ### merkhetref25_Box: function 68 (given) -/
def merkhetref25_Box.f (l0 : List (S97)) : Option (Int × Int × Int × Int × Bool) := if l0.length ≤ 1000 ∧ ∀ p ∈ l0, Pl.bitN p then some (Pl.boxN l0) else none
theorem merkhetref25_Box.calls (A0 : Option Addr) (c0 : Nat) (l0 : List (S97)) (r1 : Int) (r2 : Int) (r3 : Int) (r4 : Int) (r5 : Bool) (w : World) (hr0 : Kd.C k97 w A0 l0.length l0) (hc0 : l0.length ≤ c0) (h : merkhetref25_Box.f l0 = some (r1, r2, r3, r4, r5)) :
    Calls Try.prog 68 #[.slice A0 l0.length c0] w fun e w' => e = .returned (.tuple #[.agg #[.int .u64 r1, .int .u64 r2], .agg #[.int .u64 r3, .int .u64 r4], .bool r5]) ∧ Below w.heap.size w w' := by
  unfold merkhetref25_Box.f at h
  split at h
  · rename_i hl
    have e := Option.some.inj h
    have q := Pl.boxN_calls A0 c0 l0 w hr0 hc0 hl.1 hl.2
    rw [e] at q
    exact q.mono (by rintro e w' ⟨rfl, hb⟩; exact ⟨rfl, Pl.own_below hb⟩)
  · cases h

end Go.Proofs.Ytmfdhcgdibefiaa.C

/- chart.Boxes: the boxes of an answer. -/
namespace Go.Proofs.Ytmfdhcgdibefiaa.L
open Go.RowKit Go.Proofs.Ytmfdhcgdibefiaa.Q Go.Proofs.Ytmfdhcgdibefiaa.A Go.Proofs.Ytmfdhcgdibefiaa.B Go.Proofs.Ytmfdhcgdibefiaa.K Go.Proofs.Ytmfdhcgdibefiaa.C Go.Proofs.YtmfdhcgdibefiaaW.PrintWords Go.Proofs.YtmfdhcgdibefiaaW.PrintLast Go.Proofs.YtmfdhcgdibefiaaW.PrintMore Go.Proofs.YtmfdhcgdibefiaaW.MapB Go.Proofs.YtmfdhcgdibefiaaW.Lib
set_option linter.unusedVariables false
set_option linter.unusedSimpArgs false
abbrev BoxS := S68
abbrev SpS := S37
def blank : ByteArray := ⟨#[32]⟩
/-- A span's box. -/
def boxAt (lo hi wide : Int) (l : List SpS) (S : List Int) (k : Nat) : BoxS :=
  ⟨((Pl.pointV (colC lo hi wide (rd S k)) k).1, (Pl.pointV (colC lo hi wide (rd S k)) k).2.1), colC lo hi wide (rd S k + (rd_T37 l k).f7) - colC lo hi wide (rd S k) + 1, (rd_T37 l k).f4 ++ blank ++ (rd_T37 l k).f5⟩
def boxesL (lo hi wide : Int) (l : List SpS) (S : List Int) : Nat → List BoxS
  | 0 => []
  | k + 1 => boxesL lo hi wide l S k ++ [boxAt lo hi wide l S k]
theorem boxesL_length (lo hi wide : Int) (l : List SpS) (S : List Int) : ∀ k, (boxesL lo hi wide l S k).length = k
  | 0 => rfl
  | k + 1 => by rw [boxesL, List.length_append, boxesL_length lo hi wide l S k]; rfl
theorem hiL_le (S : List Int) (l : List SpS) (m : Int) : ∀ n k : Nat, k < n → rd S k + (rd_T37 l k).f7 ≤ hiL S l m n
  | n + 1, k, h => by
    rw [hiL]
    by_cases e : k = n
    · subst e; omega
    · have := hiL_le S l m n k (by omega); omega
theorem hiL_bound (S : List Int) (l : List SpS) (m M : Int) (hm : m ≤ M) : ∀ n, (∀ k : Nat, k < n → rd S k + (rd_T37 l k).f7 ≤ M) → hiL S l m n ≤ M
  | 0, _ => hm
  | n + 1, h => by
    rw [hiL]
    have h1 := h n (by omega)
    have h2 := hiL_bound S l m M hm n (fun k hk => h k (by omega))
    omega
theorem minN_le (l : List Int) : ∀ n k : Nat, k < n → minN l n ≤ rd l k
  | n + 1, k, h => by
    rw [minN]
    by_cases e : k = n
    · subst e; omega
    · have := minN_le l n k (by omega); omega
theorem minN_ge (l : List Int) (m : Int) : ∀ n : Nat, 0 < n → (∀ k : Nat, k < n → m ≤ rd l k) → m ≤ minN l n
  | 1, _, h => by rw [minN_one]; exact h 0 (by omega)
  | n + 2, _, h => by
    rw [minN]
    have h1 := minN_ge l m (n + 1) (by omega) (fun k hk => h k (by omega))
    have h2 := h (n + 1) (by omega)
    omega
theorem colC_in {lo hi wide t : Int} (h1 : lo ≤ t) (h2 : t ≤ hi) (w0 : 0 ≤ wide) (w1 : wide ≤ 200) : 0 ≤ colC lo hi wide t ∧ colC lo hi wide t ≤ 200 := by
  have hp0 : 0 ≤ (t - lo) * wide := Int.mul_nonneg (by omega) w0
  have hp1 : (t - lo) * wide ≤ (t - lo) * 200 := Int.mul_le_mul_of_nonneg_left w1 (by omega)
  refine ⟨Int.ediv_nonneg hp0 (by omega), ?_⟩
  have : (t - lo) * wide / (hi - lo + 1) < 201 := Int.ediv_lt_of_lt_mul (by omega) (by omega)
  unfold colC
  omega
/-- What chart.Boxes holds on to over its loop. -/
def Cb (w : World) (cs : Array Value) (lo wide hi : Int) (B1 B2 B3 : Nat) (W : World) : Prop :=
  Below w.heap.size w W ∧ W.heap[w.heap.size]? = some (.cells cs 48 (0, 0)) ∧ Boxed W B1 2 (.int .i64 lo) ∧ Boxed W B2 3 (.int .i64 wide) ∧ Boxed W B3 2 (.int .i64 hi)
section
variable {w : World} {cs : Array Value} {lo wide hi : Int} {B1 B2 B3 : Nat} {W W' : World}
theorem Cb.below (h : Cb w cs lo wide hi B1 B2 B3 W) (hb : Below W.heap.size W W') : Cb w cs lo wide hi B1 B2 B3 W' :=
  ⟨below_step h.1 hb, (hb.block _ (Array.getElem?_eq_some_iff.1 h.2.1).1).trans h.2.1, boxed_below h.2.2.1 hb, boxed_below h.2.2.2.1 hb, boxed_below h.2.2.2.2 hb⟩
theorem Cb.grown {base : Nat} {ok : Nat → Prop} {v : Value} {xs : List BoxS} (h : Cb w cs lo wide hi B1 B2 B3 W) (hr : Kd.R k68 68 W base ok v xs) (hg : W.grownBy W' v.ownBlock) (hb : Below w.heap.size w W') : Cb w cs lo wide hi B1 B2 B3 W' := by
  obtain ⟨inner, ho⟩ := Kd.R_own hr
  exact ⟨hb, (hg.block _ (Array.getElem?_eq_some_iff.1 h.2.1).1 (Kd.R_ne hr h.2.1 (by decide))).trans h.2.1, h.2.2.1.kept hg (h.2.2.1.not_row (by decide) ho), h.2.2.2.1.kept hg (h.2.2.2.1.not_row (by decide) ho), h.2.2.2.2.kept hg (h.2.2.2.2.not_row (by decide) ho)⟩
theorem Cb.drewN (h : Cb w cs lo wide hi B1 B2 B3 W) (n : Nat) : Cb w cs lo wide hi B1 B2 B3 (W.drewN n) := h.below (pw_below_drewN (Below.refl _ _) n)
end
set_option maxHeartbeats 8000000 in
set_option maxRecDepth 1000000 in
theorem cboxes_calls (v wide lo hi : Int) (l : List SpS) (S : List Int) (H : List ByteArray) (O : List Int) (E : List S126) (A1 A2 A3 A4 A5 : Option Addr) (d1 d2 c3 c4 c5 : Nat) (w : World) (hl : l.length ≤ 60) (hS : S.length = l.length) (hS0 : 0 < S.length) (w0 : 1 ≤ wide) (w1 : wide ≤ 200)
    (hr1 : Kd.C k37 w A1 l.length l) (hc1 : l.length ≤ d1) (hr2 : Kd.C (Kd.int .i64) w A2 S.length S) (hc2 : S.length ≤ d2) (hr3 : Kd.C Kd.string w A3 H.length H) (hc3 : H.length ≤ c3) (hr4 : Kd.C (Kd.int .i64) w A4 O.length O) (hc4 : O.length ≤ c4) (hr5 : Kd.C k126 w A5 E.length E) (hc5 : E.length ≤ c5)
    (hin : ∀ k : Nat, k < l.length → -1152921504606846976 ≤ rd S k ∧ rd S k + (rd_T37 l k).f7 ≤ 1154047404513689600 ∧ 0 ≤ (rd_T37 l k).f7)
    (htx : ∀ s ∈ l, s.f4.size ≤ 1000 ∧ s.f5.size ≤ 1000)
    (hlo : minZ S = lo) (hhi : hiL S l lo l.length = hi) (hck : ∃ k, chart_check.f k v l S H O E = some 0) (hsh : chart_sheet.f wide = some true) :
    Calls Try.prog 25 #[.agg (ansV v A1 A2 A3 A4 A5 l.length S.length H.length O.length E.length d1 d2 c3 c4 c5), .int .i64 wide] w fun e w' => ∃ r, e = .returned (.tuple #[r, .int .i64 0]) ∧ Kd.R k68 68 w' w.heap.size (fun _ => True) r (boxesL lo hi wide l S l.length) ∧ Below w.heap.size w w' := by
  obtain ⟨k, hk⟩ := hck
  have hb1 : Below w.heap.size w (w.alloc (Obj.cells (ansV v A1 A2 A3 A4 A5 l.length S.length H.length O.length E.length d1 d2 c3 c4 c5) 48)) := below_alloc (Below.refl _ _) _
  have QS := Aside0.mk (fun W => chart_sheet.calls wide true W hsh)
  have QK : Aside0 (∀ W, Below w.heap.size w W → Calls Try.prog 54 #[.agg (ansV v A1 A2 A3 A4 A5 l.length S.length H.length O.length E.length d1 d2 c3 c4 c5)] W fun e w' => e = .returned (.int .i64 0) ∧ Below W.heap.size W w') :=
    ⟨fun W h => chart_check.calls k v A1 d1 l A2 d2 S A3 c3 H A4 c4 O A5 c5 E 0 W (Kd.C_below hr1 h) hc1 (Kd.C_below hr2 h) hc2 (Kd.C_below hr3 h) hc3 (Kd.C_below hr4 h) hc4 (Kd.C_below hr5 h) hc5 hk⟩
  have QC : Aside0 (∀ W, Below w.heap.size w W → Calls Try.prog 55 #[.agg (ansV v A1 A2 A3 A4 A5 l.length S.length H.length O.length E.length d1 d2 c3 c4 c5), .int .i64 wide] W fun e w' => ∃ B1 B2 B3, e = .returned (.func (.func 107) #[] #[.pointer (some ⟨B1, 0, none⟩), .pointer (some ⟨B2, 0, none⟩), .pointer (some ⟨B3, 0, none⟩)]) ∧ Boxed w' B1 2 (.int .i64 lo) ∧ Boxed w' B2 3 (.int .i64 wide) ∧ Boxed w' B3 2 (.int .i64 hi) ∧ Below W.heap.size W w') :=
    ⟨fun W h => by
      have q := scale_calls v wide lo l S A1 A2 A3 A4 A5 H.length O.length E.length d1 d2 c3 c4 c5 W (by omega) hS (Kd.C_below hr1 h) hc1 (Kd.C_below hr2 h) hc2 hin hlo hS0
      rw [hhi] at q
      exact q⟩
  have HR1 := Aside0.mk hr1
  have HR2 := Aside0.mk hr2
  have HI := Aside0.mk hin
  have HL := Aside0.mk hl
  have HS := Aside0.mk hS
  have HT := Aside0.mk htx
  have HW0 := Aside0.mk (And.intro w0 w1)
  have HLo := Aside0.mk hlo
  have HHi := Aside0.mk hhi
  have hlo2 : -1152921504606846976 ≤ lo := by
    rw [← hlo]; exact minN_ge S _ _ hS0 (fun k hk => (hin k (by omega)).1)
  have hhi2 : hi ≤ 1154047404513689600 := by
    rw [← hhi]
    refine hiL_bound S l lo _ ?_ _ (fun k hk => (hin k hk).2.1)
    have h0 := hin 0 (by omega)
    have h1 := minN_le S S.length 0 hS0
    change minZ S ≤ _ at h1
    omega
  have HLO2 := Aside0.mk hlo2
  have HHI2 := Aside0.mk hhi2
  clear hlo2 hhi2
  clear hr1 hr2 hr3 hr4 hr5 hc1 hc2 hc3 hc4 hc5 hk hin hl hS hS0 hlo hhi hsh htx w0 w1
  have HB1 := Aside0.mk hb1
  clear hb1
  go_enter Try.func25, Try.ntmps25
  go_wp2_with (first
    | (go_at_call 53; go_loud (refine (QS.out _).mono ?_; rintro e w1 ⟨rfl, hd⟩; obtain ⟨⟨n1, rfl⟩⟩ := hd))
    | (go_at_call 54; go_loud (refine (QK.out _ (pw_below_drewN HB1.out _)).mono ?_; rintro e w2 ⟨rfl, hb⟩; have HB2 := Aside0.mk (below_step (pw_below_drewN HB1.out _) hb); have bk := (hb.block w.heap.size (by simp)).trans (World.alloc_heap_new w _); have BK2 := Aside0.mk bk; have m0 : w2.cell? ⟨w.heap.size, 0, none⟩ = some (.int .i64 v) := (blk_cell bk 0).trans rfl; have m1 : w2.cell? ⟨w.heap.size, 1, none⟩ = some (.slice A1 l.length d1) := (blk_cell bk 1).trans rfl; have m2 : w2.cell? ⟨w.heap.size, 2, none⟩ = some (.slice A2 S.length d2) := (blk_cell bk 2).trans rfl; have m3 : w2.cell? ⟨w.heap.size, 3, none⟩ = some (.slice A3 H.length c3) := (blk_cell bk 3).trans rfl; have m4 : w2.cell? ⟨w.heap.size, 4, none⟩ = some (.slice A4 O.length c4) := (blk_cell bk 4).trans rfl; have m5 : w2.cell? ⟨w.heap.size, 5, none⟩ = some (.slice A5 E.length c5) := (blk_cell bk 5).trans rfl; clear hb bk))
    | (go_at_call 55; go_loud (refine (QC.out _ HB2.out).mono ?_; rintro e w3 ⟨B1, B2, B3, rfl, b1, b2, b3, hb⟩; have bk := (hb.block w.heap.size (Array.getElem?_eq_some_iff.1 BK2.out).1).trans BK2.out; have HCb : Aside0 (Cb w (ansV v A1 A2 A3 A4 A5 l.length S.length H.length O.length E.length d1 d2 c3 c4 c5) lo wide hi B1 B2 B3 w3) := ⟨⟨below_step HB2.out hb, bk, b1, b2, b3⟩⟩; have k1 : w3.cell? ⟨w.heap.size, 1, none⟩ = some (.slice A1 l.length d1) := (blk_cell bk 1).trans rfl; clear hb bk b1 b2 b3 m0 m1 m2 m3 m4 m5)))
  clear k1
  go_loopg [8, 29] l.length (fun kq v8 v29 w' => ∃ x : Int, v29 = .int .i64 x ∧ Aside0 (0 ≤ x ∧ x + kq = l.length) ∧ Aside0 (Kd.R k68 68 w' w.heap.size (fun _ => True) v8 (boxesL lo hi wide l S x.toNat)) ∧ Aside0 (Cb w (ansV v A1 A2 A3 A4 A5 l.length S.length H.length O.length E.length d1 d2 c3 c4 c5) lo wide hi B1 B2 B3 w'))
  case atStart => exact ⟨0, rfl, ⟨by omega, by omega⟩, ⟨Kd.R_nil _ _ _ _ _⟩, HCb⟩
  case round =>
    clear HCb BK2 HB2
    obtain ⟨x, rfl, HK, HO, HCb⟩ := hrel
    by_cases c1 : x < (l.length : Int)
    · have c1b := decide_eq_true c1
      have p1 : 0 ≤ x := HK.out.1
      obtain ⟨ad, e1, hx0, hx1, hx2, hx3, hx4, hx5, hx6, hx7⟩ := at_T37 HR1.out x p1 c1
      obtain ⟨ae, e2, hy⟩ := Kd.at_int HR2.out x p1 (by have := HS.out; omega)
      cases e1
      cases e2
      have hb := HCb.out.1
      replace hx0 := (hb.cell (World.block_lt_of_cell? w _ hx0)).trans hx0
      replace hx1 := (hb.cell (World.block_lt_of_cell? w _ hx1)).trans hx1
      replace hx2 := (hb.cell (World.block_lt_of_cell? w _ hx2)).trans hx2
      replace hx3 := (hb.cell (World.block_lt_of_cell? w _ hx3)).trans hx3
      replace hx4 := (hb.cell (World.block_lt_of_cell? w _ hx4)).trans hx4
      replace hx5 := (hb.cell (World.block_lt_of_cell? w _ hx5)).trans hx5
      replace hx6 := (hb.cell (World.block_lt_of_cell? w _ hx6)).trans hx6
      replace hx7 := (hb.cell (World.block_lt_of_cell? w _ hx7)).trans hx7
      have HY := Aside0.mk ((hb.cell (World.block_lt_of_cell? w _ hy)).trans hy)
      clear hy hb
      obtain ⟨A8, n8, e8⟩ := Kd.R_slice HO.out
      subst e8
      have hin := HI.out x.toNat (by omega)
      rw [show ((x.toNat : Nat) : Int) = x by omega] at hin
      have hle := hiL_le S l lo l.length x.toNat (by omega)
      rw [HHi.out, show ((x.toNat : Nat) : Int) = x by omega] at hle
      have hge := minN_le S S.length x.toNat (by have := HS.out; omega)
      change minZ S ≤ _ at hge
      rw [HLo.out, show ((x.toNat : Nat) : Int) = x by omega] at hge
      have hsum : IntKind.i64.wrap (rd S x + (rd_T37 l x).f7) = rd S x + (rd_T37 l x).f7 := (i64_w _).trans (wrap_id (by omega) (by omega))
      have hlo2 := HLO2.out
      have hhi2 := HHI2.out
      have QA : Aside0 (∀ W, Boxed W B1 2 (.int .i64 lo) → Boxed W B2 3 (.int .i64 wide) → Boxed W B3 2 (.int .i64 hi) → Calls Try.prog 107 #[.int .i64 (rd S x), .pointer (some ⟨B1, 0, none⟩), .pointer (some ⟨B2, 0, none⟩), .pointer (some ⟨B3, 0, none⟩)] W fun e w' => e = .returned (.int .i64 (colC lo hi wide (rd S x))) ∧ ∃ n, w' = W.drewN n) := ⟨fun W q1 q2 q3 => col_calls lo hi wide _ hlo2 hge (by omega) hhi2 (by have := HW0.out; omega) HW0.out.2 W B1 B2 B3 q1 q2 q3⟩
      have QB : Aside0 (∀ W, Boxed W B1 2 (.int .i64 lo) → Boxed W B2 3 (.int .i64 wide) → Boxed W B3 2 (.int .i64 hi) → Calls Try.prog 107 #[.int .i64 (rd S x + (rd_T37 l x).f7), .pointer (some ⟨B1, 0, none⟩), .pointer (some ⟨B2, 0, none⟩), .pointer (some ⟨B3, 0, none⟩)] W fun e w' => e = .returned (.int .i64 (colC lo hi wide (rd S x + (rd_T37 l x).f7))) ∧ ∃ n, w' = W.drewN n) := ⟨fun W q1 q2 q3 => col_calls lo hi wide _ hlo2 (by omega) hle hhi2 (by have := HW0.out; omega) HW0.out.2 W B1 B2 B3 q1 q2 q3⟩
      have HW := Aside0.mk hsum
      have HW1 := Aside0.mk (show wrap64 (x + 1) = x + 1 from wrap_id (by omega) (by have := HL.out; omega))
      have HN1 := Aside0.mk (show boxesL lo hi wide l S (x + 1).toNat = boxesL lo hi wide l S x.toNat ++ [boxAt lo hi wide l S x.toNat] from by
        rw [show (x + 1).toNat = x.toNat + 1 by omega]; rfl)
      have HC1 := Aside0.mk c1
      have HLS := Aside0.mk (show x < (S.length : Int) by have := HS.out; omega)
      have HP := Aside0.mk p1
      have hbx : boxAt lo hi wide l S x.toNat = ⟨((Pl.pointV (colC lo hi wide (rd S x)) x).1, (Pl.pointV (colC lo hi wide (rd S x)) x).2.1), colC lo hi wide (rd S x + (rd_T37 l x).f7) - colC lo hi wide (rd S x) + 1, (rd_T37 l x).f4 ++ blank ++ (rd_T37 l x).f5⟩ := by
        unfold boxAt; rw [show ((x.toNat : Nat) : Int) = x by omega]
      have HBX := Aside0.mk hbx
      have hcw : wrap64 (wrap64 (colC lo hi wide (rd S x + (rd_T37 l x).f7) - colC lo hi wide (rd S x)) + 1) = colC lo hi wide (rd S x + (rd_T37 l x).f7) - colC lo hi wide (rd S x) + 1 := by
        have g1 := colC_in (lo := lo) (hi := hi) (wide := wide) hge (by omega) (by have := HW0.out; omega) HW0.out.2
        have g2 := colC_in (lo := lo) (hi := hi) (t := rd S x + (rd_T37 l x).f7) (wide := wide) (by omega) hle (by have := HW0.out; omega) HW0.out.2
        rw [wrap_id (i := colC lo hi wide (rd S x + (rd_T37 l x).f7) - colC lo hi wide (rd S x)) (by omega) (by omega)]
        exact wrap_id (by omega) (by omega)
      have HCW := Aside0.mk hcw
      have HTX := Aside0.mk (show (rd_T37 l x).f4.size ≤ 1000 ∧ (rd_T37 l x).f5.size ≤ 1000 from by
        have hlt : x.toNat < l.length := by omega
        have : rd_T37 l x = l[x.toNat] := by simp [rd_T37, List.getD, hlt]
        rw [this]; exact HT.out _ (List.getElem_mem _))
      clear hin hsum hle hge hlo2 hhi2 hbx hcw
      replace p1 := eq_true p1
      replace c1 := eq_true c1
      obtain ⟨k1, rfl⟩ : ∃ k1, gk = k1 + 1 := ⟨gk - 1, by have := HK.out; have := HC1.out; omega⟩
      generalize rd_T37 l x = sp at *
      generalize hcy : colC lo hi wide (rd S x) = ca at *
      generalize hcz : colC lo hi wide (rd S x + sp.f7) = cb at *
      clear hcy hcz
      generalize rd S x = y at *
      go_wp2_with fail
      obtain ⟨gn, hgn⟩ : ∃ gn, gn = wr.heap.size := ⟨_, rfl⟩
      obtain ⟨W2, hW2⟩ : ∃ W2, W2 = wr.alloc (Obj.cells #[.int .u64 sp.f0, .int .u64 sp.f1, .int .u64 sp.f2, .int .u8 sp.f3, .string sp.f4, .string sp.f5, .int .i64 sp.f6, .int .i64 sp.f7] 37) := ⟨_, rfl⟩
      rw [← hW2, ← hgn]
      have HCb2 : Aside0 (Cb w (ansV v (some ad) (some ae) A3 A4 A5 l.length S.length H.length O.length E.length d1 d2 c3 c4 c5) lo wide hi B1 B2 B3 W2) := ⟨by rw [hW2]; exact HCb.out.below (below_alloc (Below.refl _ _) _)⟩
      have HO2 : Aside0 (Kd.R k68 68 W2 w.heap.size (fun _ => True) (.slice A8 (boxesL lo hi wide l S x.toNat).length n8) (boxesL lo hi wide l S x.toNat)) := ⟨by rw [hW2]; exact Kd.R_alloc HO.out _⟩
      have g1 : W2.drew.cell? ⟨w.heap.size, 2, none⟩ = some (.slice (some ae) S.length d2) := (blk_cell HCb2.out.2.1 2).trans rfl
      have g2 : W2.drew.cell? (ae.add x.toNat) = some (.int .i64 y) := by rw [hW2]; exact (World.cell?_alloc_lt _ _ _ (World.block_lt_of_cell? _ _ HY.out)).trans HY.out
      have BKn : Aside0 (W2.heap[gn]? = some (.cells #[.int .u64 sp.f0, .int .u64 sp.f1, .int .u64 sp.f2, .int .u8 sp.f3, .string sp.f4, .string sp.f5, .int .i64 sp.f6, .int .i64 sp.f7] 37 (0, 0))) := ⟨by rw [hW2, hgn]; exact World.alloc_heap_new wr _⟩
      have g3 : W2.drew.cell? ⟨gn, 7, none⟩ = some (.int .i64 sp.f7) := (blk_cell BKn.out 7).trans rfl
      have q1 : (x < (S.length : Int)) = True := eq_true HLS.out
      have QA2 : Aside0 (∀ W, (∃ n, W = W2.drewN n) → Calls Try.prog 107 #[.int .i64 y, .pointer (some ⟨B1, 0, none⟩), .pointer (some ⟨B2, 0, none⟩), .pointer (some ⟨B3, 0, none⟩)] W fun e w' => e = .returned (.int .i64 ca) ∧ ∃ n, w' = W.drewN n) := ⟨fun W h => by obtain ⟨n, rfl⟩ := h; have hc := HCb2.out.drewN n; exact QA.out _ hc.2.2.1 hc.2.2.2.1 hc.2.2.2.2⟩
      have QB2 : Aside0 (∀ W, (∃ n, W = W2.drewN n) → Calls Try.prog 107 #[.int .i64 (y + sp.f7), .pointer (some ⟨B1, 0, none⟩), .pointer (some ⟨B2, 0, none⟩), .pointer (some ⟨B3, 0, none⟩)] W fun e w' => e = .returned (.int .i64 cb) ∧ ∃ n, w' = W.drewN n) := ⟨fun W h => by obtain ⟨n, rfl⟩ := h; have hc := HCb2.out.drewN n; exact QB.out _ hc.2.2.1 hc.2.2.2.1 hc.2.2.2.2⟩
      clear hW2 hgn hx0 hx1 hx2 hx3 hx4 hx5 hx6 hx7
      go_region_held3 (fun W' => (∃ n, W' = W2.drewN n) ∧ W'.cell? ⟨w.heap.size, 2, none⟩ = some (.slice (some ae) S.length d2) ∧ W'.cell? (ae.add x.toNat) = some (.int .i64 y) ∧ W'.cell? ⟨gn, 7, none⟩ = some (.int .i64 sp.f7))
        (first
          | exact ⟨⟨1, rfl⟩, g1, g2, g3⟩
          | exact ⟨⟨_, rfl⟩, g1, g2, g3⟩
          | assumption)
        (first
          | (go_at_call 107; rw [HW.out]; (with_reducible refine (QB2.out _ (And.left (by assumption))).mono ?_); rintro r w5 ⟨rfl, n6, rfl⟩)
          | (go_at_call 107; (with_reducible refine (QA2.out _ (And.left (by assumption))).mono ?_); rintro r w5 ⟨rfl, n5, rfl⟩))
      rename_i hHeld
      obtain ⟨W3, hW3⟩ : ∃ W3, W3 = W2.drewN (1 + n5 + n6) := ⟨_, rfl⟩
      rw [← hW3]
      have f4 : W3.cell? ⟨gn, 4, none⟩ = some (.string sp.f4) := by rw [hW3]; exact (blk_cell BKn.out 4).trans rfl
      have f5 : W3.cell? ⟨gn, 5, none⟩ = some (.string sp.f5) := by rw [hW3]; exact (blk_cell BKn.out 5).trans rfl
      have HCb3 : Aside0 (Cb w (ansV v (some ad) (some ae) A3 A4 A5 l.length S.length H.length O.length E.length d1 d2 c3 c4 c5) lo wide hi B1 B2 B3 W3) := ⟨by rw [hW3]; exact HCb2.out.drewN _⟩
      have HO3 : Aside0 (Kd.R k68 68 W3 w.heap.size (fun _ => True) (.slice A8 (boxesL lo hi wide l S x.toNat).length n8) (boxesL lo hi wide l S x.toNat)) := ⟨by rw [hW3]; exact Kd.R_drewN HO2.out _⟩
      have z1 : (9223372036854775807 < sp.f4.size + 1) = False := eq_false (by have := HTX.out.1; omega)
      have z2 : (9223372036854775807 < sp.f4.size + 1 + sp.f5.size) = False := eq_false (by have := HTX.out.1; have := HTX.out.2; omega)
      have HLn := Aside0.mk (boxesL_length lo hi wide l S x.toNat)
      clear hW3 hHeld g1 g2 g3
      generalize boxesL lo hi wide l S x.toNat = acc at *
      go_wp2_with (first
        | (go_at_call 56; go_loud (refine (Pl.Point_calls _ _ _).mono ?_; rintro e w6 ⟨rfl, rfl⟩))
        | ((with_reducible refine gate_builtin (b := .append) (xs := #[.tmp 57, .tmp 70]) rfl ?_); at_builtin; go_loud (rw [HCW.out]; refine Kd.R_append k68 (w0 := w) w.heap.size rfl (.tmp 57) (.tmp 70) 50 68 (.agg #[(.complex .f64 0 0), (.int .i64 0), (.string ⟨#[]⟩)]) 40 rfl Try.underlying50 (by kernel_rfl) rfl (by decide) (by omega) (.slice A8 acc.length n8) acc (⟨((Pl.pointV ca x).1, (Pl.pointV ca x).2.1), cb - ca + 1, sp.f4 ++ blank ++ sp.f5⟩ : BoxS) [.complex .f64 (Pl.pointV ca x).1 (Pl.pointV ca x).2.1, .int .i64 (cb - ca + 1), .string (sp.f4 ++ blank ++ sp.f5)] (fun _ => True) (fun _ => False) rfl ?aX ?aP (fun _ hk => hk.elim) ?aF ?aO ?aB ?aS ?aL ?_; (case aX => first | rfl | (go_simp; done) | (go_simp; rfl)); (case aP => exact k68_mkM _ _ _ (⟨((Pl.pointV ca x).1, (Pl.pointV ca x).2.1), cb - ca + 1, sp.f4 ++ blank ++ sp.f5⟩ : BoxS)); (case aB => exact HCb3.out.1); (case aF => exact (fun _ _ => trivial)); (case aO => exact HO3.out); (case aS => exact HCb3.out.1.size); (case aL => have := HLn.out; have := HL.out; have := HC1.out; have := HP.out; omega); intro v7 w7 ho hb hg hat; have HO7 := Aside0.mk ho; have HCb7 := Aside0.mk (HCb3.out.grown HO3.out hg hb); clear ho hb hg hat)))
      go_roundg k1
      case measure => omega
      case rel => exact ⟨x + 1, by rw [HW1.out], ⟨by have := HP.out; omega, by have := HK.out; omega⟩, ⟨by rw [HN1.out, HBX.out]; exact HO7.out⟩, HCb7⟩
    · have c1b := decide_eq_false c1
      have HE := Aside0.mk (show x.toNat = l.length by have := HK.out; omega)
      go_wp2_with fail
      go_ret2
      exact ⟨_, rfl, HE.out ▸ HO.out, HCb.out.1⟩
end Go.Proofs.Ytmfdhcgdibefiaa.L

/- chart.Boxes: what it answers, in all cases. -/
namespace Go.Proofs.Ytmfdhcgdibefiaa.L
open Go.RowKit Go.Proofs.Ytmfdhcgdibefiaa.Q Go.Proofs.Ytmfdhcgdibefiaa.A Go.Proofs.Ytmfdhcgdibefiaa.B Go.Proofs.Ytmfdhcgdibefiaa.K Go.Proofs.Ytmfdhcgdibefiaa.C Go.Proofs.YtmfdhcgdibefiaaW.PrintWords Go.Proofs.YtmfdhcgdibefiaaW.PrintLast Go.Proofs.YtmfdhcgdibefiaaW.PrintMore Go.Proofs.YtmfdhcgdibefiaaW.MapB Go.Proofs.YtmfdhcgdibefiaaW.Lib
set_option linter.unusedVariables false
set_option linter.unusedSimpArgs false
/-- The greatest of some numbers. -/
def maxN (l : List Int) : Nat → Int
  | 0 => rd l 0
  | k + 1 => max (maxN l k) (rd l k)
def maxZ (l : List Int) : Int := maxN l l.length
theorem mx_max (a b : Int) : mx a b = max a b := by unfold mx; omega
theorem maxN_le (l : List Int) : ∀ n k : Nat, k < n → rd l k ≤ maxN l n
  | n + 1, k, h => by
    rw [maxN]
    by_cases e : k = n
    · subst e; omega
    · have := maxN_le l n k (by omega); omega
theorem max_l0 (l : List Int) (hl : l.length ≤ 1000000) : ∀ d x : Nat, x + d = l.length → Ev (fun k => slices_Max_int64_int64.l0 k l (maxN l x) (x : Int)) (maxZ l)
  | 0, x, h => by
    refine Ev.succ ?_
    simp only [slices_Max_int64_int64.l0]
    refine Ev.neg (by omega) (Ev.cast (Ev.now _) ?_)
    unfold maxZ; rw [show x = l.length by omega]
  | d + 1, x, h => by
    refine Ev.succ ?_
    simp only [slices_Max_int64_int64.l0]
    refine Ev.pos (by omega) (Ev.pos (by omega) ?_)
    rw [mx_max, wrap_id (i := (x : Int) + 1) (by omega) (by omega)]
    exact max_l0 l hl d (x + 1) (by omega)
theorem min_l0 (l : List Int) (hl : l.length ≤ 1000000) : ∀ d x : Nat, x + d = l.length → Ev (fun k => slices_Min_int64_int64.l0 k l (minN l x) (x : Int)) (minZ l)
  | 0, x, h => by
    refine Ev.succ ?_
    simp only [slices_Min_int64_int64.l0]
    refine Ev.neg (by omega) (Ev.cast (Ev.now _) ?_)
    unfold minZ; rw [show x = l.length by omega]
  | d + 1, x, h => by
    refine Ev.succ ?_
    simp only [slices_Min_int64_int64.l0]
    refine Ev.pos (by omega) (Ev.pos (by omega) ?_)
    rw [mn_min, wrap_id (i := (x : Int) + 1) (by omega) (by omega)]
    exact min_l0 l hl d (x + 1) (by omega)
theorem maxN_one (l : List Int) : maxN l 1 = rd l 0 := Int.max_eq_left (Int.le_refl _)
theorem max_ev (l : List Int) (h0 : 0 < l.length) (hl : l.length ≤ 1000000) : Ev (fun k => slices_Max_int64_int64.f k l) (maxZ l) := by
  simp only [slices_Max_int64_int64.f]
  refine Ev.neg (by omega) (Ev.succ ?_)
  simp only [slices_Max_int64_int64.j0]
  refine Ev.pos (by omega) ?_
  have h := max_l0 l hl (l.length - 1) 1 (by omega)
  rw [maxN_one] at h
  exact h
theorem min_ev (l : List Int) (h0 : 0 < l.length) (hl : l.length ≤ 1000000) : Ev (fun k => slices_Min_int64_int64.f k l) (minZ l) := by
  simp only [slices_Min_int64_int64.f]
  refine Ev.neg (by omega) (Ev.succ ?_)
  simp only [slices_Min_int64_int64.j0]
  refine Ev.pos (by omega) ?_
  have h := min_l0 l hl (l.length - 1) 1 (by omega)
  rw [minN_one] at h
  exact h
/-- What is wrong with an answer; 0: nothing. -/
def chkV (l : List SpS) (S : List Int) : Int := if l.length = 0 then 5 else if S.length = l.length ∧ l.any (fun s => !mayS s) = false then (if l.length > 1048576 ∨ maxZ S > 1152921504606846976 ∨ minZ S < -1152921504606846976 then 4 else 0) else 3
theorem check_ev (v : Int) (l : List SpS) (S : List Int) (H : List ByteArray) (O : List Int) (E : List S126) (hl : l.length ≤ 1000000) (hf : ∀ s ∈ l, fitS s) : Ev (fun k => chart_check.f k v l S H O E) (chkV l S) := by
  simp only [chart_check.f]
  unfold chkV
  by_cases c0 : l.length = 0
  · rw [if_pos c0]
    exact Ev.pos (by omega) (Ev.now _)
  · rw [if_neg c0]
    refine Ev.neg (by omega) ?_
    by_cases c1 : S.length = l.length
    · refine Ev.pos (by omega) (Ev.bind (a := l.any (fun s => !mayS s)) (Ev.const (by unfold chart_check_1.f; rw [if_pos ⟨by omega, hf⟩])) (Ev.succ ?_))
      simp only [chart_check.j0]
      cases hb : l.any (fun s => !mayS s) with
      | true =>
        rw [if_neg (by rintro ⟨_, h⟩; cases h)]
        exact Ev.pos (by first | rfl | trivial) (Ev.now _)
      | false =>
        rw [if_pos ⟨c1, rfl⟩]
        refine Ev.neg (by simp) ?_
        by_cases c2 : l.length > 1048576
        · rw [if_pos (.inl c2)]
          exact Ev.pos (by omega) (Ev.now _)
        · refine Ev.neg (by omega) (Ev.bind (max_ev S (by omega) (by omega)) ?_)
          by_cases c3 : maxZ S > 1152921504606846976
          · rw [if_pos (.inr (.inl c3))]
            exact Ev.pos c3 (Ev.now _)
          · refine Ev.neg c3 (Ev.bind (min_ev S (by omega) (by omega)) ?_)
            by_cases c4 : minZ S < -1152921504606846976
            · exact Ev.cast (Ev.pos c4 (Ev.now _)) (if_pos (.inr (.inr c4))).symm
            · exact Ev.cast (Ev.neg c4 (Ev.now _)) (if_neg (by omega)).symm
    · rw [if_neg (by rintro ⟨h, _⟩; exact c1 h)]
      refine Ev.neg (by omega) (Ev.succ ?_)
      simp only [chart_check.j0]
      exact Ev.pos (by first | rfl | trivial) (Ev.now _)
theorem mayS_dur {s : SpS} (h : mayS s = true) : 0 ≤ s.f7 ∧ s.f7 ≤ 1125899906842624 := by
  unfold mayS mayB at h
  simp only [Bool.and_eq_true, Bool.not_eq_true', Bool.or_eq_false_iff, decide_eq_false_iff_not] at h
  omega
/-- chart.Boxes' answer. -/
def cbV (l : List SpS) (S : List Int) (wide : Int) : List BoxS × Int :=
  if 1 ≤ wide ∧ wide ≤ 200 then (if chkV l S = 0 then (boxesL (minZ S) (hiL S l (minZ S) l.length) wide l S l.length, 0) else ([], chkV l S)) else ([], 1)
theorem sheet_is (wide : Int) : chart_sheet.f wide = some (decide (1 ≤ wide ∧ wide ≤ 200)) := by
  unfold chart_sheet.f
  by_cases h : wide ≥ 1
  · rw [if_pos h]; congr 1; rw [decide_eq_decide]; omega
  · rw [if_neg h, decide_eq_false (by omega)]
def okCb (l : List SpS) (S : List Int) : Prop := l.length ≤ 60 ∧ (∀ s ∈ l, fitS s ∧ s.f4.size ≤ 1000 ∧ s.f5.size ≤ 1000) ∧ S.length ≤ 100
instance (l : List SpS) (S : List Int) : Decidable (okCb l S) := by unfold okCb; infer_instance
set_option maxHeartbeats 8000000 in
set_option maxRecDepth 1000000 in
theorem cbV_calls (v wide : Int) (l : List SpS) (S : List Int) (H : List ByteArray) (O : List Int) (E : List S126) (A1 A2 A3 A4 A5 : Option Addr) (d1 d2 c3 c4 c5 : Nat) (w : World) (hok : okCb l S)
    (hr1 : Kd.C k37 w A1 l.length l) (hc1 : l.length ≤ d1) (hr2 : Kd.C (Kd.int .i64) w A2 S.length S) (hc2 : S.length ≤ d2) (hr3 : Kd.C Kd.string w A3 H.length H) (hc3 : H.length ≤ c3) (hr4 : Kd.C (Kd.int .i64) w A4 O.length O) (hc4 : O.length ≤ c4) (hr5 : Kd.C k126 w A5 E.length E) (hc5 : E.length ≤ c5) :
    Calls Try.prog 25 #[.agg (ansV v A1 A2 A3 A4 A5 l.length S.length H.length O.length E.length d1 d2 c3 c4 c5), .int .i64 wide] w fun e w' => ∃ r, e = .returned (.tuple #[r, .int .i64 (cbV l S wide).2]) ∧ Kd.R k68 68 w' w.heap.size (fun _ => True) r (cbV l S wide).1 ∧ Below w.heap.size w w' := by
  obtain ⟨h1, h2, h3⟩ := hok
  have hck := check_ev v l S H O E (by omega) (fun s hs => (h2 s hs).1)
  unfold cbV
  by_cases c0 : 1 ≤ wide ∧ wide ≤ 200
  · rw [if_pos c0]
    have hsh := sheet_is wide
    rw [decide_eq_true c0] at hsh
    by_cases c1 : chkV l S = 0
    · rw [if_pos c1]
      rw [c1] at hck
      unfold chkV at c1
      split at c1
      · cases c1
      · rename_i cl
        split at c1
        · rename_i cs
          split at c1
          · cases c1
          · rename_i cr
            have hm : ∀ s ∈ l, mayS s = true := by
              intro s hs
              have := List.any_eq_false.1 cs.2 s hs
              simpa using this
            refine cboxes_calls v wide _ _ l S H O E A1 A2 A3 A4 A5 d1 d2 c3 c4 c5 w h1 cs.1 (by omega) c0.1 c0.2 hr1 hc1 hr2 hc2 hr3 hc3 hr4 hc4 hr5 hc5 ?_ (fun s hs => (h2 s hs).2) rfl rfl (Ev.rounds hck) hsh
            intro k hk
            have e : rd_T37 l (k : Int) = l[k] := by simp [rd_T37, List.getD, hk]
            have hd := mayS_dur (hm _ (List.getElem_mem hk))
            rw [← e] at hd
            have g1 := minN_le S S.length k (by omega)
            have g2 := maxN_le S S.length k (by omega)
            change minZ S ≤ _ at g1
            change _ ≤ maxZ S at g2
            omega
        · cases c1
    · rw [if_neg c1]
      obtain ⟨k, hk⟩ := Ev.rounds hck
      generalize hcc : chkV l S = cc at *
      have hb1 : Below w.heap.size w (w.alloc (Obj.cells (ansV v A1 A2 A3 A4 A5 l.length S.length H.length O.length E.length d1 d2 c3 c4 c5) 48)) := below_alloc (Below.refl _ _) _
      have QS := Aside0.mk (fun W => chart_sheet.calls wide true W hsh)
      have QK : Aside0 (∀ W, Below w.heap.size w W → Calls Try.prog 54 #[.agg (ansV v A1 A2 A3 A4 A5 l.length S.length H.length O.length E.length d1 d2 c3 c4 c5)] W fun e w' => e = .returned (.int .i64 cc) ∧ Below W.heap.size W w') :=
        ⟨fun W h => chart_check.calls k v A1 d1 l A2 d2 S A3 c3 H A4 c4 O A5 c5 E cc W (Kd.C_below hr1 h) hc1 (Kd.C_below hr2 h) hc2 (Kd.C_below hr3 h) hc3 (Kd.C_below hr4 h) hc4 (Kd.C_below hr5 h) hc5 hk⟩
      have HB1 := Aside0.mk hb1
      have hne : (!(cc == 0)) = true := by simp [c1]
      have hne2 : (cc == 0) = false := by simp [c1]
      clear hb1 hr1 hr2 hr3 hr4 hr5 hc1 hc2 hc3 hc4 hc5 hk hck hsh h1 h2 h3 hcc c0
      go_enter Try.func25, Try.ntmps25
      go_wp2_with (first
        | (go_at_call 53; go_loud (refine (QS.out _).mono ?_; rintro e w1 ⟨rfl, hd⟩; obtain ⟨⟨n1, rfl⟩⟩ := hd))
        | (go_at_call 54; go_loud (refine (QK.out _ (pw_below_drewN HB1.out _)).mono ?_; rintro e w2 ⟨rfl, hb⟩; have HB2 := Aside0.mk (below_step (pw_below_drewN HB1.out _) hb); clear hb)))
      go_ret2
      exact ⟨_, rfl, Kd.R_nil _ _ _ _ _, HB2.out⟩
  · rw [if_neg c0]
    have hsh := sheet_is wide
    rw [decide_eq_false c0] at hsh
    have QS := Aside0.mk (fun W => chart_sheet.calls wide false W hsh)
    have hb1 : Below w.heap.size w (w.alloc (Obj.cells (ansV v A1 A2 A3 A4 A5 l.length S.length H.length O.length E.length d1 d2 c3 c4 c5) 48)) := below_alloc (Below.refl _ _) _
    have HB1 := Aside0.mk hb1
    clear hb1 hr1 hr2 hr3 hr4 hr5 hc1 hc2 hc3 hc4 hc5 hck hsh h1 h2 h3 c0
    go_enter Try.func25, Try.ntmps25
    go_wp2_with (first
      | (go_at_call 53; go_loud (refine (QS.out _).mono ?_; rintro e w1 ⟨rfl, hd⟩; obtain ⟨⟨n1, rfl⟩⟩ := hd)))
    go_ret2
    exact ⟨_, rfl, Kd.R_nil _ _ _ _ _, pw_below_drewN HB1.out _⟩
end Go.Proofs.Ytmfdhcgdibefiaa.L

-- Written by wip/tools/gp.py, a program of this session round the kit's printer. Lean checks it.
namespace Go.Proofs.Ytmfdhcgdibefiaa.Z
open Go.RowKit Go.Proofs.Ytmfdhcgdibefiaa.Q Go.Proofs.Ytmfdhcgdibefiaa.A Go.Proofs.YtmfdhcgdibefiaaW.PrintWords Go.Proofs.YtmfdhcgdibefiaaW.PrintLast Go.Proofs.YtmfdhcgdibefiaaW.PrintMore
attribute [local go_sem] max2_int min2_int max_two min_two max_three min_three max_four min_four   -- for this text's walks alone
set_option linter.unusedVariables false
set_option linter.unusedSimpArgs false




-- the values' own types

end Go.Proofs.Ytmfdhcgdibefiaa.Z

-- Written by wip/tools/gp.py, a program of this session round the kit's printer. Lean checks it.
namespace Go.Proofs.Ytmfdhcgdibefiaa.Z
open Go.RowKit Go.Proofs.Ytmfdhcgdibefiaa.Q Go.Proofs.Ytmfdhcgdibefiaa.A Go.Proofs.YtmfdhcgdibefiaaW.PrintWords Go.Proofs.YtmfdhcgdibefiaaW.PrintLast Go.Proofs.YtmfdhcgdibefiaaW.PrintMore
attribute [local go_sem] max2_int min2_int max_two min_two max_three min_three max_four min_four   -- for this text's walks alone
set_option linter.unusedVariables false
set_option linter.unusedSimpArgs false

/-! ### merkhetlaw26_fixed_1: function 52 -/
def merkhetlaw26_fixed_1.f (a0 : Int) (a1 : Int) (a2 : Int) : Option (Int × Int × Int × Int × ByteArray × ByteArray × Int × Int) := some (1, a0, 0, 0, (⟨#[97]⟩ : ByteArray), (⟨#[98]⟩ : ByteArray), a1, a2)
set_option maxHeartbeats 8000000 in
set_option maxRecDepth 100000 in
theorem merkhetlaw26_fixed_1.calls (a0 : Int) (a1 : Int) (a2 : Int) (r1 : Int) (r2 : Int) (r3 : Int) (r4 : Int) (r5 : ByteArray) (r6 : ByteArray) (r7 : Int) (r8 : Int) (w : World) (h : merkhetlaw26_fixed_1.f a0 a1 a2 = some (r1, r2, r3, r4, r5, r6, r7, r8)) :
    Calls Try.prog 52 #[.int .u64 a0, .int .i64 a1, .int .i64 a2] w fun e w' => e = .returned (.agg #[.int .u64 r1, .int .u64 r2, .int .u64 r3, .int .u8 r4, .string r5, .string r6, .int .i64 r7, .int .i64 r8]) ∧ Below w.heap.size w w' := by
  have hu37 := Try.underlying37
  have HB := Aside0.mk (Below.refl w.heap.size w)
  have H : (some (1, a0, 0, 0, (⟨#[97]⟩ : ByteArray), (⟨#[98]⟩ : ByteArray), a1, a2)) = some (r1, r2, r3, r4, r5, r6, r7, r8) := h
  clear h
  simp only [Option.some.injEq, Prod.mk.injEq] at H
  obtain ⟨rfl, rfl, rfl, rfl, rfl, rfl, rfl, rfl⟩ := H
  go_enter Try.func52, Try.ntmps52
  go_wp2_with (first | ((with_reducible refine gate_dst (N := 6) rfl ?_); refine box_event ?hg (N := 6) ?hd (cs := #[.int .u64 0, .int .u64 0, .int .u64 0, .int .u8 0, .string (⟨#[]⟩ : ByteArray), .string (⟨#[]⟩ : ByteArray), .int .i64 0, .int .i64 0]) (t := 37) ?hr ?_; (case hd => rfl); (case hg => rfl); (case hr => first | (go_simp; done) | (go_simp; rfl)); intro gb101 hg w4 hbox hb; have n0_ := Aside0.mk (below_step (by repeat (first | (with_reducible first | exact HB.out | apply below_alloc | apply pw_below_drewN | apply below_drew1) | exact HB.out)) hb); have n1_ := Aside0.mk (hbox); have n2_ := Aside0.mk ((by rw [hg]; exact (below_size (by repeat (first | (with_reducible first | exact HB.out | apply below_alloc | apply pw_below_drewN | apply below_drew1) | exact HB.out))) : w.heap.size ≤ gb101)); have n3_ := Aside0.mk ((by rw [hg]; exact (below_size (by repeat (first | (with_reducible first | exact HB.out | apply below_alloc | apply pw_below_drewN | apply below_drew1) | exact HB.out))) : w.heap.size ≤ gb101)); clear HB; have HB := n0_; have BK101 := n1_; have GW101 := n2_; have GE101 := n3_; clear n0_ n1_ n2_ n3_; clear hb hbox hg; have hcz5_0 : w4.cell? ⟨gb101, 0, none⟩ = some (.int .u64 0) := (blk_cell BK101.out 0).trans rfl; have hcz5_1 : w4.cell? ⟨gb101, 1, none⟩ = some (.int .u64 0) := (blk_cell BK101.out 1).trans rfl; have hcz5_2 : w4.cell? ⟨gb101, 2, none⟩ = some (.int .u64 0) := (blk_cell BK101.out 2).trans rfl; have hcz5_3 : w4.cell? ⟨gb101, 3, none⟩ = some (.int .u8 0) := (blk_cell BK101.out 3).trans rfl; have hcz5_4 : w4.cell? ⟨gb101, 4, none⟩ = some (.string (⟨#[]⟩ : ByteArray)) := (blk_cell BK101.out 4).trans rfl; have hcz5_5 : w4.cell? ⟨gb101, 5, none⟩ = some (.string (⟨#[]⟩ : ByteArray)) := (blk_cell BK101.out 5).trans rfl; have hcz5_6 : w4.cell? ⟨gb101, 6, none⟩ = some (.int .i64 0) := (blk_cell BK101.out 6).trans rfl; have hcz5_7 : w4.cell? ⟨gb101, 7, none⟩ = some (.int .i64 0) := (blk_cell BK101.out 7).trans rfl; have hfz5_0 := blk_frozen BK101.out 0; have hfz5_1 := blk_frozen BK101.out 1; have hfz5_2 := blk_frozen BK101.out 2; have hfz5_3 := blk_frozen BK101.out 3; have hfz5_4 := blk_frozen BK101.out 4; have hfz5_5 := blk_frozen BK101.out 5; have hfz5_6 := blk_frozen BK101.out 6; have hfz5_7 := blk_frozen BK101.out 7))
  refine bodyPost_ret (results_cell_row rfl _ _ gb101 37 #[.int .u64 1, .int .u64 a0, .int .u64 0, .int .u8 0, .string (⟨#[97]⟩ : ByteArray), .string (⟨#[98]⟩ : ByteArray), .int .i64 a1, .int .i64 a2] (0, 0) _ rfl (by (with_reducible repeat (first | refine blk_drewN ?_ _ | refine blk_drew ?_ | refine blk_alloc ?_ _)); refine blk_put (cs := #[.int .u64 1, .int .u64 a0, .int .u64 0, .int .u8 0, .string (⟨#[97]⟩ : ByteArray), .string (⟨#[98]⟩ : ByteArray), .int .i64 a1, .int .i64 0]) ?_ 7 _ rfl; (with_reducible repeat (first | refine blk_drewN ?_ _ | refine blk_drew ?_ | refine blk_alloc ?_ _)); refine blk_put (cs := #[.int .u64 1, .int .u64 a0, .int .u64 0, .int .u8 0, .string (⟨#[97]⟩ : ByteArray), .string (⟨#[98]⟩ : ByteArray), .int .i64 0, .int .i64 0]) ?_ 6 _ rfl; (with_reducible repeat (first | refine blk_drewN ?_ _ | refine blk_drew ?_ | refine blk_alloc ?_ _)); refine blk_put (cs := #[.int .u64 1, .int .u64 a0, .int .u64 0, .int .u8 0, .string (⟨#[97]⟩ : ByteArray), .string (⟨#[]⟩ : ByteArray), .int .i64 0, .int .i64 0]) ?_ 5 _ rfl; (with_reducible repeat (first | refine blk_drewN ?_ _ | refine blk_drew ?_ | refine blk_alloc ?_ _)); refine blk_put (cs := #[.int .u64 1, .int .u64 a0, .int .u64 0, .int .u8 0, .string (⟨#[]⟩ : ByteArray), .string (⟨#[]⟩ : ByteArray), .int .i64 0, .int .i64 0]) ?_ 4 _ rfl; (with_reducible repeat (first | refine blk_drewN ?_ _ | refine blk_drew ?_ | refine blk_alloc ?_ _)); refine blk_put (cs := #[.int .u64 1, .int .u64 a0, .int .u64 0, .int .u8 0, .string (⟨#[]⟩ : ByteArray), .string (⟨#[]⟩ : ByteArray), .int .i64 0, .int .i64 0]) ?_ 3 _ rfl; (with_reducible repeat (first | refine blk_drewN ?_ _ | refine blk_drew ?_ | refine blk_alloc ?_ _)); refine blk_put (cs := #[.int .u64 1, .int .u64 a0, .int .u64 0, .int .u8 0, .string (⟨#[]⟩ : ByteArray), .string (⟨#[]⟩ : ByteArray), .int .i64 0, .int .i64 0]) ?_ 2 _ rfl; (with_reducible repeat (first | refine blk_drewN ?_ _ | refine blk_drew ?_ | refine blk_alloc ?_ _)); refine blk_put (cs := #[.int .u64 1, .int .u64 0, .int .u64 0, .int .u8 0, .string (⟨#[]⟩ : ByteArray), .string (⟨#[]⟩ : ByteArray), .int .i64 0, .int .i64 0]) ?_ 1 _ rfl; (with_reducible repeat (first | refine blk_drewN ?_ _ | refine blk_drew ?_ | refine blk_alloc ?_ _)); refine blk_put (cs := #[.int .u64 0, .int .u64 0, .int .u64 0, .int .u8 0, .string (⟨#[]⟩ : ByteArray), .string (⟨#[]⟩ : ByteArray), .int .i64 0, .int .i64 0]) ?_ 0 _ rfl; (with_reducible repeat (first | refine blk_drewN ?_ _ | refine blk_drew ?_ | refine blk_alloc ?_ _)); exact BK101.out) Try.underlying37 rfl (by kernel_rfl)) rfl ?_
  exact ⟨by first | rfl | (simp [errW_none, errW_some] <;> rfl) | (simp [*, errW_none, errW_some] <;> rfl), by repeat (first | (with_reducible first | exact HB.out | apply below_alloc | apply pw_below_drewN | apply below_drew1 | refine below_set ?_ GE101.out) | exact HB.out)⟩

end Go.Proofs.Ytmfdhcgdibefiaa.Z

/- The chapter's example of chart. -/
namespace Go.Proofs.Ytmfdhcgdibefiaa.L
open Go.RowKit Go.Proofs.Ytmfdhcgdibefiaa.Q Go.Proofs.Ytmfdhcgdibefiaa.A Go.Proofs.Ytmfdhcgdibefiaa.B Go.Proofs.Ytmfdhcgdibefiaa.K Go.Proofs.Ytmfdhcgdibefiaa.C Go.Proofs.Ytmfdhcgdibefiaa.Z Go.Proofs.YtmfdhcgdibefiaaW.PrintWords Go.Proofs.YtmfdhcgdibefiaaW.PrintLast Go.Proofs.YtmfdhcgdibefiaaW.PrintMore Go.Proofs.YtmfdhcgdibefiaaW.MapB Go.Proofs.YtmfdhcgdibefiaaW.Lib
set_option linter.unusedVariables false
set_option linter.unusedSimpArgs false
def fsp (i s d : Int) : SpS := ⟨1, i, 0, 0, ⟨#[97]⟩, ⟨#[98]⟩, s, d⟩
def fab : ByteArray := ⟨#[97, 32, 98]⟩
theorem fchk : chkV [fsp 1 0 9, fsp 2 5 4] [0, 5] = 0 := by decide +kernel
theorem fcb : cbV [fsp 1 0 9, fsp 2 5 4] [0, 5] 10 = ([⟨(0, 0), 10, fab⟩, ⟨(4617315517961601024, 4607182418800017408), 5, fab⟩], 0) := by
  unfold cbV
  rw [if_pos ⟨by decide, by decide⟩, if_pos fchk]
  rfl
theorem fok : okCb [fsp 1 0 9, fsp 2 5 4] [0, 5] := by decide +kernel
set_option maxHeartbeats 8000000 in
set_option maxRecDepth 1000000 in
theorem fixed26_calls (w : World) : Calls Try.prog 24 #[] w fun e w' => e = .returned (.bool true) ∧ Below w.heap.size w w' := by
  have QF : Aside0 (∀ (i s d : Int) W, Calls Try.prog 52 #[.int .u64 i, .int .i64 s, .int .i64 d] W fun e w' => e = .returned (.agg #[.int .u64 1, .int .u64 i, .int .u64 0, .int .u8 0, .string ⟨#[97]⟩, .string ⟨#[98]⟩, .int .i64 s, .int .i64 d]) ∧ Below W.heap.size W w') := ⟨fun i s d W => merkhetlaw26_fixed_1.calls i s d _ _ _ _ _ _ _ _ W rfl⟩
  have HB0 := Aside0.mk (Below.refl w.heap.size w)
  have he1 : ∀ W : World, (binOp .eql 68 (.agg #[.complex .f64 0 0, .int .i64 10, .string ⟨#[97, 32, 98]⟩]) (.agg #[.complex .f64 0 0, .int .i64 10, .string ⟨#[97, 32, 98]⟩])).run Try.prog W = .ok (.bool true) W := fun W => by kernel_rfl
  have he2 : ∀ W : World, (binOp .eql 68 (.agg #[.complex .f64 4617315517961601024 4607182418800017408, .int .i64 5, .string ⟨#[97, 32, 98]⟩]) (.agg #[.complex .f64 4617315517961601024 4607182418800017408, .int .i64 5, .string ⟨#[97, 32, 98]⟩])).run Try.prog W = .ok (.bool true) W := fun W => by kernel_rfl
  go_enter Try.func24, Try.ntmps24
  go_wp2_with (first
    | (go_at_call 52; ((with_reducible refine (QF.out 1 0 9 _).mono ?_); rintro e w1 ⟨rfl, hb⟩; have HB1 := Aside0.mk (below_step HB0.out hb); clear hb HB0))
    | (go_at_call 52; ((with_reducible refine (QF.out 2 5 4 _).mono ?_); rintro e w2 ⟨rfl, hb⟩; have HB2 := Aside0.mk (below_step HB1.out hb); clear hb))
    | ((with_reducible refine gate_dst (N := 9) rfl ?_); go_loud (refine Kd.R_lit k37 w.heap.size 37 ?hg (N := 9) ?hd (w0 := w) (xs := ([fsp 1 0 9, fsp 2 5 4] : List SpS)) (inner := [.int .u64 1, .int .u64 1, .int .u64 0, .int .u8 0, .string ⟨#[97]⟩, .string ⟨#[98]⟩, .int .i64 0, .int .i64 9, .int .u64 1, .int .u64 2, .int .u64 0, .int .u8 0, .string ⟨#[97]⟩, .string ⟨#[98]⟩, .int .i64 5, .int .i64 4]) (ok := fun _ => True) (okp := fun _ => True) ?hr ?hp (fun _ hk => hk) trivial HB2.out HB2.out.size (by simp) ?_; (case hd => rfl); (case hg => rfl); (case hr => first | (go_simp; done) | (go_simp; rfl)); (case hp => exact (Reps.c8 (show Kd.M k37 _ _ _ (fsp 1 0 9) _ from (k37_mkM _ _ _ (fsp 1 0 9))) (Reps.c8 (show Kd.M k37 _ _ _ (fsp 2 5 4) _ from (k37_mkM _ _ _ (fsp 2 5 4))) (Reps.none _ _)))); intro v3 w3 ho hb hg_ hnew_; obtain ⟨A3, n3, e3⟩ := Kd.R_slice ho; subst e3; have HC3 := Aside0.mk (Kd.R_reads' ho).2; have HB3 := Aside0.mk hb; clear ho hb hg_ hnew_))
    | ((with_reducible refine gate_dst (N := 10) rfl ?_); go_loud (refine Kd.R_lit (Kd.int .i64) w.heap.size 2 ?hg (N := 10) ?hd (w0 := w) (xs := ([0, 5] : List Int)) (inner := [.int .i64 0, .int .i64 5]) (ok := fun _ => True) (okp := fun _ => True) ?hr ?hp (fun _ hk => hk) trivial HB3.out HB3.out.size (by simp) ?_; (case hd => rfl); (case hg => rfl); (case hr => first | (go_simp; done) | (go_simp; rfl)); (case hp => exact (Reps.one rfl (Reps.one rfl (Reps.none _ _)))); intro v4 w4 ho hb hg_ hnew_; obtain ⟨A4, n4, e4⟩ := Kd.R_slice ho; subst e4; have HC4 := Aside0.mk (Kd.R_reads' ho).2; have HG4 := Aside0.mk (grown_below (B := w3.heap.size) hg_ (fun _ h => by cases h) (Nat.le_refl _)); have HB4 := Aside0.mk hb; clear ho hb hg_ hnew_))
    | (go_at_call 25; go_loud (have q := cbV_calls 0 10 [fsp 1 0 9, fsp 2 5 4] [0, 5] [] [] [] A3 A4 none none none n3 n4 0 0 0 w4 fok (Kd.C_below HC3.out.2 HG4.out) HC3.out.1 HC4.out.2 HC4.out.1 (Kd.C_nil _ _) (Nat.le_refl _) (Kd.C_nil _ _) (Nat.le_refl _) (Kd.C_nil _ _) (Nat.le_refl _); rw [fcb] at q; refine q.mono ?_; rintro e w5 ⟨v5, rfl, ho, hb⟩; obtain ⟨A5, n5, e5⟩ := Kd.R_slice ho; subst e5; have HC5 := Aside0.mk (Kd.R_reads' ho).2; have HB5 := Aside0.mk (below_step HB4.out hb); clear ho hb q; obtain ⟨ad, ea, hx0, hx1, hx2⟩ := at_T68 HC5.out.2 0 (by omega) (by decide); obtain ⟨ad', ea', hy0, hy1, hy2⟩ := at_T68 HC5.out.2 1 (by omega) (by decide); cases ea; cases ea'; have z0 : w5.cell? (ad.add 0) = some (.complex .f64 0 0) := hx0; have z1 : w5.cell? ⟨(ad.add 0).block, (ad.add 0).off + 1, none⟩ = some (.int .i64 10) := hx1; have z2 : w5.cell? ⟨(ad.add 0).block, (ad.add 0).off + 2, none⟩ = some (.string ⟨#[97, 32, 98]⟩) := hx2; rw [Addr.add_zero'] at z0 z1 z2; have y0 : w5.cell? ⟨ad.block, ad.off + 3, none⟩ = some (.complex .f64 4617315517961601024 4607182418800017408) := hy0; have y1 : w5.cell? ⟨ad.block, ad.off + 3 + 1, none⟩ = some (.int .i64 5) := hy1; have y2 : w5.cell? ⟨ad.block, ad.off + 3 + 2, none⟩ = some (.string ⟨#[97, 32, 98]⟩) := hy2; clear hx0 hx1 hx2 hy0 hy1 hy2)))
  go_ret
  exact ⟨rfl, HB5.out⟩
end Go.Proofs.Ytmfdhcgdibefiaa.L

-- Written by wip/tools/gp.py, a program of this session round the kit's printer. Lean checks it.
namespace Go.Proofs.Ytmfdhcgdibefiaa.T
open Go.RowKit Go.Proofs.Ytmfdhcgdibefiaa.Q Go.Proofs.Ytmfdhcgdibefiaa.A Go.Proofs.Ytmfdhcgdibefiaa.B Go.Proofs.Ytmfdhcgdibefiaa.K Go.Proofs.Ytmfdhcgdibefiaa.C Go.Proofs.YtmfdhcgdibefiaaW.PrintWords Go.Proofs.YtmfdhcgdibefiaaW.PrintLast Go.Proofs.YtmfdhcgdibefiaaW.PrintMore
attribute [local go_sem] max2_int min2_int max_two min_two max_three min_three max_four min_four   -- for this text's walks alone
set_option linter.unusedVariables false
set_option linter.unusedSimpArgs false
end Go.Proofs.Ytmfdhcgdibefiaa.T

-- Written by wip/tools/gp.py, a program of this session round the kit's printer. Lean checks it.
namespace Go.Proofs.Ytmfdhcgdibefiaa.C
open Go.RowKit Go.Proofs.Ytmfdhcgdibefiaa.Q Go.Proofs.Ytmfdhcgdibefiaa.A Go.Proofs.Ytmfdhcgdibefiaa.B Go.Proofs.Ytmfdhcgdibefiaa.K Go.Proofs.YtmfdhcgdibefiaaW.PrintWords Go.Proofs.YtmfdhcgdibefiaaW.PrintLast Go.Proofs.YtmfdhcgdibefiaaW.PrintMore
attribute [local go_sem] max2_int min2_int max_two min_two max_three min_three max_four min_four   -- for this text's walks alone
set_option linter.unusedVariables false
set_option linter.unusedSimpArgs false

theorem eqA97 (d : Nat) (w : World) (x0 y0 : Int) (x1 y1 : Int) :
    (Op.equalIn (d + 2) 97 (.agg #[.int .u64 x0, .int .u64 x1]) (.agg #[.int .u64 y0, .int .u64 y1])).run Try.prog w = .ok (x0 == y0 && (x1 == y1)) w := by
  refine eqA_of Try.underlying97 (by kernel_rfl) ?_
  refine eqf_cons (by rfl) (by go_simp; rfl) (by go_simp; rfl) (by go_simp) ?_
  exact eqf_last (by rfl) (by go_simp; rfl) (by go_simp; rfl) (by go_simp)
theorem eqA101 (d : Nat) (w : World) (x0 y0 : Int) (x1 y1 : Int) (x2 y2 : Int) (x3 y3 : ByteArray) :
    (Op.equalIn (d + 3) 101 (.agg #[.int .u64 x0, .int .u64 x1, .int .i64 x2, .string x3]) (.agg #[.int .u64 y0, .int .u64 y1, .int .i64 y2, .string y3])).run Try.prog w = .ok ((x0 == y0 && (x1 == y1)) && (x2 == y2 && (x3.toList == y3.toList))) w := by
  refine eqA_of Try.underlying101 (by kernel_rfl) ?_
  refine eqf_cons (by rfl) (by go_simp) (by go_simp) (eqA97 (d + 0) w _ _ _ _) ?_
  refine eqf_cons (by rfl) (by go_simp; rfl) (by go_simp; rfl) (by go_simp) ?_
  exact eqf_last (by rfl) (by go_simp; rfl) (by go_simp; rfl) (by go_simp)
end Go.Proofs.Ytmfdhcgdibefiaa.C

