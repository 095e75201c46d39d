/- plane: the document's Box. -/
import Derived.Test.YtkcnfdffemddlaaPlaneX
import Derived.Deep.RegionHeld3
namespace Go.Proofs.Ytkcnfdffemddlaa.Pl
open Go.RowKit Go.Proofs.YtkcnfdffemddlaaW.PrintWords Go.Proofs.YtkcnfdffemddlaaW.Lib Go.Proofs.YtkcnfdffemddlaaW.Flt
set_option linter.unusedVariables false

/-- The running box of the document: whatever is no point counts as 0. -/
def rbx (f : Nat → Int × Int) : Nat → Bx
  | 0 => ⟨(f 0).1, (f 0).2, (f 0).1, (f 0).2⟩
  | k + 1 => let q := rbx f k; let p := f k; ⟨if p.1 < q.a then p.1 else q.a, if p.2 < q.b then p.2 else q.b, if q.c < p.1 then p.1 else q.c, if q.d < p.2 then p.2 else q.d⟩
def rco (f : Nat → Nat × Nat) (j : Nat) : Int × Int := ((coordsV (f j).1 (f j).2).1, (coordsV (f j).1 (f j).2).2.1)
theorem results_cell3 {fn : Func} {a b c : Tmp} {t u : TypeId} (h : fn.results = #[.cell a t, .cell b u, .tmp c]) (tmps : Array Value) (P : Program) (w : World) (ad ae : Addr) (v x : Value) (ha : tmps.getD a undef = .pointer (some ad)) (hb : tmps.getD b undef = .pointer (some ae)) (hl : (loadVar t ad).run P w = .ok v w) (hm : (loadVar u ae).run P w = .ok x w) :
    (results fn tmps).run P w = .ok (.tuple #[v, x, tmps.getD c undef]) w := by
  have ha' : tmps[a]?.getD undef = .pointer (some ad) := by rw [← ha]; simp
  have hb' : tmps[b]?.getD undef = .pointer (some ae) := by rw [← hb]; simp
  have e : ∀ ad w, (asAddr (.pointer (some ad))).run P w = .ok ad w := fun _ _ => rfl
  simp [results, h, ha', hb', hl, hm, e]
theorem cell_lt {W : World} {p : Addr} {v : Value} (h : W.cell? p = some v) : p.block < W.heap.size := by
  unfold World.cell? at h
  cases h1 : W.heap[p.block]? with
  | none => rw [h1] at h; simp at h
  | some o => exact (Array.getElem?_eq_some_iff.1 h1).1
theorem res_keep {W w1 : World} {p q : Addr} {u v : Value} (hb : Own W w1) (r : W.cell? p = some u ∧ W.cell? q = some v ∧ W.frozen? p = false ∧ W.frozen? q = false) : w1.cell? p = some u ∧ w1.cell? q = some v ∧ w1.frozen? p = false ∧ w1.frozen? q = false :=
  ⟨hb.cell r.1, hb.cell r.2.1, hb.frozen r.1 r.2.2.1, hb.frozen r.2.1 r.2.2.2⟩
theorem res_alloc {w : World} {p q : Addr} {u v : Value} (r : w.cell? p = some u ∧ w.cell? q = some v ∧ w.frozen? p = false ∧ w.frozen? q = false) (o : Obj) : (w.alloc o).cell? p = some u ∧ (w.alloc o).cell? q = some v ∧ (w.alloc o).frozen? p = false ∧ (w.alloc o).frozen? q = false := res_keep ((Own.refl w).alloc o) r
theorem coords_ok (a b : Nat) : (coordsV a b).2.2 = (ptB a && ptB b) := by unfold coordsV; cases ptB a && ptB b <;> rfl
theorem alc2_0 (w : World) (x y : Value) (t : TypeId) : (w.alloc (.cells #[x, y] t)).cell? ⟨w.heap.size, 0, none⟩ = some x := by go_simp
theorem alc2_1 (w : World) (x y : Value) (t : TypeId) : (w.alloc (.cells #[x, y] t)).cell? ⟨w.heap.size, 1, none⟩ = some y := by go_simp
theorem rbx_abs (f : Nat → Int × Int) (n : Nat) (hn : 0 < n) (h : ∀ j, j < n → (f j).1.natAbs ≤ 1048576 ∧ (f j).2.natAbs ≤ 1048576) (k : Nat) (hk : k ≤ n) : (rbx f k).a.natAbs ≤ 1048576 ∧ (rbx f k).b.natAbs ≤ 1048576 ∧ (rbx f k).c.natAbs ≤ 1048576 ∧ (rbx f k).d.natAbs ≤ 1048576 := by
  induction k with
  | zero => have := h 0 hn; exact ⟨this.1, this.2, this.1, this.2⟩
  | succ k ih =>
    have h1 := h k (by omega)
    obtain ⟨i1, i2, i3, i4⟩ := ih (by omega)
    refine ⟨?_, ?_, ?_, ?_⟩ <;> (unfold rbx; dsimp only; split <;> omega)
theorem bxI_succ (f : Nat → Int × Int) (k : Nat) (hk : 0 < k) : bxI f (k + 1) = ⟨min (bxI f k).a (f k).1, min (bxI f k).b (f k).2, max (bxI f k).c (f k).1, max (bxI f k).d (f k).2⟩ := by
  conv => lhs; unfold bxI
  dsimp only
  rw [if_neg (by omega)]
theorem bxI_one (f : Nat → Int × Int) : bxI f 1 = ⟨(f 0).1, (f 0).2, (f 0).1, (f 0).2⟩ := by
  unfold bxI
  dsimp only
  rw [if_pos rfl]
  simp only [Int.min_self, Int.max_self]
theorem rbx_succ (f : Nat → Int × Int) (k : Nat) : rbx f (k + 1) = ⟨if (f k).1 < (rbx f k).a then (f k).1 else (rbx f k).a, if (f k).2 < (rbx f k).b then (f k).2 else (rbx f k).b, if (rbx f k).c < (f k).1 then (f k).1 else (rbx f k).c, if (rbx f k).d < (f k).2 then (f k).2 else (rbx f k).d⟩ := rfl
/-- Where all are points, the running box is the one of Box. -/
theorem rbx_bx (f : Nat → Int × Int) (k : Nat) : rbx f (k + 1) = bxI f (k + 1) := by
  induction k with
  | zero => rw [bxI_one, rbx_succ]; show Bx.mk (if (f 0).1 < (f 0).1 then _ else (f 0).1) (if (f 0).2 < (f 0).2 then _ else (f 0).2) (if (f 0).1 < (f 0).1 then _ else (f 0).1) (if (f 0).2 < (f 0).2 then _ else (f 0).2) = _; simp
  | succ k ih =>
    rw [bxI_succ _ _ (by omega), rbx_succ, ih]
    generalize bxI f (k + 1) = q
    congr 1 <;> (split <;> omega)
theorem rbx_cong (f g : Nat → Int × Int) (n : Nat) (hn : 0 < n) (h : ∀ j, j < n → f j = g j) (k : Nat) (hk : k ≤ n) : rbx f k = rbx g k := by
  induction k with
  | zero => unfold rbx; rw [h 0 hn]
  | succ k ih => unfold rbx; rw [ih (by omega), h k (by omega)]
theorem al_0 (w : World) (g : Nat) (hg : w.heap.size = g) (w1 : World) (hb : Own ((w.alloc (.cells #[.int .u64 0, .int .u64 0] 24)).alloc (.cells #[.int .u64 0, .int .u64 0] 24)) w1) : w1.cell? ⟨g, 0, none⟩ = some (.int .u64 0) ∧ w1.cell? ⟨g, 1, none⟩ = some (.int .u64 0) ∧ w1.frozen? ⟨g, 0, none⟩ = false ∧ w1.frozen? ⟨g, 1, none⟩ = false := by
  subst hg
  have c0 : ((w.alloc (.cells #[.int .u64 0, .int .u64 0] 24)).alloc (.cells #[.int .u64 0, .int .u64 0] 24)).cell? ⟨w.heap.size, 0, none⟩ = some (.int .u64 0) := by clear hb; go_simp
  have c1 : ((w.alloc (.cells #[.int .u64 0, .int .u64 0] 24)).alloc (.cells #[.int .u64 0, .int .u64 0] 24)).cell? ⟨w.heap.size, 1, none⟩ = some (.int .u64 0) := by clear hb c0; go_simp
  have f0 : ((w.alloc (.cells #[.int .u64 0, .int .u64 0] 24)).alloc (.cells #[.int .u64 0, .int .u64 0] 24)).frozen? ⟨w.heap.size, 0, none⟩ = false := by clear hb c0 c1; go_simp
  have f1 : ((w.alloc (.cells #[.int .u64 0, .int .u64 0] 24)).alloc (.cells #[.int .u64 0, .int .u64 0] 24)).frozen? ⟨w.heap.size, 1, none⟩ = false := by clear hb c0 c1 f0; go_simp
  exact ⟨hb.cell c0, hb.cell c1, hb.frozen c0 f0, hb.frozen c1 f1⟩
theorem al_1 (w : World) (g : Nat) (hg : w.heap.size = g) (w1 : World) (hb : Own ((w.alloc (.cells #[.int .u64 0, .int .u64 0] 24)).alloc (.cells #[.int .u64 0, .int .u64 0] 24)) w1) : w1.cell? ⟨g + 1, 0, none⟩ = some (.int .u64 0) ∧ w1.cell? ⟨g + 1, 1, none⟩ = some (.int .u64 0) ∧ w1.frozen? ⟨g + 1, 0, none⟩ = false ∧ w1.frozen? ⟨g + 1, 1, none⟩ = false := by
  subst hg
  have c0 : ((w.alloc (.cells #[.int .u64 0, .int .u64 0] 24)).alloc (.cells #[.int .u64 0, .int .u64 0] 24)).cell? ⟨w.heap.size + 1, 0, none⟩ = some (.int .u64 0) := by clear hb; go_simp
  have c1 : ((w.alloc (.cells #[.int .u64 0, .int .u64 0] 24)).alloc (.cells #[.int .u64 0, .int .u64 0] 24)).cell? ⟨w.heap.size + 1, 1, none⟩ = some (.int .u64 0) := by clear hb c0; go_simp
  have f0 : ((w.alloc (.cells #[.int .u64 0, .int .u64 0] 24)).alloc (.cells #[.int .u64 0, .int .u64 0] 24)).frozen? ⟨w.heap.size + 1, 0, none⟩ = false := by clear hb c0 c1; go_simp
  have f1 : ((w.alloc (.cells #[.int .u64 0, .int .u64 0] 24)).alloc (.cells #[.int .u64 0, .int .u64 0] 24)).frozen? ⟨w.heap.size + 1, 1, none⟩ = false := by clear hb c0 c1 f0; go_simp
  exact ⟨hb.cell c0, hb.cell c1, hb.frozen c0 f0, hb.frozen c1 f1⟩
set_option maxRecDepth 100000 in
set_option maxHeartbeats 4000000 in
theorem rBox_calls (b off n c : Nat) (f : Nat → Nat × Nat) (w : World) (hn : n ≤ 1000) (hnc : n ≤ c) (hn0 : 0 < n) (hf : ∀ j, j < n → (f j).1 < 2 ^ 64 ∧ (f j).2 < 2 ^ 64)
    (hcell : ∀ j, j < n → w.cell? ⟨b, off + j * 2, none⟩ = some (.int .u64 (f j).1) ∧ w.cell? ⟨b, off + j * 2 + 1, none⟩ = some (.int .u64 (f j).2)) :
    Calls Try.prog 29 #[.slice (some ⟨b, off, none⟩) n c] w fun e w' => e = .returned (.tuple #[.agg #[.int .u64 (boxV f n).1.1, .int .u64 (boxV f n).1.2], .agg #[.int .u64 (boxV f n).2.1.1, .int .u64 (boxV f n).2.1.2], .bool (boxV f n).2.2]) ∧ Own w w' := by
  have h00 := hcell 0 hn0
  have hf0 := hf 0 hn0
  have Q := Aside0.mk (rCoords_calls (f 0).1 (f 0).2 hf0.1 hf0.2)
  rw [rcoords_eq] at Q
  have hz : ((n : Int) == 0) = false := by simp; omega
  obtain ⟨g0, g1⟩ := h00
  rw [Nat.zero_mul, Nat.add_zero] at g0 g1
  have HF := Aside0.mk hf
  have HC := Aside0.mk hcell
  clear hf hcell
  have y0 := fun o o' => Own.cell (((Own.refl w).alloc o).alloc o') g0
  have y1 := fun o o' => Own.cell (((Own.refl w).alloc o).alloc o') g1
  obtain ⟨g, hg⟩ : ∃ g, w.heap.size = g := ⟨_, rfl⟩
  have HG := Aside0.mk hg
  have R0 := Aside0.mk (al_0 w g hg)
  have R1 := Aside0.mk (al_1 w g hg)
  clear g0 g1
  go_enter Try.func29, Try.ntmps29
  have RA := Aside0.mk (rbx_abs (rco f) n hn0 (fun j hj => coords_abs (f j).1 (f j).2 (HF.out j hj).1 (HF.out j hj).2))
  obtain ⟨V, hV⟩ : ∃ V, boxV f n = V := ⟨_, rfl⟩
  rw [hV]
  have HV := Aside0.mk hV
  clear hV
  have K0 : coordsV (f 0).1 (f 0).2 = ((rbx (rco f) 0).a, (rbx (rco f) 0).b, isP f 0) := by
    have h := coords_ok (f 0).1 (f 0).2
    show coordsV (f 0).1 (f 0).2 = ((coordsV (f 0).1 (f 0).2).1, (coordsV (f 0).1 (f 0).2).2.1, isP f 0)
    unfold isP; rw [← h]
  rw [K0] at Q
  have hac : (rbx (rco f) 0).c = (rbx (rco f) 0).a := rfl
  have hbd : (rbx (rco f) 0).d = (rbx (rco f) 0).b := rfl
  have HAC := Aside0.mk hac
  have HBD := Aside0.mk hbd
  clear K0 hac hbd
  go_wp2_with (go_at_call 15; refine (Q.out _).mono ?_; rintro e w1 ⟨rfl, hb⟩; have HB := Aside0.mk (Own.trans (((Own.refl w).alloc _).alloc _) hb); have r0 := R0.out _ hb; have r1 := R1.out _ hb; clear y0 y1 hb)
  go_loopw [5, 6, 7, 8, 9, 10] (fun va vb vo vc vd vi wr => ∃ k : Nat, k ≤ n ∧ vi = .int .i64 k ∧ va = .int .i64 (rbx (rco f) k).a ∧ vb = .int .i64 (rbx (rco f) k).b ∧ vo = .bool (isP f 0 && allP (isP f) k) ∧ vc = .int .i64 (rbx (rco f) k).c ∧ vd = .int .i64 (rbx (rco f) k).d ∧ Own w wr ∧
      (wr.cell? ⟨g, 0, none⟩ = some (.int .u64 0) ∧ wr.cell? ⟨g, 1, none⟩ = some (.int .u64 0) ∧ wr.frozen? ⟨g, 0, none⟩ = false ∧ wr.frozen? ⟨g, 1, none⟩ = false) ∧
      (wr.cell? ⟨g + 1, 0, none⟩ = some (.int .u64 0) ∧ wr.cell? ⟨g + 1, 1, none⟩ = some (.int .u64 0) ∧ wr.frozen? ⟨g + 1, 0, none⟩ = false ∧ wr.frozen? ⟨g + 1, 1, none⟩ = false)) (fun _ _ _ _ _ i _ => n - (intOf i).toNat)
  case atStart => exact ⟨0, by omega, rfl, rfl, rfl, by unfold allP; rw [Bool.and_true], by rw [HAC.out], by rw [HBD.out], HB.out, r0, r1⟩
  case round =>
    clear r0 r1 HB
    obtain ⟨k, hk, rfl, rfl, rfl, rfl, rfl, rfl, ho, r0, r1⟩ := hrel
    by_cases hkn : k < n
    · obtain ⟨g0, g1⟩ := HC.out k hkn
      replace g0 := Own.cell ho g0
      replace g1 := Own.cell ho g1
      have Qk := Aside0.mk (rCoords_calls (f k).1 (f k).2 (HF.out k hkn).1 (HF.out k hkn).2)
      rw [rcoords_eq] at Qk
      have K1 : coordsV (f k).1 (f k).2 = ((rco f k).1, (rco f k).2, isP f k) := by
        have h := coords_ok (f k).1 (f k).2
        show coordsV (f k).1 (f k).2 = ((coordsV (f k).1 (f k).2).1, (coordsV (f k).1 (f k).2).2.1, isP f k)
        unfold isP; rw [← h]
      rw [K1] at Qk
      have hb1 : rbx (rco f) (k + 1) = ⟨if (rco f k).1 < (rbx (rco f) k).a then (rco f k).1 else (rbx (rco f) k).a, if (rco f k).2 < (rbx (rco f) k).b then (rco f k).2 else (rbx (rco f) k).b, if (rbx (rco f) k).c < (rco f k).1 then (rco f k).1 else (rbx (rco f) k).c, if (rbx (rco f) k).d < (rco f k).2 then (rco f k).2 else (rbx (rco f) k).d⟩ := rfl
      have hp1 : (isP f 0 && allP (isP f) (k + 1)) = ((isP f 0 && allP (isP f) k) && isP f k) := (Bool.and_assoc _ _ _).symm
      have HB1 := Aside0.mk hb1
      have HP1 := Aside0.mk hp1
      have HO := Aside0.mk ho
      generalize rbx (rco f) k = q at *
      generalize (rco f k).1 = X at *
      generalize (rco f k).2 = Y at *
      generalize (isP f 0 && allP (isP f) k) = o at *
      clear K1 hb1 hp1 ho
      cases o
      all_goals
        go_wp2_with (go_at_call 15; refine (Qk.out _).mono ?_; rintro e w2 ⟨rfl, hb⟩; replace HO := Aside0.mk (HO.out.trans hb); replace r0 := res_keep hb r0; replace r1 := res_keep hb r1; clear hb g0 g1)
        all_goals
          go_roundw
          case rel =>
            exact ⟨k + 1, by omega, rfl, by rw [HB1.out]; dsimp only; first | rw [if_pos (by omega)] | rw [if_neg (by omega)], by rw [HB1.out]; dsimp only; first | rw [if_pos (by omega)] | rw [if_neg (by omega)], by rw [HP1.out]; rfl,
              by rw [HB1.out]; dsimp only; first | rw [if_pos (by omega)] | rw [if_neg (by omega)], by rw [HB1.out]; dsimp only; first | rw [if_pos (by omega)] | rw [if_neg (by omega)], HO.out, r0, r1⟩
          case measure => simp only [intOf]; (try dsimp only); omega
    · obtain rfl : k = n := by omega
      have HO := Aside0.mk ho
      have hall : (isP f 0 && allP (isP f) k) = allP (isP f) k := by
        cases h : allP (isP f) k
        · exact Bool.and_false _
        · rw [allP_out h 0 hn0]; rfl
      rw [hall]
      have hV := HV.out
      unfold boxV at hV
      rw [decide_eq_true hn0, Bool.and_true] at hV
      clear ho hall
      cases hA : allP (isP f) k
      · rw [hA] at hV
        change ((0, 0), (0, 0), false) = V at hV
        subst hV
        clear hA HV
        go_wp2_with fail
        refine bodyPost_ret (results_cell3 rfl _ _ _ _ _ (.agg #[.int .u64 0, .int .u64 0]) (.agg #[.int .u64 0, .int .u64 0]) rfl rfl ?_ ?_) rfl ⟨rfl, ((((HO.out.setCell (by rw [HG.out]; show g ≤ g; omega) _).setCell (by rw [HG.out]; show g ≤ g; omega) _).setCell (by rw [HG.out]; show g ≤ g + 1; omega) _).setCell (by rw [HG.out]; show g ≤ g + 1; omega) _)⟩
        · go_simp
        · go_simp
      · rw [hA] at hV
        have hcg : rbx (rco f) k = bxI (cooI f) k := by
          rw [rbx_cong (rco f) (cooI f) k hn0 ?_ k (Nat.le_refl _)]
          · obtain ⟨m, rfl⟩ : ∃ m, k = m + 1 := ⟨k - 1, by omega⟩
            exact rbx_bx _ _
          · intro j hj
            have hp := allP_out hA j hj
            unfold rco cooI coordsV
            unfold isP at hp
            rw [hp]; rfl
        obtain ⟨i1, i2, i3, i4⟩ := RA.out k (Nat.le_refl _)
        rw [← hcg] at hV
        generalize rbx (rco f) k = q at *
        change ((enc q.a, enc q.b), (enc q.c, enc q.d), true) = V at hV
        subst hV
        clear hA HV hcg
        have J1 := Aside0.mk i1
        have J2 := Aside0.mk i2
        have J3 := Aside0.mk i3
        have J4 := Aside0.mk i4
        clear i1 i2 i3 i4
        go_wp2_with (first
          | (go_at_call 12; refine (rPoint_calls _ _ _).mono ?_; rintro e w3 ⟨rfl, hb⟩; rw [pointV_ok J3.out J4.out]
             have r0 := res_keep hb (z0 _); have r1 := res_keep hb (z1 _); have m0 := Own.cell hb (alc2_0 _ _ _ _); have m1 := Own.cell hb (alc2_1 _ _ _ _); have HO3 := Aside0.mk ((HO2.out.alloc _).trans hb); clear hb z0 z1 HO2
             rw [hk2] at m0 m1
             have y0 := fun o => res_alloc r0 o; have y1 := fun o => res_alloc r1 o; have n0 := fun o => Own.cell ((Own.refl w3).alloc o) m0; have n1 := fun o => Own.cell ((Own.refl w3).alloc o) m1)
          | (go_at_call 12; refine (rPoint_calls _ _ _).mono ?_; rintro e w2 ⟨rfl, hb⟩; rw [pointV_ok J1.out J2.out]
             have HO2 := Aside0.mk (HO.out.trans hb); have z0 := fun o => res_alloc (res_keep hb r0) o; have z1 := fun o => res_alloc (res_keep hb r1) o; obtain ⟨k2, hk2⟩ : ∃ k2, w2.heap.size = k2 := ⟨_, rfl⟩; have HK2 := Aside0.mk (hk2 ▸ cell_lt (res_keep hb r1).1 : g + 1 < k2); clear hb r0 r1))
        obtain ⟨k3, hk3⟩ : ∃ k3, w3.heap.size = k3 := ⟨_, rfl⟩
        have h0 := alc2_0 w3 (.int .u64 (enc q.c)) (.int .u64 (enc q.d)) 24
        have h1 := alc2_1 w3 (.int .u64 (enc q.c)) (.int .u64 (enc q.d)) 24
        have l0 := n0 (.cells #[.int .u64 (enc q.c), .int .u64 (enc q.d)] 24)
        have l1 := n1 (.cells #[.int .u64 (enc q.c), .int .u64 (enc q.d)] 24)
        have s0 := y0 (.cells #[.int .u64 (enc q.c), .int .u64 (enc q.d)] 24)
        have s1 := y1 (.cells #[.int .u64 (enc q.c), .int .u64 (enc q.d)] 24)
        have HO4 := Aside0.mk (HO3.out.alloc (.cells #[.int .u64 (enc q.c), .int .u64 (enc q.d)] 24))
        rw [hk3] at h0 h1 ⊢
        have hg2 : g + 1 < k2 := HK2.out
        have hg3 : k2 < k3 := by rw [← hk3]; exact cell_lt m0
        clear n0 n1 y0 y1 HO3 r0 r1 m0 m1 hk2 hk3 HF HC RA
        generalize w3.alloc (.cells #[.int .u64 (enc q.c), .int .u64 (enc q.d)] 24) = W2 at *
        obtain ⟨s00, s01, s02, s03⟩ := s0
        obtain ⟨s10, s11, s12, s13⟩ := s1
        replace s00 : W2.cell? ⟨g, 0, none⟩ = some (.int .u64 0) := s00
        replace s01 : W2.cell? ⟨g, 1, none⟩ = some (.int .u64 0) := s01
        replace s02 : W2.frozen? ⟨g, 0, none⟩ = false := s02
        replace s03 : W2.frozen? ⟨g, 1, none⟩ = false := s03
        replace s10 : W2.cell? ⟨g + 1, 0, none⟩ = some (.int .u64 0) := s10
        replace s11 : W2.cell? ⟨g + 1, 1, none⟩ = some (.int .u64 0) := s11
        replace s12 : W2.frozen? ⟨g + 1, 0, none⟩ = false := s12
        replace s13 : W2.frozen? ⟨g + 1, 1, none⟩ = false := s13
        have d0 : ¬ (g = k2) := by omega
        have d1 : ¬ (g + 1 = k2) := by omega
        have d2 : ¬ (g = k3) := by omega
        have d3 : ¬ (g + 1 = k3) := by omega
        have d4 : ¬ (k2 = g) := by omega
        have d5 : ¬ (k2 = g + 1) := by omega
        have d6 : ¬ (k3 = g) := by omega
        have d7 : ¬ (k3 = g + 1) := by omega
        go_region_held3 (fun w' => w'.cell? ⟨k2, 0, none⟩ = some (.int .u64 (enc q.a)) ∧ w'.cell? ⟨k2, 1, none⟩ = some (.int .u64 (enc q.b)) ∧ w'.cell? ⟨k3, 0, none⟩ = some (.int .u64 (enc q.c)) ∧ w'.cell? ⟨k3, 1, none⟩ = some (.int .u64 (enc q.d)))
          (first | exact ⟨l0, l1, h0, h1⟩ | (refine ⟨?_, ?_, ?_, ?_⟩ <;> go_simp) | assumption)
          (fail)
        all_goals
          go_wp2_with fail
          refine bodyPost_ret (results_cell3 rfl _ _ _ _ _ (.agg #[.int .u64 (enc q.a), .int .u64 (enc q.b)]) (.agg #[.int .u64 (enc q.c), .int .u64 (enc q.d)]) rfl rfl ?_ ?_) rfl ⟨rfl, Own.drew ((((HO4.out.setCell (by rw [HG.out]; show g ≤ g; omega) _).setCell (by rw [HG.out]; show g ≤ g; omega) _).setCell (by rw [HG.out]; show g ≤ g + 1; omega) _).setCell (by rw [HG.out]; show g ≤ g + 1; omega) _)⟩
          · go_simp
          · go_simp
end Go.Proofs.Ytkcnfdffemddlaa.Pl
