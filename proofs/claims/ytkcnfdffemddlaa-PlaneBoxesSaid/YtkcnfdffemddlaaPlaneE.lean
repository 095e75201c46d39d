/- plane: the document's Turn and Move. -/
import Derived.Test.YtkcnfdffemddlaaPlaneD
namespace Go.Proofs.Ytkcnfdffemddlaa.Pl
open Go.RowKit Go.Proofs.YtkcnfdffemddlaaW.PrintWords Go.Proofs.YtkcnfdffemddlaaW.Lib Go.Proofs.YtkcnfdffemddlaaW.Flt
set_option linter.unusedVariables false

/-- Whatever lay there lies there. -/
abbrev Own (w W : World) : Prop := ∀ B, B ≤ w.heap.size → Below B w W
theorem Own.refl (w : World) : Own w w := fun B _ => Below.refl B w
theorem Own.trans {a b c : World} (h : Own a b) (k : Own b c) : Own a c := fun B hB => (h B hB).trans (k B (Nat.le_trans hB (h B hB).size))
theorem Own.alloc {a b : World} (h : Own a b) (o : Obj) : Own a (b.alloc o) := fun B hB => (h B hB).alloc (Nat.le_trans hB (h B hB).size) o
theorem Own.drew {a b : World} (h : Own a b) : Own a b.drew := fun B hB => (h B hB).drew
theorem Own.setCell {a b : World} (h : Own a b) {p : Addr} (hp : a.heap.size ≤ p.block) (u : Value) : Own a (b.setCell p u) := fun B hB => (h B hB).setCell (Nat.le_trans hB hp) u
theorem Own.size {a b : World} (h : Own a b) : a.heap.size ≤ b.heap.size := (h 0 (Nat.zero_le _)).size
theorem Own.cell {W w1 : World} (hb : Own W w1) {p : Addr} {v : Value} (h : W.cell? p = some v) : w1.cell? p = some v := by
  have hp : p.block < W.heap.size := by
    unfold World.cell? at h
    cases h1 : W.heap[p.block]? with
    | none => rw [h1] at h; simp at h
    | some o => exact (Array.getElem?_eq_some_iff.1 h1).1
  unfold World.cell? at h ⊢
  rw [(hb _ (Nat.le_refl _)).block _ hp]
  exact h

theorem move_coords (a b c d : Nat) : moveV a b c d = if (coordsV a b).2.2 && (coordsV c d).2.2 then pointV ((coordsV a b).1 + (coordsV c d).1) ((coordsV a b).2.1 + (coordsV c d).2.1) else (0, 0, false) := by
  unfold moveV coordsV
  cases ptB a && ptB b
  · simp only [Bool.false_and, Bool.false_eq_true, if_false]
  · cases ptB c && ptB d
    · simp only [Bool.and_false, Bool.false_eq_true, if_false]
    · simp only [Bool.and_true, if_true]
theorem coords_abs (a b : Nat) (ha : a < 2 ^ 64) (hb : b < 2 ^ 64) : (coordsV a b).1.natAbs ≤ 1048576 ∧ (coordsV a b).2.1.natAbs ≤ 1048576 := by
  unfold coordsV
  cases h1 : ptB a && ptB b
  · simp only [Bool.false_eq_true, if_false]; decide
  · have g := (Bool.and_eq_true _ _ ▸ h1 : ptB a = true ∧ ptB b = true)
    simp only [if_true]
    exact ⟨(ptB_out ha g.1).2.1, (ptB_out hb g.2).2.1⟩

theorem turn_coords (a b : Nat) (q : Int) : turnV a b q = if (coordsV a b).2.2 then (enc (rot (quarters q).toNat ((coordsV a b).1, (coordsV a b).2.1)).1, enc (rot (quarters q).toNat ((coordsV a b).1, (coordsV a b).2.1)).2) else (0, 0) := by
  unfold turnV coordsV
  cases ptB a && ptB b
  · simp only [Bool.false_eq_true, if_false]
  · simp only [if_true]
theorem Own.frozen {W w1 : World} (hb : Own W w1) {p : Addr} {b : Bool} {v : Value} (hc : W.cell? p = some v) (h : W.frozen? p = b) : w1.frozen? p = b := by
  have hp : p.block < W.heap.size := by
    unfold World.cell? at hc
    cases h1 : W.heap[p.block]? with
    | none => rw [h1] at hc; simp at hc
    | some o => exact (Array.getElem?_eq_some_iff.1 h1).1
  unfold World.frozen? at h ⊢
  rw [(hb _ (Nat.le_refl _)).block _ hp]
  exact h
theorem pointV_ok {x y : Int} (hx : x.natAbs ≤ 1048576) (hy : y.natAbs ≤ 1048576) : pointV x y = (enc x, enc y, true) := by
  unfold pointV okI
  rw [decide_eq_true (by omega), decide_eq_true (by omega), decide_eq_true (by omega), decide_eq_true (by omega)]; rfl
theorem quarters_neg (q : Int) (h : q.tmod 4 < 0) : wrap64 (q.tmod 4 + 4) = quarters q := by
  have h2 : -4 < q.tmod 4 := by
    have := Int.lt_tmod_of_pos q (show (0 : Int) < 4 by decide)
    omega
  unfold quarters wrap64
  generalize q.tmod 4 = r at *
  rw [Int.tmod_eq_emod_of_nonneg (by omega)]
  omega
theorem quarters_pos (q : Int) (h : 0 ≤ q.tmod 4) : q.tmod 4 = quarters q := by
  have h1 := Int.tmod_lt_of_pos q (show (0 : Int) < 4 by decide)
  unfold quarters wrap64
  generalize q.tmod 4 = r at *
  rw [Int.tmod_eq_emod_of_nonneg (by omega)]
  omega
set_option maxRecDepth 100000 in
theorem rMove_calls (a b c d : Nat) (ha : a < 2 ^ 64) (hb : b < 2 ^ 64) (hc : c < 2 ^ 64) (hd : d < 2 ^ 64) (w : World) :
    Calls Try.prog 25 #[.agg #[.int .u64 a, .int .u64 b], .agg #[.int .u64 c, .int .u64 d]] w fun e w' => e = .returned (.tuple #[.agg #[.int .u64 (moveV a b c d).1, .int .u64 (moveV a b c d).2.1], .bool (moveV a b c d).2.2]) ∧ Own w w' := by
  have Q1 := Aside0.mk (rCoords_calls a b ha hb)
  have Q2 := Aside0.mk (rCoords_calls c d hc hd)
  rw [rcoords_eq] at Q1 Q2
  obtain ⟨r, hr⟩ : ∃ r, moveV a b c d = r := ⟨_, rfl⟩
  obtain ⟨s, hs⟩ : ∃ r, coordsV a b = r := ⟨_, rfl⟩
  obtain ⟨t, ht⟩ : ∃ r, coordsV c d = r := ⟨_, rfl⟩
  have hv : r = if s.2.2 && t.2.2 then pointV (s.1 + t.1) (s.2.1 + t.2.1) else (0, 0, false) := by
    rw [← hr, ← hs, ← ht]
    exact move_coords a b c d
  have b1 := coords_abs a b ha hb
  have b2 := coords_abs c d hc hd
  rw [hs] at b1
  rw [ht] at b2
  rw [hr]
  rw [hs] at Q1
  rw [ht] at Q2
  obtain ⟨x, y, o1⟩ := s
  obtain ⟨x', y', o2⟩ := t
  clear hr hs ht ha hb hc hd
  obtain ⟨b3, b4⟩ := b1
  obtain ⟨b5, b6⟩ := b2
  obtain ⟨rx, ry, ro⟩ := r
  have HV := Aside0.mk hv
  clear hv
  go_enter Try.func25, Try.ntmps25
  go_wp2_with fail
  generalize hW : ((w.alloc (.cells #[.int .u64 a, .int .u64 b] 24)).alloc (.cells #[.int .u64 c, .int .u64 d] 24)).alloc (.cells #[.int .u64 0, .int .u64 0] 24) = W
  have ho : Own w W := hW ▸ ((Own.refl w).alloc _ |>.alloc _ |>.alloc _)
  have c0 : W.cell? ⟨w.heap.size, 0, none⟩ = some (.int .u64 a) := by rw [← hW]; clear hW; go_simp
  have c1 : W.cell? ⟨w.heap.size, 1, none⟩ = some (.int .u64 b) := by rw [← hW]; clear hW; go_simp
  have c2 : W.cell? ⟨w.heap.size + 1, 0, none⟩ = some (.int .u64 c) := by rw [← hW]; clear hW; go_simp
  have c3 : W.cell? ⟨w.heap.size + 1, 1, none⟩ = some (.int .u64 d) := by rw [← hW]; clear hW; go_simp
  have c4 : W.cell? ⟨w.heap.size + 1 + 1, 0, none⟩ = some (.int .u64 0) := by rw [← hW]; clear hW; go_simp
  have c5 : W.cell? ⟨w.heap.size + 1 + 1, 1, none⟩ = some (.int .u64 0) := by rw [← hW]; clear hW; go_simp
  have f4 : W.frozen? ⟨w.heap.size + 1 + 1, 0, none⟩ = false := by rw [← hW]; clear hW; go_simp
  have f5 : W.frozen? ⟨w.heap.size + 1 + 1, 1, none⟩ = false := by rw [← hW]; clear hW; go_simp
  have HB := Aside0.mk ho
  obtain ⟨g, hg⟩ : ∃ g, w.heap.size = g := ⟨_, rfl⟩
  have HG := Aside0.mk hg
  rw [hg] at c0 c1 c2 c3 c4 c5 f4 f5 ⊢
  clear hW ho hg
  go_wp2_with (first
    | (go_at_call 15; (first | with_reducible refine (Q1.out _).mono ?_ | with_reducible refine (Q2.out _).mono ?_); rintro e w1 ⟨rfl, hb⟩
       replace f4 := Own.frozen hb c4 f4; replace f5 := Own.frozen hb c5 f5; replace c0 := Own.cell hb c0; replace c1 := Own.cell hb c1; replace c2 := Own.cell hb c2; replace c3 := Own.cell hb c3; replace c4 := Own.cell hb c4; replace c5 := Own.cell hb c5; replace HB := Aside0.mk (HB.out.trans hb); clear hb)
    | (go_at_call 12; refine (rPoint_calls _ _ _).mono ?_; rintro e w1 ⟨rfl, hb⟩
       replace f4 := Own.frozen hb c4 f4; replace f5 := Own.frozen hb c5 f5; replace c0 := Own.cell hb c0; replace c1 := Own.cell hb c1; replace c2 := Own.cell hb c2; replace c3 := Own.cell hb c3; replace c4 := Own.cell hb c4; replace c5 := Own.cell hb c5; replace HB := Aside0.mk (HB.out.trans hb); clear hb))
  all_goals (refine bodyPost_ret (results_cell2 rfl _ _ _ _ (.agg #[.int .u64 rx, .int .u64 ry]) rfl ?_) rfl ⟨?_, ?_⟩)
  all_goals first
    | exact (HB.out.setCell (by rw [HG.out]; show g ≤ g + 1 + 1; omega) _).setCell (by rw [HG.out]; show g ≤ g + 1 + 1; omega) _
    | ((have hv := HV.out); clear HV; (try cases o1) <;> (try cases o2) <;> (try simp_all) <;> (try go_simp) <;> (try rw [← hv]) <;> (first | done | exact ⟨rfl, rfl⟩ | rfl))
    | trace_state
set_option maxRecDepth 100000 in
theorem rTurn_calls (a b : Nat) (q : Int) (ha : a < 2 ^ 64) (hb : b < 2 ^ 64) (w : World) : Calls Try.prog 27 #[.agg #[.int .u64 a, .int .u64 b], .int .i64 q] w fun e w' =>
    e = .returned (.agg #[.int .u64 (turnV a b q).1, .int .u64 (turnV a b q).2]) ∧ Own w w' := by
  have Q1 := Aside0.mk (rCoords_calls a b ha hb)
  rw [rcoords_eq] at Q1
  obtain ⟨r, hr⟩ : ∃ r, turnV a b q = r := ⟨_, rfl⟩
  obtain ⟨s, hs⟩ : ∃ r, coordsV a b = r := ⟨_, rfl⟩
  have hv : r = if s.2.2 then (enc (rot (quarters q).toNat (s.1, s.2.1)).1, enc (rot (quarters q).toNat (s.1, s.2.1)).2) else (0, 0) := by
    rw [← hr, ← hs]
    exact turn_coords a b q
  have b1 := coords_abs a b ha hb
  rw [hs] at b1
  rw [hr]
  rw [hs] at Q1
  obtain ⟨x, y, o1⟩ := s
  obtain ⟨rx, ry⟩ := r
  clear hr hs ha hb
  obtain ⟨b3, b4⟩ := b1
  obtain ⟨n, hn⟩ : ∃ n, (quarters q).toNat = n := ⟨_, rfl⟩
  have hq1 := Aside0.mk (quarters_neg q)
  have hq2 := Aside0.mk (quarters_pos q)
  have hq3 := (quarters_bounds q).2
  have hq4 := (quarters_bounds q).1
  have h5 : quarters q = (n : Int) := by omega
  rw [hn] at hv
  rw [h5] at hq1 hq2
  have hn3 : n ≤ 3 := by omega
  clear hq3 hq4 h5 hn
  have HV := Aside0.mk hv
  clear hv
  have RA := Aside0.mk (fun k => rot_abs 1048576 k (x, y) b3 b4)
  go_enter Try.func27, Try.ntmps27
  go_wp2_with fail
  generalize hW : (w.alloc (.cells #[.int .u64 a, .int .u64 b] 24)).alloc (.cells #[.int .u64 0, .int .u64 0] 24) = W
  have ho : Own w W := hW ▸ ((Own.refl w).alloc _ |>.alloc _)
  have c0 : W.cell? ⟨w.heap.size, 0, none⟩ = some (.int .u64 a) := by rw [← hW]; clear hW; go_simp
  have c1 : W.cell? ⟨w.heap.size, 1, none⟩ = some (.int .u64 b) := by rw [← hW]; clear hW; go_simp
  have c4 : W.cell? ⟨w.heap.size + 1, 0, none⟩ = some (.int .u64 0) := by rw [← hW]; clear hW; go_simp
  have c5 : W.cell? ⟨w.heap.size + 1, 1, none⟩ = some (.int .u64 0) := by rw [← hW]; clear hW; go_simp
  have f4 : W.frozen? ⟨w.heap.size + 1, 0, none⟩ = false := by rw [← hW]; clear hW; go_simp
  have f5 : W.frozen? ⟨w.heap.size + 1, 1, none⟩ = false := by rw [← hW]; clear hW; go_simp
  have HB := Aside0.mk ho
  obtain ⟨g, hg⟩ : ∃ g, w.heap.size = g := ⟨_, rfl⟩
  have HG := Aside0.mk hg
  rw [hg] at c0 c1 c4 c5 f4 f5 ⊢
  clear hW ho hg
  go_wp2_with (first
    | (go_at_call 15; refine (Q1.out _).mono ?_; rintro e w1 ⟨rfl, hb⟩
       replace f4 := Own.frozen hb c4 f4; replace f5 := Own.frozen hb c5 f5; replace c0 := Own.cell hb c0; replace c1 := Own.cell hb c1; replace c4 := Own.cell hb c4; replace c5 := Own.cell hb c5; replace HB := Aside0.mk (HB.out.trans hb); clear hb)
    | (go_at_call 12; refine (rPoint_calls _ _ _).mono ?_; rintro e w1 ⟨rfl, hb⟩
       replace f4 := Own.frozen hb c4 f4; replace f5 := Own.frozen hb c5 f5; replace c0 := Own.cell hb c0; replace c1 := Own.cell hb c1; replace c4 := Own.cell hb c4; replace c5 := Own.cell hb c5; replace HB := Aside0.mk (HB.out.trans hb); clear hb))
  · have hv := HV.out
    obtain rfl : o1 = false := by cases o1 <;> simp_all
    rw [if_neg (by simp)] at hv
    obtain ⟨rfl, rfl⟩ := Prod.mk.inj hv
    refine bodyPost_ret (results_cell1 rfl _ _ _ _ (.agg #[.int .u64 0, .int .u64 0]) rfl ?_) rfl ⟨rfl, (HB.out.setCell (by rw [HG.out]; show g ≤ g + 1; omega) _).setCell (by rw [HG.out]; show g ≤ g + 1; omega) _⟩
    clear HV hv
    go_simp
  all_goals
    have hv := HV.out
    obtain rfl : o1 = true := by cases o1 <;> simp_all
    rw [if_pos rfl] at hv
    obtain ⟨rfl, rfl⟩ := Prod.mk.inj hv
    clear hv HV
    first
      | rw [hq1.out (by assumption)]
      | rw [hq2.out (by assumption)]
    go_loop [5, 6, 9] (fun vx vy i => ∃ k : Nat, k ≤ n ∧ i = .int .i64 k ∧ vx = .int .i64 (rot k (x, y)).1 ∧ vy = .int .i64 (rot k (x, y)).2) (fun _ _ i => n - (intOf i).toNat)
    case atStart => exact ⟨0, by omega, rfl, rfl, rfl⟩
    case round =>
      obtain ⟨k, hk, rfl, rfl, rfl⟩ := hrel
      obtain ⟨r1, r2⟩ := RA.out k
      have hw1 : wrap64 (-(rot k (x, y)).2) = -(rot k (x, y)).2 := by unfold wrap64; omega
      have R1 := Aside0.mk r1
      have R2 := Aside0.mk r2
      clear r1 r2
      go_wp2_with (go_at_call 12; refine (rPoint_calls _ _ _).mono ?_; rintro e w2 ⟨rfl, hb⟩; rw [pointV_ok R1.out R2.out]
                   replace f4 := Own.frozen hb c4 f4; replace f5 := Own.frozen hb c5 f5; replace c0 := Own.cell hb c0; replace c1 := Own.cell hb c1; replace c4 := Own.cell hb c4; replace c5 := Own.cell hb c5; replace HB := Aside0.mk (HB.out.trans hb); clear hb
                   have z4 := fun o => Own.cell ((Own.refl w2).alloc o) c4; have z5 := fun o => Own.cell ((Own.refl w2).alloc o) c5; have y4 := fun o => Own.frozen ((Own.refl w2).alloc o) c4 f4; have y5 := fun o => Own.frozen ((Own.refl w2).alloc o) c5 f5)
      · exact ⟨⟨k + 1, by omega, rfl, by rw [hw1]; rfl, rfl⟩, by simp only [intOf]; omega⟩
      · obtain rfl : k = n := by omega
        refine bodyPost_ret (results_cell1 rfl _ _ _ _ (.agg #[.int .u64 (enc (rot k (x, y)).1), .int .u64 (enc (rot k (x, y)).2)]) rfl ?_) rfl ⟨rfl, ((HB.out.alloc _).setCell (by rw [HG.out]; show g ≤ g + 1; omega) _).setCell (by rw [HG.out]; show g ≤ g + 1; omega) _⟩
        go_simp
end Go.Proofs.Ytkcnfdffemddlaa.Pl
