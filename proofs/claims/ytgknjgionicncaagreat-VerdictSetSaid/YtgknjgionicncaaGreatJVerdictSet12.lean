/- Texts joined by wip/tools/merge.py: Au Av Aw Base0 LibB. -/
import Derived.Test.YtgknjgionicncaaGreatJVerdictSet11
import Derived.Test.YtgknjgionicncaaGreatJVerdictSet1
import Derived.Lib.Bytealg
import Derived.Lib.SlicesCompact
import Derived.Lib.RowBridge
import Derived.Test.YtgknjgionicncaaGreatJVerdictSet0
import Derived.Maps.OwnSet
import Derived.Maps.OwnOps
import Derived.Shelf.GgSortFunc.InsertionK
namespace Go.Proofs.YtgknjgionicncaaGreatW.PrintWords
open Go Go.RowKit Go.Proofs.YtgknjgionicncaaGreatW.PrintLast Go.Proofs.YtgknjgionicncaaGreatW.PrintMore
set_option linter.unusedVariables false
theorem zB {P : Prop} (h : P := by repeat (first | (with_reducible first | exact HB.out | apply below_alloc | apply pw_below_drewN | apply below_drew1) | exact HB.out)) : P := h
theorem zG {P Q : Prop} (g : Q) (h : Q → P := by intro GE_; repeat (first | (with_reducible first | exact HB.out | apply below_alloc | apply pw_below_drewN | apply below_drew1 | refine below_set ?_ GE_) | exact HB.out)) : P := h g
theorem zR {P Q : Prop} (p : P) (h : P → Q := by intro h_; (with_reducible repeat (first | apply Kd.R_alloc | apply Kd.R_drewN | apply Kd.R_drew)); exact h_) : Q := h p
theorem zK {P Q : Prop} (p : P) (h : P → Q := by intro h_; (with_reducible repeat (first | refine blk_drewN ?_ _ | refine blk_drew ?_ | refine blk_alloc ?_ _)); exact h_) : Q := h p
theorem zA {P : Prop} (h : P := by first | (with_reducible assumption) | assumption) : P := h
theorem zL {P : Prop} (h : P := by (try simp only [List.map_toArray, List.map_cons, List.map_nil]); first | done | rfl | (simp only [List.length_drop, List.length_take]; rfl)) : P := h
theorem zE {P : Prop} (h : P := by first | rfl | (simp; done) | (simp [*]; done)) : P := h
theorem zV {P : Prop} (h : P := by first | rfl | (simp [errW_none, errW_some] <;> rfl) | (simp [*, errW_none, errW_some] <;> rfl)) : P := h
theorem zN {P Q : Prop} (p : P) (h : P → Q := by intro h_; first | (rw [add_block]; exact h_) | (show (Addr.add _ _).block ≠ _; rw [add_block]; exact h_) | exact h_) : Q := h p
theorem zc {w W : World} {a : Addr} {v : Value} (hb : Below w.heap.size w W) (h : w.cell? a = some v) : W.cell? a = some v := (hb.cell (World.block_lt_of_cell? w _ h)).trans h
theorem zC {P Q : Prop} (p : P) (h : P → Q := by intro h_; repeat (first | (with_reducible exact h_) | (with_reducible refine Kd.C_alloc ?_ _) | (with_reducible refine Kd.C_drewN ?_ _) | (with_reducible refine Kd.C_drew ?_) | exact h_)) : Q := h p
theorem zS {P : Prop} (h : P := by simp only [Act.put, List.setIfInBounds_toArray, List.set_cons_zero, List.set_cons_succ, i64_w, i32_w]; rfl) : P := h
theorem zj {α : Type} {c : Prop} [Decidable c] {A B : Option α} {r : α} (h : (if c then A else B) = some r) (hB : ¬ B = some r := by simp) : c ∧ A = some r := by
  by_cases hc : c
  · rw [if_pos hc] at h; exact ⟨hc, h⟩
  · rw [if_neg hc] at h; exact absurd h hB
theorem zt {α : Type} {c : Prop} [Decidable c] {A B : Option α} {r : α} (h : (if c then A else B) = some r) (hB : ¬ B = some r := by simp) : decide c = true ∧ A = some r := ⟨decide_eq_true (zj h hB).1, (zj h hB).2⟩
theorem zo {α β : Type} {e y : α} {f : α → Option β} {r : Option β} (H : (some e).bind f = r) (h : y = e) : f y = r := by rw [h]; exact (Option.bind_some e f).symm.trans H
theorem zb3 {w : World} {g : Nat} {t : TypeId} {v0 v1 v2 : Value} (h : w.heap[g]? = some (.cells #[v0, v1, v2] t (0, 0))) : w.cell? ⟨g, 0, none⟩ = some v0 ∧ w.cell? ⟨g, 1, none⟩ = some v1 ∧ w.cell? ⟨g, 2, none⟩ = some v2 ∧ w.frozen? ⟨g, 0, none⟩ = false ∧ w.frozen? ⟨g, 1, none⟩ = false ∧ w.frozen? ⟨g, 2, none⟩ = false := ⟨(blk_cell h 0).trans rfl, (blk_cell h 1).trans rfl, (blk_cell h 2).trans rfl, blk_frozen h 0, blk_frozen h 1, blk_frozen h 2⟩
theorem zb5 {w : World} {g : Nat} {t : TypeId} {v0 v1 v2 v3 v4 : Value} (h : w.heap[g]? = some (.cells #[v0, v1, v2, v3, v4] t (0, 0))) : w.cell? ⟨g, 0, none⟩ = some v0 ∧ w.cell? ⟨g, 1, none⟩ = some v1 ∧ w.cell? ⟨g, 2, none⟩ = some v2 ∧ w.cell? ⟨g, 3, none⟩ = some v3 ∧ w.cell? ⟨g, 4, none⟩ = some v4 ∧ w.frozen? ⟨g, 0, none⟩ = false ∧ w.frozen? ⟨g, 1, none⟩ = false ∧ w.frozen? ⟨g, 2, none⟩ = false ∧ w.frozen? ⟨g, 3, none⟩ = false ∧ w.frozen? ⟨g, 4, none⟩ = false := ⟨(blk_cell h 0).trans rfl, (blk_cell h 1).trans rfl, (blk_cell h 2).trans rfl, (blk_cell h 3).trans rfl, (blk_cell h 4).trans rfl, blk_frozen h 0, blk_frozen h 1, blk_frozen h 2, blk_frozen h 3, blk_frozen h 4⟩
theorem zb6 {w : World} {g : Nat} {t : TypeId} {v0 v1 v2 v3 v4 v5 : Value} (h : w.heap[g]? = some (.cells #[v0, v1, v2, v3, v4, v5] t (0, 0))) : w.cell? ⟨g, 0, none⟩ = some v0 ∧ w.cell? ⟨g, 1, none⟩ = some v1 ∧ w.cell? ⟨g, 2, none⟩ = some v2 ∧ w.cell? ⟨g, 3, none⟩ = some v3 ∧ w.cell? ⟨g, 4, none⟩ = some v4 ∧ w.cell? ⟨g, 5, none⟩ = some v5 ∧ w.frozen? ⟨g, 0, none⟩ = false ∧ w.frozen? ⟨g, 1, none⟩ = false ∧ w.frozen? ⟨g, 2, none⟩ = false ∧ w.frozen? ⟨g, 3, none⟩ = false ∧ w.frozen? ⟨g, 4, none⟩ = false ∧ w.frozen? ⟨g, 5, none⟩ = false := ⟨(blk_cell h 0).trans rfl, (blk_cell h 1).trans rfl, (blk_cell h 2).trans rfl, (blk_cell h 3).trans rfl, (blk_cell h 4).trans rfl, (blk_cell h 5).trans rfl, blk_frozen h 0, blk_frozen h 1, blk_frozen h 2, blk_frozen h 3, blk_frozen h 4, blk_frozen h 5⟩
theorem zb8 {w : World} {g : Nat} {t : TypeId} {v0 v1 v2 v3 v4 v5 v6 v7 : Value} (h : w.heap[g]? = some (.cells #[v0, v1, v2, v3, v4, v5, v6, v7] t (0, 0))) : w.cell? ⟨g, 0, none⟩ = some v0 ∧ w.cell? ⟨g, 1, none⟩ = some v1 ∧ w.cell? ⟨g, 2, none⟩ = some v2 ∧ w.cell? ⟨g, 3, none⟩ = some v3 ∧ w.cell? ⟨g, 4, none⟩ = some v4 ∧ w.cell? ⟨g, 5, none⟩ = some v5 ∧ w.cell? ⟨g, 6, none⟩ = some v6 ∧ w.cell? ⟨g, 7, none⟩ = some v7 ∧ w.frozen? ⟨g, 0, none⟩ = false ∧ w.frozen? ⟨g, 1, none⟩ = false ∧ w.frozen? ⟨g, 2, none⟩ = false ∧ w.frozen? ⟨g, 3, none⟩ = false ∧ w.frozen? ⟨g, 4, none⟩ = false ∧ w.frozen? ⟨g, 5, none⟩ = false ∧ w.frozen? ⟨g, 6, none⟩ = false ∧ w.frozen? ⟨g, 7, none⟩ = false := ⟨(blk_cell h 0).trans rfl, (blk_cell h 1).trans rfl, (blk_cell h 2).trans rfl, (blk_cell h 3).trans rfl, (blk_cell h 4).trans rfl, (blk_cell h 5).trans rfl, (blk_cell h 6).trans rfl, (blk_cell h 7).trans rfl, blk_frozen h 0, blk_frozen h 1, blk_frozen h 2, blk_frozen h 3, blk_frozen h 4, blk_frozen h 5, blk_frozen h 6, blk_frozen h 7⟩
theorem zc3 {w W : World} {a0 a1 a2 : Addr} {v0 v1 v2 : Value} (hb : Below w.heap.size w W) (h : w.cell? a0 = some v0 ∧ w.cell? a1 = some v1 ∧ w.cell? a2 = some v2) : W.cell? a0 = some v0 ∧ W.cell? a1 = some v1 ∧ W.cell? a2 = some v2 := ⟨zc hb h.1, zc hb h.2.1, zc hb h.2.2⟩
theorem zc8 {w W : World} {a0 a1 a2 a3 a4 a5 a6 a7 : Addr} {v0 v1 v2 v3 v4 v5 v6 v7 : Value} (hb : Below w.heap.size w W) (h : w.cell? a0 = some v0 ∧ w.cell? a1 = some v1 ∧ w.cell? a2 = some v2 ∧ w.cell? a3 = some v3 ∧ w.cell? a4 = some v4 ∧ w.cell? a5 = some v5 ∧ w.cell? a6 = some v6 ∧ w.cell? a7 = some v7) : W.cell? a0 = some v0 ∧ W.cell? a1 = some v1 ∧ W.cell? a2 = some v2 ∧ W.cell? a3 = some v3 ∧ W.cell? a4 = some v4 ∧ W.cell? a5 = some v5 ∧ W.cell? a6 = some v6 ∧ W.cell? a7 = some v7 := ⟨zc hb h.1, zc hb h.2.1, zc hb h.2.2.1, zc hb h.2.2.2.1, zc hb h.2.2.2.2.1, zc hb h.2.2.2.2.2.1, zc hb h.2.2.2.2.2.2.1, zc hb h.2.2.2.2.2.2.2⟩
theorem zbox {P : Program} {ops : Array Oper} {Q : Exit → Act → World → Prop} {rest : List Oper} {a : Act} {W : World} {o : Oper} {N : Tmp} {cs : Array Value} {t : TypeId}
    (h : ∀ g, g = W.heap.size → ∀ w1, w1.heap[g]? = some (.cells cs t (0, 0)) → Below W.heap.size W w1 → wpList P ops Q rest (a.put o.dst (.pointer (some ⟨g, 0, none⟩))) w1)
    (hgd : o.guard = none := by rfl) (hd : o.dst = some N := by rfl) (hrun : (execOp a.eval o).run P W = .ok (.value (.pointer (some ⟨W.heap.size, 0, none⟩))) (W.alloc (.cells cs t (0, 0))) := by first | (go_simp; done) | (go_simp; rfl)) : wpList P ops Q (o :: rest) a W :=
  box_event hgd hd hrun h
theorem zM {P : Prop} (h : P := by repeat' first | (with_reducible apply ih0) | (with_reducible apply ih1) | (with_reducible apply ih2) | (with_reducible apply ih3) | (with_reducible apply ih4) | (with_reducible apply ih5) | (with_reducible apply ih6) | (with_reducible apply ih7) | (with_reducible apply m0) | (with_reducible apply m1) | (with_reducible apply m2) | (with_reducible apply m3) | (with_reducible apply m4) | (with_reducible apply m5) | (with_reducible apply m6) | (with_reducible apply m7) | (with_reducible apply m8) | (with_reducible apply m9) | (with_reducible apply m10) | (with_reducible apply m11) | (with_reducible apply m12) | (with_reducible apply m13) | (with_reducible exact LeO.refl _) | (with_reducible exact LeO.none _) | (with_reducible refine LeO.ite ?_ ?_) | (with_reducible refine LeO.bind ?_ (fun _ => ?_)) | apply ih0 | apply ih1 | apply ih2 | apply ih3 | apply ih4 | apply ih5 | apply ih6 | apply ih7 | apply m0 | apply m1 | apply m2 | apply m3 | apply m4 | apply m5 | apply m6 | apply m7 | apply m8 | apply m9 | apply m10 | apply m11 | apply m12 | apply m13 | exact LeO.none _ | refine LeO.ite ?_ ?_ | refine LeO.bind ?_ (fun _ => ?_)) : P := h
theorem zp {P : Program} {ops : Array Oper} {Q : Exit → Act → World → Prop} {md : Region.Mode} {S : World → Prop} {ds : List Nat} {oi : Oper} {fuel : Nat} {l l' : Array Bool} {a : Act} {w : World} (i : Nat) (N : Option Tmp) {v : Value} {a' : Act} (h : wpAnyLast P md ops Q S ds fuel l' a' w) (hi : ops[i]? = some oi := by exact rfl) (hN : oi.dst = N := by exact rfl) (hl : l.setIfInBounds i true = l' := by simp only [List.setIfInBounds_toArray, List.set_cons_zero, List.set_cons_succ]; rfl) (hc : anyB md ops l l' i = true := by first | exact any_of HT_.out (by kernel_rfl) | kernel_rfl) (hQ : ∀ c a w, Q (.panic c) (a.put oi.dst v) w → Q (.panic c) a w := by exact fun _ _ _ h => h) (hy : Yields P ops oi v a := by refine Or.inl ⟨by rfl, ?_⟩; intro w'; go_simp; with_reducible rfl) (ha : a.put N v = a' := by exact zS) : wpAnyLast P md ops Q S ds (fuel + 1) l a w := pure_ l' hi hN hc hQ hy ha h
theorem zq {P : Program} {ops : Array Oper} {Q : Exit → Act → World → Prop} {md : Region.Mode} {S : World → Prop} {ds : List Nat} {oi : Oper} {fuel : Nat} {l l' : Array Bool} {a : Act} {w : World} (i : Nat) (N : Option Tmp) {v : Value} {a' : Act} (h : wpAnyLast P md ops Q S ds fuel l' a' w) (hv : v = undef := by exact rfl) (hi : ops[i]? = some oi := by exact rfl) (hN : oi.dst = N := by exact rfl) (hl : l.setIfInBounds i true = l' := by simp only [List.setIfInBounds_toArray, List.set_cons_zero, List.set_cons_succ]; rfl) (hc : anyB md ops l l' i = true := by first | exact any_of HT_.out (by kernel_rfl) | kernel_rfl) (hQ : ∀ c a w, Q (.panic c) (a.put oi.dst v) w → Q (.panic c) a w := by exact fun _ _ _ h => h) (hy : Yields P ops oi v a := by exact Or.inr ⟨by rfl, rfl⟩) (ha : a.put N v = a' := by exact zS) : wpAnyLast P md ops Q S ds (fuel + 1) l a w := pure_ l' hi hN hc hQ hy ha h
theorem zt2 {P : Program} {ops : Array Oper} {Q : Exit → Act → World → Prop} {md : Region.Mode} {S : World → Prop} {ds : List Nat} {oi : Oper} {fuel : Nat} {l l' : Array Bool} {a : Act} {w : World} (i : Nat) (N : Option Tmp) {v : Value} {a' : Act} (h : wpAnyLast P md ops Q S ds fuel l' a' w) (hi : ops[i]? = some oi := by exact rfl) (hN : oi.dst = N := by exact rfl) (hl : l.setIfInBounds i true = l' := by simp only [List.setIfInBounds_toArray, List.set_cons_zero, List.set_cons_succ]; rfl) (hc : takeB md ops ds l l' i = true := by first | exact take_ofW HT_.out HW_.out (by kernel_rfl) | exact take_of HT_.out (by kernel_rfl) | kernel_rfl) (hQ : ∀ c a w, Q (.panic c) (a.put oi.dst v) w → Q (.panic c) a w := by exact fun _ _ _ h => h) (hy : YieldsIf P ops S oi v a := by refine Or.inl ⟨by rfl, ?_⟩; rintro w' ⟨s0, s1⟩; go_simp; with_reducible rfl) (hS : S w := by exact hHeld) (ha : a.put N v = a' := by exact zS) : wpAnyLast P md ops Q S ds (fuel + 1) l a w := take_ l' hi hN hc hQ hy hS ha h
theorem zt5 {P : Program} {ops : Array Oper} {Q : Exit → Act → World → Prop} {md : Region.Mode} {S : World → Prop} {ds : List Nat} {oi : Oper} {fuel : Nat} {l l' : Array Bool} {a : Act} {w : World} (i : Nat) (N : Option Tmp) {v : Value} {a' : Act} (h : wpAnyLast P md ops Q S ds fuel l' a' w) (hi : ops[i]? = some oi := by exact rfl) (hN : oi.dst = N := by exact rfl) (hl : l.setIfInBounds i true = l' := by simp only [List.setIfInBounds_toArray, List.set_cons_zero, List.set_cons_succ]; rfl) (hc : takeB md ops ds l l' i = true := by first | exact take_ofW HT_.out HW_.out (by kernel_rfl) | exact take_of HT_.out (by kernel_rfl) | kernel_rfl) (hQ : ∀ c a w, Q (.panic c) (a.put oi.dst v) w → Q (.panic c) a w := by exact fun _ _ _ h => h) (hy : YieldsIf P ops S oi v a := by refine Or.inl ⟨by rfl, ?_⟩; rintro w' ⟨s0, s1, s2, s3, s4⟩; go_simp; with_reducible rfl) (hS : S w := by exact hHeld) (ha : a.put N v = a' := by exact zS) : wpAnyLast P md ops Q S ds (fuel + 1) l a w := take_ l' hi hN hc hQ hy hS ha h
theorem zt6 {P : Program} {ops : Array Oper} {Q : Exit → Act → World → Prop} {md : Region.Mode} {S : World → Prop} {ds : List Nat} {oi : Oper} {fuel : Nat} {l l' : Array Bool} {a : Act} {w : World} (i : Nat) (N : Option Tmp) {v : Value} {a' : Act} (h : wpAnyLast P md ops Q S ds fuel l' a' w) (hi : ops[i]? = some oi := by exact rfl) (hN : oi.dst = N := by exact rfl) (hl : l.setIfInBounds i true = l' := by simp only [List.setIfInBounds_toArray, List.set_cons_zero, List.set_cons_succ]; rfl) (hc : takeB md ops ds l l' i = true := by first | exact take_ofW HT_.out HW_.out (by kernel_rfl) | exact take_of HT_.out (by kernel_rfl) | kernel_rfl) (hQ : ∀ c a w, Q (.panic c) (a.put oi.dst v) w → Q (.panic c) a w := by exact fun _ _ _ h => h) (hy : YieldsIf P ops S oi v a := by refine Or.inl ⟨by rfl, ?_⟩; rintro w' ⟨s0, s1, s2, s3, s4, s5⟩; go_simp; with_reducible rfl) (hS : S w := by exact hHeld) (ha : a.put N v = a' := by exact zS) : wpAnyLast P md ops Q S ds (fuel + 1) l a w := take_ l' hi hN hc hQ hy hS ha h
theorem zt8 {P : Program} {ops : Array Oper} {Q : Exit → Act → World → Prop} {md : Region.Mode} {S : World → Prop} {ds : List Nat} {oi : Oper} {fuel : Nat} {l l' : Array Bool} {a : Act} {w : World} (i : Nat) (N : Option Tmp) {v : Value} {a' : Act} (h : wpAnyLast P md ops Q S ds fuel l' a' w) (hi : ops[i]? = some oi := by exact rfl) (hN : oi.dst = N := by exact rfl) (hl : l.setIfInBounds i true = l' := by simp only [List.setIfInBounds_toArray, List.set_cons_zero, List.set_cons_succ]; rfl) (hc : takeB md ops ds l l' i = true := by first | exact take_ofW HT_.out HW_.out (by kernel_rfl) | exact take_of HT_.out (by kernel_rfl) | kernel_rfl) (hQ : ∀ c a w, Q (.panic c) (a.put oi.dst v) w → Q (.panic c) a w := by exact fun _ _ _ h => h) (hy : YieldsIf P ops S oi v a := by refine Or.inl ⟨by rfl, ?_⟩; rintro w' ⟨s0, s1, s2, s3, s4, s5, s6, s7⟩; go_simp; with_reducible rfl) (hS : S w := by exact hHeld) (ha : a.put N v = a' := by exact zS) : wpAnyLast P md ops Q S ds (fuel + 1) l a w := take_ l' hi hN hc hQ hy hS ha h
theorem zt11 {P : Program} {ops : Array Oper} {Q : Exit → Act → World → Prop} {md : Region.Mode} {S : World → Prop} {ds : List Nat} {oi : Oper} {fuel : Nat} {l l' : Array Bool} {a : Act} {w : World} (i : Nat) (N : Option Tmp) {v : Value} {a' : Act} (h : wpAnyLast P md ops Q S ds fuel l' a' w) (hi : ops[i]? = some oi := by exact rfl) (hN : oi.dst = N := by exact rfl) (hl : l.setIfInBounds i true = l' := by simp only [List.setIfInBounds_toArray, List.set_cons_zero, List.set_cons_succ]; rfl) (hc : takeB md ops ds l l' i = true := by first | exact take_ofW HT_.out HW_.out (by kernel_rfl) | exact take_of HT_.out (by kernel_rfl) | kernel_rfl) (hQ : ∀ c a w, Q (.panic c) (a.put oi.dst v) w → Q (.panic c) a w := by exact fun _ _ _ h => h) (hy : YieldsIf P ops S oi v a := by refine Or.inl ⟨by rfl, ?_⟩; rintro w' ⟨s0, s1, s2, s3, s4, s5, s6, s7, s8, s9, s10⟩; go_simp; with_reducible rfl) (hS : S w := by exact hHeld) (ha : a.put N v = a' := by exact zS) : wpAnyLast P md ops Q S ds (fuel + 1) l a w := take_ l' hi hN hc hQ hy hS ha h
theorem zt12 {P : Program} {ops : Array Oper} {Q : Exit → Act → World → Prop} {md : Region.Mode} {S : World → Prop} {ds : List Nat} {oi : Oper} {fuel : Nat} {l l' : Array Bool} {a : Act} {w : World} (i : Nat) (N : Option Tmp) {v : Value} {a' : Act} (h : wpAnyLast P md ops Q S ds fuel l' a' w) (hi : ops[i]? = some oi := by exact rfl) (hN : oi.dst = N := by exact rfl) (hl : l.setIfInBounds i true = l' := by simp only [List.setIfInBounds_toArray, List.set_cons_zero, List.set_cons_succ]; rfl) (hc : takeB md ops ds l l' i = true := by first | exact take_ofW HT_.out HW_.out (by kernel_rfl) | exact take_of HT_.out (by kernel_rfl) | kernel_rfl) (hQ : ∀ c a w, Q (.panic c) (a.put oi.dst v) w → Q (.panic c) a w := by exact fun _ _ _ h => h) (hy : YieldsIf P ops S oi v a := by refine Or.inl ⟨by rfl, ?_⟩; rintro w' ⟨s0, s1, s2, s3, s4, s5, s6, s7, s8, s9, s10, s11⟩; go_simp; with_reducible rfl) (hS : S w := by exact hHeld) (ha : a.put N v = a' := by exact zS) : wpAnyLast P md ops Q S ds (fuel + 1) l a w := take_ l' hi hN hc hQ hy hS ha h
theorem zt16 {P : Program} {ops : Array Oper} {Q : Exit → Act → World → Prop} {md : Region.Mode} {S : World → Prop} {ds : List Nat} {oi : Oper} {fuel : Nat} {l l' : Array Bool} {a : Act} {w : World} (i : Nat) (N : Option Tmp) {v : Value} {a' : Act} (h : wpAnyLast P md ops Q S ds fuel l' a' w) (hi : ops[i]? = some oi := by exact rfl) (hN : oi.dst = N := by exact rfl) (hl : l.setIfInBounds i true = l' := by simp only [List.setIfInBounds_toArray, List.set_cons_zero, List.set_cons_succ]; rfl) (hc : takeB md ops ds l l' i = true := by first | exact take_ofW HT_.out HW_.out (by kernel_rfl) | exact take_of HT_.out (by kernel_rfl) | kernel_rfl) (hQ : ∀ c a w, Q (.panic c) (a.put oi.dst v) w → Q (.panic c) a w := by exact fun _ _ _ h => h) (hy : YieldsIf P ops S oi v a := by refine Or.inl ⟨by rfl, ?_⟩; rintro w' ⟨s0, s1, s2, s3, s4, s5, s6, s7, s8, s9, s10, s11, s12, s13, s14, s15⟩; go_simp; with_reducible rfl) (hS : S w := by exact hHeld) (ha : a.put N v = a' := by exact zS) : wpAnyLast P md ops Q S ds (fuel + 1) l a w := take_ l' hi hN hc hQ hy hS ha h
theorem zt20 {P : Program} {ops : Array Oper} {Q : Exit → Act → World → Prop} {md : Region.Mode} {S : World → Prop} {ds : List Nat} {oi : Oper} {fuel : Nat} {l l' : Array Bool} {a : Act} {w : World} (i : Nat) (N : Option Tmp) {v : Value} {a' : Act} (h : wpAnyLast P md ops Q S ds fuel l' a' w) (hi : ops[i]? = some oi := by exact rfl) (hN : oi.dst = N := by exact rfl) (hl : l.setIfInBounds i true = l' := by simp only [List.setIfInBounds_toArray, List.set_cons_zero, List.set_cons_succ]; rfl) (hc : takeB md ops ds l l' i = true := by first | exact take_ofW HT_.out HW_.out (by kernel_rfl) | exact take_of HT_.out (by kernel_rfl) | kernel_rfl) (hQ : ∀ c a w, Q (.panic c) (a.put oi.dst v) w → Q (.panic c) a w := by exact fun _ _ _ h => h) (hy : YieldsIf P ops S oi v a := by refine Or.inl ⟨by rfl, ?_⟩; rintro w' ⟨s0, s1, s2, s3, s4, s5, s6, s7, s8, s9, s10, s11, s12, s13, s14, s15, s16, s17, s18, s19⟩; go_simp; with_reducible rfl) (hS : S w := by exact hHeld) (ha : a.put N v = a' := by exact zS) : wpAnyLast P md ops Q S ds (fuel + 1) l a w := take_ l' hi hN hc hQ hy hS ha h
theorem z1 {P : Program} {ops : Array Oper} {Q : Exit → Act → World → Prop} {md : Region.Mode} {S : World → Prop} {ds : List Nat} {oi : Oper} {fuel : Nat} {l l' : Array Bool} {a : Act} {w : World} (i : Nat) (N : Option Tmp) (h : ∀ K : Act → World → Prop, Shut (∀ a' w', S w' → (S w' → wpAnyLast P md ops Q S ds fuel l' a' w') → K a' w') → if Region.wanted oi (yielded ops a.tmps) = true then Oper.wp P oi a w K Q else K (a.put N undef) w) (hi : ops[i]? = some oi := by exact rfl) (hN : oi.dst = N := by exact rfl) (hl : l.setIfInBounds i true = l' := by simp only [List.setIfInBounds_toArray, List.set_cons_zero, List.set_cons_succ]; rfl) (hc : readyB md ops l l' i = true := by first | exact one_of HT_.out (by kernel_rfl) | kernel_rfl) (hd : i ∉ ds := by decide) : wpAnyLast P md ops Q S ds (fuel + 1) l a w := one_ l' hi hN hc hd h
theorem z9 {P : Program} {ops : Array Oper} {Q : Exit → Act → World → Prop} {md : Region.Mode} {S : World → Prop} {ds : List Nat} {oi : Oper} {fuel : Nat} {l l' : Array Bool} {a : Act} {w : World} (i : Nat) (N : Option Tmp) (h : ∀ K : Act → World → Prop, Shut (∀ a' w', wpAnyLast P md ops Q S ds fuel l' a' w' → K a' w') → if Region.wanted oi (yielded ops a.tmps) = true then Oper.wp P oi a w K Q else K (a.put N undef) w) (hi : ops[i]? = some oi := by exact rfl) (hN : oi.dst = N := by exact rfl) (hl : l.setIfInBounds i true = l' := by simp only [List.setIfInBounds_toArray, List.set_cons_zero, List.set_cons_succ]; rfl) (hc : readyB md ops l l' i = true := by first | exact one_of HT_.out (by kernel_rfl) | kernel_rfl) (hd : i ∈ ds := by decide) : wpAnyLast P md ops Q S ds (fuel + 1) l a w := last_ l' hi hN hc hd h
theorem zNil {P : Prop} (h : P := by first | exact Kd.R_nil _ _ _ _ _ | exact Kd.N_nil _ _ _ _ _ | exact Kd.V_nil _ _ _ _ _ | exact Kd.Q_nil _ _ _ _ _ | exact Kd.S_nil _ _ _ _ _) : P := h
theorem zG2 {P Q0 Q1 : Prop} (g0 : Q0) (g1 : Q1) (h : Q0 → Q1 → P := by intro G0_ G1_; repeat (first | (with_reducible first | exact HB.out | apply below_alloc | apply pw_below_drewN | apply below_drew1 | refine below_set ?_ G0_ | refine below_set ?_ G1_) | exact HB.out)) : P := h g0 g1
theorem zG3 {P Q0 Q1 Q2 : Prop} (g0 : Q0) (g1 : Q1) (g2 : Q2) (h : Q0 → Q1 → Q2 → P := by intro G0_ G1_ G2_; repeat (first | (with_reducible first | exact HB.out | apply below_alloc | apply pw_below_drewN | apply below_drew1 | refine below_set ?_ G0_ | refine below_set ?_ G1_ | refine below_set ?_ G2_) | exact HB.out)) : P := h g0 g1 g2
theorem zH0 {P : Prop} (h : P := by repeat (first | (with_reducible first | exact HK.out | apply Kept.alloc | apply Kept.drewN | apply Kept.drew) | exact HK.out)) : P := h
theorem zH1 {P Q0 : Prop} (g0 : Q0) (h : Q0 → P := by intro G0_; repeat (first | (with_reducible first | exact HK.out | apply Kept.alloc | apply Kept.drewN | apply Kept.drew | refine Kept.setCell ?_ (.inr G0_) _) | exact HK.out)) : P := h g0
theorem zH2 {P Q0 Q1 : Prop} (g0 : Q0) (g1 : Q1) (h : Q0 → Q1 → P := by intro G0_ G1_; repeat (first | (with_reducible first | exact HK.out | apply Kept.alloc | apply Kept.drewN | apply Kept.drew | refine Kept.setCell ?_ (.inr G0_) _ | refine Kept.setCell ?_ (.inr G1_) _) | exact HK.out)) : P := h g0 g1
theorem zH3 {P Q0 Q1 Q2 : Prop} (g0 : Q0) (g1 : Q1) (g2 : Q2) (h : Q0 → Q1 → Q2 → P := by intro G0_ G1_ G2_; repeat (first | (with_reducible first | exact HK.out | apply Kept.alloc | apply Kept.drewN | apply Kept.drew | refine Kept.setCell ?_ (.inr G0_) _ | refine Kept.setCell ?_ (.inr G1_) _ | refine Kept.setCell ?_ (.inr G2_) _) | exact HK.out)) : P := h g0 g1 g2
theorem zR1 {P Q : Prop} (p : P) (h : P → Q := by intro h_; (with_reducible repeat (first | apply Kd.R_alloc | apply Kd.R_drewN | apply Kd.R_drew)); exact Kd.R_mono h_ (fun _ hk => hk.1)) : Q := h p
theorem zRV {P Q : Prop} (p : P) (h : P → Q := by intro h_; (with_reducible repeat (first | apply Kd.V_alloc | apply Kd.V_drewN | apply Kd.V_drew)); exact h_) : Q := h p
theorem zRN {P Q : Prop} (p : P) (h : P → Q := by intro h_; (with_reducible repeat (first | apply Kd.N_alloc | apply Kd.N_drewN | apply Kd.N_drew)); exact h_) : Q := h p
def Wrote (g : Nat) (t : TypeId) (w0 : World) (cs0 : Array Value) (W : World) (cs : Array Value) : Prop := w0.heap[g]? = some (.cells cs0 t (0, 0)) → W.heap[g]? = some (.cells cs t (0, 0))
section
variable {g : Nat} {t : TypeId} {w0 W : World} {cs0 cs : Array Value}
theorem Wrote.same : Wrote g t w0 cs0 w0 cs0 := id
theorem Wrote.drewN {n : Nat} (h : Wrote g t w0 cs0 W cs) : Wrote g t w0 cs0 (W.drewN n) cs := fun p => blk_drewN (h p) n
theorem Wrote.drew (h : Wrote g t w0 cs0 W cs) : Wrote g t w0 cs0 W.drew cs := fun p => blk_drew (h p)
theorem Wrote.alloc {o : Obj} (h : Wrote g t w0 cs0 W cs) : Wrote g t w0 cs0 (W.alloc o) cs := fun p => blk_alloc (h p) o
theorem Wrote.put {i : Nat} {u : Value} (h : Wrote g t w0 cs0 W cs) : Wrote g t w0 cs0 (W.setCell ⟨g, i, none⟩ u) (cs.setIfInBounds i u) := fun p => blk_put (h p) i u rfl
theorem zP {cs' : Array Value} (p : w0.heap[g]? = some (.cells cs0 t (0, 0))) (h : Wrote g t w0 cs0 W cs := by repeat (first | (with_reducible exact Wrote.same) | (with_reducible apply Wrote.drewN) | (with_reducible apply Wrote.drew) | (with_reducible apply Wrote.alloc) | apply Wrote.put | exact Wrote.same)) (e : cs = cs' := by first | (simp only [List.setIfInBounds_toArray, List.set_cons_zero, List.set_cons_succ]; done) | rfl) : W.heap[g]? = some (.cells cs' t (0, 0)) := e ▸ h p
end
def Away (g : Nat) (w0 W : World) : Prop := w0.heap.size ≤ W.heap.size ∧ ∀ i, i ≠ g → i < w0.heap.size → W.heap[i]? = w0.heap[i]?
section
variable {g : Nat} {w0 W : World}
theorem Away.same : Away g w0 w0 := ⟨Nat.le_refl _, fun _ _ _ => rfl⟩
theorem Away.drewN {n : Nat} (h : Away g w0 W) : Away g w0 (W.drewN n) := h
theorem Away.drew (h : Away g w0 W) : Away g w0 W.drew := h
theorem Away.alloc {o : Obj} (h : Away g w0 W) : Away g w0 (W.alloc o) :=
  ⟨Nat.le_trans h.1 (by simp), fun i hi hl => (Below.heap_alloc W o i (Nat.lt_of_lt_of_le hl h.1)).trans (h.2 i hi hl)⟩
theorem Away.put {i : Nat} {u : Value} (h : Away g w0 W) : Away g w0 (W.setCell ⟨g, i, none⟩ u) :=
  ⟨Nat.le_trans h.1 (by simp [World.setCell]), fun j hj hl => (Below.heap_setCell W ⟨g, i, none⟩ u j hj).trans (h.2 j hj hl)⟩
theorem zF {g' : Nat} {o : Obj} (n : g' ≠ g) (p : w0.heap[g']? = some o) (h : Away g w0 W := by repeat (first | (with_reducible exact Away.same) | (with_reducible apply Away.drewN) | (with_reducible apply Away.drew) | (with_reducible apply Away.alloc) | refine Away.put ?_ | exact Away.same)) : W.heap[g']? = some o := (h.2 g' n (blk_lt p)).trans p
theorem zW {α : Type} {d : Kd α} {e : TypeId} {base : Nat} {ok : Nat → Prop} {v : Value} {xs : List α} {t : TypeId} {cells : Array Value} (p : d.R e w0 base ok v xs) (b : w0.heap[g]? = some (.cells cells t (0, 0))) (ht : ∀ q, q ∈ e :: d.E → q ≠ t := by decide)
    (h : Away g w0 W := by repeat (first | (with_reducible exact Away.same) | (with_reducible apply Away.drewN) | (with_reducible apply Away.drew) | (with_reducible apply Away.alloc) | refine Away.put ?_ | exact Away.same)) : d.R e W base ok v xs :=
  Kd.R_mono (Kd.R_step (Kd.R_types p b ht) (fun k ho hl => h.2 k ho.2 hl)) (fun _ h => h.1)
end
end Go.Proofs.YtgknjgionicncaaGreatW.PrintWords
namespace Go.Proofs.YtgknjgionicncaaGreat.L
set_option linter.unusedVariables false
def cmpI (a b : Int) : Int := if a < b then -1 else if a > b then 1 else 0
def cmpB (a b : ByteArray) : Int := Go.Lib.compareBytes a.data.toList b.data.toList
def firstNZ : List Int → Int
 | [] => 0
 | x :: l => if x = 0 then firstNZ l else x
structure IsCmp {α : Type} (c : α → α → Int) : Prop where
 rng : ∀ a b, -1 ≤ c a b ∧ c a b ≤ 1
 anti : ∀ a b, c b a = - c a b
 zero : ∀ a b, c a b = 0 ↔ a = b
 trans : ∀ a b d, c a b ≤ 0 → c b d ≤ 0 → c a d ≤ 0
theorem cmpI_is : IsCmp cmpI := by
 refine ⟨fun a b => ?_, fun a b => ?_, fun a b => ?_, fun a b d => ?_⟩ <;> unfold cmpI <;> (repeat' split) <;> omega
theorem cmpL_rng : ∀ a b : List UInt8, -1 ≤ Go.Lib.compareBytes a b ∧ Go.Lib.compareBytes a b ≤ 1
 | [], [] => by simp [Go.Lib.compareBytes]
 | [], _ :: _ => by simp [Go.Lib.compareBytes]
 | _ :: _, [] => by simp [Go.Lib.compareBytes]
 | x :: a, y :: b => by
  have := cmpL_rng a b
  simp only [Go.Lib.compareBytes]; (repeat' split) <;> omega
theorem cmpL_anti : ∀ a b : List UInt8, Go.Lib.compareBytes b a = - Go.Lib.compareBytes a b
 | [], [] => by simp [Go.Lib.compareBytes]
 | [], _ :: _ => by simp [Go.Lib.compareBytes]
 | _ :: _, [] => by simp [Go.Lib.compareBytes]
 | x :: a, y :: b => by
  have ih := cmpL_anti a b
  simp only [Go.Lib.compareBytes, UInt8.lt_iff_toNat_lt]; (repeat' split) <;> omega
theorem cmpL_zero : ∀ a b : List UInt8, Go.Lib.compareBytes a b = 0 ↔ a = b
 | [], [] => by simp [Go.Lib.compareBytes]
 | [], _ :: _ => by simp [Go.Lib.compareBytes]
 | _ :: _, [] => by simp [Go.Lib.compareBytes]
 | x :: a, y :: b => by
  have ih := cmpL_zero a b
  simp only [Go.Lib.compareBytes, UInt8.lt_iff_toNat_lt, List.cons.injEq, ← UInt8.toNat_inj, ← ih]; (repeat' split) <;> omega
theorem cmpL_trans : ∀ a b d : List UInt8, Go.Lib.compareBytes a b ≤ 0 → Go.Lib.compareBytes b d ≤ 0 → Go.Lib.compareBytes a d ≤ 0
 | [], _, [] => by simp [Go.Lib.compareBytes]
 | [], _, _ :: _ => by simp [Go.Lib.compareBytes]
 | _ :: _, [], _ => by simp [Go.Lib.compareBytes]
 | _ :: _, _ :: _, [] => by simp [Go.Lib.compareBytes]
 | x :: a, y :: b, z :: d => by
  have ih := cmpL_trans a b d
  simp only [Go.Lib.compareBytes, UInt8.lt_iff_toNat_lt]; (repeat' split) <;> omega
theorem cmpB_is : IsCmp cmpB := by
 refine ⟨fun a b => cmpL_rng _ _, fun a b => cmpL_anti _ _, fun a b => ?_, fun a b d => cmpL_trans _ _ _⟩
 unfold cmpB
 rw [cmpL_zero]
 constructor
 ·intro h; cases a; cases b; simp_all
 ·rintro rfl; rfl
def lexC {α β : Type} (c : α → α → Int) (d : β → β → Int) (x y : α × β) : Int := if c x.1 y.1 = 0 then d x.2 y.2 else c x.1 y.1
theorem lexC_is {α β : Type} {c : α → α → Int} {d : β → β → Int} (hc : IsCmp c) (hd : IsCmp d) : IsCmp (lexC c d) := by
 refine ⟨fun a b => ?_, fun a b => ?_, fun a b => ?_, fun a b e => ?_⟩
 ·unfold lexC; have := hc.rng a.1 b.1; have := hd.rng a.2 b.2; split <;> omega
 ·unfold lexC; have h1 := hc.anti a.1 b.1; have h2 := hd.anti a.2 b.2; (repeat' split) <;> omega
 ·unfold lexC
  have h1 := hc.zero a.1 b.1
  have h2 := hd.zero a.2 b.2
  rw [Prod.ext_iff, ← h1, ← h2]
  split <;> omega
 ·unfold lexC
  intro h1 h2
  have t1 := hc.trans a.1 b.1 e.1
  have t2 := hc.trans e.1 b.1 a.1
  have n1 := hc.anti a.1 b.1
  have n2 := hc.anti b.1 e.1
  have n3 := hc.anti a.1 e.1
  by_cases e1 : c a.1 b.1 = 0
  ·have q1 := (hc.zero a.1 b.1).1 e1
   by_cases e2 : c b.1 e.1 = 0
   ·have q2 := (hc.zero b.1 e.1).1 e2
    rw [if_pos e1] at h1
    rw [if_pos e2] at h2
    rw [if_pos ((hc.zero a.1 e.1).2 (q1.trans q2))]
    exact hd.trans _ _ _ h1 h2
   ·rw [if_neg e2] at h2
    rw [q1, if_neg e2]
    exact h2
  ·rw [if_neg e1] at h1
   by_cases e2 : c b.1 e.1 = 0
   ·have q2 := (hc.zero b.1 e.1).1 e2
    rw [← q2, if_neg e1]
    exact h1
   ·rw [if_neg e2] at h2
    have h3 := t1 h1 h2
    by_cases e3 : c a.1 e.1 = 0
    ·exfalso
     have q3 := (hc.zero a.1 e.1).1 e3
     rw [q3] at n1 h1 e1
     omega
    ·rw [if_neg e3]; exact h3
theorem IsCmp.pull {α β : Type} {c : α → α → Int} (hc : IsCmp c) (f : β → α) (hf : ∀ x y, f x = f y → x = y) : IsCmp (fun x y => c (f x) (f y)) :=
 ⟨fun a b => hc.rng _ _, fun a b => hc.anti _ _, fun a b => (hc.zero _ _).trans ⟨hf a b, fun h => by rw [h]⟩, fun a b d => hc.trans _ _ _⟩
section
variable {α : Type} {c : α → α → Int} {id : α → Int} {ok : α → Bool}
structure Counts (c : α → α → Int) (id : α → Int) (ok : α → Bool) (l out : List α) : Prop where
 ids : out.Pairwise fun x y => id x ≠ id y
 mem : ∀ x ∈ out, x ∈ l ∧ ok x = true
 best : ∀ y ∈ l, ok y = true → ∃ x ∈ out, id x = id y ∧ c x y ≤ 0
theorem Counts.inj {l out : List α} (h : Counts c id ok l out) {x y : α} (hx : x ∈ out) (hy : y ∈ out) (e : id x = id y) : x = y := by
 obtain ⟨i, hi, rfl⟩ := List.getElem_of_mem hx
 obtain ⟨j, hj, rfl⟩ := List.getElem_of_mem hy
 have hp := List.pairwise_iff_getElem.1 h.ids
 rcases Nat.lt_trichotomy i j with h1 | h1 | h1
 ·exact absurd e (hp i j hi hj h1)
 ·subst h1; rfl
 ·exact absurd e.symm (hp j i hj hi h1)
theorem Counts.mem_iff (hc : IsCmp c) {l out : List α} (h : Counts c id ok l out) (x : α) : x ∈ out ↔ x ∈ l ∧ ok x = true ∧ ∀ y ∈ l, ok y = true → id y = id x → c x y ≤ 0 := by
 constructor
 ·intro hx
  refine ⟨(h.mem x hx).1, (h.mem x hx).2, fun y hy ho e => ?_⟩
  obtain ⟨x', hx', e', hcc⟩ := h.best y hy ho
  obtain rfl := h.inj hx' hx (e'.trans e)
  exact hcc
 ·rintro ⟨hx, ho, hb⟩
  obtain ⟨x', hx', e', hcc⟩ := h.best x hx ho
  have h1 := h.mem x' hx'
  have h2 := hb x' h1.1 h1.2 e'
  have := hc.anti x x'
  obtain rfl := (hc.zero x x').1 (by omega)
  exact hx'
theorem Counts.nodup {l out : List α} (h : Counts c id ok l out) : out.Nodup := h.ids.imp (fun hne e => hne (by rw [e]))
theorem Counts.one (hc : IsCmp c) {l l' a b : List α} (ha : Counts c id ok l a) (hb : Counts c id ok l' b) (sa : a.Pairwise fun x y => c x y ≤ 0) (sb : b.Pairwise fun x y => c x y ≤ 0) (hl : ∀ x, x ∈ l ↔ x ∈ l') : a = b := by
 refine List.Perm.eq_of_pairwise (le := fun x y => c x y ≤ 0) (fun x y _ _ h1 h2 => (hc.zero x y).1 (by have := hc.anti x y; omega)) sa sb ?_
 refine (List.perm_ext_iff_of_nodup ha.nodup hb.nodup).2 fun x => ?_
 rw [ha.mem_iff hc, hb.mem_iff hc]
 simp only [hl]
theorem Counts.perm {l a b : List α} (h : Counts c id ok l a) (hp : a.Perm b) : Counts c id ok l b :=
 ⟨(hp.pairwise_iff (fun h => Ne.symm h)).1 h.ids, fun x hx => h.mem x (hp.mem_iff.2 hx), fun y hy ho => by
  obtain ⟨x, hx, h2⟩ := h.best y hy ho
  exact ⟨x, hp.mem_iff.1 hx, h2⟩⟩
def stepD (c : α → α → Int) (id : α → Int) (ok : α → Bool) (m : List α) (s : α) : List α :=
 if ok s = true then (match m.findIdx? (fun x => decide (id x = id s)) with | none => m ++ [s] | some j => if c s (m.getD j s) < 0 then m.set j s else m) else m
theorem Counts.step (hc : IsCmp c) {p m : List α} (h : Counts c id ok p m) (s : α) : Counts c id ok (p ++ [s]) (stepD c id ok m s) := by
 have old : ∀ x ∈ m, x ∈ p ++ [s] ∧ ok x = true := fun x hx => ⟨List.mem_append_left _ (h.mem x hx).1, (h.mem x hx).2⟩
 have hss : c s s = 0 := (hc.zero s s).2 rfl
 unfold stepD
 by_cases ho : ok s = true
 ·rw [if_pos ho]
  cases hf : m.findIdx? (fun x => decide (id x = id s)) with
  | none =>
   have hn := List.findIdx?_eq_none_iff.1 hf
   refine ⟨?_, ?_, ?_⟩
   ·rw [List.pairwise_append]
    refine ⟨h.ids, List.pairwise_singleton _ _, fun x hx y hy => ?_⟩
    obtain rfl := List.mem_singleton.1 hy
    simpa using hn x hx
   ·intro x hx
    rcases List.mem_append.1 hx with hx | hx
    ·exact old x hx
    ·obtain rfl := List.mem_singleton.1 hx
     exact ⟨by simp, ho⟩
   ·intro y hy hoy
    rcases List.mem_append.1 hy with hy | hy
    ·obtain ⟨x, hx, h2⟩ := h.best y hy hoy
     exact ⟨x, List.mem_append_left _ hx, h2⟩
    ·obtain rfl := List.mem_singleton.1 hy
     exact ⟨y, by simp, rfl, by omega⟩
  | some j =>
   obtain ⟨hj, hid, _⟩ := List.findIdx?_eq_some_iff_getElem.1 hf
   have hid' : id m[j] = id s := by simpa using hid
   have hg : m.getD j s = m[j] := by simp [List.getD, hj]
   have hp := List.pairwise_iff_getElem.1 h.ids
   simp only [hg]
   by_cases hlt : c s m[j] < 0
   ·rw [if_pos hlt]
    refine ⟨?_, ?_, ?_⟩
    ·rw [List.pairwise_iff_getElem]
     intro a b ha hb hab
     rw [List.length_set] at ha hb
     rw [List.getElem_set, List.getElem_set]
     split
     ·rw [if_neg (by omega), ← hid']
      rename_i e; subst e
      exact hp j b ha hb hab
     ·split
      ·rw [← hid']
       rename_i e; subst e
       exact hp a j ha hb hab
      ·exact hp a b ha hb hab
    ·intro x hx
     rcases List.mem_or_eq_of_mem_set hx with hx | rfl
     ·exact old x hx
     ·exact ⟨by simp, ho⟩
    ·have hs : s ∈ m.set j s := List.mem_set hj s
     intro y hy hoy
     rcases List.mem_append.1 hy with hy | hy
     ·obtain ⟨x, hx, e, hcc⟩ := h.best y hy hoy
      obtain ⟨i, hi, rfl⟩ := List.getElem_of_mem hx
      by_cases hij : j = i
      ·subst hij
       exact ⟨s, hs, by rw [← hid', e], hc.trans _ _ _ (by omega) hcc⟩
      ·refine ⟨m[i], ?_, e, hcc⟩
       have : (m.set j s)[i]'(by simpa using hi) = m[i] := by rw [List.getElem_set, if_neg hij]
       rw [← this]
       exact List.getElem_mem _
     ·obtain rfl := List.mem_singleton.1 hy
      exact ⟨y, hs, rfl, by omega⟩
   ·rw [if_neg hlt]
    refine ⟨h.ids, old, fun y hy hoy => ?_⟩
    rcases List.mem_append.1 hy with hy | hy
    ·exact h.best y hy hoy
    ·obtain rfl := List.mem_singleton.1 hy
     have := hc.anti y m[j]
     exact ⟨m[j], List.getElem_mem _, hid', by omega⟩
 ·rw [if_neg ho]
  refine ⟨h.ids, old, fun y hy hoy => ?_⟩
  rcases List.mem_append.1 hy with hy | hy
  ·exact h.best y hy hoy
  ·obtain rfl := List.mem_singleton.1 hy
   exact absurd hoy ho
theorem counts_nil : Counts c id ok ([] : List α) [] := ⟨List.Pairwise.nil, by simp, by simp⟩
theorem stepD_counts (hc : IsCmp c) : ∀ (l p m : List α), Counts c id ok p m → Counts c id ok (p ++ l) (l.foldl (stepD c id ok) m)
 | [], p, m, h => by simpa using h
 | s :: l, p, m, h => by
  have := stepD_counts hc l (p ++ [s]) _ (h.step hc s)
  simpa using this
theorem stepD_length (m : List α) (s : α) : m.length ≤ (stepD c id ok m s).length ∧ (stepD c id ok m s).length ≤ m.length + 1 := by
 unfold stepD
 split
 ·split
  ·simp
  ·split <;> simp
 ·simp
theorem foldD_length : ∀ (l m : List α), (l.foldl (stepD c id ok) m).length ≤ m.length + l.length
 | [], m => by simp
 | s :: l, m => by
  have h1 := foldD_length l (stepD c id ok m s)
  have h2 := (stepD_length (c := c) (id := id) (ok := ok) m s).2
  simp only [List.foldl_cons, List.length_cons]
  omega
theorem Counts.from {l l' out : List α} (h : Counts c id ok l out) (hl : ∀ x, ok x = true → (x ∈ l ↔ x ∈ l')) : Counts c id ok l' out :=
 ⟨h.ids, fun x hx => ⟨(hl x (h.mem x hx).2).1 (h.mem x hx).1, (h.mem x hx).2⟩, fun y hy ho => h.best y ((hl y ho).2 hy) ho⟩
end
end Go.Proofs.YtgknjgionicncaaGreat.L
namespace Go.Proofs.YtgknjgionicncaaGreat.L
set_option linter.unusedVariables false
section
variable {α : Type} {c : α → α → Int}
def Rise (c : α → α → Int) (l : List α) : Prop := l.Pairwise fun x y => c x y < 0
theorem Rise.nodup (hc : IsCmp c) {l : List α} (h : Rise c l) : l.Nodup := h.imp (fun {x y} h e => by subst e; have := (hc.zero x x).2 rfl; omega)
theorem Rise.one (hc : IsCmp c) {a b : List α} (ha : Rise c a) (hb : Rise c b) (hm : ∀ x, x ∈ a ↔ x ∈ b) : a = b := by
 refine List.Perm.eq_of_pairwise (le := fun x y => c x y ≤ 0) (fun x y _ _ h1 h2 => (hc.zero x y).1 (by have := hc.anti x y; omega)) (ha.imp (fun h => by omega)) (hb.imp (fun h => by omega)) ?_
 exact (List.perm_ext_iff_of_nodup (ha.nodup hc) (hb.nodup hc)).2 hm
theorem compactUpTo_rise [Inhabited α] [DecidableEq α] (hc : IsCmp c) (d : Array α) (hs : ∀ i j, i < j → j < d.size → c d[i]! d[j]! ≤ 0) : ∀ m, m ≤ d.size → Rise c (Go.Lib.compactUpTo d m) ∧ ∀ x, x ∈ Go.Lib.compactUpTo d m ↔ ∃ j, j < m ∧ d[j]! = x
 | 0, _ => ⟨by simp [Go.Lib.compactUpTo, Rise], fun x => by simp [Go.Lib.compactUpTo]⟩
 | m + 1, hm => by
  obtain ⟨h1, h2⟩ := compactUpTo_rise hc d hs m (by omega)
  rw [Go.Lib.compactUpTo_succ]
  by_cases hk : Go.Lib.keeps d m = true
  ·rw [if_pos hk]
   refine ⟨?_, fun x => ?_⟩
   ·unfold Rise
    rw [List.pairwise_append]
    refine ⟨h1, List.pairwise_singleton _ _, fun x hx y hy => ?_⟩
    obtain rfl := List.mem_singleton.1 hy
    obtain ⟨j, hj, rfl⟩ := (h2 x).1 hx
    have h3 := hs j m hj (by omega)
    rcases Int.lt_or_eq_of_le h3 with h4 | h4
    ·exact h4
    ·exfalso
     have h5 := (hc.zero _ _).1 h4
     have h6 : m ≠ 0 := by omega
     have h7 : d[m]! ≠ d[m - 1]! := by simpa [Go.Lib.keeps, h6] using hk
     apply h7
     by_cases e : j = m - 1
     ·rw [← h5, e]
     ·have h8 := hs j (m - 1) (by omega) (by omega)
      have h9 := hs (m - 1) m (by omega) (by omega)
      rw [h5] at h8
      have := hc.anti d[m]! d[m - 1]!
      exact (hc.zero _ _).1 (by omega)
   ·rw [List.mem_append, h2, List.mem_singleton]
    constructor
    ·rintro (⟨j, hj, rfl⟩ | rfl)
     ·exact ⟨j, by omega, rfl⟩
     ·exact ⟨m, by omega, rfl⟩
    ·rintro ⟨j, hj, rfl⟩
     by_cases e : j = m
     ·subst e; exact .inr rfl
     ·exact .inl ⟨j, by omega, rfl⟩
  ·rw [if_neg hk, List.append_nil]
   refine ⟨h1, fun x => ?_⟩
   rw [h2]
   constructor
   ·rintro ⟨j, hj, rfl⟩; exact ⟨j, by omega, rfl⟩
   ·rintro ⟨j, hj, rfl⟩
    by_cases e : j = m
    ·subst e
     have h6 : j ≠ 0 ∧ d[j]! = d[j - 1]! := by
      simp only [Go.Lib.keeps, decide_eq_true_eq, not_or, ne_eq] at hk
      exact ⟨hk.1, Decidable.not_not.1 hk.2⟩
     exact ⟨j - 1, by omega, h6.2.symm⟩
    ·exact ⟨j, by omega, rfl⟩
theorem compact_rise [Inhabited α] [DecidableEq α] (hc : IsCmp c) (l : List α) (hs : l.Pairwise fun x y => c x y ≤ 0) : Rise c (Go.Lib.compact l) ∧ ∀ x, x ∈ Go.Lib.compact l ↔ x ∈ l := by
 have hg : ∀ j (h : j < l.length), l.toArray[j]! = l[j] := fun j h => by rw [getElem!_pos l.toArray j (by simpa using h)]; simp
 obtain ⟨h1, h2⟩ := compactUpTo_rise hc l.toArray (fun i j hij hj => by
  have hj' : j < l.length := by simpa using hj
  rw [hg i (by omega), hg j hj']
  exact List.pairwise_iff_getElem.1 hs i j (by omega) hj' hij) l.length (by simp)
 refine ⟨h1, fun x => (h2 x).trans ⟨?_, fun hx => ?_⟩⟩
 ·rintro ⟨j, hj, rfl⟩; rw [hg j hj]; exact List.getElem_mem _
 ·obtain ⟨j, hj, rfl⟩ := List.getElem_of_mem hx
  exact ⟨j, hj, hg j hj⟩
def posG (c : α → α → Int) (l : List α) (s : α) : Nat → Nat
 | 0 => 0
 | j + 1 => if c (l.getD j s) s > 0 then posG c l s j else j + 1
theorem posG_le (l : List α) (s : α) : ∀ j, posG c l s j ≤ j
 | 0 => Nat.le_refl _
 | j + 1 => by
  unfold posG
  split
  ·exact Nat.le_succ_of_le (posG_le l s j)
  ·exact Nat.le_refl _
theorem posG_above (l : List α) (s : α) : ∀ j i, posG c l s j ≤ i → i < j → c (l.getD i s) s > 0
 | 0, i, _, h => by omega
 | j + 1, i, h1, h2 => by
  unfold posG at h1
  split at h1
  ·rename_i hc
   by_cases e : i = j
   ·subst e; exact hc
   ·exact posG_above l s j i h1 (by omega)
  ·omega
theorem posG_below (l : List α) (s : α) : ∀ j, 0 < posG c l s j → c (l.getD (posG c l s j - 1) s) s ≤ 0
 | 0, h => by simp [posG] at h
 | j + 1, h => by
  unfold posG at h ⊢
  split
  ·rename_i hc; rw [if_pos hc] at h; exact posG_below l s j h
  ·rename_i hc; simp only [Nat.add_sub_cancel]; omega
def insH [DecidableEq α] (c : α → α → Int) (l : List α) (s : α) : List α := if s ∈ l then l else l.take (posG c l s l.length) ++ s :: l.drop (posG c l s l.length)
theorem insH_mem [DecidableEq α] (l : List α) (s x : α) : x ∈ insH c l s ↔ x ∈ l ∨ x = s := by
 unfold insH
 split
 ·constructor
  ·exact .inl
  ·rintro (h | rfl) <;> assumption
 ·have h := (List.perm_middle (a := s) (l₁ := l.take (posG c l s l.length)) (l₂ := l.drop (posG c l s l.length))).mem_iff (a := x)
  rw [h, List.mem_cons, List.take_append_drop]
  exact or_comm
theorem insH_length [DecidableEq α] (l : List α) (s : α) : (insH c l s).length ≤ l.length + 1 := by
 have := posG_le (c := c) l s l.length
 unfold insH
 split
 ·omega
 ·simp; omega
theorem insH_rise [DecidableEq α] (hc : IsCmp c) {l : List α} (s : α) (h : Rise c l) : Rise c (insH c l s) := by
 unfold insH
 split
 ·exact h
 ·rename_i hn
  have hp := posG_le (c := c) l s l.length
  have ha := posG_above (c := c) l s l.length
  have hb := posG_below (c := c) l s l.length
  generalize posG c l s l.length = p at *
  have hs : ∀ i j (hi : i < l.length) (hj : j < l.length), i < j → c l[i] l[j] < 0 := fun i j hi hj hij => List.pairwise_iff_getElem.1 h i j hi hj hij
  have tr : ∀ x y z, c x y ≤ 0 → c y z < 0 → c x z < 0 := fun x y z h1 h2 => by
   have h3 := hc.trans x y z h1 (by omega)
   rcases Int.lt_or_eq_of_le h3 with h4 | h4
   ·exact h4
   ·obtain rfl := (hc.zero _ _).1 h4
    have := hc.anti x y
    omega
  have h1 : ∀ x ∈ l.take p, c x s < 0 := by
   intro x hx
   obtain ⟨i, hi, rfl⟩ := List.getElem_of_mem hx
   have hip : i < p ∧ i < l.length := by simp at hi; omega
   have h2 : c l[p - 1] s < 0 := by
    have := hb (by omega)
    rw [List.getD, List.getElem?_eq_getElem (by omega)] at this
    simp only [Option.getD_some] at this
    rcases Int.lt_or_eq_of_le this with h4 | h4
    ·exact h4
    ·exact absurd ((hc.zero _ _).1 h4 ▸ List.getElem_mem _) hn
   rw [List.getElem_take]
   by_cases e : i = p - 1
   ·subst e; exact h2
   ·exact tr _ _ _ (by have := hs i (p - 1) hip.2 (by omega) (by omega); omega) h2
  have h2 : ∀ y ∈ l.drop p, c s y < 0 := by
   intro y hy
   obtain ⟨i, hi, rfl⟩ := List.getElem_of_mem hy
   have hil : p + i < l.length := by simp at hi; omega
   rw [List.getElem_drop]
   have := ha (p + i) (by omega) hil
   rw [List.getD, List.getElem?_eq_getElem hil] at this
   have an := hc.anti l[p + i] s
   simp only [Option.getD_some] at this
   omega
  unfold Rise
  rw [List.pairwise_append]
  refine ⟨h.sublist (List.take_sublist _ _), ?_, ?_⟩
  ·rw [List.pairwise_cons]
   exact ⟨h2, h.sublist (List.drop_sublist _ _)⟩
  ·intro x hx y hy
   rcases List.mem_cons.1 hy with rfl | hy
   ·exact h1 x hx
   ·exact tr _ _ _ (by have := h1 x hx; omega) (h2 y hy)
theorem foldH [DecidableEq α] (hc : IsCmp c) : ∀ (l a : List α), Rise c a → Rise c (l.foldl (insH c) a) ∧ (∀ x, x ∈ l.foldl (insH c) a ↔ x ∈ a ∨ x ∈ l) ∧ (l.foldl (insH c) a).length ≤ a.length + l.length
 | [], a, h => ⟨h, by simp, by simp⟩
 | s :: l, a, h => by
  obtain ⟨h1, h2, h3⟩ := foldH hc l (insH c a s) (insH_rise hc s h)
  refine ⟨h1, fun x => ?_, ?_⟩
  ·rw [List.foldl_cons, h2, insH_mem, List.mem_cons, or_assoc]
  ·rw [List.foldl_cons]
   have := insH_length (c := c) a s
   simp only [List.length_cons]
   omega
end
theorem cmpL_lt : ∀ a b : List UInt8, Go.Lib.compareBytes a b < 0 ↔ a < b
 | [], [] => by simp [Go.Lib.compareBytes]
 | [], _ :: _ => by simp [Go.Lib.compareBytes]
 | _ :: _, [] => by simp [Go.Lib.compareBytes]
 | x :: a, y :: b => by
  have ih := cmpL_lt a b
  rw [List.cons_lt_cons_iff, ← ih]
  simp only [Go.Lib.compareBytes, UInt8.lt_iff_toNat_lt, ← UInt8.toNat_inj]
  (repeat' split) <;> omega
theorem cmpL_le (a b : List UInt8) : Go.Lib.compareBytes a b ≤ 0 ↔ a ≤ b := by
 have h := cmpL_lt b a
 have h2 := cmpL_anti a b
 have h3 : a ≤ b ↔ ¬ b < a := Iff.rfl
 rw [h3, ← h]
 omega
theorem cmpL_is : IsCmp Go.Lib.compareBytes := ⟨cmpL_rng, cmpL_anti, cmpL_zero, cmpL_trans⟩
def hostsL (l : List (List UInt8)) : List (List UInt8) := Go.Lib.compact (l.mergeSort fun x y => decide (x ≤ y))
theorem hostsL_rise (l : List (List UInt8)) : Rise Go.Lib.compareBytes (hostsL l) ∧ ∀ x, x ∈ hostsL l ↔ x ∈ l := by
 have hs : (l.mergeSort fun x y => decide (x ≤ y)).Pairwise fun x y => Go.Lib.compareBytes x y ≤ 0 := by
  have h := List.pairwise_mergeSort (le := fun x y : List UInt8 => decide (x ≤ y)) (fun a b c h1 h2 => by
   simp only [decide_eq_true_eq, ← cmpL_le] at *
   exact cmpL_trans _ _ _ h1 h2) (fun a b => by
   simp only [Bool.or_eq_true, decide_eq_true_eq, ← cmpL_le]
   have := cmpL_anti a b
   omega) l
  exact h.imp (fun h => by simpa [cmpL_le] using h)
 obtain ⟨h1, h2⟩ := compact_rise cmpL_is _ hs
 exact ⟨h1, fun x => (h2 x).trans (List.mergeSort_perm l _).mem_iff⟩
theorem hostsL_length (l : List (List UInt8)) : (hostsL l).length ≤ l.length := by
 refine Nat.le_trans (Go.Lib.compact_length_le _) ?_
 rw [List.length_mergeSort]; exact Nat.le_refl _
end Go.Proofs.YtgknjgionicncaaGreat.L
namespace Go.Proofs.YtgknjgionicncaaGreatW.Lib
open Go.RowKit Go.Proofs.YtgknjgionicncaaGreatW.PrintWords
set_option linter.unusedVariables false
theorem Ev.ite {α : Type} {c : Prop} [Decidable c] {A B : Nat → Option α} {r : α} (h1 : c → Ev A r) (h2 : ¬ c → Ev B r) : Ev (fun k => if c then A k else B k) r := by
 by_cases h : c
 ·simpa only [if_pos h] using h1 h
 ·simpa only [if_neg h] using h2 h
theorem Ev.pos {α : Type} {c : Prop} [Decidable c] {A B : Nat → Option α} {r : α} (h : c) (h1 : Ev A r) : Ev (fun k => if c then A k else B k) r := Ev.ite (fun _ => h1) (fun h' => absurd h h')
theorem Ev.neg {α : Type} {c : Prop} [Decidable c] {A B : Nat → Option α} {r : α} (h : ¬ c) (h1 : Ev B r) : Ev (fun k => if c then A k else B k) r := Ev.ite (fun h' => absurd h' h) (fun _ => h1)
theorem Ev.const {α : Type} {g : Option α} {r : α} (h : g = some r) : Ev (fun _ => g) r := ⟨0, fun _ _ => h⟩
theorem Ev.cast {α : Type} {g : Nat → Option α} {r r' : α} (h : Ev g r) (e : r = r') : Ev g r' := e ▸ h
theorem Ev.succ {α : Type} {g : Nat → Option α} {r : α} (h : Ev (fun k => g (k + 1)) r) : Ev g r := Ev.step (fun _ => rfl) h
theorem bytesOf_size (s : ByteArray) : (bytesOf s).length = s.size := by simp [bytesOf]
theorem bytesOf_get (s : ByteArray) (i : Nat) (h : i < s.size) : (bytesOf s)[i]'(by rw [bytesOf_size]; exact h) = bt s i := by
 rw [← bt_at s i (by simpa using h)]
 simp [bytesOf, ByteArray.getElem_eq_getElem_data]
theorem bytesOf_drop (s : ByteArray) (i : Nat) (h : i < s.size) : (bytesOf s).drop i = bt s i :: (bytesOf s).drop (i + 1) := by
 rw [← bytesOf_get s i h, ← List.drop_eq_getElem_cons]
theorem toList_data (s : ByteArray) : s.toList = s.data.toList := by
 exact ByteArray.toList_eq s
theorem toList_inj {s t : ByteArray} : (s.toList == t.toList) = decide (s = t) := by
 rw [Bool.eq_iff_iff]
 simp only [beq_iff_eq, decide_eq_true_eq]
 constructor
 ·intro h
  rw [toList_data, toList_data] at h
  cases s; cases t
  simp_all
 ·rintro rfl; rfl
theorem wrap_id {i : Int} (h0 : -9223372036854775808 ≤ i) (h1 : i < 9223372036854775808) : wrap64 i = i := by
 unfold wrap64; omega
theorem wf_i64 {x : Int} (h : (Lit.int .i64 x).wf = true) : -9223372036854775808 ≤ x ∧ x < 9223372036854775808 := by
 simp [Lit.wf, IntKind.min, IntKind.max, IntKind.signed, IntKind.bits] at h; omega
theorem wf_u8 {x : Int} (h : (Lit.int .u8 x).wf = true) : 0 ≤ x ∧ x < 256 := by
 simp [Lit.wf, IntKind.min, IntKind.max, IntKind.signed, IntKind.bits] at h; omega
end Go.Proofs.YtgknjgionicncaaGreatW.Lib
namespace Go.Proofs.YtgknjgionicncaaGreatW.MapB
open Go.RowKit Go.Proofs.YtgknjgionicncaaGreatW.PrintWords
set_option linter.unusedVariables false
section
variable {H : Type} {P : Program} {k e : TypeId} {R : Value → Option (DataW H × List MemPlace)} {w w1 : World} {b n B : Nat} {D : DataW H}
theorem map_below (h : w.ownsMap P k R b n D) (hb : Below w.heap.size w w1) : w1.ownsMap P k R b n D := by
 have hlt := h.lt
 obtain ⟨es, clock, hh, r⟩ := h
 exact ⟨es, clock, (hb.block b hlt).trans hh, r⟩
theorem map_ne_row (h : w.ownsMap P k R b n D) {base : Nat} {t : TypeId} {size m : Nat} {v : Value} {xs : List Value} (ho : w.ownsRow base t size v m xs) : some b ≠ v.ownBlock := by
 intro he
 obtain ⟨es, clock, hh, _⟩ := h
 obtain ⟨cells, hc⟩ := own_typed ho b he.symm
 rw [hh] at hc
 cases hc
theorem map_kept {α : Type} {d : Kd α} {t : Nat} {base : Nat} {ok : Nat → Prop} {v : Value} {xs : List α} (h : w.ownsMap P k R b n D) (hr : d.R t w base ok v xs) (hg : w.grownBy w1 v.ownBlock) : w1.ownsMap P k R b n D := by
 obtain ⟨_, inner, ho, _⟩ := hr
 exact h.kept hg (map_ne_row h ho)
theorem row_kept {α : Type} {d : Kd α} {t : Nat} {base : Nat} {v : Value} {xs : List α} (hm : w.ownsMap P k R b n D) (hr : d.R t w base (fun _ => True) v xs) (hg : w.grownBy w1 (some b)) : d.R t w1 base (fun _ => True) v xs := by
 obtain ⟨es, clock, hh, _⟩ := hm
 refine Kd.R_mono (Kd.R_move (Kd.R_bound hr) (fun i hi => hg.block i hi.2.2.1 (fun e => ?_))) (fun _ _ => trivial)
 obtain ⟨_, _, _, q, _, cells, hc⟩ := hi
 obtain rfl : i = b := Option.some.inj e
 rw [hh] at hc
 cases hc
theorem below_map (hB : Below B w w1) {w2 : World} (hg : w1.grownBy w2 (some b)) (hb : B ≤ b) (hs : B ≤ w1.heap.size) : Below B w w2 :=
 hB.grown hg hs (fun j hj => by cases hj; exact hb)
end
section
open Go.Maps
variable {H : Type} {P : Program} (w : World) {ops : Array Oper} {rest : List Oper} {o : Oper} {a : Act} {Q : Exit → Act → World → Prop}
theorem lookup_ok_known (hg : o.guard = none) (m x : Operand) (t : TypeId) (hop : o.op = Op.lookup t m x true) (k e : TypeId) (q : IntKind) (K : Keyed P k) (ht : P.underlying t = some (.map k e)) (he : P.underlying e = some (.int q)) (hz : (zeroValue e).run P w = .ok (.int q 0) w)
  (b n : Nat) (D : DataW H) (hm : a.eval m = .map (some b)) (hown : w.ownsMap P k (plainElem P e) b n D) (key : Value) (kl : Lit) (hx : a.eval x = key) (hkey : keyOf P k key = some kl) (c : Int) (hc : D.atKey kl (.lit (.int q 0)) = .lit (.int q c)) (there : Bool) (hh : Maps.has D kl = there)
  (hK : wpList P ops Q rest (a.put o.dst (.tuple #[.int q c, .bool there])) w) : wpList P ops Q (o :: rest) a w :=
 wpList_lookup_own_ok_int w hg m x t hop k e q K ht he hz b n D hm hown key kl hx hkey (fun c' hat _ => by
  obtain rfl : c = c' := by
   have h := hc.symm.trans hat
   injection h with h; injection h
  rw [hh]
  exact hK)
end
section
open Go.Maps
variable {α : Type} {key : α → Lit} {d : α}
def mapN (key : α → Lit) (d : α) (l : List α) : Nat → DataW Unit
 | 0 => .map []
 | k + 1 => (mapN key d l k).put (key (l.getD k d)) (.lit (.int .i64 k))
theorem mapN_tidy (hk : ∀ x, WideAt.IsKeyLit (key x)) (l : List α) : ∀ k, Tidy (mapN key d l k)
 | 0 => tidy_empty
 | k + 1 => (mapN_tidy hk l k).put (hk _) _
theorem mapN_has (hk : ∀ x, WideAt.IsKeyLit (key x)) (hi : ∀ x y, key x = key y → x = y) (l : List α) (s : α) : ∀ k, k ≤ l.length → (has (mapN key d l k) (key s) = true ↔ s ∈ l.take k)
 | 0, _ => by simp [mapN, has]
 | k + 1, hk1 => by
  have hl : l.getD k d = l[k] := by simp [List.getD, show k < l.length by omega]
  rw [mapN, hl, List.take_succ_eq_append_getElem (show k < l.length by omega), List.mem_append, List.mem_singleton]
  by_cases e : s = l[k]
  ·rw [← e, has_put_same (mapN_tidy hk l k).isMap (hk _)]
   simp
  ·rw [has_put_other (fun h => e (hi _ _ h)), mapN_has hk hi l s k (by omega)]
   exact ⟨.inl, fun h => h.elim _root_.id (fun h => absurd h e)⟩
theorem mapN_at (hk : ∀ x, WideAt.IsKeyLit (key x)) (hi : ∀ x y, key x = key y → x = y) {l : List α} (nd : l.Nodup) (z : DataW Unit) (j : Nat) (hj : j < l.length) : ∀ k, j < k → k ≤ l.length → (mapN key d l k).atKey (key l[j]) z = .lit (.int .i64 j)
 | 0, h, _ => by omega
 | k + 1, h, hk1 => by
  have hl : l.getD k d = l[k] := by simp [List.getD, show k < l.length by omega]
  rw [mapN, hl]
  by_cases e : j = k
  ·subst e
   exact atKey_put_same (mapN_tidy hk l j).isMap (hk _) _ _
  ·rw [atKey_put_other (fun h2 => ?_)]
   ·exact mapN_at hk hi nd z j hj k (by omega) (by omega)
   ·exact absurd (hi _ _ h2) (List.pairwise_iff_getElem.1 nd j k hj (by omega) (by omega))
theorem mapN_none (hk : ∀ x, WideAt.IsKeyLit (key x)) (hi : ∀ x y, key x = key y → x = y) {l : List α} {s : α} (h : s ∉ l) (z : DataW Unit) : (mapN key d l l.length).atKey (key s) z = z ∧ has (mapN key d l l.length) (key s) = false := by
 have h1 : has (mapN key d l l.length) (key s) = false := by
  rw [Bool.eq_false_iff]
  intro h2
  have := (mapN_has hk hi l s l.length (Nat.le_refl _)).1 h2
  rw [List.take_length] at this
  exact h this
 exact ⟨atKey_of_not_has h1 z, h1⟩
theorem mapN_stable (l r : List α) : ∀ k, k ≤ l.length → mapN key d (l ++ r) k = mapN key d l k
 | 0, _ => rfl
 | k + 1, hk => by
  rw [mapN, mapN, mapN_stable l r k (by omega)]
  congr 2
  simp [List.getD, List.getElem?_append_left (show k < l.length by omega)]
theorem mapN_snoc (l : List α) (x : α) : mapN key d (l ++ [x]) (l ++ [x]).length = (mapN key d l l.length).put (key x) (.lit (.int .i64 l.length)) := by
 rw [List.length_append, List.length_singleton, mapN, mapN_stable l [x] _ (Nat.le_refl _)]
 congr 2
 simp [List.getD]
end
end Go.Proofs.YtgknjgionicncaaGreatW.MapB
namespace Go.Proofs.YtgknjgionicncaaGreatW.RowB
open Go.RowKit Go.Proofs.YtgknjgionicncaaGreatW.PrintWords Go.Sort
set_option linter.unusedVariables false
variable {α : Type} [Inhabited α]
theorem cell_block {w : World} {g : Nat} {cur : Array Value} {e : TypeId} {fr : Nat × Nat} (h : w.heap[g]? = some (.cells cur e fr)) (i : Nat) : w.cell? ⟨g, i, none⟩ = cur[i]? := by simp [World.cell?, h]
theorem frozen_block {w : World} {g : Nat} {cur : Array Value} {e : TypeId} (h : w.heap[g]? = some (.cells cur e (0, 0))) (i : Nat) : w.frozen? ⟨g, i, none⟩ = false := by simp [World.frozen?, h]
theorem holdsK_of {enc : α → List Value} {k : Nat} (hk : ∀ x, (enc x).length = k) {w : World} {g : Nat} {cur : Array Value} {e : TypeId} {l : List α} {xs : List Value}
  (hh : w.heap[g]? = some (.cells cur e (0, 0))) (hx : cur.toList.take (l.length * k) = xs) (hr : Reps (fun x c => c = enc x) k l xs) : HoldsK enc k w g 0 l.toArray := by
 intro j hj
 have hj' : j < l.length * k := by simpa using hj
 have hk0 : 0 < k := by
  rcases Nat.eq_zero_or_pos k with h | h
  ·subst h; simp at hj'
  ·exact h
 refine ⟨?_, by rw [Nat.zero_add]; exact frozen_block hh j⟩
 rw [Nat.zero_add, cell_block hh, get_flatK _ _ _ _ (by simpa using hj')]
 have hq : j / k < l.length := Nat.div_lt_of_lt_mul (by rw [Nat.mul_comm]; exact hj')
 have hm : j % k < k := Nat.mod_lt _ hk0
 have h1 := hr.2 (j / k) l[j / k] (List.getElem?_eq_getElem hq)
 have h2 : xs[j]? = (enc l[j / k])[j % k]? := by
  rw [← h1, List.getElem?_take, if_pos hm, List.getElem?_drop, Nat.mul_comm, Nat.div_add_mod]
 rw [← hx, List.getElem?_take, if_pos hj'] at h2
 have h3 : cur[j]? = (enc l[j / k])[j % k]? := by rw [← h2]; simp
 rw [h3]
 have h4 : l.toArray[j / k]! = l[j / k] := by rw [getElem!_pos l.toArray (j / k) (by simpa using hq)]; simp
 rw [h4, List.getElem?_eq_getElem (by rw [hk]; exact hm), getElem!_pos _ _ (by rw [hk]; exact hm)]
 rfl
theorem putCells_size (d : Array Value) (c : Array Value) : (putCells id 0 d c).size = c.size := by simp [putCells]
theorem putCells_get (d : Array Value) (c : Array Value) (j : Nat) (hj : j < c.size) (hd : j < d.size) : (putCells id 0 d c)[j]? = some d[j]! := by
 simp [putCells, hj, hd]
theorem heap_sortWorld {enc : α → List Value} {k n : Nat} {w : World} {g : Nat} {d : Array α} {os : Array Obj} (i : Nat) (hi : i < w.heap.size) :
  (sortWorldK enc k w g 0 n d os).heap[i]? = if i = g then (w.heap[g]?).map (onCells (putCells id 0 (flatK enc k d))) else w.heap[i]? := by
 have h0 : (sortWorldK enc k w g 0 n d os).heap = w.heap.modify g (onCells (putCells id 0 (flatK enc k d))) ++ os := rfl
 rw [h0, Array.getElem?_append_left (by simpa using hi), Array.getElem?_modify]
 by_cases h : g = i
 ·subst h; simp
 ·rw [if_neg h, if_neg (fun h' => h h'.symm)]
theorem own_sorted {enc : α → List Value} {k n cap base : Nat} (hk : ∀ x, (enc x).length = k) {w : World} {g : Nat} {cur : Array Value} {e : TypeId} {d : Array α} {os : Array Obj}
  (hg : base ≤ g) (hh : w.heap[g]? = some (.cells cur e (0, 0))) (hc : d.size ≤ cap) (hcm : cap ≤ maxLen) (hs : cur.size = cap * k) :
  ∃ inner, (sortWorldK enc k w g 0 n d os).ownsRow base e k (.slice (some ⟨g, 0, none⟩) d.size cap) d.size inner ∧ Reps (fun x c => c = enc x) k d.toList inner := by
 have hlt : g < w.heap.size := (Array.getElem?_eq_some_iff.1 hh).1
 have h1 : (sortWorldK enc k w g 0 n d os).heap[g]? = some (.cells (putCells id 0 (flatK enc k d) cur) e (0, 0)) := by
  rw [heap_sortWorld g hlt, if_pos rfl, hh]; rfl
 have hdk : d.size * k ≤ cap * k := Nat.mul_le_mul_right _ hc
 have hlen : ((putCells id 0 (flatK enc k d) cur).toList.take (d.size * k)).length = d.size * k := by
  rw [List.length_take, Array.length_toList, putCells_size, hs]; omega
 refine ⟨(putCells id 0 (flatK enc k d) cur).toList.take (d.size * k), ⟨hlen, .inr ⟨g, cap, _, rfl, hg, h1, hc, hcm, by rw [putCells_size, hs], rfl⟩⟩, by rw [hlen]; simp, fun j p hp => ?_⟩
 have hj : j < d.size := by simpa using (List.getElem?_eq_some_iff.1 hp).1
 have hpj : d[j]! = p := by
  rw [getElem!_pos d j hj]
  obtain ⟨h2, h3⟩ := List.getElem?_eq_some_iff.1 hp
  rw [← h3]; simp
 have hjk : j * k + k ≤ d.size * k := by rw [← Nat.succ_mul]; exact Nat.mul_le_mul_right _ hj
 apply List.ext_getElem?
 intro r
 by_cases hr : r < k
 ·rw [List.getElem?_take, if_pos hr, List.getElem?_drop, List.getElem?_take, if_pos (by omega)]
  have h5 : (putCells id 0 (flatK enc k d) cur).toList[j * k + r]? = (putCells id 0 (flatK enc k d) cur)[j * k + r]? := by simp
  rw [h5, putCells_get _ _ _ (by omega) (by rw [size_flatK]; omega), get_flatK _ _ _ _ (by omega)]
  have e1 : (j * k + r) / k = j := by rw [Nat.mul_comm, Nat.mul_add_div (by omega), Nat.div_eq_of_lt hr, Nat.add_zero]
  have e2 : (j * k + r) % k = r := by rw [Nat.mul_comm, Nat.mul_add_mod, Nat.mod_eq_of_lt hr]
  rw [e1, e2, hpj, List.getElem?_eq_getElem (by rw [hk]; exact hr), getElem!_pos _ _ (by rw [hk]; exact hr)]
 ·rw [List.getElem?_eq_none (by rw [List.length_take]; omega), List.getElem?_eq_none (by rw [hk]; omega)]
theorem below_sorted {enc : α → List Value} {k n B : Nat} {w : World} {g : Nat} {d : Array α} {os : Array Obj} (hg : B ≤ g) (hB : B ≤ w.heap.size) : Below B w (sortWorldK enc k w g 0 n d os) := by
 refine ⟨rfl, rfl, rfl, ?_, fun i hi => ?_⟩
 ·have h0 : (sortWorldK enc k w g 0 n d os).heap = w.heap.modify g (onCells (putCells id 0 (flatK enc k d))) ++ os := rfl
  rw [h0]; simp
 ·rw [heap_sortWorld i (by omega), if_neg (by omega)]
end Go.Proofs.YtgknjgionicncaaGreatW.RowB
