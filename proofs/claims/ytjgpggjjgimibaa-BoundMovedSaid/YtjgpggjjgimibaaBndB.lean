/- bound.All: the closure, slices.IndexFunc and ContainsFunc over edges. -/
import Derived.Test.YtjgpggjjgimibaaBndA
namespace Go.Proofs.Ytjgpggjjgimibaa.L
open Go.RowKit Go.Proofs.Ytjgpggjjgimibaa.Q Go.Proofs.YtjgpggjjgimibaaW.PrintWords Go.Proofs.YtjgpggjjgimibaaW.PrintLast Go.Proofs.YtjgpggjjgimibaaW.PrintMore Go.Proofs.YtjgpggjjgimibaaW.MapB Go.Proofs.YtjgpggjjgimibaaW.Lib
set_option linter.unusedVariables false
set_option linter.unusedSimpArgs false

set_option maxHeartbeats 2000000 in
set_option maxRecDepth 100000 in
theorem lit_calls (e : S37) (l : List Int) (hi : ∀ x ∈ l, inI x) (he : inI e.f2) (A1 : Option Addr) (c1 B : Nat) (w : World) (hr : Kd.C (Kd.int .i64) w A1 l.length l) (hc : l.length ≤ c1) (hcell : w.cell? ⟨B, 0, none⟩ = some (.slice A1 l.length c1)) :
    Calls Try.prog 40 #[.agg #[.int .i64 e.f0, .int .i64 e.f1, .int .i64 e.f2, .int .i64 e.f3.f0, .int .i64 e.f3.f1, .bool e.f4], .pointer (some ⟨B, 0, none⟩)] w fun r w' => r = .returned (.bool (!holdsB e l)) ∧ Below w.heap.size w w' := by
  have HB := Aside0.mk (Below.refl w.heap.size w)
  have h1 : ∀ o, (w.alloc o).cell? ⟨B, 0, none⟩ = some (.slice A1 l.length c1) := fun o => ((below_alloc HB.out o).cell (World.block_lt_of_cell? w _ hcell)).trans hcell
  have QH := Aside0.mk (fun (W : World) (h : Below w.heap.size w W) => holds_calls e l hi he A1 c1 W (Kd.C_below hr h) hc)
  clear hi he hr hc
  go_enter Try.func40, Try.ntmps40
  go_wp2_with (go_at_call 18; refine (QH.out _ (below_alloc HB.out _)).mono ?_; rintro r w1 ⟨rfl, hb⟩; have HB1 := Aside0.mk (below_step (below_alloc HB.out _) hb); clear hb)
  go_ret
  exact ⟨rfl, HB1.out⟩
set_option maxHeartbeats 4000000 in
set_option maxRecDepth 100000 in
theorem index_calls (es : List S37) (l : List Int) (hi : ∀ x ∈ l, inI x) (he : ∀ e ∈ es, inI e.f2) (hn : es.length ≤ 1000000000) (A0 A1 : Option Addr) (c0 c1 B : Nat) (w : World) (hr0 : Kd.C k37 w A0 es.length es) (hr : Kd.C (Kd.int .i64) w A1 l.length l) (hc : l.length ≤ c1) (hcell : w.cell? ⟨B, 0, none⟩ = some (.slice A1 l.length c1)) :
    Calls Try.prog 59 #[.slice A0 es.length c0, .func (.func 40) #[] #[.pointer (some ⟨B, 0, none⟩)]] w fun r w' => ∃ i : Int, r = .returned (.int .i64 i) ∧ decide (0 ≤ i) = !es.all (fun e => holdsB e l) ∧ Below w.heap.size w w' := by
  have HB0 := Aside0.mk (Below.refl w.heap.size w)
  have HR0 := Aside0.mk hr0
  have HN := Aside0.mk hn
  have QL := Aside0.mk (fun (e : S37) (h : e ∈ es) (W : World) (hb : Below w.heap.size w W) => lit_calls e l hi (he e h) A1 c1 B W (Kd.C_below hr hb) hc ((hb.cell (World.block_lt_of_cell? w _ hcell)).trans hcell))
  clear hr0 hr hc hcell hi he hn
  go_enter Try.func59, Try.ntmps59
  go_wp2_with fail
  go_loopg [8] es.length (fun kq v8 w' => ∃ x8 : Int, v8 = .int .i64 x8 ∧ Aside0 (0 ≤ x8 ∧ x8 + kq = es.length) ∧ Aside0 (∀ e ∈ es.take x8.toNat, holdsB e l = true) ∧ Aside0 (Below w.heap.size w w'))
  case atStart => exact ⟨0, rfl, ⟨by omega, by omega⟩, ⟨by simp⟩, HB0⟩
  case round =>
    obtain ⟨x8, rfl, HK, HA, HB⟩ := hrel
    by_cases c1 : x8 < (es.length : Int)
    · have c1b := decide_eq_true c1
      have p1 : 0 ≤ x8 := HK.out.1
      obtain ⟨ad, e1, hx0, hx1, hx2, hx3, hx4, hx5⟩ := at_T37 HR0.out x8 p1 c1
      cases e1
      replace hx0 := (HB.out.cell (World.block_lt_of_cell? w _ hx0)).trans hx0
      replace hx1 := (HB.out.cell (World.block_lt_of_cell? w _ hx1)).trans hx1
      replace hx2 := (HB.out.cell (World.block_lt_of_cell? w _ hx2)).trans hx2
      replace hx3 := (HB.out.cell (World.block_lt_of_cell? w _ hx3)).trans hx3
      replace hx4 := (HB.out.cell (World.block_lt_of_cell? w _ hx4)).trans hx4
      replace hx5 := (HB.out.cell (World.block_lt_of_cell? w _ hx5)).trans hx5
      have hit : x8.toNat < es.length := by omega
      have hev : rd_T37 es x8 = es[x8.toNat] := by simp [rd_T37, List.getD, hit]
      have hem : rd_T37 es x8 ∈ es := by rw [hev]; exact List.getElem_mem _
      have HE := Aside0.mk (show es.take (x8 + 1).toNat = es.take x8.toNat ++ [rd_T37 es x8] from by
        rw [show (x8 + 1).toNat = x8.toNat + 1 by omega, List.take_succ_eq_append_getElem hit, hev])
      have QE := Aside0.mk (QL.out _ hem wr HB.out)
      have HM := Aside0.mk hem
      have P1 := Aside0.mk p1
      have Q1 := Aside0.mk c1
      have W1 := Aside0.mk (show wrap64 (x8 + 1) = x8 + 1 from by unfold wrap64; have := HN.out; have := P1.out; have := Q1.out; omega)
      clear hev hem hit
      generalize rd_T37 es x8 = e at *
      replace p1 := eq_true p1
      replace c1 := eq_true c1
      obtain ⟨k1, rfl⟩ : ∃ k1, gk = k1 + 1 := ⟨gk - 1, by have := HK.out; have := Q1.out; omega⟩
      cases hq : holdsB e l with
      | true =>
        rw [hq] at QE
        have HQ := Aside0.mk hq
        clear hq
        go_wp2_with (go_at_call 40; refine QE.out.mono ?_; rintro r w1 ⟨rfl, hb⟩; have HB1 := Aside0.mk (below_step HB.out hb); clear hb)
        go_roundg k1
        case measure => omega
        case rel => exact ⟨x8 + 1, by rw [W1.out], ⟨by have := P1.out; omega, by have := HK.out; omega⟩, ⟨by
          rw [HE.out]
          intro y hy
          rcases List.mem_append.1 hy with h | h
          · exact HA.out y h
          · rw [List.mem_singleton.1 h]; exact HQ.out⟩, HB1⟩
      | false =>
        rw [hq] at QE
        have HQ := Aside0.mk hq
        clear hq
        go_wp2_with (go_at_call 40; refine QE.out.mono ?_; rintro r w1 ⟨rfl, hb⟩; have HB1 := Aside0.mk (below_step HB.out hb); clear hb)
        go_ret
        refine ⟨x8, rfl, ?_, HB1.out⟩
        rw [decide_eq_true P1.out]
        have : es.all (fun e => holdsB e l) = false := by
          rw [List.all_eq_false]
          exact ⟨e, HM.out, by rw [HQ.out]; simp⟩
        rw [this]; rfl
    · have c1b := decide_eq_false c1
      have hx : x8.toNat = es.length := by have := HK.out; omega
      have ha := HA.out
      rw [hx, List.take_length] at ha
      have HAll := Aside0.mk ha
      clear ha hx c1
      go_wp2_with fail
      go_ret
      refine ⟨-1, rfl, ?_, HB.out⟩
      have : es.all (fun e => holdsB e l) = true := List.all_eq_true.2 HAll.out
      rw [this]; rfl
set_option maxHeartbeats 2000000 in
set_option maxRecDepth 100000 in
theorem all_calls (es : List S37) (l : List Int) (hi : ∀ x ∈ l, inI x) (he : ∀ e ∈ es, inI e.f2) (hn : es.length ≤ 1000000000) (A0 A1 : Option Addr) (c0 c1 : Nat) (w : World) (hr0 : Kd.C k37 w A0 es.length es) (hr : Kd.C (Kd.int .i64) w A1 l.length l) (hc : l.length ≤ c1) :
    Calls Try.prog 20 #[.slice A0 es.length c0, .slice A1 l.length c1] w fun r w' => r = .returned (.bool (es.all (fun e => holdsB e l))) ∧ Below w.heap.size w w' := by
  have hmf : ∀ (fn : Fn) (first cap : Array Value) (w : World), (Instr.makeFunc fn first cap).run Try.prog w = .ok (.func fn first cap) w := fun _ _ _ _ => rfl
  have HB := Aside0.mk (Below.refl w.heap.size w)
  have hb1 := below_alloc HB.out (.cells #[.slice A1 l.length c1] 33)
  have hcell : (w.alloc (.cells #[.slice A1 l.length c1] 33)).cell? ⟨w.heap.size, 0, none⟩ = some (.slice A1 l.length c1) := (blk_cell (MapKept.heap_alloc w _).1 0).trans rfl
  have QC : Calls Try.prog 39 #[.slice A0 es.length c0, .func (.func 40) #[] #[.pointer (some ⟨w.heap.size, 0, none⟩)]] (w.alloc (.cells #[.slice A1 l.length c1] 33)) fun r w' => r = .returned (.bool (!es.all (fun e => holdsB e l))) ∧ Below w.heap.size w w' := by
    have QI := Aside0.mk (index_calls es l hi he hn A0 A1 c0 c1 w.heap.size _ (Kd.C_below hr0 hb1) (Kd.C_below hr hb1) hc hcell)
    have HB1 := Aside0.mk hb1
    clear hi he hn hr0 hr hc hcell hb1 hmf
    generalize w.alloc (.cells #[.slice A1 l.length c1] 33) = W at *
    go_enter Try.func39, Try.ntmps39
    go_wp2_with (go_at_call 59; refine QI.out.mono ?_; rintro r w1 ⟨i, rfl, hd, hb⟩; have HD := Aside0.mk hd; have HB2 := Aside0.mk (below_step HB1.out hb); clear hb hd)
    go_ret
    refine ⟨?_, HB2.out⟩
    rw [← HD.out]
    rfl
  have QC1 := Aside0.mk QC
  clear QC hi he hn hr0 hr hc hcell hb1
  go_enter Try.func20, Try.ntmps20
  go_wp2_with (go_at_call 39; refine QC1.out.mono ?_; rintro r w1 ⟨rfl, hb⟩; have HB1 := Aside0.mk hb; clear hb)
  go_ret
  refine ⟨?_, HB1.out⟩
  cases es.all (fun e => holdsB e l) <;> rfl
end Go.Proofs.Ytjgpggjjgimibaa.L
