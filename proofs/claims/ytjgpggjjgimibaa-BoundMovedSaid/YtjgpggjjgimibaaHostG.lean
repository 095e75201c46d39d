/- dedupe.Hosts: the hosts of spans, each once, in order. -/
import Derived.Test.YtjgpggjjgimibaaBase0
import Derived.Test.YtjgpggjjgimibaaQx0
import Derived.Test.YtjgpggjjgimibaaShelf
import Derived.Shelf.SortM.SortNone
import Derived.Lib.OwnBridge
import Derived.Sort.OwnSorted
import Derived.Sort.Grow
namespace Go.Proofs.Ytjgpggjjgimibaa.L
open Go.RowKit Go.Proofs.Ytjgpggjjgimibaa.Q Go.Proofs.YtjgpggjjgimibaaW.PrintWords Go.Proofs.YtjgpggjjgimibaaW.PrintLast Go.Proofs.YtjgpggjjgimibaaW.PrintMore Go.Sort
set_option linter.unusedVariables false

/-- The hosts of spans, each once, in order. -/
def hostsB (l : List S42) : List ByteArray := (hostsL (l.map (·.f4.data.toList))).map (fun x => ⟨x.toArray⟩)
theorem hostsB_cells (l : List S42) : (hostsB l).map Value.string = (hostsL (l.map (·.f4.data.toList))).map encStr := by
  unfold hostsB
  rw [List.map_map]; rfl
theorem hosts_left {w w1 : World} {g cap n nn q : Nat} {os : Array Obj} {ss : List (List UInt8)} (hown : w1.ownsRow w.heap.size 9 1 (.slice (some ⟨g, 0, none⟩) n cap) n (ss.map encStr)) (hbel : Below w.heap.size w w1) (hlen : ss.length = n) :
    (putRow encStr (Sort.ahead (grow (putRow encStr (Sort.ahead w1 nn) g 0 (ss.mergeSort fun x y => decide (x ≤ y)).toArray) os) q) g 0 (Lib.compact (ss.mergeSort fun x y => decide (x ≤ y)) ++ List.replicate ((ss.mergeSort fun x y => decide (x ≤ y)).length - (Lib.compact (ss.mergeSort fun x y => decide (x ≤ y))).length) []).toArray).ownsRow w.heap.size 9 1 (.slice (some ⟨g, 0, none⟩) (hostsL ss).length cap) (hostsL ss).length ((hostsL ss).map encStr) ∧
    Below w.heap.size w (putRow encStr (Sort.ahead (grow (putRow encStr (Sort.ahead w1 nn) g 0 (ss.mergeSort fun x y => decide (x ≤ y)).toArray) os) q) g 0 (Lib.compact (ss.mergeSort fun x y => decide (x ≤ y)) ++ List.replicate ((ss.mergeSort fun x y => decide (x ≤ y)).length - (Lib.compact (ss.mergeSort fun x y => decide (x ≤ y))).length) []).toArray) := by
  have hl2 : (ss.mergeSort fun x y => decide (x ≤ y)).length = ss.length := List.length_mergeSort ss
  have hle := Lib.compact_length_le (ss.mergeSort fun x y => decide (x ≤ y))
  subst hlen
  rcases hown.2 with ⟨h0, _⟩ | ⟨g', cap', cur, hv, hbase, hb, h1, h2, h3, h4⟩
  · cases h0
  cases hv
  have hs := ownsRow_sorted (n := nn) (os := os) (ts := ss.mergeSort fun x y => decide (x ≤ y)) hl2 hbase hb h1 h2 h3
  have hc := Lib.ownsRow_putRow (q := q) (k := (Lib.compact (ss.mergeSort fun x y => decide (x ≤ y))).length) (ys := Lib.compact (ss.mergeSort fun x y => decide (x ≤ y)) ++ List.replicate ((ss.mergeSort fun x y => decide (x ≤ y)).length - (Lib.compact (ss.mergeSort fun x y => decide (x ≤ y))).length) []) hs (by simp; omega) (by omega)
  rw [List.take_left] at hc
  exact ⟨hc, Lib.below_putRow (hbel.grown (grownBy_sorted _) hbel.size (fun j hj => by cases hj; exact hbase)) hbase⟩

set_option maxHeartbeats 4000000 in
set_option maxRecDepth 100000 in
theorem hosts_calls (l0 : List S42) (hl : l0.length ≤ 1759218604441) (A0 : Option Addr) (c0 : Nat) (w : World) (hr0 : Kd.C k42 w A0 l0.length l0) (hc0 : l0.length ≤ c0) :
    Calls Try.prog 45 #[.slice A0 l0.length c0] w fun e w' => ∃ v : Value, e = .returned v ∧ Kd.R Kd.string 9 w' w.heap.size (fun _ => True) v (hostsB l0) ∧ Below w.heap.size w w' := by
  have HR0 := Aside0.mk hr0
  have HL := Aside0.mk hl
  clear hr0 hc0 hl
  have HB := Aside0.mk (Below.refl w.heap.size w)
  go_enter Try.func45, Try.ntmps45
  go_wp2_with fail
  go_loopg [3, 8] l0.length (fun kq v3 v8 w' => ∃ x8 : Int, v8 = .int .i64 x8 ∧ Aside0 (0 ≤ x8 ∧ x8 + kq = l0.length) ∧ Aside0 (Kd.R Kd.string 9 w' w.heap.size (fun _ => True) v3 ((l0.take x8.toNat).map (·.f4))) ∧ Aside0 (Below w.heap.size w w'))
  case atStart => exact ⟨0, rfl, ⟨by omega, by omega⟩, ⟨Kd.R_nil _ _ _ _ _⟩, HB⟩
  case round =>
    obtain ⟨x8, rfl, HK, HO, HB⟩ := hrel
    by_cases c1 : x8 < (l0.length : Int)
    · have c1b := decide_eq_true c1
      have p1 : 0 ≤ x8 := HK.out.1
      obtain ⟨ad1, e1, hx1_0, hx1_1, hx1_2, hx1_3, hx1_4, hx1_5, hx1_6, hx1_7⟩ := at_T42 HR0.out x8 p1 c1
      cases e1
      replace hx1_0 := (HB.out.cell (World.block_lt_of_cell? w _ hx1_0)).trans hx1_0
      replace hx1_1 := (HB.out.cell (World.block_lt_of_cell? w _ hx1_1)).trans hx1_1
      replace hx1_2 := (HB.out.cell (World.block_lt_of_cell? w _ hx1_2)).trans hx1_2
      replace hx1_3 := (HB.out.cell (World.block_lt_of_cell? w _ hx1_3)).trans hx1_3
      replace hx1_4 := (HB.out.cell (World.block_lt_of_cell? w _ hx1_4)).trans hx1_4
      replace hx1_5 := (HB.out.cell (World.block_lt_of_cell? w _ hx1_5)).trans hx1_5
      replace hx1_6 := (HB.out.cell (World.block_lt_of_cell? w _ hx1_6)).trans hx1_6
      replace hx1_7 := (HB.out.cell (World.block_lt_of_cell? w _ hx1_7)).trans hx1_7
      have P1 := Aside0.mk p1
      have Q1 := Aside0.mk c1
      replace p1 := eq_true p1
      replace c1 := eq_true c1
      have W1 := Aside0.mk (show wrap64 (x8 + 1) = x8 + 1 from by unfold wrap64; have := HL.out; have := P1.out; have := Q1.out; omega)
      have HS := Aside0.mk (show (l0.take (x8 + 1).toNat).map (·.f4) = (l0.take x8.toNat).map (·.f4) ++ [(rd_T42 l0 x8).f4] from by
        have h1 := P1.out
        have h2 := Q1.out
        have h3 : x8.toNat < l0.length := by omega
        rw [show (x8 + 1).toNat = x8.toNat + 1 by omega, List.take_succ_eq_append_getElem h3, List.map_append]
        simp [rd_T42, List.getD, h3])
      go_wp2_with (first | ((with_reducible refine gate_builtin (b := .append) (xs := #[.tmp 12, .tmp 15]) rfl ?_); at_builtin; refine Kd.R_append Kd.string (w0 := w) w.heap.size rfl (.tmp 12) (.tmp 15) 61 9 (.string ⟨#[]⟩) 16 rfl Try.underlying61 (by kernel_rfl) rfl (by decide) (by omega) u3 ((l0.take x8.toNat).map (·.f4)) ((rd_T42 l0 x8).f4) [.string ((rd_T42 l0 x8).f4)] (fun _ => True) (fun _ => False) rfl ?aX ?aP (fun _ hk => hk.elim) ?aF ?aO ?aB ?aS ?aL ?_; (case aX => first | rfl | (go_simp; done) | (simp; done)); (case aP => exact rfl); (case aB => exact (by repeat (first | (with_reducible first | exact HB.out | apply below_alloc | apply pw_below_drewN | apply below_drew1) | exact HB.out))); (case aF => exact (fun _ _ => trivial)); (case aO => exact (by (with_reducible repeat (first | apply Kd.R_alloc | apply Kd.R_drewN | apply Kd.R_drew)); exact HO.out)); (case aS => exact (below_size (by repeat (first | (with_reducible first | exact HB.out | apply below_alloc | apply pw_below_drewN | apply below_drew1) | exact HB.out)))); (case aL => have := HL.out; have := Q1.out; simp only [List.length_map, List.length_take]; omega); intro v2 w2 ho hb hg hat; rw [← HS.out] at ho; have HO2 := Aside0.mk ho; have HB2 := Aside0.mk hb; clear ho hb hg hat))
      obtain ⟨k1, rfl⟩ : ∃ k1, gk = k1 + 1 := ⟨gk - 1, by have := HK.out; have := Q1.out; omega⟩
      go_roundg k1
      case measure => omega
      case rel => exact ⟨x8 + 1, by rw [W1.out], ⟨by have := P1.out; omega, by have := HK.out; omega⟩, HO2, HB2⟩
    · have c1b := decide_eq_false c1
      have hx : x8.toNat = l0.length := by have := HK.out; omega
      have ho := HO.out
      rw [hx, List.take_length] at ho
      have hown := Kd.own_of_R ho
      have hbel := HB.out
      have hm : encs Value.string (l0.map (·.f4)) = (l0.map (·.f4.data.toList)).map encStr := by
        rw [show encs Value.string (l0.map (·.f4)) = (l0.map (·.f4)).map Value.string from rfl, ← Lib.map_encStr]
        congr 1
        rw [List.map_map]; rfl
      rw [hm, List.length_map] at hown
      have hlen : (l0.map (·.f4.data.toList)).length = l0.length := List.length_map _
      clear ho HO HR0
      rcases Nat.eq_zero_or_pos l0.length with h0 | h0
      · have hv : ∃ p cap, u3 = .slice p 0 cap := by
          rcases hown.2 with ⟨h, _⟩ | ⟨g, cap, cur, h, _⟩
          · exact ⟨none, 0, by rw [h]⟩
          · exact ⟨_, cap, by rw [h, h0]⟩
        obtain ⟨p, cap, rfl⟩ := hv
        have ho0 : wr.ownsRow w.heap.size 9 1 (.slice p 0 cap) 0 [] := by
          have := hown
          rw [h0] at this
          rw [List.length_eq_zero_iff.1 h0] at this
          exact this
        have hs0 : hostsB l0 = [] := by
          have h1 := hostsL_length (l0.map (·.f4.data.toList))
          rw [List.length_map, h0] at h1
          unfold hostsB
          rw [List.length_eq_zero_iff.1 (Nat.le_zero.1 h1)]; rfl
        have HS0 := Aside0.mk hs0
        have S1 := Aside0.mk (AnyM.slices_Sort_string_none Try.sortStr p cap)
        have S2 := Aside0.mk (AnyG.slices_Compact_string_empty Try.compactStr p cap)
        have HO := Aside0.mk ho0
        clear hown hs0 hm hbel ho0
        go_wp2_with (first
          | (go_at_call 64; refine (S1.out _).mono ?_; rintro e w1 ⟨rfl, rfl⟩)
          | (go_at_call 65; refine (S2.out _).mono ?_; rintro e w1 ⟨rfl, rfl⟩))
        go_ret
        refine ⟨_, rfl, ?_, HB.out⟩
        rw [HS0.out]
        exact Kd.R_of_own (enc := Value.string) (xs := []) HO.out (fun _ _ => trivial)
      · have hnn : u3 ≠ .slice none 0 0 := by
          intro e
          rcases hown.2 with ⟨_, h⟩ | ⟨g, cap, cur, h, _⟩
          · omega
          · rw [e] at h; cases h
        obtain ⟨g, cap, rfl, hbg, hgl, hncap, hcm, hlen2, hH⟩ := Lib.holds_of_ownsRow hown hnn
        have hsort := AnyM.slices_Sort_string Try.sortStr g 0 cap (l0.map (·.f4.data.toList)) wr hH hgl (by have := HL.out; omega)
        rw [hlen] at hsort
        have hcells := hostsB_cells l0
        have HM := Aside0.mk hown
        have HH := Aside0.mk hH
        have HC := Aside0.mk hcells
        have HN := Aside0.mk hlen
        generalize hss : (l0.map (·.f4.data.toList)) = ss at *
        have S1 := Aside0.mk hsort
        have HG := Aside0.mk hgl
        have HP := Aside0.mk hncap
        clear hsort hH hcells hlen hlen2 hown hgl hm hss hbel hncap
        go_wp2_with (first
          | (go_at_call 64; refine S1.out.mono ?_; rintro e w1 ⟨rfl, nn, os, rfl⟩
             have hl2 : (ss.mergeSort fun x y => decide (x ≤ y)).length = l0.length := by rw [List.length_mergeSort]; exact HN.out
             have hH2 : Holds encStr (grow (putRow encStr (Sort.ahead wr nn) g 0 (ss.mergeSort fun x y => decide (x ≤ y)).toArray) os) g 0 (ss.mergeSort fun x y => decide (x ≤ y)).toArray :=
               holds_grow encStr _ os g 0 _ (by simpa [putRow, mapBlock, Sort.ahead] using HG.out) (holds_putRow encStr _ g 0 _ _ (holds_ahead encStr wr nn g 0 _ HH.out) (by simp))
             have hcomp := AnyG.slices_Compact_string Try.compactStr g 0 cap (ss.mergeSort fun x y => decide (x ≤ y)) _ hH2 (by have := HL.out; omega) (by have := HP.out; omega)
             rw [hl2] at hcomp
             have S2 := Aside0.mk hcomp
             have HN2 := Aside0.mk hl2
             clear hcomp hH2 hl2)
          | (go_at_call 65; refine S2.out.mono ?_; rintro e w2 ⟨rfl, q, rfl⟩))
        go_ret
        have hle := hosts_left (nn := nn) (os := os) (q := q) HM.out HB.out HN.out
        have hl3 : (hostsB l0).length = (hostsL ss).length := by
          have := congrArg List.length HC.out
          simpa using this
        refine ⟨_, rfl, ?_, ?_⟩
        · refine Kd.R_of_own (enc := Value.string) (e := 9) ?_ (fun _ _ => trivial)
          rw [show encs Value.string (hostsB l0) = (hostsB l0).map Value.string from rfl, HC.out, hl3]
          have := hle.1
          rw [List.length_mergeSort, HN.out] at this
          exact this
        · have := hle.2
          rw [List.length_mergeSort, HN.out] at this
          exact this
end Go.Proofs.Ytjgpggjjgimibaa.L
