/- Texts joined by wip/tools/merge.py: Shelf HostG NumP NumG NumH BndE BndF. -/
import Derived.Shelf.SortM.Plain
import Derived.Shelf.SlicesG.CompactS
import Derived.Shelf.SlicesG.Turned
import Derived.Test.YtjgpggjjgimibaaProg
import Derived.Test.YtjgpggjjgimibaaJShiftRight21
import Derived.Shelf.SortM.SortNone
import Derived.Lib.OwnBridge
import Derived.Sort.OwnSorted
import Derived.Sort.Grow
import Derived.Maps.Views
import Derived.WalkArith
import Derived.StringKeys
import Derived.Test.YtjgpggjjgimibaaJShiftRight18
/- Contracts of the library at this translation: for each the table of numbers, and that the bodies are those that the contract was proved of. -/
namespace Go.Proofs
open Go.Shelf
def Try.sortStr_ren : Go.Shelf.Ren := ⟨fun | 6 => 64 | 8 => 74 | 9 => 73 | 19 => 91 | 20 => 92 | 21 => 82 | 22 => 83 | 23 => 84 | 24 => 85 | 25 => 86 | 26 => 87 | 27 => 88 | 28 => 89 | 29 => 90 | 36 => 97 | 31 => 98 | 32 => 99 | 37 => 100 | 38 => 101 | 39 => 102 | 41 => 104 | n => n, fun | 27 => 61 | 29 => 9 | 3 => 3 | 32 => 94 | 26 => 61 | 0 => 0 | 44 => 113 | 46 => 40 | 4 => 4 | 36 => 105 | 35 => 104 | 41 => 110 | 5 => 5 | 9 => 9 | 53 => 118 | 57 => 122 | 63 => 126 | 64 => 127 | n => n, fun | n => n⟩
theorem Try.sortStr : Go.Proofs.SlLaysM.n6 Try.prog Try.sortStr_ren := {
  mixed := by kernel_rfl
  f6 := ⟨Try.f64.name, by decide, Try.func64.trans (congrArg some (by kernel_rfl))⟩
  f8 := Try.func74.trans (congrArg some (by kernel_rfl))
  f9 := ⟨Try.f73.name, by decide, Try.func73.trans (congrArg some (by kernel_rfl))⟩
  f19 := Try.func91.trans (congrArg some (by kernel_rfl))
  f20 := Try.func92.trans (congrArg some (by kernel_rfl))
  f21 := ⟨Try.f82.name, by decide, Try.func82.trans (congrArg some (by kernel_rfl))⟩
  f22 := ⟨Try.f83.name, by decide, Try.func83.trans (congrArg some (by kernel_rfl))⟩
  f23 := ⟨Try.f84.name, by decide, Try.func84.trans (congrArg some (by kernel_rfl))⟩
  f24 := ⟨Try.f85.name, by decide, Try.func85.trans (congrArg some (by kernel_rfl))⟩
  f25 := ⟨Try.f86.name, by decide, Try.func86.trans (congrArg some (by kernel_rfl))⟩
  f26 := ⟨Try.f87.name, by decide, Try.func87.trans (congrArg some (by kernel_rfl))⟩
  f27 := ⟨Try.f88.name, by decide, Try.func88.trans (congrArg some (by kernel_rfl))⟩
  f28 := ⟨Try.f89.name, by decide, Try.func89.trans (congrArg some (by kernel_rfl))⟩
  f29 := ⟨Try.f90.name, by decide, Try.func90.trans (congrArg some (by kernel_rfl))⟩
  f31 := Try.func98.trans (congrArg some (by kernel_rfl))
  f32 := Try.func99.trans (congrArg some (by kernel_rfl))
  f36 := ⟨Try.f97.name, by decide, Try.func97.trans (congrArg some (by kernel_rfl))⟩
  f37 := ⟨Try.f100.name, by decide, Try.func100.trans (congrArg some (by kernel_rfl))⟩
  f38 := ⟨Try.f101.name, by decide, Try.func101.trans (congrArg some (by kernel_rfl))⟩
  f39 := ⟨Try.f102.name, by decide, Try.func102.trans (congrArg some (by kernel_rfl))⟩
  f41 := ⟨Try.f104.name, by decide, Try.func104.trans (congrArg some (by kernel_rfl))⟩
  t0 := Try.underlying0
  a0 := Try.isAgg0
  z0 := Try.sizeOf0
  v0 := Try.zeroValue0
  t3 := Try.underlying3
  a3 := Try.isAgg3
  z3 := Try.sizeOf3
  v3 := Try.zeroValue3
  t4 := Try.underlying4
  a4 := Try.isAgg4
  z4 := Try.sizeOf4
  v4 := Try.zeroValue4
  t5 := Try.underlying5
  a5 := Try.isAgg5
  z5 := Try.sizeOf5
  v5 := Try.zeroValue5
  t9 := Try.underlying9
  a9 := Try.isAgg9
  z9 := Try.sizeOf9
  v9 := Try.zeroValue9
  t26 := Try.underlying61
  a26 := Try.isAgg61
  z26 := Try.sizeOf61
  v26 := Try.zeroValue61
  t27 := Try.underlying61
  a27 := Try.isAgg61
  z27 := Try.sizeOf61
  v27 := Try.zeroValue61
  t29 := Try.underlying9
  a29 := Try.isAgg9
  z29 := Try.sizeOf9
  v29 := Try.zeroValue9
  t32 := Try.underlying94
  a32 := Try.isAgg94
  z32 := Try.sizeOf94
  v32 := Try.zeroValue94
  t35 := Try.underlying104
  a35 := Try.isAgg104
  z35 := Try.sizeOf104
  v35 := Try.zeroValue104
  t36 := Try.underlying105
  a36 := Try.isAgg105
  z36 := Try.sizeOf105
  v36 := Try.zeroValue105
  t41 := Try.underlying110
  a41 := Try.isAgg110
  z41 := Try.sizeOf110
  v41 := Try.zeroValue110
  t44 := Try.underlying113
  a44 := Try.isAgg113
  z44 := Try.sizeOf113
  v44 := Try.zeroValue113
  t46 := Try.underlying40
  a46 := Try.isAgg40
  z46 := Try.sizeOf40
  v46 := Try.zeroValue40
  t53 := Try.underlying118
  a53 := Try.isAgg118
  z53 := Try.sizeOf118
  v53 := Try.zeroValue118
  t57 := Try.underlying122
  a57 := Try.isAgg122
  z57 := Try.sizeOf122
  v57 := Try.zeroValue122
  t63 := Try.underlying126
  a63 := Try.isAgg126
  z63 := Try.sizeOf126
  v63 := Try.zeroValue126
  t64 := Try.underlying127
  a64 := Try.isAgg127
  z64 := Try.sizeOf127
  v64 := Try.zeroValue127 }
def Try.compactStr_ren : Go.Shelf.Ren := ⟨fun | 44 => 65 | n => n, fun | 25 => 61 | 26 => 9 | 3 => 3 | 4 => 4 | 0 => 0 | n => n, fun | n => n⟩
theorem Try.compactStr : Go.Proofs.SlLaysN.n44 Try.prog Try.compactStr_ren := {
  mixed := by kernel_rfl
  f44 := ⟨Try.f65.name, by decide, Try.func65.trans (congrArg some (by kernel_rfl))⟩
  t0 := Try.underlying0
  a0 := Try.isAgg0
  z0 := Try.sizeOf0
  v0 := Try.zeroValue0
  t3 := Try.underlying3
  a3 := Try.isAgg3
  z3 := Try.sizeOf3
  v3 := Try.zeroValue3
  t4 := Try.underlying4
  a4 := Try.isAgg4
  z4 := Try.sizeOf4
  v4 := Try.zeroValue4
  t25 := Try.underlying61
  a25 := Try.isAgg61
  z25 := Try.sizeOf61
  v25 := Try.zeroValue61
  t26 := Try.underlying9
  a26 := Try.isAgg9
  z26 := Try.sizeOf9
  v26 := Try.zeroValue9
  i26 := by kernel_rfl }
end Go.Proofs

/- dedupe.Hosts: the hosts of spans, each once, in order. -/
namespace Go.Proofs.Ytjgpggjjgimibaa.L
open Go.RowKit Go.Proofs.Ytjgpggjjgimibaa.Q Go.Proofs.YtjgpggjjgimibaaW.PrintWords Go.Proofs.YtjgpggjjgimibaaW.PrintLast Go.Proofs.YtjgpggjjgimibaaW.PrintMore Go.Sort
set_option linter.unusedVariables false

/-- The hosts of spans, each once, in order. -/
def hostsB (l : List S42) : List ByteArray := (hostsL (l.map (·.f4.data.toList))).map (fun x => ⟨x.toArray⟩)
theorem hostsB_cells (l : List S42) : (hostsB l).map Value.string = (hostsL (l.map (·.f4.data.toList))).map encStr := by
  unfold hostsB
  rw [List.map_map]; rfl
theorem hosts_left {w w1 : World} {g cap n nn q : Nat} {os : Array Obj} {ss : List (List UInt8)} (hown : w1.ownsRow w.heap.size 9 1 (.slice (some ⟨g, 0, none⟩) n cap) n (ss.map encStr)) (hbel : Below w.heap.size w w1) (hlen : ss.length = n) :
    (putRow encStr (Sort.ahead (grow (putRow encStr (Sort.ahead w1 nn) g 0 (ss.mergeSort fun x y => decide (x ≤ y)).toArray) os) q) g 0 (Lib.compact (ss.mergeSort fun x y => decide (x ≤ y)) ++ List.replicate ((ss.mergeSort fun x y => decide (x ≤ y)).length - (Lib.compact (ss.mergeSort fun x y => decide (x ≤ y))).length) []).toArray).ownsRow w.heap.size 9 1 (.slice (some ⟨g, 0, none⟩) (hostsL ss).length cap) (hostsL ss).length ((hostsL ss).map encStr) ∧
    Below w.heap.size w (putRow encStr (Sort.ahead (grow (putRow encStr (Sort.ahead w1 nn) g 0 (ss.mergeSort fun x y => decide (x ≤ y)).toArray) os) q) g 0 (Lib.compact (ss.mergeSort fun x y => decide (x ≤ y)) ++ List.replicate ((ss.mergeSort fun x y => decide (x ≤ y)).length - (Lib.compact (ss.mergeSort fun x y => decide (x ≤ y))).length) []).toArray) := by
  have hl2 : (ss.mergeSort fun x y => decide (x ≤ y)).length = ss.length := List.length_mergeSort ss
  have hle := Lib.compact_length_le (ss.mergeSort fun x y => decide (x ≤ y))
  subst hlen
  rcases hown.2 with ⟨h0, _⟩ | ⟨g', cap', cur, hv, hbase, hb, h1, h2, h3, h4⟩
  · cases h0
  cases hv
  have hs := ownsRow_sorted (n := nn) (os := os) (ts := ss.mergeSort fun x y => decide (x ≤ y)) hl2 hbase hb h1 h2 h3
  have hc := Lib.ownsRow_putRow (q := q) (k := (Lib.compact (ss.mergeSort fun x y => decide (x ≤ y))).length) (ys := Lib.compact (ss.mergeSort fun x y => decide (x ≤ y)) ++ List.replicate ((ss.mergeSort fun x y => decide (x ≤ y)).length - (Lib.compact (ss.mergeSort fun x y => decide (x ≤ y))).length) []) hs (by simp; omega) (by omega)
  rw [List.take_left] at hc
  exact ⟨hc, Lib.below_putRow (hbel.grown (grownBy_sorted _) hbel.size (fun j hj => by cases hj; exact hbase)) hbase⟩

set_option maxHeartbeats 4000000 in
set_option maxRecDepth 100000 in
theorem hosts_calls (l0 : List S42) (hl : l0.length ≤ 1759218604441) (A0 : Option Addr) (c0 : Nat) (w : World) (hr0 : Kd.C k42 w A0 l0.length l0) (hc0 : l0.length ≤ c0) :
    Calls Try.prog 45 #[.slice A0 l0.length c0] w fun e w' => ∃ v : Value, e = .returned v ∧ Kd.R Kd.string 9 w' w.heap.size (fun _ => True) v (hostsB l0) ∧ Below w.heap.size w w' := by
  have HR0 := Aside0.mk hr0
  have HL := Aside0.mk hl
  clear hr0 hc0 hl
  have HB := Aside0.mk (Below.refl w.heap.size w)
  go_enter Try.func45, Try.ntmps45
  go_wp2_with fail
  go_loopg [3, 8] l0.length (fun kq v3 v8 w' => ∃ x8 : Int, v8 = .int .i64 x8 ∧ Aside0 (0 ≤ x8 ∧ x8 + kq = l0.length) ∧ Aside0 (Kd.R Kd.string 9 w' w.heap.size (fun _ => True) v3 ((l0.take x8.toNat).map (·.f4))) ∧ Aside0 (Below w.heap.size w w'))
  case atStart => exact ⟨0, rfl, ⟨by omega, by omega⟩, ⟨Kd.R_nil _ _ _ _ _⟩, HB⟩
  case round =>
    obtain ⟨x8, rfl, HK, HO, HB⟩ := hrel
    by_cases c1 : x8 < (l0.length : Int)
    · have c1b := decide_eq_true c1
      have p1 : 0 ≤ x8 := HK.out.1
      obtain ⟨ad1, e1, hx1_0, hx1_1, hx1_2, hx1_3, hx1_4, hx1_5, hx1_6, hx1_7⟩ := at_T42 HR0.out x8 p1 c1
      cases e1
      replace hx1_0 := (HB.out.cell (World.block_lt_of_cell? w _ hx1_0)).trans hx1_0
      replace hx1_1 := (HB.out.cell (World.block_lt_of_cell? w _ hx1_1)).trans hx1_1
      replace hx1_2 := (HB.out.cell (World.block_lt_of_cell? w _ hx1_2)).trans hx1_2
      replace hx1_3 := (HB.out.cell (World.block_lt_of_cell? w _ hx1_3)).trans hx1_3
      replace hx1_4 := (HB.out.cell (World.block_lt_of_cell? w _ hx1_4)).trans hx1_4
      replace hx1_5 := (HB.out.cell (World.block_lt_of_cell? w _ hx1_5)).trans hx1_5
      replace hx1_6 := (HB.out.cell (World.block_lt_of_cell? w _ hx1_6)).trans hx1_6
      replace hx1_7 := (HB.out.cell (World.block_lt_of_cell? w _ hx1_7)).trans hx1_7
      have P1 := Aside0.mk p1
      have Q1 := Aside0.mk c1
      replace p1 := eq_true p1
      replace c1 := eq_true c1
      have W1 := Aside0.mk (show wrap64 (x8 + 1) = x8 + 1 from by unfold wrap64; have := HL.out; have := P1.out; have := Q1.out; omega)
      have HS := Aside0.mk (show (l0.take (x8 + 1).toNat).map (·.f4) = (l0.take x8.toNat).map (·.f4) ++ [(rd_T42 l0 x8).f4] from by
        have h1 := P1.out
        have h2 := Q1.out
        have h3 : x8.toNat < l0.length := by omega
        rw [show (x8 + 1).toNat = x8.toNat + 1 by omega, List.take_succ_eq_append_getElem h3, List.map_append]
        simp [rd_T42, List.getD, h3])
      go_wp2_with (first | ((with_reducible refine gate_builtin (b := .append) (xs := #[.tmp 12, .tmp 15]) rfl ?_); at_builtin; refine Kd.R_append Kd.string (w0 := w) w.heap.size rfl (.tmp 12) (.tmp 15) 61 9 (.string ⟨#[]⟩) 16 rfl Try.underlying61 (by kernel_rfl) rfl (by decide) (by omega) u3 ((l0.take x8.toNat).map (·.f4)) ((rd_T42 l0 x8).f4) [.string ((rd_T42 l0 x8).f4)] (fun _ => True) (fun _ => False) rfl ?aX ?aP (fun _ hk => hk.elim) ?aF ?aO ?aB ?aS ?aL ?_; (case aX => first | rfl | (go_simp; done) | (simp; done)); (case aP => exact rfl); (case aB => exact (by repeat (first | (with_reducible first | exact HB.out | apply below_alloc | apply pw_below_drewN | apply below_drew1) | exact HB.out))); (case aF => exact (fun _ _ => trivial)); (case aO => exact (by (with_reducible repeat (first | apply Kd.R_alloc | apply Kd.R_drewN | apply Kd.R_drew)); exact HO.out)); (case aS => exact (below_size (by repeat (first | (with_reducible first | exact HB.out | apply below_alloc | apply pw_below_drewN | apply below_drew1) | exact HB.out)))); (case aL => have := HL.out; have := Q1.out; simp only [List.length_map, List.length_take]; omega); intro v2 w2 ho hb hg hat; rw [← HS.out] at ho; have HO2 := Aside0.mk ho; have HB2 := Aside0.mk hb; clear ho hb hg hat))
      obtain ⟨k1, rfl⟩ : ∃ k1, gk = k1 + 1 := ⟨gk - 1, by have := HK.out; have := Q1.out; omega⟩
      go_roundg k1
      case measure => omega
      case rel => exact ⟨x8 + 1, by rw [W1.out], ⟨by have := P1.out; omega, by have := HK.out; omega⟩, HO2, HB2⟩
    · have c1b := decide_eq_false c1
      have hx : x8.toNat = l0.length := by have := HK.out; omega
      have ho := HO.out
      rw [hx, List.take_length] at ho
      have hown := Kd.own_of_R ho
      have hbel := HB.out
      have hm : encs Value.string (l0.map (·.f4)) = (l0.map (·.f4.data.toList)).map encStr := by
        rw [show encs Value.string (l0.map (·.f4)) = (l0.map (·.f4)).map Value.string from rfl, ← Lib.map_encStr]
        congr 1
        rw [List.map_map]; rfl
      rw [hm, List.length_map] at hown
      have hlen : (l0.map (·.f4.data.toList)).length = l0.length := List.length_map _
      clear ho HO HR0
      rcases Nat.eq_zero_or_pos l0.length with h0 | h0
      · have hv : ∃ p cap, u3 = .slice p 0 cap := by
          rcases hown.2 with ⟨h, _⟩ | ⟨g, cap, cur, h, _⟩
          · exact ⟨none, 0, by rw [h]⟩
          · exact ⟨_, cap, by rw [h, h0]⟩
        obtain ⟨p, cap, rfl⟩ := hv
        have ho0 : wr.ownsRow w.heap.size 9 1 (.slice p 0 cap) 0 [] := by
          have := hown
          rw [h0] at this
          rw [List.length_eq_zero_iff.1 h0] at this
          exact this
        have hs0 : hostsB l0 = [] := by
          have h1 := hostsL_length (l0.map (·.f4.data.toList))
          rw [List.length_map, h0] at h1
          unfold hostsB
          rw [List.length_eq_zero_iff.1 (Nat.le_zero.1 h1)]; rfl
        have HS0 := Aside0.mk hs0
        have S1 := Aside0.mk (AnyM.slices_Sort_string_none Try.sortStr p cap)
        have S2 := Aside0.mk (AnyG.slices_Compact_string_empty Try.compactStr p cap)
        have HO := Aside0.mk ho0
        clear hown hs0 hm hbel ho0
        go_wp2_with (first
          | (go_at_call 64; refine (S1.out _).mono ?_; rintro e w1 ⟨rfl, rfl⟩)
          | (go_at_call 65; refine (S2.out _).mono ?_; rintro e w1 ⟨rfl, rfl⟩))
        go_ret
        refine ⟨_, rfl, ?_, HB.out⟩
        rw [HS0.out]
        exact Kd.R_of_own (enc := Value.string) (xs := []) HO.out (fun _ _ => trivial)
      · have hnn : u3 ≠ .slice none 0 0 := by
          intro e
          rcases hown.2 with ⟨_, h⟩ | ⟨g, cap, cur, h, _⟩
          · omega
          · rw [e] at h; cases h
        obtain ⟨g, cap, rfl, hbg, hgl, hncap, hcm, hlen2, hH⟩ := Lib.holds_of_ownsRow hown hnn
        have hsort := AnyM.slices_Sort_string Try.sortStr g 0 cap (l0.map (·.f4.data.toList)) wr hH hgl (by have := HL.out; omega)
        rw [hlen] at hsort
        have hcells := hostsB_cells l0
        have HM := Aside0.mk hown
        have HH := Aside0.mk hH
        have HC := Aside0.mk hcells
        have HN := Aside0.mk hlen
        generalize hss : (l0.map (·.f4.data.toList)) = ss at *
        have S1 := Aside0.mk hsort
        have HG := Aside0.mk hgl
        have HP := Aside0.mk hncap
        clear hsort hH hcells hlen hlen2 hown hgl hm hss hbel hncap
        go_wp2_with (first
          | (go_at_call 64; refine S1.out.mono ?_; rintro e w1 ⟨rfl, nn, os, rfl⟩
             have hl2 : (ss.mergeSort fun x y => decide (x ≤ y)).length = l0.length := by rw [List.length_mergeSort]; exact HN.out
             have hH2 : Holds encStr (grow (putRow encStr (Sort.ahead wr nn) g 0 (ss.mergeSort fun x y => decide (x ≤ y)).toArray) os) g 0 (ss.mergeSort fun x y => decide (x ≤ y)).toArray :=
               holds_grow encStr _ os g 0 _ (by simpa [putRow, mapBlock, Sort.ahead] using HG.out) (holds_putRow encStr _ g 0 _ _ (holds_ahead encStr wr nn g 0 _ HH.out) (by simp))
             have hcomp := AnyG.slices_Compact_string Try.compactStr g 0 cap (ss.mergeSort fun x y => decide (x ≤ y)) _ hH2 (by have := HL.out; omega) (by have := HP.out; omega)
             rw [hl2] at hcomp
             have S2 := Aside0.mk hcomp
             have HN2 := Aside0.mk hl2
             clear hcomp hH2 hl2)
          | (go_at_call 65; refine S2.out.mono ?_; rintro e w2 ⟨rfl, q, rfl⟩))
        go_ret
        have hle := hosts_left (nn := nn) (os := os) (q := q) HM.out HB.out HN.out
        have hl3 : (hostsB l0).length = (hostsL ss).length := by
          have := congrArg List.length HC.out
          simpa using this
        refine ⟨_, rfl, ?_, ?_⟩
        · refine Kd.R_of_own (enc := Value.string) (e := 9) ?_ (fun _ _ => trivial)
          rw [show encs Value.string (hostsB l0) = (hostsB l0).map Value.string from rfl, HC.out, hl3]
          have := hle.1
          rw [List.length_mergeSort, HN.out] at this
          exact this
        · have := hle.2
          rw [List.length_mergeSort, HN.out] at this
          exact this
end Go.Proofs.Ytjgpggjjgimibaa.L

/- The hosts of spans, and the map of hosts to their numbers as it is read: plain. -/
namespace Go.Proofs.Ytjgpggjjgimibaa.L
open Go.RowKit Go.Proofs.Ytjgpggjjgimibaa.Q Go.Proofs.YtjgpggjjgimibaaW.PrintWords Go.Maps
set_option linter.unusedVariables false

/-- What a span that is read has. -/
def fitS (x : S42) : Prop := (Lit.int .u64 x.f1).wf = true ∧ x.f4.size ≤ 140737488351232 ∧ x.f5.size ≤ 140737488351232
instance : DecidablePred fitS := fun x => by unfold fitS; infer_instance

theorem hostsB_rise (l : List S42) : Rise cmpB (hostsB l) := by
  unfold hostsB Rise
  rw [List.pairwise_map]
  refine (hostsL_rise _).1.imp ?_
  intro x y h
  show Go.Lib.compareBytes _ _ < 0
  simpa using h
theorem hostsB_mem (l : List S42) (s : ByteArray) : s ∈ hostsB l ↔ ∃ x ∈ l, x.f4 = s := by
  unfold hostsB
  rw [List.mem_map]
  constructor
  · rintro ⟨y, hy, rfl⟩
    rw [(hostsL_rise _).2, List.mem_map] at hy
    obtain ⟨x, hx, rfl⟩ := hy
    exact ⟨x, hx, by simp⟩
  · rintro ⟨x, hx, rfl⟩
    refine ⟨x.f4.data.toList, ?_, by simp⟩
    rw [(hostsL_rise _).2]
    exact List.mem_map.2 ⟨x, hx, rfl⟩
theorem hostsB_length (l : List S42) : (hostsB l).length ≤ l.length := by
  unfold hostsB
  rw [List.length_map]
  exact Nat.le_trans (hostsL_length _) (by rw [List.length_map]; exact Nat.le_refl _)
theorem hostsB_nodup (l : List S42) : (hostsB l).Nodup := (hostsB_rise l).nodup cmpB_is
theorem hostsB_fit {l : List S42} (hf : ∀ x ∈ l, fitS x) : ∀ s ∈ hostsB l, s.size ≤ 140737488351232 := by
  intro s hs
  obtain ⟨x, hx, rfl⟩ := (hostsB_mem l s).1 hs
  exact (hf x hx).2.1

abbrev key (s : ByteArray) : Lit := .string s.data.toList
theorem key_inj {s t : ByteArray} (h : key s = key t) : s = t := by
  have h1 : s.data.toList = t.data.toList := by
    unfold key at h
    injection h
  cases s; cases t
  simp_all
theorem key_is (s : ByteArray) : WideAt.IsKeyLit (key s) := trivial
/-- The map behind k rounds. -/
def numD (l : List ByteArray) : Nat → DataW Unit
  | 0 => .map []
  | k + 1 => (numD l k).put (key (l.getD k ByteArray.empty)) (.lit (.int .i64 k))
theorem numD_tidy (l : List ByteArray) : ∀ k, Tidy (numD l k)
  | 0 => tidy_empty
  | k + 1 => (numD_tidy l k).put (key_is _) _
theorem numD_at {l : List ByteArray} (nd : l.Nodup) (z : DataW Unit) (j : Nat) (hj : j < l.length) : ∀ k, j < k → k ≤ l.length → (numD l k).atKey (key l[j]) z = .lit (.int .i64 j)
  | 0, h, _ => by omega
  | k + 1, h, hk => by
    have hl : l.getD k ByteArray.empty = l[k] := by simp [List.getD, show k < l.length by omega]
    rw [numD, hl]
    by_cases e : j = k
    · subst e
      exact atKey_put_same (numD_tidy l j).isMap (key_is _) _ _
    · rw [atKey_put_other (fun h2 => ?_)]
      · exact numD_at nd z j hj k (by omega) (by omega)
      · have := key_inj h2
        exact absurd this (List.pairwise_iff_getElem.1 nd j k hj (by omega) (by omega))
/-- The number of a text among texts. -/
def numB (l : List ByteArray) (s : ByteArray) : Nat := l.findIdx (fun h => decide (h = s))
theorem numB_lt {l : List ByteArray} {s : ByteArray} (h : s ∈ l) : numB l s < l.length := List.findIdx_lt_length_of_exists ⟨s, h, by simp⟩
theorem numB_get {l : List ByteArray} {s : ByteArray} (h : s ∈ l) : l[numB l s]'(numB_lt h) = s := by
  have := List.findIdx_getElem (p := fun h => decide (h = s)) (w := numB_lt h)
  exact of_decide_eq_true this
theorem numD_num {l : List ByteArray} (nd : l.Nodup) {s : ByteArray} (h : s ∈ l) (z : DataW Unit) : (numD l l.length).atKey (key s) z = .lit (.int .i64 (numB l s)) := by
  have := numD_at nd z (numB l s) (numB_lt h) l.length (numB_lt h) (Nat.le_refl _)
  rw [numB_get h] at this
  exact this
/-- The numbers of spans' hosts. -/
def numsL (l : List S42) : List Int := l.map fun x => (numB (hostsB l) x.f4 : Int)
end Go.Proofs.Ytjgpggjjgimibaa.L

/- hosts.numbers: the map of spans' hosts to their numbers. -/
namespace Go.Proofs.Ytjgpggjjgimibaa.L
open Go.RowKit Go.Proofs.Ytjgpggjjgimibaa.Q Go.Proofs.YtjgpggjjgimibaaW.PrintWords Go.Proofs.YtjgpggjjgimibaaW.PrintLast Go.Proofs.YtjgpggjjgimibaaW.PrintMore Go.Proofs.YtjgpggjjgimibaaW.MapB Go.Maps Go.WideMaps
set_option linter.unusedVariables false

theorem lawStr : Keyed Try.prog 9 := string_keyed Try.underlying9
theorem zeroInt (w : World) : (zeroValue 3).run Try.prog w = .ok (.int .i64 0) w := by kernel_rfl
theorem numD_next (hs : List ByteArray) (x : Int) (h0 : 0 ≤ x) : (numD hs x.toNat).put (key (rdOf ByteArray.empty hs x)) (.lit (.int .i64 x)) = numD hs (x + 1).toNat := by
  rw [show (x + 1).toNat = x.toNat + 1 by omega]
  show _ = (numD hs x.toNat).put _ (.lit (.int .i64 (x.toNat : Int)))
  rw [show (x.toNat : Int) = x by omega]
  rfl
theorem rdOf_mem {α : Type} {d : α} {l : List α} {x : Int} (h0 : 0 ≤ x) (h1 : x < l.length) : rdOf d l x ∈ l := by
  unfold rdOf
  rw [List.getD_eq_getElem?_getD, List.getElem?_eq_getElem (show x.toNat < l.length by omega)]
  exact List.getElem_mem _

set_option maxHeartbeats 4000000 in
set_option maxRecDepth 100000 in
theorem numbers_calls (l0 : List S42) (hl : l0.length ≤ 1759218604441) (hf : ∀ x ∈ l0, fitS x) (A0 : Option Addr) (c0 : Nat) (w : World) (hr0 : Kd.C k42 w A0 l0.length l0) (hc0 : l0.length ≤ c0) :
    Calls Try.prog 55 #[.slice A0 l0.length c0] w fun e w' => e = .returned (.map (some w.heap.size)) ∧ w'.ownsMap Try.prog 9 (plainElem Try.prog 3) w.heap.size (hostsB l0).length (numD (hostsB l0) (hostsB l0).length) ∧ Below w.heap.size w w' := by
  have hmm := @run_makeMap Try.prog
  have Q1 : Aside0 (∀ w1 : World, Below w.heap.size w w1 → Calls Try.prog 45 #[.slice A0 l0.length c0] w1 fun e w' => ∃ v : Value, e = .returned v ∧ Kd.R Kd.string 9 w' w1.heap.size (fun _ => True) v (hostsB l0) ∧ Below w1.heap.size w1 w') := ⟨fun w1 hb => hosts_calls l0 hl A0 c0 w1 (Kd.C_below hr0 hb) hc0⟩
  have HF := Aside0.mk (hostsB_fit hf)
  have HN := Aside0.mk (show (hostsB l0).length ≤ 1759218604441 from Nat.le_trans (hostsB_length l0) hl)
  clear hr0 hc0 hl hf
  generalize hostsB l0 = hs at *
  go_enter Try.func55, Try.ntmps55
  go_wp2_with (go_at_call 45; refine (Q1.out _ ((Below.refl _ _).alloc (Nat.le_refl _) _)).mono ?_; rintro e w1 ⟨v, rfl, ho, hb⟩; have HM := Aside0.mk (map_below (World.ownsMap_made (H := Unit) w Try.prog 9 (plainElem Try.prog 3)) hb); have HB := Aside0.mk (below_step ((Below.refl w.heap.size w).alloc (Nat.le_refl _) (.map #[] 0)) hb); have HO := Aside0.mk (Kd.R_lower ho (show w.heap.size ≤ (w.alloc (.map #[] 0)).heap.size by simp)); clear ho hb; obtain ⟨Av, cv, rfl⟩ := Kd.R_slice HO.out)
  go_loopg [10] hs.length (fun kq v10 w' => ∃ x10 : Int, v10 = .int .i64 x10 ∧ Aside0 (0 ≤ x10 ∧ x10 + kq = hs.length) ∧ Aside0 (Kd.R Kd.string 9 w' w.heap.size (fun _ => True) (.slice Av hs.length cv) hs) ∧ Aside0 (w'.ownsMap Try.prog 9 (plainElem Try.prog 3) w.heap.size x10.toNat (numD hs x10.toNat)) ∧ Aside0 (Below w.heap.size w w'))
  case atStart => exact ⟨0, rfl, ⟨by omega, by omega⟩, HO, HM, HB⟩
  case round =>
    clear HO HM HB
    obtain ⟨x10, rfl, HK, HO, HM, HB⟩ := hrel
    by_cases c1 : x10 < (hs.length : Int)
    · have c1b := decide_eq_true c1
      have p1 : 0 ≤ x10 := HK.out.1
      obtain ⟨ad1, e1, hx1⟩ := Kd.at_string (Kd.R_reads' HO.out).2.2 x10 p1 c1
      cases e1
      have P1 := Aside0.mk p1
      have Q1 := Aside0.mk c1
      have hkey : keyOf Try.prog 9 (.string (rdOf ByteArray.empty hs x10)) = some (key (rdOf ByteArray.empty hs x10)) := keyOf_string_mk Try.underlying9 (Nat.le_trans (HF.out _ (rdOf_mem p1 c1)) (by decide))
      have HKey := Aside0.mk hkey
      clear hkey
      replace p1 := eq_true p1
      replace c1 := eq_true c1
      have W1 := Aside0.mk (show wrap64 (x10 + 1) = x10 + 1 from by unfold wrap64; have := HN.out; have := P1.out; have := Q1.out; omega)
      go_wp2_with (at_mapUpdate; refine wpList_mapUpdate_own _ rfl _ _ _ 73 rfl 9 3 lawStr Try.underlying73 _ w.heap.size x10.toNat _ rfl HM.out ?mN _ _ _ rfl rfl HKey.out _ [] (plainElem_int Try.underlying3 ?mW) ?_; (case mN => have := HN.out; have := Q1.out; show x10.toNat < 9223372036854775807; omega); (case mW => exact WalkArith.wf_i64 (by have := HN.out; have := P1.out; have := Q1.out; omega)); intro w2 hown2 hgrow2; have HM2 := Aside0.mk hown2; have HO2 := Aside0.mk (row_kept HM.out HO.out hgrow2); have HB2 := Aside0.mk (below_map HB.out hgrow2 (Nat.le_refl _) HB.out.size); clear hown2 hgrow2)
      obtain ⟨k1, rfl⟩ : ∃ k1, gk = k1 + 1 := ⟨gk - 1, by have := HK.out; have := Q1.out; omega⟩
      go_roundg k1
      case measure => omega
      case rel =>
        have h2 := HM2.out
        rw [numD_next hs x10 P1.out] at h2
        exact ⟨x10 + 1, by rw [W1.out], ⟨by have := P1.out; omega, by have := HK.out; omega⟩, HO2, ⟨by rw [show (x10 + 1).toNat = x10.toNat + 1 by have := P1.out; omega] at h2 ⊢; exact h2⟩, HB2⟩
    · have c1b := decide_eq_false c1
      have hx : x10.toNat = hs.length := by have := HK.out; omega
      have hm := HM.out
      rw [hx] at hm
      have HM2 := Aside0.mk hm
      clear hm HM
      go_wp2
      go_ret
      exact ⟨rfl, HM2.out, HB.out⟩
theorem rdS_mem {l0 : List S42} {x : Int} (h0 : 0 ≤ x) (h1 : x < l0.length) : rd_T42 l0 x ∈ l0 := rdOf_mem h0 h1
end Go.Proofs.Ytjgpggjjgimibaa.L

/- hosts.Of and hosts.Great: the numbers of spans' hosts. -/
namespace Go.Proofs.Ytjgpggjjgimibaa.L
open Go.RowKit Go.Proofs.Ytjgpggjjgimibaa.Q Go.Proofs.YtjgpggjjgimibaaW.PrintWords Go.Proofs.YtjgpggjjgimibaaW.PrintLast Go.Proofs.YtjgpggjjgimibaaW.PrintMore Go.Proofs.YtjgpggjjgimibaaW.MapB Go.Maps Go.WideMaps
set_option linter.unusedVariables false

theorem numsL_next (l0 : List S42) (x : Int) (h0 : 0 ≤ x) (h1 : x < l0.length) : (numsL l0).take (x + 1).toNat = (numsL l0).take x.toNat ++ [(numB (hostsB l0) (rd_T42 l0 x).f4 : Int)] := by
  have h3 : x.toNat < l0.length := by omega
  rw [show (x + 1).toNat = x.toNat + 1 by omega, List.take_succ_eq_append_getElem (by unfold numsL; rw [List.length_map]; exact h3)]
  congr 2
  unfold numsL
  rw [List.getElem_map]
  simp [rd_T42, List.getD, h3]

set_option maxHeartbeats 4000000 in
set_option maxRecDepth 100000 in
theorem nums_calls (l0 : List S42) (hl : l0.length ≤ 1759218604441) (hf : ∀ x ∈ l0, fitS x) (A0 : Option Addr) (c0 : Nat) (w : World) (hr0 : Kd.C k42 w A0 l0.length l0) (hc0 : l0.length ≤ c0) :
    Calls Try.prog 34 #[.slice A0 l0.length c0] w fun e w' => ∃ v : Value, e = .returned v ∧ Kd.R (Kd.int .i64) 3 w' w.heap.size (fun _ => True) v (numsL l0) ∧ Below w.heap.size w w' := by
  have QN := Aside0.mk (numbers_calls l0 hl hf A0 c0 w hr0 hc0)
  have HR0 := Aside0.mk hr0
  have HL := Aside0.mk hl
  have HF := Aside0.mk hf
  have HB0 := Aside0.mk (Below.refl w.heap.size w)
  have NX := Aside0.mk (numsL_next l0)
  have ND := Aside0.mk (hostsB_nodup l0)
  have HMem : Aside0 (∀ x : Int, 0 ≤ x → x < l0.length → (rd_T42 l0 x).f4 ∈ hostsB l0) := ⟨fun x h0 h1 => (hostsB_mem l0 _).2 ⟨_, rdS_mem h0 h1, rfl⟩⟩
  have HLen := Aside0.mk (show (numsL l0).length = l0.length by unfold numsL; rw [List.length_map])
  clear hr0 hc0 hl hf
  generalize numsL l0 = ns at *
  generalize hostsB l0 = hs at *
  go_enter Try.func34, Try.ntmps34
  go_wp2_with (go_at_call 55; refine QN.out.mono ?_; rintro e w1 ⟨rfl, hm, hb⟩; have HM := Aside0.mk hm; have HB := Aside0.mk hb; clear hm hb)
  go_loopg [4, 11] l0.length (fun kq v4 v11 w' => ∃ x11 : Int, v11 = .int .i64 x11 ∧ Aside0 (0 ≤ x11 ∧ x11 + kq = l0.length) ∧ Aside0 (Kd.R (Kd.int .i64) 3 w' w.heap.size (fun _ => True) v4 (ns.take x11.toNat)) ∧ Aside0 (w'.ownsMap Try.prog 9 (plainElem Try.prog 3) w.heap.size hs.length (numD hs hs.length)) ∧ Aside0 (Below w.heap.size w w'))
  case atStart => exact ⟨0, rfl, ⟨by omega, by omega⟩, ⟨Kd.R_nil _ _ _ _ _⟩, HM, HB⟩
  case round =>
    clear HM HB
    obtain ⟨x11, rfl, HK, HO, HM, HB⟩ := hrel
    by_cases c1 : x11 < (l0.length : Int)
    · have c1b := decide_eq_true c1
      have p1 : 0 ≤ x11 := HK.out.1
      obtain ⟨ad1, e1, hx1_0, hx1_1, hx1_2, hx1_3, hx1_4, hx1_5, hx1_6, hx1_7⟩ := at_T42 HR0.out x11 p1 c1
      cases e1
      replace hx1_0 := (HB.out.cell (World.block_lt_of_cell? w _ hx1_0)).trans hx1_0
      replace hx1_1 := (HB.out.cell (World.block_lt_of_cell? w _ hx1_1)).trans hx1_1
      replace hx1_2 := (HB.out.cell (World.block_lt_of_cell? w _ hx1_2)).trans hx1_2
      replace hx1_3 := (HB.out.cell (World.block_lt_of_cell? w _ hx1_3)).trans hx1_3
      replace hx1_4 := (HB.out.cell (World.block_lt_of_cell? w _ hx1_4)).trans hx1_4
      replace hx1_5 := (HB.out.cell (World.block_lt_of_cell? w _ hx1_5)).trans hx1_5
      replace hx1_6 := (HB.out.cell (World.block_lt_of_cell? w _ hx1_6)).trans hx1_6
      replace hx1_7 := (HB.out.cell (World.block_lt_of_cell? w _ hx1_7)).trans hx1_7
      have P1 := Aside0.mk p1
      have Q1 := Aside0.mk c1
      have HKey := Aside0.mk (keyOf_string_mk Try.underlying9 (s := (rd_T42 l0 x11).f4) (Nat.le_trans (HF.out _ (rdS_mem p1 c1)).2.1 (by decide)))
      have HNum := Aside0.mk (numD_num ND.out (HMem.out x11 p1 c1) (.lit (.int .i64 0)))
      replace p1 := eq_true p1
      replace c1 := eq_true c1
      have W1 := Aside0.mk (show wrap64 (x11 + 1) = x11 + 1 from by unfold wrap64; have := HL.out; have := P1.out; have := Q1.out; omega)
      go_wp2_with (first
        | (at_lookup; refine wpList_lookup_own_int _ rfl _ _ 73 rfl 9 3 .i64 lawStr Try.underlying73 Try.underlying3 (zeroInt _) w.heap.size hs.length _ rfl (HM.out.alloc _) _ _ rfl HKey.out ?_; intro c hat hwc; have HC := Aside0.mk (show c = (numB hs (rd_T42 l0 x11).f4 : Int) by have h := hat.symm.trans HNum.out; injection h with h; injection h); clear hat hwc)
        | ((with_reducible refine gate_builtin (b := .append) (xs := #[.tmp 15, .tmp 20]) rfl ?_); at_builtin; refine Kd.R_append (Kd.int .i64) (w0 := w) w.heap.size rfl (.tmp 15) (.tmp 20) 27 3 (.int .i64 0) 8 rfl Try.underlying27 (by kernel_rfl) rfl (by decide) (by omega) u4 (ns.take x11.toNat) c [.int .i64 c] (fun _ => True) (fun _ => False) rfl ?aX ?aP (fun _ hk => hk.elim) ?aF ?aO ?aB ?aS ?aL ?_; (case aX => first | rfl | (go_simp; done) | (simp; done)); (case aP => exact rfl); (case aB => exact (by repeat (first | (with_reducible first | exact HB.out | apply below_alloc | apply pw_below_drewN | apply below_drew1) | exact HB.out))); (case aF => exact (fun _ _ => trivial)); (case aO => exact (by (with_reducible repeat (first | apply Kd.R_alloc | apply Kd.R_drewN | apply Kd.R_drew)); exact HO.out)); (case aS => exact (below_size (by repeat (first | (with_reducible first | exact HB.out | apply below_alloc | apply pw_below_drewN | apply below_drew1) | exact HB.out)))); (case aL => have := HL.out; have := Q1.out; simp only [List.length_take]; omega); intro v2 w2 ho hb hg hat; have HO2 := Aside0.mk ho; have HB2 := Aside0.mk hb; have HM2 := Aside0.mk (map_kept (HM.out.alloc _) (Kd.R_alloc HO.out _) hg); clear ho hb hg hat))
      obtain ⟨k1, rfl⟩ : ∃ k1, gk = k1 + 1 := ⟨gk - 1, by have := HK.out; have := Q1.out; omega⟩
      go_roundg k1
      case measure => omega
      case rel => exact ⟨x11 + 1, by rw [W1.out], ⟨by have := P1.out; omega, by have := HK.out; omega⟩, ⟨by rw [NX.out x11 P1.out Q1.out, ← HC.out]; exact HO2.out⟩, HM2, HB2⟩
    · have c1b := decide_eq_false c1
      have hx : x11.toNat = ns.length := by have := HK.out; have := HLen.out; omega
      have ho := HO.out
      rw [hx, List.take_length] at ho
      have HO2 := Aside0.mk ho
      clear ho HO
      go_wp2
      go_ret
      exact ⟨_, rfl, HO2.out, HB.out⟩

end Go.Proofs.Ytjgpggjjgimibaa.L

/- bound.Of. -/
namespace Go.Proofs.Ytjgpggjjgimibaa.L
open Go.RowKit Go.Proofs.Ytjgpggjjgimibaa.Q Go.Proofs.YtjgpggjjgimibaaW.PrintWords Go.Proofs.YtjgpggjjgimibaaW.PrintLast Go.Proofs.YtjgpggjjgimibaaW.PrintMore Go.Proofs.YtjgpggjjgimibaaW.MapB Go.Proofs.YtjgpggjjgimibaaW.Lib
set_option linter.unusedVariables false
set_option linter.unusedSimpArgs false

/-- A pair's edges. -/
def edgesAt (m : S42 → Bool) (l : List S42) (nums : List Int) (p : S35) : List S37 :=
  if (gapsB m l p.f0 p.f1).2.2 = true then [⟨rd nums p.f1, rd nums p.f0, (gapsB m l p.f0 p.f1).1, p, false⟩, ⟨rd nums p.f0, rd nums p.f1, (gapsB m l p.f0 p.f1).2.1, p, true⟩] else []
def edgesB (m : S42 → Bool) (l : List S42) (nums : List Int) (ps : List S35) : List S37 := ps.flatMap (edgesAt m l nums)
theorem edgesB_snoc (m : S42 → Bool) (l : List S42) (nums : List Int) (ps : List S35) (p : S35) : edgesB m l nums (ps ++ [p]) = edgesB m l nums ps ++ edgesAt m l nums p := by simp [edgesB]
theorem gapsB_in (m : S42 → Bool) (l : List S42) (c s : Int) (h : (gapsB m l c s).2.2 = true) : 0 ≤ c ∧ c < l.length ∧ 0 ≤ s ∧ s < l.length := by
  unfold gapsB at h
  split at h
  · rename_i h2
    unfold findS at h2
    obtain ⟨h3, h4⟩ := h2
    split at h3
    · rename_i h5
      split at h4
      · rename_i h6
        exact ⟨h5.1, h5.2.1, h6.1, h6.2.1⟩
      · cases h4
    · cases h3
  · cases h
end Go.Proofs.Ytjgpggjjgimibaa.L

/- bound.Of: the walk. -/
namespace Go.Proofs.Ytjgpggjjgimibaa.L
open Go.RowKit Go.Proofs.Ytjgpggjjgimibaa.Q Go.Proofs.YtjgpggjjgimibaaW.PrintWords Go.Proofs.YtjgpggjjgimibaaW.PrintLast Go.Proofs.YtjgpggjjgimibaaW.PrintMore Go.Proofs.YtjgpggjjgimibaaW.MapB Go.Proofs.YtjgpggjjgimibaaW.Lib
set_option linter.unusedVariables false
set_option linter.unusedSimpArgs false

/-- Two edges in a block of their own. -/
theorem two_edges (W : World) (k : Nat) (x y : S37) (h : W.heap[k]? = some (.cells #[.int .i64 x.f0, .int .i64 x.f1, .int .i64 x.f2, .int .i64 x.f3.f0, .int .i64 x.f3.f1, .bool x.f4, .int .i64 y.f0, .int .i64 y.f1, .int .i64 y.f2, .int .i64 y.f3.f0, .int .i64 y.f3.f1, .bool y.f4] 37 (0, 0))) : ReadsRow (fun (e : S37) cs => cs = [.int .i64 e.f0, .int .i64 e.f1, .int .i64 e.f2, .int .i64 e.f3.f0, .int .i64 e.f3.f1, .bool e.f4]) 6 W (some ⟨k, 0, none⟩) 2 [x, y] := by
  refine ⟨rfl, by simp [Go.maxLen], fun _ => ⟨_, rfl, fun j p hj => ?_⟩⟩
  rcases j with _ | _ | j
  · cases hj
    refine ⟨_, rfl, rfl, fun i u hi => ?_⟩
    rcases i with _ | _ | _ | _ | _ | _ | i <;> first | (cases hi; done) | (rw [Addr.add_lit]; exact (blk_cell h _).trans hi)
  · cases hj
    refine ⟨_, rfl, rfl, fun i u hi => ?_⟩
    rcases i with _ | _ | _ | _ | _ | _ | i <;> first | (cases hi; done) | (rw [Addr.add_lit]; exact (blk_cell h _).trans hi)
  · cases hj
theorem edgesB_length (m : S42 → Bool) (l : List S42) (nums : List Int) : ∀ ps : List S35, (edgesB m l nums ps).length ≤ 2 * ps.length
  | [] => by simp [edgesB]
  | p :: ps => by
    have ih := edgesB_length m l nums ps
    have h1 : (edgesAt m l nums p).length ≤ 2 := by unfold edgesAt; split <;> simp
    have h2 : edgesB m l nums (p :: ps) = edgesAt m l nums p ++ edgesB m l nums ps := by simp [edgesB]
    rw [h2, List.length_append, List.length_cons]
    omega
set_option maxHeartbeats 4000000 in
set_option maxRecDepth 100000 in
theorem edges_calls (m : S42 → Bool) (l : List S42) (hm : ∀ s ∈ l, ∃ k, span_May.f k s.f0 s.f1 s.f2 s.f3 s.f4 s.f5 s.f6 s.f7 = some (m s)) (hl : l.length ≤ 1759218604441) (hf : ∀ x ∈ l, fitS x) (ps : List S35) (hp : ps.length ≤ 100000000) (A0 A1 : Option Addr) (c0 c1 : Nat) (w : World) (hr0 : Kd.C k42 w A0 l.length l) (hc0 : l.length ≤ c0) (hr1 : Kd.C k35 w A1 ps.length ps) :
    Calls Try.prog 16 #[.slice A0 l.length c0, .slice A1 ps.length c1] w fun e w' => ∃ v : Value, e = .returned v ∧ Kd.R k37 37 w' w.heap.size (fun _ => True) v (edgesB m l (numsL l) ps) ∧ Below w.heap.size w w' := by
  have HR1 := Aside0.mk hr1
  have HP := Aside0.mk hp
  have HB0 := Aside0.mk (Below.refl w.heap.size w)
  have hnl : (numsL l).length = l.length := by unfold numsL; rw [List.length_map]
  have HNl := Aside0.mk hnl
  have QN := Aside0.mk (nums_calls l hl hf A0 c0 w hr0 hc0)
  have QG := Aside0.mk (fun (p0 p1 : Int) (W : World) (hb : Below w.heap.size w W) => gaps_calls m l hm p0 p1 A0 c0 W (Kd.C_below hr0 hb))
  have HIn := Aside0.mk (fun c s => gapsB_in m l c s)
  clear hr0 hc0 hr1 hp hl hf hm hnl
  generalize hnn : numsL l = nums at *
  clear hnn
  go_enter Try.func16, Try.ntmps16
  go_wp2_with (go_at_call 34; refine QN.out.mono ?_; rintro e w1 ⟨v5, rfl, ho, hb⟩; obtain ⟨A5, c5, rfl⟩ := Kd.R_slice ho; have HO1 := Aside0.mk ho; have HB1 := Aside0.mk hb; clear ho hb)
  go_loopg [6, 18] ps.length (fun kq v6 v18 w' => ∃ x18 : Int, v18 = .int .i64 x18 ∧ Aside0 (0 ≤ x18 ∧ x18 + kq = ps.length) ∧ Aside0 (Kd.R (Kd.int .i64) 3 w' w.heap.size (fun k => some k ≠ v6.ownBlock) (.slice A5 nums.length c5) nums) ∧ Aside0 (Kd.R k37 37 w' w.heap.size (fun k => some k ≠ (Value.slice A5 nums.length c5).ownBlock) v6 (edgesB m l nums (ps.take x18.toNat))) ∧ Aside0 (Below w.heap.size w w'))
  case atStart => exact ⟨0, rfl, ⟨by omega, by omega⟩, ⟨Kd.R_mono HO1.out (fun k _ h => by cases h)⟩, ⟨Kd.R_nil _ _ _ _ _⟩, HB1⟩
  case round =>
    obtain ⟨x18, rfl, HK, HN, HE, HB⟩ := hrel
    by_cases c1 : x18 < (ps.length : Int)
    · have c1b := decide_eq_true c1
      have p1 : 0 ≤ x18 := HK.out.1
      obtain ⟨ad1, e1, hx0, hx1⟩ := at_T35 HR1.out x18 p1 c1
      cases e1
      replace hx0 := (HB.out.cell (World.block_lt_of_cell? w _ hx0)).trans hx0
      replace hx1 := (HB.out.cell (World.block_lt_of_cell? w _ hx1)).trans hx1
      have hit : x18.toNat < ps.length := by omega
      have HNx := Aside0.mk (show ps.take (x18 + 1).toNat = ps.take x18.toNat ++ [rd_T35 ps x18] from by
        rw [show (x18 + 1).toNat = x18.toNat + 1 by omega, List.take_succ_eq_append_getElem hit]
        simp [rd_T35, List.getD, hit])
      have P1 := Aside0.mk p1
      have Q1 := Aside0.mk c1
      have W1 := Aside0.mk (show wrap64 (x18 + 1) = x18 + 1 from by unfold wrap64; have := HP.out; have := P1.out; have := Q1.out; omega)
      clear hit
      generalize rd_T35 ps x18 = p at *
      replace p1 := eq_true p1
      replace c1 := eq_true c1
      obtain ⟨k1, rfl⟩ : ∃ k1, gk = k1 + 1 := ⟨gk - 1, by have := HK.out; have := Q1.out; omega⟩
      have QP := Aside0.mk (QG.out p.f0 p.f1)
      cases hq : (gapsB m l p.f0 p.f1).2.2 with
      | false =>
        have HEd := Aside0.mk (show edgesAt m l nums p = [] from by unfold edgesAt; rw [hq]; simp)
        rw [hq] at QP
        clear hq
        go_wp2_with (go_at_call 35; refine (QP.out _ (below_alloc HB.out _)).mono ?_; rintro e w2 ⟨rfl, hb⟩; have HB2 := Aside0.mk (below_step (below_alloc HB.out _) hb); have HN2 := Aside0.mk (Kd.R_below (Kd.R_alloc HN.out _) hb); have HE2 := Aside0.mk (Kd.R_below (Kd.R_alloc HE.out _) hb); clear hb)
        go_roundg k1
        case measure => omega
        case rel => exact ⟨x18 + 1, by rw [W1.out], ⟨by have := P1.out; omega, by have := HK.out; omega⟩, HN2, ⟨by rw [HNx.out, edgesB_snoc, HEd.out, List.append_nil]; exact HE2.out⟩, HB2⟩
      | true =>
        obtain ⟨i0, i1, i2, i3⟩ := HIn.out p.f0 p.f1 hq
        have HEd := Aside0.mk (show edgesAt m l nums p = [⟨rd nums p.f1, rd nums p.f0, (gapsB m l p.f0 p.f1).1, p, false⟩, ⟨rd nums p.f0, rd nums p.f1, (gapsB m l p.f0 p.f1).2.1, p, true⟩] from by unfold edgesAt; rw [hq]; simp)
        rw [hq] at QP
        clear hq
        rw [← HNl.out] at i1 i3
        obtain ⟨ad5, e5, hn0⟩ := Kd.at_int (Kd.R_reads' HN.out).2.2 p.f0 i0 i1
        cases e5
        obtain ⟨ad5', e5, hn1⟩ := Kd.at_int (Kd.R_reads' HN.out).2.2 p.f1 i2 i3
        obtain rfl : ad5 = ad5' := by injection e5
        generalize (gapsB m l p.f0 p.f1).1 = lead at *
        generalize (gapsB m l p.f0 p.f1).2.1 = rest at *
        replace i0 := eq_true i0
        replace i1 := eq_true i1
        replace i2 := eq_true i2
        replace i3 := eq_true i3
        go_wp2_with (go_at_call 35; refine (QP.out _ (below_alloc HB.out _)).mono ?_; rintro e w2 ⟨rfl, hb⟩; have HB2 := Aside0.mk (below_step (below_alloc HB.out _) hb); have HN2 := Aside0.mk (Kd.R_below (Kd.R_alloc HN.out _) hb); have HE2 := Aside0.mk (Kd.R_below (Kd.R_alloc HE.out _) hb); have bp := (hb.block wr.heap.size (by simp)).trans (MapKept.heap_alloc wr _).1; have kp0 : w2.cell? ⟨wr.heap.size, 0, none⟩ = some (.int .i64 p.f0) := (blk_cell bp 0).trans rfl; have kp1 : w2.cell? ⟨wr.heap.size, 1, none⟩ = some (.int .i64 p.f1) := (blk_cell bp 1).trans rfl; have h5 := (hb.cell (World.block_lt_of_cell? _ _ (((below_alloc (Below.refl wr.heap.size wr) (.cells #[.int .i64 p.f0, .int .i64 p.f1] 35)).cell (World.block_lt_of_cell? wr _ hn0)).trans hn0))).trans (((below_alloc (Below.refl wr.heap.size wr) (.cells #[.int .i64 p.f0, .int .i64 p.f1] 35)).cell (World.block_lt_of_cell? wr _ hn0)).trans hn0); have h6 := (hb.cell (World.block_lt_of_cell? _ _ (((below_alloc (Below.refl wr.heap.size wr) (.cells #[.int .i64 p.f0, .int .i64 p.f1] 35)).cell (World.block_lt_of_cell? wr _ hn1)).trans hn1))).trans (((below_alloc (Below.refl wr.heap.size wr) (.cells #[.int .i64 p.f0, .int .i64 p.f1] 35)).cell (World.block_lt_of_cell? wr _ hn1)).trans hn1); clear hb bp)
        go_quiet (fail)
        go_wp2_with (first | ((with_reducible refine gate_builtin (b := .append) (xs := #[.tmp 41, .tmp 52]) rfl ?_); at_builtin; refine Kd.R_append_rows k37 (Rr := fun (e : S37) cs => cs = [.int .i64 e.f0, .int .i64 e.f1, .int .i64 e.f2, .int .i64 e.f3.f0, .int .i64 e.f3.f1, .bool e.f4]) (w0 := w) w.heap.size rfl (.tmp 41) (.tmp 52) 30 37 (.agg #[.int .i64 0, .int .i64 0, .int .i64 0, .int .i64 0, .int .i64 0, .bool false]) 48 rfl Try.underlying30 (by kernel_rfl) rfl (by decide) (by omega) u6 (edgesB m l nums (ps.take x18.toNat)) [⟨rd nums p.f1, rd nums p.f0, lead, p, false⟩, ⟨rd nums p.f0, rd nums p.f1, rest, p, true⟩] _ _ _ (fun k => some k ≠ (Value.slice (some ad5) nums.length c5).ownBlock) (fun _ => False) rfl rfl ?aO ?aR ?aK (fun _ h => h.elim) ?aF ?aB ?aS ?aL ?_; (case aO => exact Kd.R_alloc (Kd.R_drewN HE2.out _) _); (case aR => exact two_edges _ _ ⟨rd nums p.f1, rd nums p.f0, lead, p, false⟩ ⟨rd nums p.f0, rd nums p.f1, rest, p, true⟩ (MapKept.heap_alloc _ _).1); (case aK => intro x cs h; rw [h]; exact k37_mkM _ _ _ x); (case aF => intro k hk h; have e : k = ad5.block := Option.some.inj h; have h7 := World.block_lt_of_cell? w2 _ h5; rw [add_block] at h7; have h8 : w2.heap.size ≤ k := Nat.le_trans (by simp) hk; omega); (case aB => exact below_alloc (pw_below_drewN HB2.out _) _); (case aS => exact (below_alloc (pw_below_drewN HB2.out _) _).size); (case aL => have h1 := edgesB_length m l nums (ps.take x18.toNat); rw [List.length_take] at h1; have h2 := HP.out; omega); intro v7 w7 ho hb hg hat; have HO7 := Aside0.mk ho; have HB7 := Aside0.mk hb; have HN7 := Aside0.mk (Kd.R_after (v := u6) (v1 := v7) (ok := (fun _ => True)) (Kd.R_alloc (Kd.R_drewN (Kd.R_mono HN2.out (fun _ hk => ⟨trivial, hk⟩)) _) _) hg hat); clear ho hb hg hat))
        go_roundg k1
        case measure => omega
        case rel => exact ⟨x18 + 1, by rw [W1.out], ⟨by have := P1.out; omega, by have := HK.out; omega⟩, ⟨Kd.R_mono HN7.out (fun _ hk => hk.2)⟩, ⟨by rw [HNx.out, edgesB_snoc, HEd.out]; exact HO7.out⟩, HB7⟩
    · have c1b := decide_eq_false c1
      have hx : x18.toNat = ps.length := by have := HK.out; omega
      have ho := HE.out
      rw [hx, List.take_length] at ho
      have HO := Aside0.mk (Kd.R_mono ho (fun _ _ => trivial))
      clear ho hx c1
      go_wp2_with fail
      go_ret
      exact ⟨_, rfl, HO.out, HB.out⟩
end Go.Proofs.Ytjgpggjjgimibaa.L

