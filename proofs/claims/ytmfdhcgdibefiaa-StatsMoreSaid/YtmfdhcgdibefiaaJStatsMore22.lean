/- Texts joined by wip/tools/merge.py: Qx0 LibB ArrP CovP CovA Shelf CovS CovG CovH FunV. -/
import Derived.Test.YtmfdhcgdibefiaaProg
import Derived.Below
import Derived.Deep.Draws
import Derived.Deep.AppendLies
import Derived.Maps.AppendAt
import Derived.OwnWalk
import Derived.Laws.BytesArg
import Derived.Laws.MakeOwn
import Derived.Laws.OwnMore
import Derived.Deep.OwnRows
import Derived.Tactics
import Derived.Lib.ConvBytes
import Derived.Laws.Slices
import Derived.WalkKit
import Derived.KernelRfl
import Derived.RowKit3
import Derived.Deep.LoopGhost
import Derived.Deep.QuietTactic
import Derived.BigQuiet
import Derived.WideLaws
import Derived.Deep.DeepCutAuto
import Derived.Deep.CutBlock
import Derived.Deep.RegionHeld3
import Derived.Laws.Rows
import Derived.Lib.AppendStr
import Derived.ArgAppend
import Derived.Laws.IdiomCopy
import Derived.OrdersHeld
import Derived.Laws.BitsLemmas
import Derived.RowKit
import Derived.Lib.Bytealg
import Derived.Lib.Slices
import Derived.Lib.Strings
import Derived.Lib.Walk
import Derived.Test.YtmfdhcgdibefiaaJStatsMore0
import Derived.Test.YtmfdhcgdibefiaaJStatsMore3
import Derived.Test.YtmfdhcgdibefiaaJStatsMore4
import Derived.Test.YtmfdhcgdibefiaaJStatsMore5
import Derived.Test.YtmfdhcgdibefiaaJStatsMore6
import Derived.Test.YtmfdhcgdibefiaaJStatsMore7
import Derived.Test.YtmfdhcgdibefiaaJStatsMore8
import Derived.Test.YtmfdhcgdibefiaaJStatsMore9
import Derived.Test.YtmfdhcgdibefiaaJStatsMore10
import Derived.Test.YtmfdhcgdibefiaaJStatsMore11
import Derived.Test.YtmfdhcgdibefiaaJStatsMore12
import Derived.Test.YtmfdhcgdibefiaaJStatsMore13
import Derived.Test.YtmfdhcgdibefiaaJStatsMore14
import Derived.Test.YtmfdhcgdibefiaaJStatsMore15
import Derived.Test.YtmfdhcgdibefiaaJStatsMore1
import Derived.Test.YtmfdhcgdibefiaaJStatsMore16
import Derived.Test.YtmfdhcgdibefiaaJStatsMore17
import Derived.Test.YtmfdhcgdibefiaaJStatsMore18
import Derived.Test.YtmfdhcgdibefiaaJStatsMore19
import Derived.Test.YtmfdhcgdibefiaaJStatsMore20
import Derived.Test.YtmfdhcgdibefiaaJStatsMore21
import Derived.Maps.OwnSet
import Derived.Maps.OwnOps
import Derived.Shelf.GgSortFunc.InsertionK
import Derived.Lib.OwnBridge
import Derived.Lib.SliceRun
import Derived.StillTailTactics
import Derived.Sort.Grow
import Derived.Shelf.SlSortCmp.NoneTotal
import Derived.WalkArith
-- Written by wip/tools/gp.py, a program of this session round the kit's printer. Lean checks it.
namespace Go.Proofs.Ytmfdhcgdibefiaa.Q
open Go.RowKit Go.Proofs.YtmfdhcgdibefiaaW.PrintWords Go.Proofs.YtmfdhcgdibefiaaW.PrintLast Go.Proofs.YtmfdhcgdibefiaaW.PrintMore
attribute [local go_sem] max2_int min2_int max_two min_two max_three min_three max_four min_four   -- for this text's walks alone
set_option linter.unusedVariables false
set_option linter.unusedSimpArgs false
def errW : Option Int → Value
  | none => .nilIface
  | some c => .iface 0 (.int .i64 c)
theorem errW_none : errW none = .nilIface := rfl
theorem errW_some (c : Int) : errW (some c) = .iface 0 (.int .i64 c) := rfl

theorem info3 : (Try.prog.info? 3).map (fun i => (i.zero, i.size, i.bytes)) = some (some (.int .i64 0), 1, 8) := by kernel_rfl
-- the values' own types
/-! #### struct type 37 -/
structure S37 where
  f0 : Int
  f1 : Int
  f2 : Int
  f3 : Int
  f4 : ByteArray
  f5 : ByteArray
  f6 : Int
  f7 : Int
def z37 : S37 := ⟨(0 : Int), (0 : Int), (0 : Int), (0 : Int), (⟨#[]⟩ : ByteArray), (⟨#[]⟩ : ByteArray), (0 : Int), (0 : Int)⟩
def k37 : Kd S37 := Kd.iso (Kd.pair (Kd.int .u64) (Kd.pair (Kd.int .u64) (Kd.pair (Kd.int .u64) (Kd.pair (Kd.int .u8) (Kd.pair Kd.string (Kd.pair Kd.string (Kd.pair (Kd.int .i64) (Kd.int .i64)))))))) (fun x : S37 => (x.f0, x.f1, x.f2, x.f3, x.f4, x.f5, x.f6, x.f7))
theorem k37_open {w : World} {x : S37} {cs : List Value} (h : k37.K w x cs) : cs = [.int .u64 x.f0, .int .u64 x.f1, .int .u64 x.f2, .int .u8 x.f3, .string x.f4, .string x.f5, .int .i64 x.f6, .int .i64 x.f7] := by
  obtain ⟨_, _, rfl, rfl, ⟨_, _, rfl, rfl, ⟨_, _, rfl, rfl, ⟨_, _, rfl, rfl, ⟨_, _, rfl, rfl, ⟨_, _, rfl, rfl, ⟨_, _, rfl, rfl, rfl⟩⟩⟩⟩⟩⟩⟩ := h
  exact rfl
theorem k37_mkM (w : World) (base : Nat) (ok : Nat → Prop) (x : S37)  : k37.M w base ok x [.int .u64 x.f0, .int .u64 x.f1, .int .u64 x.f2, .int .u8 x.f3, .string x.f4, .string x.f5, .int .i64 x.f6, .int .i64 x.f7] := ⟨[.int .u64 x.f0], [.int .u64 x.f1, .int .u64 x.f2, .int .u8 x.f3, .string x.f4, .string x.f5, .int .i64 x.f6, .int .i64 x.f7], rfl, rfl, ⟨[.int .u64 x.f1], [.int .u64 x.f2, .int .u8 x.f3, .string x.f4, .string x.f5, .int .i64 x.f6, .int .i64 x.f7], rfl, rfl, ⟨[.int .u64 x.f2], [.int .u8 x.f3, .string x.f4, .string x.f5, .int .i64 x.f6, .int .i64 x.f7], rfl, rfl, ⟨[.int .u8 x.f3], [.string x.f4, .string x.f5, .int .i64 x.f6, .int .i64 x.f7], rfl, rfl, ⟨[.string x.f4], [.string x.f5, .int .i64 x.f6, .int .i64 x.f7], rfl, rfl, ⟨[.string x.f5], [.int .i64 x.f6, .int .i64 x.f7], rfl, rfl, ⟨[.int .i64 x.f6], [.int .i64 x.f7], rfl, rfl, rfl⟩⟩⟩⟩⟩⟩⟩
def rd_T37 (xs : List S37) (i : Int) : S37 := xs.getD i.toNat z37
theorem at_T37 {w : World} {A : Option Addr} {n : Nat} {xs : List S37} (h : Kd.C k37 w A n xs) (i : Int) (h0 : 0 ≤ i) (h1 : i < n) : ∃ ad , A = some ad ∧ w.cell? (ad.add (i.toNat * 8)) = some (.int .u64 (rd_T37 xs i).f0) ∧ w.cell? ⟨(ad.add (i.toNat * 8)).block, (ad.add (i.toNat * 8)).off + 1, none⟩ = some (.int .u64 (rd_T37 xs i).f1) ∧ w.cell? ⟨(ad.add (i.toNat * 8)).block, (ad.add (i.toNat * 8)).off + 2, none⟩ = some (.int .u64 (rd_T37 xs i).f2) ∧ w.cell? ⟨(ad.add (i.toNat * 8)).block, (ad.add (i.toNat * 8)).off + 3, none⟩ = some (.int .u8 (rd_T37 xs i).f3) ∧ w.cell? ⟨(ad.add (i.toNat * 8)).block, (ad.add (i.toNat * 8)).off + 4, none⟩ = some (.string (rd_T37 xs i).f4) ∧ w.cell? ⟨(ad.add (i.toNat * 8)).block, (ad.add (i.toNat * 8)).off + 5, none⟩ = some (.string (rd_T37 xs i).f5) ∧ w.cell? ⟨(ad.add (i.toNat * 8)).block, (ad.add (i.toNat * 8)).off + 6, none⟩ = some (.int .i64 (rd_T37 xs i).f6) ∧ w.cell? ⟨(ad.add (i.toNat * 8)).block, (ad.add (i.toNat * 8)).off + 7, none⟩ = some (.int .i64 (rd_T37 xs i).f7) := by
  obtain ⟨ad, c, e, _, hK, hc0⟩ := Kd.C_get h z37 i h0 h1
  have hc : ∀ j u, c[j]? = some u → w.cell? (ad.add (i.toNat * 8 + j)) = some u := hc0
  obtain rfl := k37_open hK
  exact ⟨ad, e, hc 0 _ rfl, by rw [← add_field _ _ 1 (by omega)]; exact hc 1 _ rfl, by rw [← add_field _ _ 2 (by omega)]; exact hc 2 _ rfl, by rw [← add_field _ _ 3 (by omega)]; exact hc 3 _ rfl, by rw [← add_field _ _ 4 (by omega)]; exact hc 4 _ rfl, by rw [← add_field _ _ 5 (by omega)]; exact hc 5 _ rfl, by rw [← add_field _ _ 6 (by omega)]; exact hc 6 _ rfl, by rw [← add_field _ _ 7 (by omega)]; exact hc 7 _ rfl⟩

end Go.Proofs.Ytmfdhcgdibefiaa.Q

/- Plain words for the pure statements; a map beside rows; a row beside the sort. -/
namespace Go.Proofs.YtmfdhcgdibefiaaW.Lib
open Go.RowKit Go.Proofs.YtmfdhcgdibefiaaW.PrintWords
set_option linter.unusedVariables false

theorem Ev.ite {α : Type} {c : Prop} [Decidable c] {A B : Nat → Option α} {r : α} (h1 : c → Ev A r) (h2 : ¬ c → Ev B r) : Ev (fun k => if c then A k else B k) r := by
  by_cases h : c
  · simpa only [if_pos h] using h1 h
  · simpa only [if_neg h] using h2 h
theorem Ev.pos {α : Type} {c : Prop} [Decidable c] {A B : Nat → Option α} {r : α} (h : c) (h1 : Ev A r) : Ev (fun k => if c then A k else B k) r := Ev.ite (fun _ => h1) (fun h' => absurd h h')
theorem Ev.neg {α : Type} {c : Prop} [Decidable c] {A B : Nat → Option α} {r : α} (h : ¬ c) (h1 : Ev B r) : Ev (fun k => if c then A k else B k) r := Ev.ite (fun h' => absurd h' h) (fun _ => h1)
theorem Ev.const {α : Type} {g : Option α} {r : α} (h : g = some r) : Ev (fun _ => g) r := ⟨0, fun _ _ => h⟩
theorem Ev.cast {α : Type} {g : Nat → Option α} {r r' : α} (h : Ev g r) (e : r = r') : Ev g r' := e ▸ h
theorem Ev.succ {α : Type} {g : Nat → Option α} {r : α} (h : Ev (fun k => g (k + 1)) r) : Ev g r := Ev.step (fun _ => rfl) h
theorem bytesOf_size (s : ByteArray) : (bytesOf s).length = s.size := by simp [bytesOf]
theorem bytesOf_get (s : ByteArray) (i : Nat) (h : i < s.size) : (bytesOf s)[i]'(by rw [bytesOf_size]; exact h) = bt s i := by
  rw [← bt_at s i (by simpa using h)]
  simp [bytesOf, ByteArray.getElem_eq_getElem_data]
theorem bytesOf_drop (s : ByteArray) (i : Nat) (h : i < s.size) : (bytesOf s).drop i = bt s i :: (bytesOf s).drop (i + 1) := by
  rw [← bytesOf_get s i h, ← List.drop_eq_getElem_cons]
theorem wrap_id {i : Int} (h0 : -9223372036854775808 ≤ i) (h1 : i < 9223372036854775808) : wrap64 i = i := by
  unfold wrap64; omega
theorem wf_i64 {x : Int} (h : (Lit.int .i64 x).wf = true) : -9223372036854775808 ≤ x ∧ x < 9223372036854775808 := by
  simp [Lit.wf, IntKind.min, IntKind.max, IntKind.signed, IntKind.bits] at h; omega
end Go.Proofs.YtmfdhcgdibefiaaW.Lib
namespace Go.Proofs.YtmfdhcgdibefiaaW.MapB
open Go.RowKit Go.Proofs.YtmfdhcgdibefiaaW.PrintWords
set_option linter.unusedVariables false
section
variable {H : Type} {P : Program} {k e : TypeId} {R : Value → Option (DataW H × List MemPlace)} {w w1 : World} {b n B : Nat} {D : DataW H}
end
section
open Go.Maps
variable {H : Type} {P : Program} (w : World) {ops : Array Oper} {rest : List Oper} {o : Oper} {a : Act} {Q : Exit → Act → World → Prop}
end
/-! A map that is filled place by place: plain. -/
section
open Go.Maps
variable {α : Type} {key : α → Lit} {d : α}
end
end Go.Proofs.YtmfdhcgdibefiaaW.MapB
namespace Go.Proofs.YtmfdhcgdibefiaaW.RowB
open Go.RowKit Go.Proofs.YtmfdhcgdibefiaaW.PrintWords Go.Sort
set_option linter.unusedVariables false
variable {α : Type} [Inhabited α]

theorem cell_block {w : World} {g : Nat} {cur : Array Value} {e : TypeId} {fr : Nat × Nat} (h : w.heap[g]? = some (.cells cur e fr)) (i : Nat) : w.cell? ⟨g, i, none⟩ = cur[i]? := by simp [World.cell?, h]
theorem frozen_block {w : World} {g : Nat} {cur : Array Value} {e : TypeId} (h : w.heap[g]? = some (.cells cur e (0, 0))) (i : Nat) : w.frozen? ⟨g, i, none⟩ = false := by simp [World.frozen?, h]

theorem holdsK_of {enc : α → List Value} {k : Nat} (hk : ∀ x, (enc x).length = k) {w : World} {g : Nat} {cur : Array Value} {e : TypeId} {l : List α} {xs : List Value}
    (hh : w.heap[g]? = some (.cells cur e (0, 0))) (hx : cur.toList.take (l.length * k) = xs) (hr : Reps (fun x c => c = enc x) k l xs) : HoldsK enc k w g 0 l.toArray := by
  intro j hj
  have hj' : j < l.length * k := by simpa using hj
  have hk0 : 0 < k := by rcases Nat.eq_zero_or_pos k with h | h; · subst h; simp at hj'
                         · exact h
  refine ⟨?_, by rw [Nat.zero_add]; exact frozen_block hh j⟩
  rw [Nat.zero_add, cell_block hh, get_flatK _ _ _ _ (by simpa using hj')]
  have hq : j / k < l.length := Nat.div_lt_of_lt_mul (by rw [Nat.mul_comm]; exact hj')
  have hm : j % k < k := Nat.mod_lt _ hk0
  have h1 := hr.2 (j / k) l[j / k] (List.getElem?_eq_getElem hq)
  have h2 : xs[j]? = (enc l[j / k])[j % k]? := by
    rw [← h1, List.getElem?_take, if_pos hm, List.getElem?_drop, Nat.mul_comm, Nat.div_add_mod]
  rw [← hx, List.getElem?_take, if_pos hj'] at h2
  have h3 : cur[j]? = (enc l[j / k])[j % k]? := by rw [← h2]; simp
  rw [h3]
  have h4 : l.toArray[j / k]! = l[j / k] := by rw [getElem!_pos l.toArray (j / k) (by simpa using hq)]; simp
  rw [h4, List.getElem?_eq_getElem (by rw [hk]; exact hm), getElem!_pos _ _ (by rw [hk]; exact hm)]
  rfl

theorem putCells_size (d : Array Value) (c : Array Value) : (putCells id 0 d c).size = c.size := by simp [putCells]
theorem putCells_get (d : Array Value) (c : Array Value) (j : Nat) (hj : j < c.size) (hd : j < d.size) : (putCells id 0 d c)[j]? = some d[j]! := by
  simp [putCells, hj, hd]

theorem heap_sortWorld {enc : α → List Value} {k n : Nat} {w : World} {g : Nat} {d : Array α} {os : Array Obj} (i : Nat) (hi : i < w.heap.size) :
    (sortWorldK enc k w g 0 n d os).heap[i]? = if i = g then (w.heap[g]?).map (onCells (putCells id 0 (flatK enc k d))) else w.heap[i]? := by
  have h0 : (sortWorldK enc k w g 0 n d os).heap = w.heap.modify g (onCells (putCells id 0 (flatK enc k d))) ++ os := rfl
  rw [h0, Array.getElem?_append_left (by simpa using hi), Array.getElem?_modify]
  by_cases h : g = i
  · subst h; simp
  · rw [if_neg h, if_neg (fun h' => h h'.symm)]

theorem own_sorted {enc : α → List Value} {k n cap base : Nat} (hk : ∀ x, (enc x).length = k) {w : World} {g : Nat} {cur : Array Value} {e : TypeId} {d : Array α} {os : Array Obj}
    (hg : base ≤ g) (hh : w.heap[g]? = some (.cells cur e (0, 0))) (hc : d.size ≤ cap) (hcm : cap ≤ maxLen) (hs : cur.size = cap * k) :
    ∃ inner, (sortWorldK enc k w g 0 n d os).ownsRow base e k (.slice (some ⟨g, 0, none⟩) d.size cap) d.size inner ∧ Reps (fun x c => c = enc x) k d.toList inner := by
  have hlt : g < w.heap.size := (Array.getElem?_eq_some_iff.1 hh).1
  have h1 : (sortWorldK enc k w g 0 n d os).heap[g]? = some (.cells (putCells id 0 (flatK enc k d) cur) e (0, 0)) := by
    rw [heap_sortWorld g hlt, if_pos rfl, hh]; rfl
  have hdk : d.size * k ≤ cap * k := Nat.mul_le_mul_right _ hc
  have hlen : ((putCells id 0 (flatK enc k d) cur).toList.take (d.size * k)).length = d.size * k := by
    rw [List.length_take, Array.length_toList, putCells_size, hs]; omega
  refine ⟨(putCells id 0 (flatK enc k d) cur).toList.take (d.size * k), ⟨hlen, .inr ⟨g, cap, _, rfl, hg, h1, hc, hcm, by rw [putCells_size, hs], rfl⟩⟩, by rw [hlen]; simp, fun j p hp => ?_⟩
  have hj : j < d.size := by simpa using (List.getElem?_eq_some_iff.1 hp).1
  have hpj : d[j]! = p := by
    rw [getElem!_pos d j hj]
    obtain ⟨h2, h3⟩ := List.getElem?_eq_some_iff.1 hp
    rw [← h3]; simp
  have hjk : j * k + k ≤ d.size * k := by rw [← Nat.succ_mul]; exact Nat.mul_le_mul_right _ hj
  apply List.ext_getElem?
  intro r
  by_cases hr : r < k
  · rw [List.getElem?_take, if_pos hr, List.getElem?_drop, List.getElem?_take, if_pos (by omega)]
    have h5 : (putCells id 0 (flatK enc k d) cur).toList[j * k + r]? = (putCells id 0 (flatK enc k d) cur)[j * k + r]? := by simp
    rw [h5, putCells_get _ _ _ (by omega) (by rw [size_flatK]; omega), get_flatK _ _ _ _ (by omega)]
    have e1 : (j * k + r) / k = j := by rw [Nat.mul_comm, Nat.mul_add_div (by omega), Nat.div_eq_of_lt hr, Nat.add_zero]
    have e2 : (j * k + r) % k = r := by rw [Nat.mul_comm, Nat.mul_add_mod, Nat.mod_eq_of_lt hr]
    rw [e1, e2, hpj, List.getElem?_eq_getElem (by rw [hk]; exact hr), getElem!_pos _ _ (by rw [hk]; exact hr)]
  · rw [List.getElem?_eq_none (by rw [List.length_take]; omega), List.getElem?_eq_none (by rw [hk]; omega)]

theorem below_sorted {enc : α → List Value} {k n B : Nat} {w : World} {g : Nat} {d : Array α} {os : Array Obj} (hg : B ≤ g) (hB : B ≤ w.heap.size) : Below B w (sortWorldK enc k w g 0 n d os) := by
  refine ⟨rfl, rfl, rfl, ?_, fun i hi => ?_⟩
  · have h0 : (sortWorldK enc k w g 0 n d os).heap = w.heap.modify g (onCells (putCells id 0 (flatK enc k d))) ++ os := rfl
    rw [h0]; simp
  · rw [heap_sortWorld i (by omega), if_neg (by omega)]
end Go.Proofs.YtmfdhcgdibefiaaW.RowB

/- Rows of arrays of two numbers. -/
namespace Go.Proofs.Ytmfdhcgdibefiaa.L
open Go.RowKit Go.Proofs.YtmfdhcgdibefiaaW.PrintWords Go.Proofs.YtmfdhcgdibefiaaW.PrintLast Go.Proofs.YtmfdhcgdibefiaaW.PrintMore
set_option linter.unusedVariables false

abbrev kP : Kd (Int × Int) := Kd.pair (Kd.int .i64) (Kd.int .i64)
theorem kP_open {w : World} {x : Int × Int} {cs : List Value} (h : kP.K w x cs) : cs = [.int .i64 x.1, .int .i64 x.2] := by
  obtain ⟨_, _, rfl, rfl, rfl⟩ := h
  exact rfl
theorem kP_openM {w : World} {base : Nat} {ok : Nat → Prop} {x : Int × Int} {cs : List Value} (h : kP.M w base ok x cs) : cs = [.int .i64 x.1, .int .i64 x.2] := by
  obtain ⟨_, _, rfl, rfl, rfl⟩ := h
  exact rfl
theorem kP_mkM (w : World) (base : Nat) (ok : Nat → Prop) (x : Int × Int) : kP.M w base ok x [.int .i64 x.1, .int .i64 x.2] := ⟨[.int .i64 x.1], [.int .i64 x.2], rfl, rfl, rfl⟩
def rdP (xs : List (Int × Int)) (i : Int) : Int × Int := xs.getD i.toNat (0, 0)
theorem at_P {w : World} {A : Option Addr} {n : Nat} {xs : List (Int × Int)} (h : Kd.C kP w A n xs) (i : Int) (h0 : 0 ≤ i) (h1 : i < n) : ∃ ad, A = some ad ∧ w.cell? (ad.add (i.toNat * 2)) = some (.int .i64 (rdP xs i).1) ∧ w.cell? ⟨(ad.add (i.toNat * 2)).block, (ad.add (i.toNat * 2)).off + 1, none⟩ = some (.int .i64 (rdP xs i).2) := by
  obtain ⟨ad, c, e, _, hK, hc0⟩ := Kd.C_get h (0, 0) i h0 h1
  have hc : ∀ j u, c[j]? = some u → w.cell? (ad.add (i.toNat * 2 + j)) = some u := hc0
  obtain rfl := kP_open hK
  exact ⟨ad, e, hc 0 _ rfl, by rw [← add_field _ _ 1 (by omega)]; exact hc 1 _ rfl⟩
end Go.Proofs.Ytmfdhcgdibefiaa.L

/- What stretches cover, plain: how many numbers; by stretches in order of their starts, and by neighbouring ends. -/
namespace Go.Proofs.Ytmfdhcgdibefiaa.L
set_option linter.unusedVariables false

/-- How many of n numbers from a on have p. -/
def cnt (p : Int → Bool) (a : Int) : Nat → Nat
  | 0 => 0
  | n + 1 => cnt p a n + if p (a + (n : Int)) = true then 1 else 0
theorem cnt_add (p : Int → Bool) (a : Int) (m : Nat) : ∀ n, cnt p a (m + n) = cnt p a m + cnt p (a + (m : Int)) n
  | 0 => rfl
  | n + 1 => by
    show cnt p a (m + n) + (if p (a + ((m + n : Nat) : Int)) = true then 1 else 0) = cnt p a m + (cnt p (a + (m : Int)) n + (if p (a + (m : Int) + (n : Int)) = true then 1 else 0))
    rw [cnt_add p a m n, show a + ((m + n : Nat) : Int) = a + (m : Int) + (n : Int) by omega]
    omega
theorem cnt_congr {p q : Int → Bool} {a : Int} : ∀ {n : Nat}, (∀ x : Int, a ≤ x → x < a + n → p x = q x) → cnt p a n = cnt q a n
  | 0, _ => rfl
  | n + 1, h => by
    simp only [cnt]
    rw [cnt_congr (n := n) (fun x h0 h1 => h x h0 (by omega)), h (a + n) (by omega) (by omega)]
theorem cnt_all {p : Int → Bool} {a : Int} : ∀ {n : Nat}, (∀ x : Int, a ≤ x → x < a + n → p x = true) → cnt p a n = n
  | 0, _ => rfl
  | n + 1, h => by
    simp only [cnt]
    rw [cnt_all (n := n) (fun x h0 h1 => h x h0 (by omega)), h (a + n) (by omega) (by omega)]
    rfl
theorem cnt_no {p : Int → Bool} {a : Int} : ∀ {n : Nat}, (∀ x : Int, a ≤ x → x < a + n → p x = false) → cnt p a n = 0
  | 0, _ => rfl
  | n + 1, h => by
    simp only [cnt]
    rw [cnt_no (n := n) (fun x h0 h1 => h x h0 (by omega)), h (a + n) (by omega) (by omega)]
    rfl
theorem cnt_le {p q : Int → Bool} {a : Int} : ∀ {n : Nat}, (∀ x : Int, p x = true → q x = true) → cnt p a n ≤ cnt q a n
  | 0, _ => Nat.le_refl _
  | n + 1, h => by
    have ih := cnt_le (n := n) (a := a) h
    have := h (a + n)
    simp only [cnt]
    by_cases c : p (a + n) = true
    · rw [if_pos c, if_pos (this c)]; omega
    · rw [if_neg c]; omega
theorem cnt_or (p q : Int → Bool) (a : Int) : ∀ n : Nat, cnt (fun x => p x || q x) a n ≤ cnt p a n + cnt q a n
  | 0 => Nat.le_refl _
  | n + 1 => by
    have ih := cnt_or p q a n
    simp only [cnt]
    by_cases c : p (a + n) = true <;> by_cases d : q (a + n) = true <;> simp [c, d] <;> omega
/-- How many from a to ahead of b. -/
def btw (p : Int → Bool) (a b : Int) : Nat := cnt p a (b - a).toNat
theorem btw_add (p : Int → Bool) {a b c : Int} (h : a ≤ b) (h2 : b ≤ c) : btw p a c = btw p a b + btw p b c := by
  unfold btw
  rw [show (c - a).toNat = (b - a).toNat + (c - b).toNat by omega, cnt_add, show a + (((b - a).toNat : Nat) : Int) = b by omega]
theorem btw_congr {p q : Int → Bool} {a b : Int} (h : ∀ x, a ≤ x → x < b → p x = q x) : btw p a b = btw q a b := cnt_congr fun x h0 h1 => h x h0 (by omega)
theorem btw_all {p : Int → Bool} {a b : Int} (h : ∀ x, a ≤ x → x < b → p x = true) : btw p a b = (b - a).toNat := cnt_all fun x h0 h1 => h x h0 (by omega)
theorem btw_no {p : Int → Bool} {a b : Int} (h : ∀ x, a ≤ x → x < b → p x = false) : btw p a b = 0 := cnt_no fun x h0 h1 => h x h0 (by omega)
theorem btw_le_len (p : Int → Bool) (a b : Int) : btw p a b ≤ (b - a).toNat := by
  have h : btw (fun _ => true) a b = (b - a).toNat := btw_all (fun _ _ _ => rfl)
  rw [← h]
  exact cnt_le fun _ _ => rfl

/-- Is a number within one of the stretches? -/
def covB (l : List (Int × Int)) (x : Int) : Bool := l.any fun s => decide (s.1 ≤ x) && decide (x < s.2)
theorem covB_iff {l : List (Int × Int)} {x : Int} : covB l x = true ↔ ∃ s ∈ l, s.1 ≤ x ∧ x < s.2 := by
  unfold covB
  rw [List.any_eq_true]
  exact ⟨fun ⟨s, h, h2⟩ => ⟨s, h, by simpa using h2⟩, fun ⟨s, h, h2⟩ => ⟨s, h, by simpa using h2⟩⟩
theorem covB_snoc (l : List (Int × Int)) (s : Int × Int) (x : Int) : covB (l ++ [s]) x = (covB l x || (decide (s.1 ≤ x) && decide (x < s.2))) := by
  unfold covB; rw [List.any_append]; simp
abbrev loI : Int := -9223372036854775808
abbrev hiI : Int := 9223372036854775807
/-- How many numbers stretches cover. -/
def coverN (l : List (Int × Int)) : Nat := btw (covB l) loI hiI
def inI (s : Int × Int) : Prop := loI ≤ s.1 ∧ s.1 ≤ hiI ∧ loI ≤ s.2 ∧ s.2 ≤ hiI
instance : DecidablePred inI := fun s => by unfold inI; infer_instance
theorem coverN_lt (l : List (Int × Int)) : coverN l < 18446744073709551616 := Nat.lt_of_le_of_lt (btw_le_len _ _ _) (by decide)
/-- One more stretch, behind those that start no later: the sum, and the end. -/
def covStep (z : Int × Int) (s : Int × Int) : Int × Int := if max s.1 z.2 < s.2 then (z.1 + (s.2 - max s.1 z.2), s.2) else z
structure CovInv (pre : List (Int × Int)) (z : Int × Int) : Prop where
  sum : z.1 = (coverN pre : Int)
  lo : loI ≤ z.2
  hi : z.2 ≤ hiI
  above : ∀ x, covB pre x = true → x < z.2
  from_ : z.2 = loI ∨ ∃ t ∈ pre, t.2 = z.2
theorem covInv_nil : CovInv [] (0, loI) := by
  refine ⟨?_, by simp, by decide, ?_, .inl rfl⟩
  · show (0 : Int) = (coverN [] : Int)
    have : coverN [] = 0 := btw_no (fun _ _ _ => rfl)
    rw [this]; rfl
  · intro x h; simp [covB] at h
theorem covInv_step {pre : List (Int × Int)} {z : Int × Int} {s : Int × Int} (h : CovInv pre z) (hs : inI s) (ho : ∀ t ∈ pre, t.1 ≤ s.1) : CovInv (pre ++ [s]) (covStep z s) := by
  obtain ⟨s1, s2⟩ := s
  obtain ⟨z1, e⟩ := z
  obtain ⟨hsum, hlo, hhi, habove, hfrom⟩ := h
  obtain ⟨i1, i2, i3, i4⟩ := hs
  dsimp only at *
  have inner : ∀ x, s1 ≤ x → x < e → covB pre x = true := by
    intro x h0 h1
    rcases hfrom with h | ⟨t, ht, h⟩
    · omega
    · exact covB_iff.2 ⟨t, ht, by have := ho t ht; omega, by omega⟩
  have outer : ∀ x, e ≤ x → covB pre x = false := by
    intro x h0
    cases hc : covB pre x with
    | false => rfl
    | true => have := habove x hc; omega
  by_cases c : max s1 e < s2
  · have hst : covStep (z1, e) (s1, s2) = (z1 + (s2 - max s1 e), s2) := by unfold covStep; rw [if_pos c]
    rw [hst]
    refine ⟨?_, i3, i4, ?_, .inr ⟨(s1, s2), by simp, rfl⟩⟩
    · dsimp only
      have hn : ∀ x, covB (pre ++ [(s1, s2)]) x = (covB pre x || (decide (s1 ≤ x) && decide (x < s2))) := covB_snoc pre (s1, s2)
      have a1 : btw (covB (pre ++ [(s1, s2)])) loI e = btw (covB pre) loI e := btw_congr fun x h0 h1 => by
        rw [hn]
        by_cases d : s1 ≤ x
        · rw [inner x d h1]; rfl
        · rw [decide_eq_false d]; simp
      have a2 : btw (covB (pre ++ [(s1, s2)])) e (max s1 e) = 0 := btw_no fun x h0 h1 => by
        rw [hn, outer x h0, decide_eq_false (show ¬ s1 ≤ x by omega)]; rfl
      have a3 : btw (covB (pre ++ [(s1, s2)])) (max s1 e) s2 = (s2 - max s1 e).toNat := btw_all fun x h0 h1 => by
        rw [hn, decide_eq_true (show s1 ≤ x by omega), decide_eq_true h1]; simp
      have a4 : btw (covB (pre ++ [(s1, s2)])) s2 hiI = 0 := btw_no fun x h0 h1 => by
        rw [hn, outer x (by omega), decide_eq_false (show ¬ x < s2 by omega)]; simp
      have b1 : btw (covB pre) e hiI = 0 := btw_no fun x h0 h1 => outer x h0
      have t1 : coverN (pre ++ [(s1, s2)]) = btw (covB pre) loI e + (s2 - max s1 e).toNat := by
        unfold coverN
        rw [btw_add _ hlo hhi, a1, btw_add _ (show e ≤ max s1 e by omega) (show max s1 e ≤ hiI by omega), a2, btw_add _ (show max s1 e ≤ s2 by omega) i4, a3, a4]
        omega
      have t2 : coverN pre = btw (covB pre) loI e := by
        unfold coverN
        rw [btw_add _ hlo hhi, b1]; rfl
      rw [t1, ← t2, hsum]
      omega
    · intro x hx
      rw [covB_snoc] at hx
      cases hp : covB pre x with
      | true => have := habove x hp; dsimp only; omega
      | false =>
        rw [hp] at hx
        simp at hx
        exact hx.2
  · have hst : covStep (z1, e) (s1, s2) = (z1, e) := by unfold covStep; rw [if_neg c]
    rw [hst]
    have hn : ∀ x, covB (pre ++ [(s1, s2)]) x = covB pre x := by
      intro x
      rw [covB_snoc]
      by_cases d : s1 ≤ x ∧ x < s2
      · rw [inner x d.1 (by omega)]; rfl
      · have : (decide (s1 ≤ x) && decide (x < s2)) = false := by
          rw [Bool.eq_false_iff]; intro h; simp at h; exact d h
        dsimp only
        rw [this]; simp
    refine ⟨?_, hlo, hhi, ?_, ?_⟩
    · have : coverN (pre ++ [(s1, s2)]) = coverN pre := btw_congr fun x _ _ => hn x
      rw [this]; exact hsum
    · intro x hx; rw [hn] at hx; exact habove x hx
    · rcases hfrom with h | ⟨t, ht, h⟩
      · exact .inl h
      · exact .inr ⟨t, List.mem_append_left _ ht, h⟩
theorem fold_inv : ∀ (rest pre : List (Int × Int)) (z : Int × Int), CovInv pre z → (∀ s ∈ rest, inI s) → (pre ++ rest).Pairwise (fun a b => a.1 ≤ b.1) → CovInv (pre ++ rest) (rest.foldl covStep z)
  | [], pre, z, h, _, _ => by rw [List.append_nil]; exact h
  | s :: rest, pre, z, h, hi, hp => by
    have e : pre ++ s :: rest = (pre ++ [s]) ++ rest := by simp
    rw [e]
    refine fold_inv rest (pre ++ [s]) (covStep z s) (covInv_step h (hi s (List.mem_cons_self ..)) ?_) (fun x hx => hi x (List.mem_cons_of_mem _ hx)) (by rw [← e]; exact hp)
    intro t ht
    exact (List.pairwise_append.1 hp).2.2 t ht s (List.mem_cons_self ..)
/-- By stretches in the order of their starts. -/
theorem fold_cover {l : List (Int × Int)} (hi : ∀ s ∈ l, inI s) (hp : l.Pairwise (fun a b => a.1 ≤ b.1)) : (l.foldl covStep (0, loI)).1 = (coverN l : Int) := by
  have h := (fold_inv l [] (0, loI) covInv_nil hi (by simpa using hp)).sum
  simpa using h
/-! What StatsMore says. -/
theorem coverN_congr {l m : List (Int × Int)} (h : ∀ s, s ∈ l ↔ s ∈ m) : coverN l = coverN m := by
  refine btw_congr fun x _ _ => ?_
  rw [Bool.eq_iff_iff, covB_iff, covB_iff]
  exact ⟨fun ⟨s, a, b⟩ => ⟨s, (h s).1 a, b⟩, fun ⟨s, a, b⟩ => ⟨s, (h s).2 a, b⟩⟩
theorem coverN_mono {l m : List (Int × Int)} (h : ∀ s ∈ l, s ∈ m) : coverN l ≤ coverN m :=
  cnt_le fun x hx => by
    obtain ⟨s, a, b⟩ := covB_iff.1 hx
    exact covB_iff.2 ⟨s, h s a, b⟩
theorem coverN_one {s : Int × Int} (hs : inI s) : coverN [s] = (s.2 - s.1).toNat := by
  obtain ⟨s1, s2⟩ := s
  obtain ⟨i1, i2, i3, i4⟩ := hs
  dsimp only at *
  have hn : ∀ x, covB [(s1, s2)] x = (decide (s1 ≤ x) && decide (x < s2)) := fun x => by simp [covB]
  unfold coverN
  by_cases c : s1 ≤ s2
  · rw [btw_add _ i1 i2, btw_add _ c i4, btw_no (a := loI) fun x h0 h1 => by rw [hn, decide_eq_false (show ¬ s1 ≤ x by omega)]; rfl, btw_all fun x h0 h1 => by rw [hn, decide_eq_true h0, decide_eq_true h1]; rfl,
      btw_no (b := hiI) fun x h0 h1 => by rw [hn, decide_eq_false (show ¬ x < s2 by omega)]; simp]
    omega
  · rw [btw_no fun x h0 h1 => by
      rw [hn, Bool.eq_false_iff]
      intro h
      simp at h
      omega]
    omega
theorem coverN_append (l m : List (Int × Int)) : coverN (l ++ m) ≤ coverN l + coverN m := by
  have h : coverN (l ++ m) = btw (fun x => covB l x || covB m x) loI hiI := btw_congr fun x _ _ => by unfold covB; rw [List.any_append]
  rw [h]
  exact cnt_or _ _ _ _
theorem coverN_total : ∀ {l : List (Int × Int)}, (∀ s ∈ l, inI s) → coverN l ≤ (l.map fun s => (s.2 - s.1).toNat).sum
  | [], _ => by rw [show coverN [] = 0 from btw_no (fun _ _ _ => rfl)]; exact Nat.zero_le _
  | s :: l, h => by
    have h1 := coverN_append [s] l
    have h2 := coverN_total (l := l) (fun x hx => h x (List.mem_cons_of_mem _ hx))
    rw [coverN_one (h s (List.mem_cons_self ..))] at h1
    rw [List.map_cons, List.sum_cons]
    exact Nat.le_trans h1 (by omega)
theorem coverN_longest {l : List (Int × Int)} (h : ∀ s ∈ l, inI s) {s : Int × Int} (hs : s ∈ l) : (s.2 - s.1).toNat ≤ coverN l := by
  rw [← coverN_one (h s hs)]
  exact coverN_mono fun x hx => by rw [List.mem_singleton.1 hx]; exact hs
end Go.Proofs.Ytmfdhcgdibefiaa.L

/- slices.Clone of stretches; the order of stretches, as a closure; both by hand. -/
namespace Go.Proofs.Ytmfdhcgdibefiaa.L
open Go.RowKit Go.Proofs.YtmfdhcgdibefiaaW.PrintWords Go.Proofs.YtmfdhcgdibefiaaW.PrintLast Go.Proofs.YtmfdhcgdibefiaaW.PrintMore Go.Proofs.YtmfdhcgdibefiaaW.Lib Go.Proofs.YtmfdhcgdibefiaaW.MapB
set_option linter.unusedVariables false

/-- cmp.Compare of whole numbers. -/
def cmpJ (x y : Int) : Int := if x < y then -1 else if y < x then 1 else 0
theorem cmpI64_calls (x y : Int) (w : World) : Calls Try.prog 39 #[.int .i64 x, .int .i64 y] w fun e w' => e = .returned (.int .i64 (cmpJ x y)) ∧ w' = w := by
  by_cases h1 : x < y
  · have e : cmpJ x y = -1 := by unfold cmpJ; rw [if_pos h1]
    rw [e]; clear e
    go_enter Try.func39, Try.ntmps39
    go_wp2
    go_ret
    exact ⟨rfl, rfl⟩
  · by_cases h2 : y < x
    · have e : cmpJ x y = 1 := by unfold cmpJ; rw [if_neg h1, if_pos h2]
      rw [e]; clear e
      go_enter Try.func39, Try.ntmps39
      go_wp2
      go_ret
      exact ⟨rfl, rfl⟩
    · have e : cmpJ x y = 0 := by unfold cmpJ; rw [if_neg h1, if_neg h2]
      rw [e]; clear e
      go_enter Try.func39, Try.ntmps39
      go_wp2
      go_ret
      exact ⟨rfl, rfl⟩
theorem cloneP_calls (l : List (Int × Int)) (hl : l.length ≤ 1759218604441) (A : Option Addr) (c : Nat) (w : World) (hr : Kd.C kP w A l.length l) (hc : l.length ≤ c) :
    Calls Try.prog 36 #[.slice A l.length c] w fun e w' => ∃ v : Value, e = .returned v ∧ Kd.R kP 26 w' w.heap.size (fun _ => True) v l ∧ Below w.heap.size w w' := by
  have q : ∀ (w : World) (a : Option Addr) (n c n' c' : Nat), (binOp .eql 22 (.slice a n c) (.slice none n' c')).run Try.prog w = .ok (.bool a.isNone) w := fun w a n c n' c' => Go.Lib.run_eql_slice_nil w _ _ a n c n' c' Try.underlying22
  cases A with
  | none =>
    have h0 : l = [] := by
      cases l with
      | nil => rfl
      | cons x l => obtain ⟨ad, h, _⟩ := hr.2.2 (by simp); exact absurd h (by simp)
    subst h0
    go_enter Try.func36, Try.ntmps36
    go_wp2
    go_ret
    exact ⟨_, rfl, Kd.R_nil _ _ _ _ _, Below.refl _ _⟩
  | some ad =>
    have HR0 := Aside0.mk hr
    clear hr
    have HL := Aside0.mk hl
    clear hl
    go_enter Try.func36, Try.ntmps36
    go_wp2_with (first
      | ((with_reducible refine gate_dst (N := 5) rfl ?_); refine Kd.R_lit kP _ 26 ?hg (N := 5) ?hd (xs := ([] : List (Int × Int))) (inner := []) (ok := fun _ => True) (okp := fun _ => True) ?hr ?hp (fun _ hk => hk) trivial (Below.refl _ _) (Nat.le_refl _) (by simp) ?_; (case hd => rfl); (case hg => rfl); (case hr => first | (go_simp; done) | (go_simp; rfl)); (case hp => exact (Reps.none _ _)); intro v1 w1 ho hb hg_ hnew_; clear hg_ hnew_; have HO := Aside0.mk ho; have HB := Aside0.mk hb; clear ho hb)
      | ((with_reducible refine gate_builtin (b := .append) (xs := #[.tmp 5, .tmp 6]) rfl ?_); at_builtin; refine Kd.R_append_rows kP (w0 := w) w.heap.size rfl (.tmp 5) (.tmp 6) 22 26 (.agg #[(.int .i64 0), (.int .i64 0)]) 16 rfl Try.underlying22 (by kernel_rfl) rfl (by decide) (by omega) v1 [] l _ _ _ (fun _ => True) (fun _ => False) rfl rfl ?aO ?aR (fun _ _ h => h) (fun _ h => h.elim) ?aF ?aB ?aS ?aL ?_; (case aR => exact (Kd.C_below HR0.out HB.out)); (case aB => exact HB.out); (case aF => exact (fun _ _ => trivial)); (case aO => exact HO.out); (case aS => exact HB.out.size); (case aL => have := HL.out; simp only [List.length_nil]; omega); intro v2 w2 ho hb hg hat; rw [List.nil_append] at ho; have HB2 := Aside0.mk hb; have HO2 := Aside0.mk ho; clear ho hb hg hat))
    go_ret
    exact ⟨_, rfl, HO2.out, HB2.out⟩
/-- How stretches stand in order. -/
def cmpP (x y : Int × Int) : Int := cmpJ x.1 y.1
set_option maxRecDepth 100000 in
set_option maxHeartbeats 4000000 in
theorem cmpP_grow (a b : Int × Int) (W : World) :
    Calls Try.prog 38 #[.agg #[.int .i64 a.1, .int .i64 a.2], .agg #[.int .i64 b.1, .int .i64 b.2]] W
      fun e w' => e = .returned (.int .i64 (cmpP a b)) ∧ ∃ q os', w' = Go.Sort.grow (W.drewN q) os' := by
  obtain ⟨a0, a1⟩ := a
  obtain ⟨b0, b1⟩ := b
  go_enter Try.func38, Try.ntmps38
  go_wp2_with (go_at_call 39; refine (cmpI64_calls _ _ _).mono ?_; rintro e w1 ⟨rfl, rfl⟩)
  go_ret
  obtain ⟨os, ho⟩ : ∃ os, (W.alloc (.cells #[.int .i64 a0, .int .i64 a1] 26)).alloc (.cells #[.int .i64 b0, .int .i64 b1] 26) = Go.Sort.grow W os := ⟨_, by rw [Go.Sort.alloc_eq_grow, Go.Sort.alloc_eq_grow, Go.Sort.grow_grow]⟩
  exact ⟨rfl, 0, os, ho⟩
end Go.Proofs.Ytmfdhcgdibefiaa.L

/- Contracts of the library at this translation: for each the table of numbers, and that the bodies are those that the contract was proved of. -/
namespace Go.Proofs
open Go.Shelf
def Try.sortCov_ren : Go.Shelf.Ren := ⟨fun | 6 => 37 | 15 => 91 | 14 => 90 | 28 => 141 | 29 => 142 | 20 => 133 | 21 => 134 | 22 => 135 | 23 => 136 | 24 => 137 | 25 => 138 | 26 => 139 | 27 => 140 | 46 => 168 | 47 => 169 | 48 => 170 | 49 => 171 | 50 => 172 | 57 => 181 | n => n, fun | 22 => 22 | 24 => 26 | 25 => 78 | 3 => 3 | 39 => 151 | 0 => 0 | 53 => 198 | 55 => 24 | 4 => 4 | 46 => 192 | 45 => 191 | 50 => 169 | 5 => 5 | 9 => 9 | 66 => 220 | 70 => 224 | 76 => 231 | 77 => 232 | n => n, fun | n => n⟩
theorem Try.sortCov : Go.Proofs.SlLaysF0.n6 Try.prog Try.sortCov_ren := {
  mixed := by kernel_rfl
  f6 := ⟨Try.f37.name, by decide, Try.func37.trans (congrArg some (by kernel_rfl))⟩
  f14 := ⟨Try.f90.name, by decide, Try.func90.trans (congrArg some (by kernel_rfl))⟩
  f15 := Try.func91.trans (congrArg some (by kernel_rfl))
  f20 := ⟨Try.f133.name, by decide, Try.func133.trans (congrArg some (by kernel_rfl))⟩
  f21 := ⟨Try.f134.name, by decide, Try.func134.trans (congrArg some (by kernel_rfl))⟩
  f22 := ⟨Try.f135.name, by decide, Try.func135.trans (congrArg some (by kernel_rfl))⟩
  f23 := ⟨Try.f136.name, by decide, Try.func136.trans (congrArg some (by kernel_rfl))⟩
  f24 := ⟨Try.f137.name, by decide, Try.func137.trans (congrArg some (by kernel_rfl))⟩
  f25 := ⟨Try.f138.name, by decide, Try.func138.trans (congrArg some (by kernel_rfl))⟩
  f26 := ⟨Try.f139.name, by decide, Try.func139.trans (congrArg some (by kernel_rfl))⟩
  f27 := ⟨Try.f140.name, by decide, Try.func140.trans (congrArg some (by kernel_rfl))⟩
  f28 := Try.func141.trans (congrArg some (by kernel_rfl))
  f29 := Try.func142.trans (congrArg some (by kernel_rfl))
  f46 := ⟨Try.f168.name, by decide, Try.func168.trans (congrArg some (by kernel_rfl))⟩
  f47 := Try.func169.trans (congrArg some (by kernel_rfl))
  f48 := Try.func170.trans (congrArg some (by kernel_rfl))
  f49 := ⟨Try.f171.name, by decide, Try.func171.trans (congrArg some (by kernel_rfl))⟩
  f50 := ⟨Try.f172.name, by decide, Try.func172.trans (congrArg some (by kernel_rfl))⟩
  f57 := ⟨Try.f181.name, by decide, Try.func181.trans (congrArg some (by kernel_rfl))⟩
  t0 := Try.underlying0
  a0 := Try.isAgg0
  z0 := Try.sizeOf0
  v0 := Try.zeroValue0
  t3 := Try.underlying3
  a3 := Try.isAgg3
  z3 := Try.sizeOf3
  v3 := Try.zeroValue3
  t4 := Try.underlying4
  a4 := Try.isAgg4
  z4 := Try.sizeOf4
  v4 := Try.zeroValue4
  t5 := Try.underlying5
  a5 := Try.isAgg5
  z5 := Try.sizeOf5
  v5 := Try.zeroValue5
  t9 := Try.underlying9
  a9 := Try.isAgg9
  z9 := Try.sizeOf9
  v9 := Try.zeroValue9
  t22 := Try.underlying22
  a22 := Try.isAgg22
  z22 := Try.sizeOf22
  v22 := Try.zeroValue22
  t25 := Try.underlying78
  a25 := Try.isAgg78
  z25 := Try.sizeOf78
  v25 := Try.zeroValue78
  t39 := Try.underlying151
  a39 := Try.isAgg151
  z39 := Try.sizeOf151
  v39 := Try.zeroValue151
  t45 := Try.underlying191
  a45 := Try.isAgg191
  z45 := Try.sizeOf191
  v45 := Try.zeroValue191
  t46 := Try.underlying192
  a46 := Try.isAgg192
  z46 := Try.sizeOf192
  v46 := Try.zeroValue192
  t50 := Try.underlying169
  a50 := Try.isAgg169
  z50 := Try.sizeOf169
  v50 := Try.zeroValue169
  t53 := Try.underlying198
  a53 := Try.isAgg198
  z53 := Try.sizeOf198
  v53 := Try.zeroValue198
  t55 := Try.underlying24
  a55 := Try.isAgg24
  z55 := Try.sizeOf24
  v55 := Try.zeroValue24
  t66 := Try.underlying220
  a66 := Try.isAgg220
  z66 := Try.sizeOf220
  v66 := Try.zeroValue220
  t70 := Try.underlying224
  a70 := Try.isAgg224
  z70 := Try.sizeOf224
  v70 := Try.zeroValue224
  t76 := Try.underlying231
  a76 := Try.isAgg231
  z76 := Try.sizeOf231
  v76 := Try.zeroValue231
  t77 := Try.underlying232
  a77 := Try.isAgg232
  z77 := Try.sizeOf232
  v77 := Try.zeroValue232 }
end Go.Proofs

/- stats.Cover: the sort of a copy, and the sum. -/
namespace Go.Proofs.Ytmfdhcgdibefiaa.L
open Go.RowKit Go.Proofs.YtmfdhcgdibefiaaW.PrintWords Go.Proofs.YtmfdhcgdibefiaaW.PrintLast Go.Proofs.YtmfdhcgdibefiaaW.PrintMore Go.Proofs.YtmfdhcgdibefiaaW.Lib Go.Proofs.YtmfdhcgdibefiaaW.RowB Go.Sort Go.Lib
set_option linter.unusedVariables false

def encP (x : Int × Int) : List Value := [.int .i64 x.1, .int .i64 x.2]
theorem ltP (x y : Int × Int) : ltOf cmpP x y = decide (x.1 < y.1) := by
  unfold ltOf cmpP cmpJ
  rw [Bool.eq_iff_iff]
  simp only [decide_eq_true_eq]
  split
  · constructor <;> intro _ <;> omega
  · split <;> constructor <;> intro _ <;> omega
theorem swoP : SWO (ltOf cmpP) := by
  refine ⟨fun x => ?_, fun x y z h1 h2 => ?_, fun x y z h1 h2 => ?_⟩
  · rw [ltP]; simp
  · rw [ltP, decide_eq_true_eq] at *; omega
  · rw [ltP, decide_eq_false_iff_not] at *; omega
theorem cmpP_lays (blk off size : Nat) (w : World) : CmpLays Try.prog 38 #[] encP 2 cmpP blk off size w := fun _ _ _ _ x y => cmpP_grow x y _
/-- Arrays that stand in order: as lists. -/
theorem sorted_list {l : List (Int × Int)} {d' : Array (Int × Int)} (hp : PermIn 0 l.toArray.size l.toArray d') (hs : SortedIn (ltOf cmpP) 0 l.toArray.size d') : d'.toList.Perm l ∧ d'.toList.Pairwise (fun a b => a.1 ≤ b.1) := by
  obtain ⟨h1, _, h3⟩ := hp
  have e1 : d'.extract 0 l.toArray.size = d' := by rw [← h1]; exact Array.extract_size
  have e2 : l.toArray.extract 0 l.toArray.size = l.toArray := Array.extract_size
  rw [e1, e2] at h3
  refine ⟨h3, List.pairwise_iff_getElem.2 ?_⟩
  intro i j hi hj hij
  have h := hs i j (Nat.zero_le _) hij (by rw [← h1]; simpa using hj)
  rw [ltP, decide_eq_false_iff_not] at h
  rw [getElem!_pos d' j (by simpa using hj), getElem!_pos d' i (by simpa using hi)] at h
  simp only [Array.getElem_toList]
  omega
set_option maxHeartbeats 1000000 in
theorem sortP_calls (l : List (Int × Int)) (hl : l.length ≤ 1759218604441) (B : Nat) (v : Value) (w : World) (hR : Kd.R kP 26 w B (fun _ => True) v l) (hBs : B ≤ w.heap.size) :
    Calls Try.prog 37 #[v, .func (.func 38) #[] #[]] w fun e w' => e = .returned (.tuple #[]) ∧ ∃ l', l'.Perm l ∧ l'.Pairwise (fun a b => a.1 ≤ b.1) ∧ Kd.R kP 26 w' B (fun _ => True) v l' ∧ Below B w w' := by
  obtain ⟨hok, inner, how, hre⟩ := hR
  have hre' : Reps (fun x c => c = encP x) 2 l inner := hre.imp_ (fun x c h => kP_openM h)
  by_cases h0 : l = []
  · subst h0
    have hv : ∃ p cap, v = .slice p 0 cap := by
      rcases how.2 with ⟨h, _⟩ | ⟨g, cap, cur, h, _⟩
      · exact ⟨none, 0, h⟩
      · exact ⟨_, cap, h⟩
    obtain ⟨p, cap, rfl⟩ := hv
    refine (AnyF.slices_SortFunc_none Try.sortCov p cap (.func (.func 38) #[] #[]) w).mono ?_
    rintro e w' ⟨rfl, rfl⟩
    exact ⟨rfl, [], List.Perm.refl _, List.Pairwise.nil, ⟨hok, inner, how, hre⟩, Below.refl _ _⟩
  · have hpos : 0 < l.length := by
      rcases Nat.eq_zero_or_pos l.length with h | h
      · exact absurd (List.length_eq_zero_iff.1 h) h0
      · exact h
    rcases how.2 with ⟨_, h⟩ | ⟨g, cap, cur, rfl, hg, hh, hcap, hcm, hcs, htake⟩
    · omega
    have hH : HoldsK encP 2 w g 0 l.toArray := holdsK_of (enc := encP) (k := 2) (l := l) (fun _ => rfl) hh htake hre'
    have hlt : g < w.heap.size := (Array.getElem?_eq_some_iff.1 hh).1
    have eg : ∀ args w, (callFunc 38 args).run Try.prog w = .ok (.enter 38 args) w := enters_of Try.func38 (by kernel_rfl) rfl
    have hcon := AnyQ.slices_SortFunc Try.sortCov 2 Try.isAgg26 Try.sizeOf26 encP (fun _ => rfl) (fun x v hv => by simp [encP] at hv; rcases hv with rfl | rfl <;> rfl) cmpP swoP 38 #[] g 0 cap l.toArray w eg (cmpP_lays g 0 l.toArray.size w) hH hlt (by simp; omega)
    have hcon2 : Calls Try.prog 37 #[.slice (some ⟨g, 0, none⟩) l.length cap, .func (.func 38) #[] #[]] w _ := hcon
    refine hcon2.mono ?_
    rintro e w' ⟨rfl, d', n, os, hp, hs, rfl⟩
    obtain ⟨q1, q2⟩ := sorted_list hp hs
    have hds : d'.size = l.length := by have := hp.1; simpa using this
    obtain ⟨inner', how', hre2⟩ := own_sorted (n := n) (os := os) (d := d') (base := B) (enc := encP) (fun _ => rfl) hg hh (by rw [hds]; exact hcap) hcm hcs
    rw [hds] at how'
    refine ⟨rfl, d'.toList, q1, q2, ⟨fun _ _ => trivial, inner', by rw [show d'.toList.length = l.length by simpa using hds]; exact how', ?_⟩, below_sorted hg hBs⟩
    exact hre2.imp_ (fun x c h => by rw [h]; exact kP_mkM _ _ _ x)
end Go.Proofs.Ytmfdhcgdibefiaa.L

/- stats.Cover: how much stretches cover. -/
namespace Go.Proofs.Ytmfdhcgdibefiaa.L
open Go.RowKit Go.Proofs.YtmfdhcgdibefiaaW.PrintWords Go.Proofs.YtmfdhcgdibefiaaW.PrintLast Go.Proofs.YtmfdhcgdibefiaaW.PrintMore Go.Proofs.YtmfdhcgdibefiaaW.Lib
set_option linter.unusedVariables false
attribute [local go_sem] max2_int min2_int max_two min_two   -- for this text's walks alone

def covZ (l : List (Int × Int)) : Int × Int := l.foldl covStep (0, loI)
theorem covZ_inv {l : List (Int × Int)} (hi : ∀ s ∈ l, inI s) (hp : l.Pairwise (fun a b => a.1 ≤ b.1)) (k : Nat) : CovInv (l.take k) (covZ (l.take k)) := by
  have h := fold_inv (l.take k) [] (0, loI) covInv_nil (fun s hs => hi s (List.mem_of_mem_take hs)) (by simpa using hp.sublist (List.take_sublist _ _))
  rw [List.nil_append] at h
  exact h
theorem covZ_next (l : List (Int × Int)) (x : Int) (h0 : 0 ≤ x) (h1 : x < l.length) : covZ (l.take (x + 1).toNat) = covStep (covZ (l.take x.toNat)) (rdP l x) := by
  have hlt : x.toNat < l.length := by omega
  rw [show (x + 1).toNat = x.toNat + 1 by omega, List.take_succ_eq_append_getElem hlt]
  unfold covZ
  rw [List.foldl_append]
  have : rdP l x = l[x.toNat] := by simp [rdP, List.getD, hlt]
  rw [this]
  rfl
theorem rdP_mem {l : List (Int × Int)} {x : Int} (h0 : 0 ≤ x) (h1 : x < l.length) : rdP l x ∈ l := by
  have hlt : x.toNat < l.length := by omega
  have : rdP l x = l[x.toNat] := by simp [rdP, List.getD, hlt]
  rw [this]
  exact List.getElem_mem _

theorem u64_sum {z m s : Int} (h0 : 0 ≤ z) (h1 : m < s) (h2 : loI ≤ m) (h3 : m ≤ hiI) (h4 : loI ≤ s) (h5 : s ≤ hiI) (h6 : z + (s - m) < 18446744073709551616) : IntKind.u64.wrap (z + IntKind.u64.wrap (IntKind.u64.wrap s - IntKind.u64.wrap m)) = z + (s - m) := by
  have hw : ∀ x : Int, IntKind.u64.wrap x = x % 18446744073709551616 := fun x => by simp [IntKind.wrap, IntKind.signed, IntKind.bits]
  rw [hw s, hw m, hw, hw]
  omega
theorem covStep_pos {z1 e s1 s2 m : Int} (hm : max s1 e = m) (c : m < s2) : covStep (z1, e) (s1, s2) = (z1 + (s2 - m), s2) := by
  unfold covStep; dsimp only; rw [hm, if_pos c]
theorem covStep_neg {z1 e s1 s2 m : Int} (hm : max s1 e = m) (c : ¬ m < s2) : covStep (z1, e) (s1, s2) = (z1, e) := by
  unfold covStep; dsimp only; rw [hm, if_neg c]

set_option maxHeartbeats 4000000 in
set_option maxRecDepth 100000 in
theorem cover_calls (l0 : List (Int × Int)) (hl : l0.length ≤ 1759218604441) (hi : ∀ s ∈ l0, inI s) (A0 : Option Addr) (c0 : Nat) (w : World) (hr0 : Kd.C kP w A0 l0.length l0) (hc0 : l0.length ≤ c0) :
    Calls Try.prog 13 #[.slice A0 l0.length c0] w fun e w' => e = .returned (.int .u64 (coverN l0 : Int)) ∧ Below w.heap.size w w' := by
  have QC := Aside0.mk (cloneP_calls l0 hl A0 c0 w hr0 hc0)
  have QS := Aside0.mk (fun v w1 h1 h2 => sortP_calls l0 hl w.heap.size v w1 h1 h2)
  have HL := Aside0.mk hl
  have HI := Aside0.mk hi
  clear hr0 hc0 hl hi
  obtain ⟨r, hr⟩ : ∃ r : Int, (coverN l0 : Int) = r := ⟨_, rfl⟩
  rw [hr]
  have HR := Aside0.mk hr
  clear hr
  go_enter Try.func13, Try.ntmps13
  go_wp2_with (first
    | (go_at_call 36; refine QC.out.mono ?_; rintro e w1 ⟨v, rfl, ho, hb⟩; have HO := Aside0.mk ho; have HB := Aside0.mk hb; clear ho hb)
    | (go_at_call 37; refine (QS.out _ _ HO.out HB.out.size).mono ?_; rintro e w2 ⟨rfl, l1, hp, hq, ho, hb⟩; have HP := Aside0.mk hp; have HQ := Aside0.mk hq; have HB2 := Aside0.mk (HB.out.trans hb); have HN := Aside0.mk hp.length_eq; obtain ⟨Av, cv, rfl⟩ := Kd.R_slice ho; have HO2 := Aside0.mk ho; clear ho hb hp hq))
  have HE := Aside0.mk ((coverN_congr (l := l1) (m := l0) (fun s => HP.out.mem_iff)).symm ▸ HR.out)
  have HI1 := Aside0.mk (fun s hs => HI.out s (HP.out.mem_iff.1 hs) : ∀ s ∈ l1, inI s)
  have HINV := Aside0.mk (fun k => covZ_inv HI1.out HQ.out k)
  have HNX := Aside0.mk (covZ_next l1)
  clear HP HQ HI HR QC QS HO
  go_loopg [4, 5, 15] l1.length (fun kq v4 v5 v15 w' => ∃ x15 : Int, v15 = .int .i64 x15 ∧ v4 = .int .u64 (covZ (l1.take x15.toNat)).1 ∧ v5 = .int .i64 (covZ (l1.take x15.toNat)).2 ∧ Aside0 (0 ≤ x15 ∧ x15 + kq = l1.length) ∧ Aside0 (Below w.heap.size w w') ∧ Aside0 (Kd.R kP 26 w' w.heap.size (fun _ => True) (.slice Av l1.length cv) l1))
  case atStart => exact ⟨0, rfl, rfl, rfl, ⟨by omega, by omega⟩, HB2, HO2⟩
  case round =>
    clear HB2 HO2 HB
    obtain ⟨x15, rfl, rfl, rfl, HK, HB, HO⟩ := hrel
    by_cases c1 : x15 < (l1.length : Int)
    · have c1b := decide_eq_true c1
      have p1 : 0 ≤ x15 := HK.out.1
      obtain ⟨ad1, e1, hx0, hx1⟩ := at_P (Kd.R_reads' HO.out).2.2 x15 p1 c1
      cases e1
      have HS := Aside0.mk (HI1.out _ (rdP_mem p1 c1))
      have HV := Aside0.mk (HINV.out x15.toNat)
      have HX := Aside0.mk (HNX.out x15 p1 c1)
      have HV2 := Aside0.mk (HINV.out (x15 + 1).toNat)
      have P1 := Aside0.mk p1
      have Q1 := Aside0.mk c1
      replace p1 := eq_true p1
      replace c1 := eq_true c1
      have W1 := Aside0.mk (show wrap64 (x15 + 1) = x15 + 1 from by unfold wrap64; have := HN.out; have := HL.out; have := P1.out; have := Q1.out; omega)
      obtain ⟨k1, rfl⟩ : ∃ k1, gk = k1 + 1 := ⟨gk - 1, by have := HK.out; have := Q1.out; omega⟩
      generalize hz : covZ (l1.take x15.toNat) = z at *
      generalize hs : rdP l1 x15 = s at *
      obtain ⟨z1, e⟩ := z
      obtain ⟨s1, s2⟩ := s
      clear hz hs
      dsimp only at hx0 hx1 ⊢
      by_cases c3 : s1 < e
      · have C3 := Aside0.mk c3
        have c3b := decide_eq_true c3
        replace c3 := eq_true c3
        by_cases c2 : e < s2
        · have HY := Aside0.mk (HX.out.trans (covStep_pos (show max s1 e = e by have := C3.out; omega) c2))
          have c2b := decide_eq_true c2
          have C2 := Aside0.mk c2
          have HU := Aside0.mk (u64_sum (z := z1) (m := e) (s := s2) (by have h : z1 = _ := HV.out.sum; omega) c2 (by have := HS.out.1; have := HV.out.lo; dsimp only at *; omega) (by have := HS.out.2.1; have := HV.out.hi; dsimp only at *; omega) HS.out.2.2.1 HS.out.2.2.2 (by have h := HV2.out.sum; rw [HY.out] at h; have h2 := coverN_lt (l1.take (x15 + 1).toNat); dsimp only at h; omega))
          replace c2 := eq_true c2
          go_wp2_with fail
          go_roundg k1
          case measure => omega
          case rel => exact ⟨x15 + 1, by rw [W1.out], by rw [HY.out, HU.out], by rw [HY.out], ⟨by have := P1.out; omega, by have := HK.out; omega⟩, ⟨below_alloc HB.out _⟩, ⟨Kd.R_alloc HO.out _⟩⟩
        · have HY := Aside0.mk (HX.out.trans (covStep_neg (show max s1 e = e by have := C3.out; omega) c2))
          have c2b := decide_eq_false c2
          replace c2 := eq_false c2
          go_wp2_with fail
          go_roundg k1
          case measure => omega
          case rel => exact ⟨x15 + 1, by rw [W1.out], by rw [HY.out], by rw [HY.out], ⟨by have := P1.out; omega, by have := HK.out; omega⟩, ⟨below_alloc HB.out _⟩, ⟨Kd.R_alloc HO.out _⟩⟩
      · have C3 := Aside0.mk c3
        have c3b := decide_eq_false c3
        replace c3 := eq_false c3
        by_cases c2 : s1 < s2
        · have HY := Aside0.mk (HX.out.trans (covStep_pos (show max s1 e = s1 by have := C3.out; omega) c2))
          have c2b := decide_eq_true c2
          have C2 := Aside0.mk c2
          have HU := Aside0.mk (u64_sum (z := z1) (m := s1) (s := s2) (by have h : z1 = _ := HV.out.sum; omega) c2 (by have := HS.out.1; have := HV.out.lo; dsimp only at *; omega) (by have := HS.out.2.1; have := HV.out.hi; dsimp only at *; omega) HS.out.2.2.1 HS.out.2.2.2 (by have h := HV2.out.sum; rw [HY.out] at h; have h2 := coverN_lt (l1.take (x15 + 1).toNat); dsimp only at h; omega))
          replace c2 := eq_true c2
          go_wp2_with fail
          go_roundg k1
          case measure => omega
          case rel => exact ⟨x15 + 1, by rw [W1.out], by rw [HY.out, HU.out], by rw [HY.out], ⟨by have := P1.out; omega, by have := HK.out; omega⟩, ⟨below_alloc HB.out _⟩, ⟨Kd.R_alloc HO.out _⟩⟩
        · have HY := Aside0.mk (HX.out.trans (covStep_neg (show max s1 e = s1 by have := C3.out; omega) c2))
          have c2b := decide_eq_false c2
          replace c2 := eq_false c2
          go_wp2_with fail
          go_roundg k1
          case measure => omega
          case rel => exact ⟨x15 + 1, by rw [W1.out], by rw [HY.out], by rw [HY.out], ⟨by have := P1.out; omega, by have := HK.out; omega⟩, ⟨below_alloc HB.out _⟩, ⟨Kd.R_alloc HO.out _⟩⟩
    · have c1b := decide_eq_false c1
      have hx : x15.toNat = l1.length := by have := HK.out; omega
      have HZ := Aside0.mk (show (covZ l1).1 = r by have h := (HINV.out l1.length).sum; rw [List.take_length] at h; exact h.trans HE.out)
      go_wp2
      go_ret
      exact ⟨by show Ending.returned (.int .u64 (covZ l1).1) = _; rw [HZ.out], HB.out⟩
end Go.Proofs.Ytmfdhcgdibefiaa.L

/- Rows of structs told by pairs. -/
namespace Go.Proofs.Ytmfdhcgdibefiaa.L
open Go.RowKit Go.Proofs.YtmfdhcgdibefiaaW.PrintWords Go.Proofs.YtmfdhcgdibefiaaW.PrintLast Go.Proofs.YtmfdhcgdibefiaaW.PrintMore
set_option linter.unusedVariables false

theorem C_iso {α β : Type} {d : Kd α} {f : β → α} {w : World} {A : Option Addr} {n : Nat} {xs : List β} (h : Kd.C (Kd.iso d f) w A n xs) : Kd.C d w A n (xs.map f) := by
  obtain ⟨h1, h2, h3⟩ := h
  refine ⟨by rw [List.length_map]; exact h1, h2, fun h0 => ?_⟩
  obtain ⟨ad, e, hc⟩ := h3 h0
  refine ⟨ad, e, fun j p hp => ?_⟩
  rw [List.getElem?_map] at hp
  cases hx : xs[j]? with
  | none => rw [hx] at hp; cases hp
  | some x =>
    rw [hx] at hp
    obtain rfl := Option.some.inj hp
    exact hc j x hx
theorem mapI {β : Type} {f : β → Int × Int} {l : List β} (h : ∀ s ∈ l, inI (f s)) : ∀ s ∈ l.map f, inI s := by
  intro s hs
  obtain ⟨x, hx, rfl⟩ := List.mem_map.1 hs
  exact h x hx
end Go.Proofs.Ytmfdhcgdibefiaa.L

/- A call of a function that lies in a variable. -/
namespace Go.Proofs.YtmfdhcgdibefiaaW.FunV
open Go.RowKit Go.Proofs.YtmfdhcgdibefiaaW.PrintWords Go.Proofs.YtmfdhcgdibefiaaW.PrintLast
section
variable {P : Program} {ops : Array Oper} {Q : Exit → Act → World → Prop}
theorem gate_value {rest : List Oper} {o : Oper} {a : Act} {W : World} {x : Operand} {ags : Array Operand} {ts : Array TypeId} (_ho : o.op = .call { callee := .value x, args := ags, argTypes := ts }) (h : wpList P ops Q (o :: rest) a W) : wpList P ops Q (o :: rest) a W := h
theorem goesV_ {rest : List Oper} {oi : Oper} {a : Act} {w : World} (N : Option Tmp) (hd : oi.dst = N) (hg : oi.guard = none) {f : FuncId} {fn : Func} {x : Operand} {ags : Array Operand} {ts : Array TypeId} (hf : P.funcs[f]? = some fn) (hname : (fn.name == "runtime.NumGoroutine") = false) (hb : fn.body.isSome = true) (args : Array Value)
    (hop : oi.op = .call { callee := .value x, args := ags, argTypes := ts }) (hx : a.eval x = .func (.func f) #[] #[]) (hargs : ags.map a.eval = args)
    (h : Calls P f args w fun e w' => ∃ v, e = .returned v ∧ wpList P ops Q rest (a.put N v) w') : wpList P ops Q (oi :: rest) a w := by
  refine wpList_plain hg fun K hK => ?_
  have he := enters_ hf hname hb args w
  have hrun : (execOp a.eval oi).run P w = .ok (.enter f args) w := by
    unfold execOp
    simp [hop, resolve, Deferred.ofValue, invoke, hx, hargs, he]
  unfold Oper.wp
  rw [hrun, Oper.upon_enter]
  refine h.mono fun e w'' hh => ?_
  obtain ⟨v, rfl, hk⟩ := hh
  subst hd
  exact hK _ _ hk
end
end Go.Proofs.YtmfdhcgdibefiaaW.FunV

