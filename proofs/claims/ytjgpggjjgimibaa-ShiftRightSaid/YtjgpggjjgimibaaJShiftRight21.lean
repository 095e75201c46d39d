/- Texts joined by wip/tools/merge.py: Qx0 LibB Qx3 BndA BndB RlxA Bx0 Bx1 RlxB RlxC Xx0 Qx2 BndC BndD Base0. -/
import Derived.Test.YtjgpggjjgimibaaProg
import Derived.Below
import Derived.Deep.Draws
import Derived.Deep.AppendLies
import Derived.Maps.AppendAt
import Derived.OwnWalk
import Derived.Laws.BytesArg
import Derived.Laws.MakeOwn
import Derived.Laws.OwnMore
import Derived.Deep.OwnRows
import Derived.Tactics
import Derived.Lib.ConvBytes
import Derived.Laws.Slices
import Derived.WalkKit
import Derived.KernelRfl
import Derived.RowKit3
import Derived.Deep.LoopGhost
import Derived.Deep.QuietTactic
import Derived.BigQuiet
import Derived.WideLaws
import Derived.Deep.DeepCutAuto
import Derived.Deep.CutBlock
import Derived.Deep.RegionHeld3
import Derived.Laws.Rows
import Derived.Lib.AppendStr
import Derived.ArgAppend
import Derived.Laws.IdiomCopy
import Derived.OrdersHeld
import Derived.Laws.BitsLemmas
import Derived.RowKit
import Derived.Test.YtjgpggjjgimibaaJShiftRight0
import Derived.Test.YtjgpggjjgimibaaJShiftRight1
import Derived.Test.YtjgpggjjgimibaaJShiftRight2
import Derived.Test.YtjgpggjjgimibaaJShiftRight3
import Derived.Test.YtjgpggjjgimibaaJShiftRight4
import Derived.Test.YtjgpggjjgimibaaJShiftRight5
import Derived.Test.YtjgpggjjgimibaaJShiftRight6
import Derived.Test.YtjgpggjjgimibaaJShiftRight7
import Derived.Test.YtjgpggjjgimibaaJShiftRight8
import Derived.Test.YtjgpggjjgimibaaJShiftRight9
import Derived.Test.YtjgpggjjgimibaaJShiftRight10
import Derived.Test.YtjgpggjjgimibaaJShiftRight11
import Derived.Test.YtjgpggjjgimibaaJShiftRight12
import Derived.Test.YtjgpggjjgimibaaJShiftRight13
import Derived.Test.YtjgpggjjgimibaaJShiftRight14
import Derived.Test.YtjgpggjjgimibaaJShiftRight15
import Derived.Test.YtjgpggjjgimibaaJShiftRight16
import Derived.Test.YtjgpggjjgimibaaJShiftRight17
import Derived.Test.YtjgpggjjgimibaaJShiftRight18
import Derived.Test.YtjgpggjjgimibaaJShiftRight19
import Derived.Test.YtjgpggjjgimibaaJShiftRight20
import Derived.Lib.Bytealg
import Derived.Maps.OwnSet
import Derived.Maps.OwnOps
import Derived.Shelf.GgSortFunc.InsertionK
import Derived.Laws.Bits64
import Derived.Laws.Externs
import Derived.WalkSpells
import Derived.Laws.CopyOwn
import Derived.Laws.Bits64b
import Derived.RegionTactic
import Derived.BigRegion
import Derived.Deep.RegionLaw
import Derived.Lib.SlicesCompact
import Derived.Lib.RowBridge
-- Written by wip/tools/gp.py, a program of this session round the kit's printer. Lean checks it.
namespace Go.Proofs.Ytjgpggjjgimibaa.Q
open Go.RowKit Go.Proofs.YtjgpggjjgimibaaW.PrintWords Go.Proofs.YtjgpggjjgimibaaW.PrintLast Go.Proofs.YtjgpggjjgimibaaW.PrintMore
attribute [local go_sem] max2_int min2_int max_two min_two max_three min_three max_four min_four   -- for this text's walks alone
set_option linter.unusedVariables false
set_option linter.unusedSimpArgs false



theorem own_len (A : Option Addr) (n m c d : Nat) : (Value.slice A n c).ownBlock = (Value.slice A m d).ownBlock := by cases A <;> rfl
def errW : Option Int → Value
  | none => .nilIface
  | some c => .iface 0 (.int .i64 c)
theorem errW_none : errW none = .nilIface := rfl
theorem errW_some (c : Int) : errW (some c) = .iface 0 (.int .i64 c) := rfl

theorem info3 : (Try.prog.info? 3).map (fun i => (i.zero, i.size, i.bytes)) = some (some (.int .i64 0), 1, 8) := by kernel_rfl
theorem info27 : (Try.prog.info? 27).map (fun i => (i.zero, i.size, i.bytes)) = some (some (.slice none 0 0), 1, 24) := by kernel_rfl
theorem info33 : (Try.prog.info? 33).map (fun i => (i.zero, i.size, i.bytes)) = some (some (.slice none 0 0), 1, 24) := by kernel_rfl
theorem info35 : (Try.prog.info? 35).map (fun i => (i.zero, i.size, i.bytes)) = some (some (.agg #[(.int .i64 0), (.int .i64 0)]), 2, 16) := by kernel_rfl
-- the values' own types
/-! #### struct type 35 -/
structure S35 where
  f0 : Int
  f1 : Int
def z35 : S35 := ⟨(0 : Int), (0 : Int)⟩
def k35 : Kd S35 := Kd.iso (Kd.pair (Kd.int .i64) (Kd.int .i64)) (fun x : S35 => (x.f0, x.f1))
theorem k35_open {w : World} {x : S35} {cs : List Value} (h : k35.K w x cs) : cs = [.int .i64 x.f0, .int .i64 x.f1] := by
  obtain ⟨_, _, rfl, rfl, rfl⟩ := h
  exact rfl
theorem k35_mkM (w : World) (base : Nat) (ok : Nat → Prop) (x : S35)  : k35.M w base ok x [.int .i64 x.f0, .int .i64 x.f1] := ⟨[.int .i64 x.f0], [.int .i64 x.f1], rfl, rfl, rfl⟩
def rd_T35 (xs : List S35) (i : Int) : S35 := xs.getD i.toNat z35
theorem at_T35 {w : World} {A : Option Addr} {n : Nat} {xs : List S35} (h : Kd.C k35 w A n xs) (i : Int) (h0 : 0 ≤ i) (h1 : i < n) : ∃ ad , A = some ad ∧ w.cell? (ad.add (i.toNat * 2)) = some (.int .i64 (rd_T35 xs i).f0) ∧ w.cell? ⟨(ad.add (i.toNat * 2)).block, (ad.add (i.toNat * 2)).off + 1, none⟩ = some (.int .i64 (rd_T35 xs i).f1) := by
  obtain ⟨ad, c, e, _, hK, hc0⟩ := Kd.C_get h z35 i h0 h1
  have hc : ∀ j u, c[j]? = some u → w.cell? (ad.add (i.toNat * 2 + j)) = some u := hc0
  obtain rfl := k35_open hK
  exact ⟨ad, e, hc 0 _ rfl, by rw [← add_field _ _ 1 (by omega)]; exact hc 1 _ rfl⟩

/-! #### struct type 37 -/
structure S37 where
  f0 : Int
  f1 : Int
  f2 : Int
  f3 : S35
  f4 : Bool
def z37 : S37 := ⟨(0 : Int), (0 : Int), (0 : Int), z35, false⟩
def k37 : Kd S37 := Kd.iso (Kd.pair (Kd.int .i64) (Kd.pair (Kd.int .i64) (Kd.pair (Kd.int .i64) (Kd.pair k35 Kd.bool)))) (fun x : S37 => (x.f0, x.f1, x.f2, x.f3, x.f4))
theorem k37_open {w : World} {x : S37} {cs : List Value} (h : k37.K w x cs) : cs = [.int .i64 x.f0, .int .i64 x.f1, .int .i64 x.f2, .int .i64 x.f3.f0, .int .i64 x.f3.f1, .bool x.f4] := by
  obtain ⟨_, _, rfl, rfl, ⟨_, _, rfl, rfl, ⟨_, _, rfl, rfl, ⟨_, _, rfl, s3, rfl⟩⟩⟩⟩ := h
  obtain rfl := k35_open s3
  exact rfl
theorem k37_mkM (w : World) (base : Nat) (ok : Nat → Prop) (x : S37)  : k37.M w base ok x [.int .i64 x.f0, .int .i64 x.f1, .int .i64 x.f2, .int .i64 x.f3.f0, .int .i64 x.f3.f1, .bool x.f4] := ⟨[.int .i64 x.f0], [.int .i64 x.f1, .int .i64 x.f2, .int .i64 x.f3.f0, .int .i64 x.f3.f1, .bool x.f4], rfl, rfl, ⟨[.int .i64 x.f1], [.int .i64 x.f2, .int .i64 x.f3.f0, .int .i64 x.f3.f1, .bool x.f4], rfl, rfl, ⟨[.int .i64 x.f2], [.int .i64 x.f3.f0, .int .i64 x.f3.f1, .bool x.f4], rfl, rfl, ⟨[.int .i64 x.f3.f0, .int .i64 x.f3.f1], [.bool x.f4], rfl, (k35_mkM w base ok x.f3 ), rfl⟩⟩⟩⟩
def rd_T37 (xs : List S37) (i : Int) : S37 := xs.getD i.toNat z37
theorem at_T37 {w : World} {A : Option Addr} {n : Nat} {xs : List S37} (h : Kd.C k37 w A n xs) (i : Int) (h0 : 0 ≤ i) (h1 : i < n) : ∃ ad , A = some ad ∧ w.cell? (ad.add (i.toNat * 6)) = some (.int .i64 (rd_T37 xs i).f0) ∧ w.cell? ⟨(ad.add (i.toNat * 6)).block, (ad.add (i.toNat * 6)).off + 1, none⟩ = some (.int .i64 (rd_T37 xs i).f1) ∧ w.cell? ⟨(ad.add (i.toNat * 6)).block, (ad.add (i.toNat * 6)).off + 2, none⟩ = some (.int .i64 (rd_T37 xs i).f2) ∧ w.cell? ⟨(ad.add (i.toNat * 6)).block, (ad.add (i.toNat * 6)).off + 3, none⟩ = some (.int .i64 (rd_T37 xs i).f3.f0) ∧ w.cell? ⟨(ad.add (i.toNat * 6)).block, (ad.add (i.toNat * 6)).off + 4, none⟩ = some (.int .i64 (rd_T37 xs i).f3.f1) ∧ w.cell? ⟨(ad.add (i.toNat * 6)).block, (ad.add (i.toNat * 6)).off + 5, none⟩ = some (.bool (rd_T37 xs i).f4) := by
  obtain ⟨ad, c, e, _, hK, hc0⟩ := Kd.C_get h z37 i h0 h1
  have hc : ∀ j u, c[j]? = some u → w.cell? (ad.add (i.toNat * 6 + j)) = some u := hc0
  obtain rfl := k37_open hK
  exact ⟨ad, e, hc 0 _ rfl, by rw [← add_field _ _ 1 (by omega)]; exact hc 1 _ rfl, by rw [← add_field _ _ 2 (by omega)]; exact hc 2 _ rfl, by rw [← add_field _ _ 3 (by omega)]; exact hc 3 _ rfl, by rw [← add_field _ _ 4 (by omega)]; exact hc 4 _ rfl, by rw [← add_field _ _ 5 (by omega)]; exact hc 5 _ rfl⟩

/-! #### struct type 42 -/
structure S42 where
  f0 : Int
  f1 : Int
  f2 : Int
  f3 : Int
  f4 : ByteArray
  f5 : ByteArray
  f6 : Int
  f7 : Int
def z42 : S42 := ⟨(0 : Int), (0 : Int), (0 : Int), (0 : Int), (⟨#[]⟩ : ByteArray), (⟨#[]⟩ : ByteArray), (0 : Int), (0 : Int)⟩
def k42 : Kd S42 := Kd.iso (Kd.pair (Kd.int .u64) (Kd.pair (Kd.int .u64) (Kd.pair (Kd.int .u64) (Kd.pair (Kd.int .u8) (Kd.pair Kd.string (Kd.pair Kd.string (Kd.pair (Kd.int .i64) (Kd.int .i64)))))))) (fun x : S42 => (x.f0, x.f1, x.f2, x.f3, x.f4, x.f5, x.f6, x.f7))
theorem k42_open {w : World} {x : S42} {cs : List Value} (h : k42.K w x cs) : cs = [.int .u64 x.f0, .int .u64 x.f1, .int .u64 x.f2, .int .u8 x.f3, .string x.f4, .string x.f5, .int .i64 x.f6, .int .i64 x.f7] := by
  obtain ⟨_, _, rfl, rfl, ⟨_, _, rfl, rfl, ⟨_, _, rfl, rfl, ⟨_, _, rfl, rfl, ⟨_, _, rfl, rfl, ⟨_, _, rfl, rfl, ⟨_, _, rfl, rfl, rfl⟩⟩⟩⟩⟩⟩⟩ := h
  exact rfl
theorem k42_mkM (w : World) (base : Nat) (ok : Nat → Prop) (x : S42)  : k42.M w base ok x [.int .u64 x.f0, .int .u64 x.f1, .int .u64 x.f2, .int .u8 x.f3, .string x.f4, .string x.f5, .int .i64 x.f6, .int .i64 x.f7] := ⟨[.int .u64 x.f0], [.int .u64 x.f1, .int .u64 x.f2, .int .u8 x.f3, .string x.f4, .string x.f5, .int .i64 x.f6, .int .i64 x.f7], rfl, rfl, ⟨[.int .u64 x.f1], [.int .u64 x.f2, .int .u8 x.f3, .string x.f4, .string x.f5, .int .i64 x.f6, .int .i64 x.f7], rfl, rfl, ⟨[.int .u64 x.f2], [.int .u8 x.f3, .string x.f4, .string x.f5, .int .i64 x.f6, .int .i64 x.f7], rfl, rfl, ⟨[.int .u8 x.f3], [.string x.f4, .string x.f5, .int .i64 x.f6, .int .i64 x.f7], rfl, rfl, ⟨[.string x.f4], [.string x.f5, .int .i64 x.f6, .int .i64 x.f7], rfl, rfl, ⟨[.string x.f5], [.int .i64 x.f6, .int .i64 x.f7], rfl, rfl, ⟨[.int .i64 x.f6], [.int .i64 x.f7], rfl, rfl, rfl⟩⟩⟩⟩⟩⟩⟩
def rd_T42 (xs : List S42) (i : Int) : S42 := xs.getD i.toNat z42
theorem at_T42 {w : World} {A : Option Addr} {n : Nat} {xs : List S42} (h : Kd.C k42 w A n xs) (i : Int) (h0 : 0 ≤ i) (h1 : i < n) : ∃ ad , A = some ad ∧ w.cell? (ad.add (i.toNat * 8)) = some (.int .u64 (rd_T42 xs i).f0) ∧ w.cell? ⟨(ad.add (i.toNat * 8)).block, (ad.add (i.toNat * 8)).off + 1, none⟩ = some (.int .u64 (rd_T42 xs i).f1) ∧ w.cell? ⟨(ad.add (i.toNat * 8)).block, (ad.add (i.toNat * 8)).off + 2, none⟩ = some (.int .u64 (rd_T42 xs i).f2) ∧ w.cell? ⟨(ad.add (i.toNat * 8)).block, (ad.add (i.toNat * 8)).off + 3, none⟩ = some (.int .u8 (rd_T42 xs i).f3) ∧ w.cell? ⟨(ad.add (i.toNat * 8)).block, (ad.add (i.toNat * 8)).off + 4, none⟩ = some (.string (rd_T42 xs i).f4) ∧ w.cell? ⟨(ad.add (i.toNat * 8)).block, (ad.add (i.toNat * 8)).off + 5, none⟩ = some (.string (rd_T42 xs i).f5) ∧ w.cell? ⟨(ad.add (i.toNat * 8)).block, (ad.add (i.toNat * 8)).off + 6, none⟩ = some (.int .i64 (rd_T42 xs i).f6) ∧ w.cell? ⟨(ad.add (i.toNat * 8)).block, (ad.add (i.toNat * 8)).off + 7, none⟩ = some (.int .i64 (rd_T42 xs i).f7) := by
  obtain ⟨ad, c, e, _, hK, hc0⟩ := Kd.C_get h z42 i h0 h1
  have hc : ∀ j u, c[j]? = some u → w.cell? (ad.add (i.toNat * 8 + j)) = some u := hc0
  obtain rfl := k42_open hK
  exact ⟨ad, e, hc 0 _ rfl, by rw [← add_field _ _ 1 (by omega)]; exact hc 1 _ rfl, by rw [← add_field _ _ 2 (by omega)]; exact hc 2 _ rfl, by rw [← add_field _ _ 3 (by omega)]; exact hc 3 _ rfl, by rw [← add_field _ _ 4 (by omega)]; exact hc 4 _ rfl, by rw [← add_field _ _ 5 (by omega)]; exact hc 5 _ rfl, by rw [← add_field _ _ 6 (by omega)]; exact hc 6 _ rfl, by rw [← add_field _ _ 7 (by omega)]; exact hc 7 _ rfl⟩

def rd_L8 (xs : List (List Int)) (i : Int) : (List Int) := xs.getD i.toNat ([] : List Int)
theorem at_L8 {w : World} {A : Option Addr} {n : Nat} {xs : List (List Int)} (h : Kd.C (Kd.slice 2 (Kd.int .i64)) w A n xs) (i : Int) (h0 : 0 ≤ i) (h1 : i < n) : ∃ ad A0 c0, A = some ad ∧ w.cell? (ad.add i.toNat) = some (.slice A0 (rd_L8 xs i).length c0) ∧ (rd_L8 xs i).length ≤ c0 ∧ (Kd.int .i64).C w A0 (rd_L8 xs i).length (rd_L8 xs i) := by
  obtain ⟨ad, c, e, _, hK, hc0⟩ := Kd.C_get h ([] : List Int) i h0 h1
  have hc : ∀ j u, c[j]? = some u → w.cell? (ad.add (i.toNat * 1 + j)) = some u := hc0
  obtain ⟨A0, c0, rfl, l0, g0⟩ := hK
  exact ⟨ad, A0, c0, e, by have hq := hc 0 _ rfl; rwa [Nat.mul_one, Nat.add_zero] at hq, l0, g0⟩

end Go.Proofs.Ytjgpggjjgimibaa.Q

/- Plain words for the pure statements; a map beside rows; a row beside the sort. -/
namespace Go.Proofs.YtjgpggjjgimibaaW.Lib
open Go.RowKit Go.Proofs.YtjgpggjjgimibaaW.PrintWords
set_option linter.unusedVariables false

theorem Ev.ite {α : Type} {c : Prop} [Decidable c] {A B : Nat → Option α} {r : α} (h1 : c → Ev A r) (h2 : ¬ c → Ev B r) : Ev (fun k => if c then A k else B k) r := by
  by_cases h : c
  · simpa only [if_pos h] using h1 h
  · simpa only [if_neg h] using h2 h
theorem Ev.pos {α : Type} {c : Prop} [Decidable c] {A B : Nat → Option α} {r : α} (h : c) (h1 : Ev A r) : Ev (fun k => if c then A k else B k) r := Ev.ite (fun _ => h1) (fun h' => absurd h h')
theorem Ev.neg {α : Type} {c : Prop} [Decidable c] {A B : Nat → Option α} {r : α} (h : ¬ c) (h1 : Ev B r) : Ev (fun k => if c then A k else B k) r := Ev.ite (fun h' => absurd h' h) (fun _ => h1)
theorem Ev.const {α : Type} {g : Option α} {r : α} (h : g = some r) : Ev (fun _ => g) r := ⟨0, fun _ _ => h⟩
theorem Ev.cast {α : Type} {g : Nat → Option α} {r r' : α} (h : Ev g r) (e : r = r') : Ev g r' := e ▸ h
theorem Ev.succ {α : Type} {g : Nat → Option α} {r : α} (h : Ev (fun k => g (k + 1)) r) : Ev g r := Ev.step (fun _ => rfl) h
theorem bytesOf_size (s : ByteArray) : (bytesOf s).length = s.size := by simp [bytesOf]
theorem bytesOf_get (s : ByteArray) (i : Nat) (h : i < s.size) : (bytesOf s)[i]'(by rw [bytesOf_size]; exact h) = bt s i := by
  rw [← bt_at s i (by simpa using h)]
  simp [bytesOf, ByteArray.getElem_eq_getElem_data]
theorem bytesOf_drop (s : ByteArray) (i : Nat) (h : i < s.size) : (bytesOf s).drop i = bt s i :: (bytesOf s).drop (i + 1) := by
  rw [← bytesOf_get s i h, ← List.drop_eq_getElem_cons]
theorem toList_data (s : ByteArray) : s.toList = s.data.toList := by
  exact ByteArray.toList_eq s
theorem toList_inj {s t : ByteArray} : (s.toList == t.toList) = decide (s = t) := by
  rw [Bool.eq_iff_iff]
  simp only [beq_iff_eq, decide_eq_true_eq]
  constructor
  · intro h
    rw [toList_data, toList_data] at h
    cases s; cases t
    simp_all
  · rintro rfl; rfl
theorem wrap_id {i : Int} (h0 : -9223372036854775808 ≤ i) (h1 : i < 9223372036854775808) : wrap64 i = i := by
  unfold wrap64; omega
theorem wf_i64 {x : Int} (h : (Lit.int .i64 x).wf = true) : -9223372036854775808 ≤ x ∧ x < 9223372036854775808 := by
  simp [Lit.wf, IntKind.min, IntKind.max, IntKind.signed, IntKind.bits] at h; omega
end Go.Proofs.YtjgpggjjgimibaaW.Lib
namespace Go.Proofs.YtjgpggjjgimibaaW.MapB
open Go.RowKit Go.Proofs.YtjgpggjjgimibaaW.PrintWords
set_option linter.unusedVariables false
section
variable {H : Type} {P : Program} {k e : TypeId} {R : Value → Option (DataW H × List MemPlace)} {w w1 : World} {b n B : Nat} {D : DataW H}
theorem map_below (h : w.ownsMap P k R b n D) (hb : Below w.heap.size w w1) : w1.ownsMap P k R b n D := by
  have hlt := h.lt
  obtain ⟨es, clock, hh, r⟩ := h
  exact ⟨es, clock, (hb.block b hlt).trans hh, r⟩
theorem map_ne_row (h : w.ownsMap P k R b n D) {base : Nat} {t : TypeId} {size m : Nat} {v : Value} {xs : List Value} (ho : w.ownsRow base t size v m xs) : some b ≠ v.ownBlock := by
  intro he
  obtain ⟨es, clock, hh, _⟩ := h
  obtain ⟨cells, hc⟩ := own_typed ho b he.symm
  rw [hh] at hc
  cases hc
theorem map_kept {α : Type} {d : Kd α} {t : Nat} {base : Nat} {ok : Nat → Prop} {v : Value} {xs : List α} (h : w.ownsMap P k R b n D) (hr : d.R t w base ok v xs) (hg : w.grownBy w1 v.ownBlock) : w1.ownsMap P k R b n D := by
  obtain ⟨_, inner, ho, _⟩ := hr
  exact h.kept hg (map_ne_row h ho)
/-- A row stays while a map is written. -/
theorem row_kept {α : Type} {d : Kd α} {t : Nat} {base : Nat} {v : Value} {xs : List α} (hm : w.ownsMap P k R b n D) (hr : d.R t w base (fun _ => True) v xs) (hg : w.grownBy w1 (some b)) : d.R t w1 base (fun _ => True) v xs := by
  obtain ⟨es, clock, hh, _⟩ := hm
  refine Kd.R_mono (Kd.R_move (Kd.R_bound hr) (fun i hi => hg.block i hi.2.2.1 (fun e => ?_))) (fun _ _ => trivial)
  obtain ⟨_, _, _, q, _, cells, hc⟩ := hi
  obtain rfl : i = b := Option.some.inj e
  rw [hh] at hc
  cases hc
theorem below_map (hB : Below B w w1) {w2 : World} (hg : w1.grownBy w2 (some b)) (hb : B ≤ b) (hs : B ≤ w1.heap.size) : Below B w w2 :=
  hB.grown hg hs (fun j hj => by cases hj; exact hb)
end
section
open Go.Maps
variable {H : Type} {P : Program} (w : World) {ops : Array Oper} {rest : List Oper} {o : Oper} {a : Act} {Q : Exit → Act → World → Prop}
end
/-! A map that is filled place by place: plain. -/
section
open Go.Maps
variable {α : Type} {key : α → Lit} {d : α}
end
end Go.Proofs.YtjgpggjjgimibaaW.MapB
namespace Go.Proofs.YtjgpggjjgimibaaW.RowB
open Go.RowKit Go.Proofs.YtjgpggjjgimibaaW.PrintWords Go.Sort
set_option linter.unusedVariables false
variable {α : Type} [Inhabited α]
end Go.Proofs.YtjgpggjjgimibaaW.RowB

-- Written by wip/tools/gp.py, a program of this session round the kit's printer. Lean checks it.
namespace Go.Proofs.Ytjgpggjjgimibaa.Q
open Go.RowKit Go.Proofs.YtjgpggjjgimibaaW.PrintWords Go.Proofs.YtjgpggjjgimibaaW.PrintLast Go.Proofs.YtjgpggjjgimibaaW.PrintMore
attribute [local go_sem] max2_int min2_int max_two min_two max_three min_three max_four min_four   -- for this text's walks alone
set_option linter.unusedVariables false
set_option linter.unusedSimpArgs false

/-! ### merkhetref01_Name: function 53 -/
mutual
def merkhetref01_Name.j0 : Nat → ByteArray → Bool → Option (Bool)
  | 0, _, _ => none
  | k + 1, x0, x13 => if x13 = true then (some false) else (merkhetref01_Name.l0 k x0 (⟨#[97, 98, 99, 100, 101, 102, 103, 104, 105, 106, 107, 108, 109, 110, 111, 112, 113, 114, 115, 116, 117, 118, 119, 120, 121, 122, 48, 49, 50, 51, 52, 53, 54, 55, 56, 57, 45, 46, 95]⟩ : ByteArray) 0)
def merkhetref01_Name.l0 : Nat → ByteArray → ByteArray → Int → Option (Bool)
  | 0, _, _, _ => none
  | k + 1, x0, x3, x4 => if x4 < (x0.size : Int) then (merkhetref01_Name.l1 k x0 x3 x4 false 0) else (some true)
def merkhetref01_Name.l1 : Nat → ByteArray → ByteArray → Int → Bool → Int → Option (Bool)
  | 0, _, _, _, _, _ => none
  | k + 1, x0, x3, x4, x5, x6 => if x6 < (x3.size : Int) then (if 0 ≤ x6 then (if 0 ≤ x4 then (if x4 < (x0.size : Int) then (if (bt x3 x6) = (bt x0 x4) then (merkhetref01_Name.l1 k x0 x3 x4 true (wrap64 (x6 + 1))) else (merkhetref01_Name.l1 k x0 x3 x4 x5 (wrap64 (x6 + 1)))) else (none)) else (none)) else (none)) else (if x5 = true then (merkhetref01_Name.l0 k x0 x3 (wrap64 (x4 + 1))) else (some false))
end
def merkhetref01_Name.f (k : Nat) (a0 : ByteArray) : Option (Bool) := if a0.toList = ([] : List UInt8) then (merkhetref01_Name.j0 k a0 true) else (merkhetref01_Name.j0 k a0 (decide ((a0.size : Int) > 16)))
theorem merkhetref01_Name.mono_l : ∀ k, (∀ y0 y1, LeO (merkhetref01_Name.j0 k y0 y1) (merkhetref01_Name.j0 (k + 1) y0 y1)) ∧ (∀ y0 y1 y2, LeO (merkhetref01_Name.l0 k y0 y1 y2) (merkhetref01_Name.l0 (k + 1) y0 y1 y2)) ∧ (∀ y0 y1 y2 y3 y4, LeO (merkhetref01_Name.l1 k y0 y1 y2 y3 y4) (merkhetref01_Name.l1 (k + 1) y0 y1 y2 y3 y4))
  | 0 => ⟨fun _ _ r h => by simp [merkhetref01_Name.j0] at h, fun _ _ _ r h => by simp [merkhetref01_Name.l0] at h, fun _ _ _ _ _ r h => by simp [merkhetref01_Name.l1] at h⟩
  | k + 1 => by
    obtain ⟨ih0, ih1, ih2⟩ := merkhetref01_Name.mono_l k
    refine ⟨?_, ?_, ?_⟩
    · intro y0 y1
      unfold merkhetref01_Name.j0
      repeat' first
      | (with_reducible exact ih0 _ _)
      | (with_reducible exact ih1 _ _ _)
      | (with_reducible exact ih2 _ _ _ _ _)
      | (with_reducible exact LeO.refl _)
      | (with_reducible exact LeO.none _)
      | (with_reducible refine LeO.ite ?_ ?_)
      | (with_reducible refine LeO.bind ?_ (fun _ => ?_))
      | exact ih0 _ _
      | exact ih1 _ _ _
      | exact ih2 _ _ _ _ _
      | exact LeO.none _
      | refine LeO.ite ?_ ?_
      | refine LeO.bind ?_ (fun _ => ?_)
    · intro y0 y1 y2
      unfold merkhetref01_Name.l0
      repeat' first
      | (with_reducible exact ih0 _ _)
      | (with_reducible exact ih1 _ _ _)
      | (with_reducible exact ih2 _ _ _ _ _)
      | (with_reducible exact LeO.refl _)
      | (with_reducible exact LeO.none _)
      | (with_reducible refine LeO.ite ?_ ?_)
      | (with_reducible refine LeO.bind ?_ (fun _ => ?_))
      | exact ih0 _ _
      | exact ih1 _ _ _
      | exact ih2 _ _ _ _ _
      | exact LeO.none _
      | refine LeO.ite ?_ ?_
      | refine LeO.bind ?_ (fun _ => ?_)
    · intro y0 y1 y2 y3 y4
      unfold merkhetref01_Name.l1
      repeat' first
      | (with_reducible exact ih0 _ _)
      | (with_reducible exact ih1 _ _ _)
      | (with_reducible exact ih2 _ _ _ _ _)
      | (with_reducible exact LeO.refl _)
      | (with_reducible exact LeO.none _)
      | (with_reducible refine LeO.ite ?_ ?_)
      | (with_reducible refine LeO.bind ?_ (fun _ => ?_))
      | exact ih0 _ _
      | exact ih1 _ _ _
      | exact ih2 _ _ _ _ _
      | exact LeO.none _
      | refine LeO.ite ?_ ?_
      | refine LeO.bind ?_ (fun _ => ?_)
theorem merkhetref01_Name.mono : ∀ a0 k, LeO (merkhetref01_Name.f k a0) (merkhetref01_Name.f (k + 1) a0) := by
  intro a0 k
  obtain ⟨ih0, ih1, ih2⟩ := merkhetref01_Name.mono_l k
  unfold merkhetref01_Name.f
  repeat' first
      | (with_reducible exact ih0 _ _)
      | (with_reducible exact ih1 _ _ _)
      | (with_reducible exact ih2 _ _ _ _ _)
      | (with_reducible exact LeO.refl _)
      | (with_reducible exact LeO.none _)
      | (with_reducible refine LeO.ite ?_ ?_)
      | (with_reducible refine LeO.bind ?_ (fun _ => ?_))
      | exact ih0 _ _
      | exact ih1 _ _ _
      | exact ih2 _ _ _ _ _
      | exact LeO.none _
      | refine LeO.ite ?_ ?_
      | refine LeO.bind ?_ (fun _ => ?_)
set_option maxHeartbeats 8000000 in
set_option maxRecDepth 100000 in
theorem merkhetref01_Name.calls (k : Nat) (a0 : ByteArray) (r : Bool) (w : World) (h : merkhetref01_Name.f k a0 = some r) :
    Calls Try.prog 53 #[.string a0] w fun e w' => e = .returned (.bool r) ∧ Drawn0 w w' := by
  have H : (if a0.toList = ([] : List UInt8) then (merkhetref01_Name.j0 k a0 true) else (merkhetref01_Name.j0 k a0 (decide ((a0.size : Int) > 16)))) = some r := h
  clear h
  have HC2 := Aside0.mk H
  clear H
  go_enter Try.func53, Try.ntmps53
  go_upto_region 1 with (fail)
  repeat (go_quiet (fail); go_upto_region 1 with (fail))
  go_cut [13] (fun v13 wc => ∃ (kq : Nat) (x13_1 : Bool), v13 = .bool x13_1 ∧ Aside0 (merkhetref01_Name.j0 kq a0 x13_1 = some r) ∧ Aside0 (kq ≤ k) ∧ Drawn0 w wc)
  case first =>
    have H := HC2.out
    clear HC2
    by_cases c3 : a0.toList = ([] : List UInt8)
    · rw [if_pos c3] at H
      have c3b0 : (a0.toList == ([] : List UInt8)) = true := beq_iff_eq.mpr c3
      have c3b1 : (a0.toList != ([] : List UInt8)) = false := bne_eq_false_iff_eq.mpr c3
      clear c3
      (first | rw [c3b0] | (simp only [i64_w, i32_w]; rw [c3b0]) | skip)
      have H' := Aside0.mk H
      clear H
      go_wp2
      repeat (go_quiet (fail); try go_wp2)
      go_meet
      case rel => exact ⟨_, (true), (by first | rfl | (simp; done) | (simp [*]; done)), H', ⟨by first | omega | exact Nat.le_refl _⟩, by repeat (first | exact Drawn0.refl _ | apply Drawn0.step)⟩
    · rw [if_neg c3] at H
      have c3b0 : (a0.toList == ([] : List UInt8)) = false := beq_eq_false_iff_ne.mpr c3
      have c3b1 : (a0.toList != ([] : List UInt8)) = true := bne_iff_ne.mpr c3
      (first | rw [c3b0] | (simp only [i64_w, i32_w]; rw [c3b0]) | skip)
      have H' := Aside0.mk H
      clear H
      go_wp2
      repeat (go_quiet (fail); try go_wp2)
      go_meet
      case rel => exact ⟨_, (decide ((a0.size : Int) > 16)), (by first | rfl | (simp; done) | (simp [*]; done)), H', ⟨by first | omega | exact Nat.le_refl _⟩, by repeat (first | exact Drawn0.refl _ | apply Drawn0.step)⟩
  case rest =>
    clear HC2
    (try clear p2); (try clear c3); (try clear c3b0); (try clear c3b1)
    obtain ⟨kq, x13_1, rfl, HA, HJ1, ⟨mc1, rfl⟩⟩ := hcut
    cases kq with
    | zero => exact absurd HA.out (by simp [merkhetref01_Name.j0])
    | succ kj1 =>
      have H := HA.out
      clear HA
      simp only [merkhetref01_Name.j0] at H
      by_cases c4 : x13_1 = true
      · subst c4
        have H1 : (some false) = some r := by rw [if_pos rfl] at H; exact H
        clear H
        have H := H1
        clear H1
        obtain rfl := Option.some.inj H
        go_wp2
        repeat (go_quiet (fail); try go_wp2)
        go_ret
        exact ⟨by first | rfl | (simp; done) | (simp [*]; done), by repeat (first | exact Drawn0.refl _ | apply Drawn0.step)⟩
      · replace c4 := Bool.eq_false_iff.mpr c4
        subst c4
        have H1 : (merkhetref01_Name.l0 kj1 a0 (⟨#[97, 98, 99, 100, 101, 102, 103, 104, 105, 106, 107, 108, 109, 110, 111, 112, 113, 114, 115, 116, 117, 118, 119, 120, 121, 122, 48, 49, 50, 51, 52, 53, 54, 55, 56, 57, 45, 46, 95]⟩ : ByteArray) 0) = some r := by rw [if_neg (show ¬ (false = true) by decide)] at H; exact H
        clear H
        have H := H1
        clear H1
        have H' := Aside0.mk H
        clear H
        go_wp2
        repeat (go_quiet (fail); try go_wp2)
        go_loopg [4] kj1 (fun kq v4 w' => ∃ (x4_2 : Int), v4 = .int .i64 x4_2 ∧ Aside0 (merkhetref01_Name.l0 kq a0 (⟨#[97, 98, 99, 100, 101, 102, 103, 104, 105, 106, 107, 108, 109, 110, 111, 112, 113, 114, 115, 116, 117, 118, 119, 120, 121, 122, 48, 49, 50, 51, 52, 53, 54, 55, 56, 57, 45, 46, 95]⟩ : ByteArray) x4_2 = some r) ∧ Aside0 (kq ≤ kj1) ∧ Drawn0 w w')
        case atStart => exact ⟨(0), (by first | rfl | (simp; done) | (simp [*]; done)), H', ⟨Nat.le_refl _⟩, by repeat (first | exact Drawn0.refl _ | apply Drawn0.step)⟩
        case round =>
          clear H'
          (try clear c1); (try clear p2); (try clear c3); (try clear c3b0); (try clear c3b1); (try clear c4); (try clear p2)
          obtain ⟨x4_2, rfl, HA, HK2, ⟨m2, rfl⟩⟩ := hrel
          cases gk with
          | zero => exact absurd HA.out (by simp [merkhetref01_Name.l0])
          | succ k2 =>
            have H := HA.out
            clear HA
            simp only [merkhetref01_Name.l0] at H
            by_cases c5 : x4_2 < (a0.size : Int)
            · rw [if_pos c5] at H
              have c5b0 : decide (x4_2 < (a0.size : Int)) = true := decide_eq_true c5
              clear c5
              have H' := Aside0.mk H
              clear H
              go_wp2
              repeat (go_quiet (fail); try go_wp2)
              go_loopg [5, 6] k2 (fun kq v5 v6 w' => ∃ (x5_3 : Bool) (x6_3 : Int), v5 = .bool x5_3 ∧ v6 = .int .i64 x6_3 ∧ Aside0 (merkhetref01_Name.l1 kq a0 (⟨#[97, 98, 99, 100, 101, 102, 103, 104, 105, 106, 107, 108, 109, 110, 111, 112, 113, 114, 115, 116, 117, 118, 119, 120, 121, 122, 48, 49, 50, 51, 52, 53, 54, 55, 56, 57, 45, 46, 95]⟩ : ByteArray) x4_2 x5_3 x6_3 = some r) ∧ Aside0 (kq ≤ k2) ∧ Drawn0 w w')
              case atStart => exact ⟨(false), (0), (by first | rfl | (simp; done) | (simp [*]; done)), (by first | rfl | (simp; done) | (simp [*]; done)), H', ⟨Nat.le_refl _⟩, by repeat (first | exact Drawn0.refl _ | apply Drawn0.step)⟩
              case round =>
                clear H'
                (try clear c1); (try clear p2); (try clear c3); (try clear c3b0); (try clear c3b1); (try clear c4); (try clear c5); (try clear c5b0); (try clear p2)
                obtain ⟨x5_3, x6_3, rfl, rfl, HA, HK3, ⟨m3, rfl⟩⟩ := hrel
                cases gk with
                | zero => exact absurd HA.out (by simp [merkhetref01_Name.l1])
                | succ k3 =>
                  have H := HA.out
                  clear HA
                  simp only [merkhetref01_Name.l1] at H
                  by_cases c6 : x6_3 < ((⟨#[97, 98, 99, 100, 101, 102, 103, 104, 105, 106, 107, 108, 109, 110, 111, 112, 113, 114, 115, 116, 117, 118, 119, 120, 121, 122, 48, 49, 50, 51, 52, 53, 54, 55, 56, 57, 45, 46, 95]⟩ : ByteArray).size : Int)
                  · rw [if_pos c6] at H
                    have c6b0 : decide (x6_3 < 39) = true := decide_eq_true c6
                    clear c6
                    by_cases c7 : 0 ≤ x6_3
                    · rw [if_pos c7] at H
                      have c7b0 : decide (0 ≤ x6_3) = true := decide_eq_true c7
                      clear c7
                      by_cases c9 : 0 ≤ x4_2
                      · rw [if_pos c9] at H
                        have c9b0 : decide (0 ≤ x4_2) = true := decide_eq_true c9
                        clear c9
                        by_cases c10 : x4_2 < (a0.size : Int)
                        · rw [if_pos c10] at H
                          have c10b0 : decide (x4_2 < (a0.size : Int)) = true := decide_eq_true c10
                          clear c10
                          by_cases c12 : (bt (⟨#[97, 98, 99, 100, 101, 102, 103, 104, 105, 106, 107, 108, 109, 110, 111, 112, 113, 114, 115, 116, 117, 118, 119, 120, 121, 122, 48, 49, 50, 51, 52, 53, 54, 55, 56, 57, 45, 46, 95]⟩ : ByteArray) x6_3) = (bt a0 x4_2)
                          · rw [if_pos c12] at H
                            have c12b0 : ((bt (⟨#[97, 98, 99, 100, 101, 102, 103, 104, 105, 106, 107, 108, 109, 110, 111, 112, 113, 114, 115, 116, 117, 118, 119, 120, 121, 122, 48, 49, 50, 51, 52, 53, 54, 55, 56, 57, 45, 46, 95]⟩ : ByteArray) x6_3) == (bt a0 x4_2)) = true := beq_iff_eq.mpr c12
                            have c12b1 : ((bt (⟨#[97, 98, 99, 100, 101, 102, 103, 104, 105, 106, 107, 108, 109, 110, 111, 112, 113, 114, 115, 116, 117, 118, 119, 120, 121, 122, 48, 49, 50, 51, 52, 53, 54, 55, 56, 57, 45, 46, 95]⟩ : ByteArray) x6_3) != (bt a0 x4_2)) = false := bne_eq_false_iff_eq.mpr c12
                            clear c12
                            have H' := Aside0.mk H
                            clear H
                            have p8 : 0 ≤ (x6_3 : Int) := of_decide_eq_true (by first | (with_reducible assumption) | assumption)
                            have q8 : x6_3 < (39 : Int) := of_decide_eq_true (by first | (with_reducible assumption) | assumption)
                            have hx8 := bt_at (⟨#[97, 98, 99, 100, 101, 102, 103, 104, 105, 106, 107, 108, 109, 110, 111, 112, 113, 114, 115, 116, 117, 118, 119, 120, 121, 122, 48, 49, 50, 51, 52, 53, 54, 55, 56, 57, 45, 46, 95]⟩ : ByteArray) x6_3
                            replace p8 := eq_true p8
                            replace q8 := eq_true q8
                            have p11 : 0 ≤ (x4_2 : Int) := of_decide_eq_true (by first | (with_reducible assumption) | assumption)
                            have q11 : x4_2 < (a0.size : Int) := of_decide_eq_true (by first | (with_reducible assumption) | assumption)
                            have hx11 := bt_at a0 x4_2
                            replace p11 := eq_true p11
                            replace q11 := eq_true q11
                            go_wp2
                            repeat (go_quiet (fail); try go_wp2)
                            go_roundg k3
                            case measure => have := HJ1.out; have := HK2.out; have := HK3.out; omega
                            case rel => exact ⟨(true), (wrap64 (x6_3 + 1)), (by first | rfl | (simp; done) | (simp [*]; done)), (by first | rfl | (simp; done) | (simp [*]; done)), H', ⟨by have := HJ1.out; have := HK2.out; have := HK3.out; omega⟩, by repeat (first | exact Drawn0.refl _ | apply Drawn0.step)⟩
                          · rw [if_neg c12] at H
                            have c12b0 : ((bt (⟨#[97, 98, 99, 100, 101, 102, 103, 104, 105, 106, 107, 108, 109, 110, 111, 112, 113, 114, 115, 116, 117, 118, 119, 120, 121, 122, 48, 49, 50, 51, 52, 53, 54, 55, 56, 57, 45, 46, 95]⟩ : ByteArray) x6_3) == (bt a0 x4_2)) = false := beq_eq_false_iff_ne.mpr c12
                            have c12b1 : ((bt (⟨#[97, 98, 99, 100, 101, 102, 103, 104, 105, 106, 107, 108, 109, 110, 111, 112, 113, 114, 115, 116, 117, 118, 119, 120, 121, 122, 48, 49, 50, 51, 52, 53, 54, 55, 56, 57, 45, 46, 95]⟩ : ByteArray) x6_3) != (bt a0 x4_2)) = true := bne_iff_ne.mpr c12
                            have H' := Aside0.mk H
                            clear H
                            have p8 : 0 ≤ (x6_3 : Int) := of_decide_eq_true (by first | (with_reducible assumption) | assumption)
                            have q8 : x6_3 < (39 : Int) := of_decide_eq_true (by first | (with_reducible assumption) | assumption)
                            have hx8 := bt_at (⟨#[97, 98, 99, 100, 101, 102, 103, 104, 105, 106, 107, 108, 109, 110, 111, 112, 113, 114, 115, 116, 117, 118, 119, 120, 121, 122, 48, 49, 50, 51, 52, 53, 54, 55, 56, 57, 45, 46, 95]⟩ : ByteArray) x6_3
                            replace p8 := eq_true p8
                            replace q8 := eq_true q8
                            have p11 : 0 ≤ (x4_2 : Int) := of_decide_eq_true (by first | (with_reducible assumption) | assumption)
                            have q11 : x4_2 < (a0.size : Int) := of_decide_eq_true (by first | (with_reducible assumption) | assumption)
                            have hx11 := bt_at a0 x4_2
                            replace p11 := eq_true p11
                            replace q11 := eq_true q11
                            go_wp2
                            repeat (go_quiet (fail); try go_wp2)
                            go_roundg k3
                            case measure => have := HJ1.out; have := HK2.out; have := HK3.out; omega
                            case rel => exact ⟨(x5_3), (wrap64 (x6_3 + 1)), (by first | rfl | (simp; done) | (simp [*]; done)), (by first | rfl | (simp; done) | (simp [*]; done)), H', ⟨by have := HJ1.out; have := HK2.out; have := HK3.out; omega⟩, by repeat (first | exact Drawn0.refl _ | apply Drawn0.step)⟩
                        · rw [if_neg c10] at H
                          exact absurd H (by simp)
                      · rw [if_neg c9] at H
                        exact absurd H (by simp)
                    · rw [if_neg c7] at H
                      exact absurd H (by simp)
                  · rw [if_neg c6] at H
                    have c6b0 : decide (x6_3 < 39) = false := decide_eq_false c6
                    clear c6
                    by_cases c13 : x5_3 = true
                    · subst c13
                      have H1 : (merkhetref01_Name.l0 k3 a0 (⟨#[97, 98, 99, 100, 101, 102, 103, 104, 105, 106, 107, 108, 109, 110, 111, 112, 113, 114, 115, 116, 117, 118, 119, 120, 121, 122, 48, 49, 50, 51, 52, 53, 54, 55, 56, 57, 45, 46, 95]⟩ : ByteArray) (wrap64 (x4_2 + 1))) = some r := by rw [if_pos rfl] at H; exact H
                      clear H
                      have H := H1
                      clear H1
                      have H' := Aside0.mk H
                      clear H
                      go_wp2
                      repeat (go_quiet (fail); try go_wp2)
                      go_roundg k3
                      case measure => have := HJ1.out; have := HK2.out; have := HK3.out; omega
                      case rel => exact ⟨(wrap64 (x4_2 + 1)), (by first | rfl | (simp; done) | (simp [*]; done)), H', ⟨by have := HJ1.out; have := HK2.out; have := HK3.out; omega⟩, by repeat (first | exact Drawn0.refl _ | apply Drawn0.step)⟩
                    · replace c13 := Bool.eq_false_iff.mpr c13
                      subst c13
                      have H1 : (some false) = some r := by rw [if_neg (show ¬ (false = true) by decide)] at H; exact H
                      clear H
                      have H := H1
                      clear H1
                      obtain rfl := Option.some.inj H
                      go_wp2
                      repeat (go_quiet (fail); try go_wp2)
                      go_ret
                      exact ⟨by first | rfl | (simp; done) | (simp [*]; done), by repeat (first | exact Drawn0.refl _ | apply Drawn0.step)⟩
            · rw [if_neg c5] at H
              have c5b0 : decide (x4_2 < (a0.size : Int)) = false := decide_eq_false c5
              clear c5
              obtain rfl := Option.some.inj H
              go_wp2
              repeat (go_quiet (fail); try go_wp2)
              go_ret
              exact ⟨by first | rfl | (simp; done) | (simp [*]; done), by repeat (first | exact Drawn0.refl _ | apply Drawn0.step)⟩

/-! ### merkhetref01_May: function 32 -/
mutual
def merkhetref01_May.j0 : Nat → Bool → Int → Int → Int → Int → ByteArray → ByteArray → Int → Int → Option (Bool)
  | 0, _, _, _, _, _, _, _, _, _ => none
  | k + 1, x17, x106000, x106001, x106002, x106003, x106004, x106005, x106006, x106007 => if x17 = true then (some false) else (if x106003 = 0 then (merkhetref01_May.j1 k false x106000 x106001 x106002 x106003 x106004 x106005 x106006 x106007) else (if x106003 = 1 then (merkhetref01_May.j1 k false x106000 x106001 x106002 x106003 x106004 x106005 x106006 x106007) else (merkhetref01_May.j1 k (x106003 != 2) x106000 x106001 x106002 x106003 x106004 x106005 x106006 x106007)))
def merkhetref01_May.j1 : Nat → Bool → Int → Int → Int → Int → ByteArray → ByteArray → Int → Int → Option (Bool)
  | 0, _, _, _, _, _, _, _, _, _ => none
  | k + 1, x30, x106000, x106001, x106002, x106003, x106004, x106005, x106006, x106007 => if x30 = true then (some false) else (if x106006 < 0 then (merkhetref01_May.j2 k true x106000 x106001 x106002 x106003 x106004 x106005 x106006 x106007) else (if x106006 > 1125899906842623 then (merkhetref01_May.j2 k true x106000 x106001 x106002 x106003 x106004 x106005 x106006 x106007) else (if x106007 < 0 then (merkhetref01_May.j2 k true x106000 x106001 x106002 x106003 x106004 x106005 x106006 x106007) else (merkhetref01_May.j2 k (decide (x106007 > 1125899906842624)) x106000 x106001 x106002 x106003 x106004 x106005 x106006 x106007))))
def merkhetref01_May.j2 : Nat → Bool → Int → Int → Int → Int → ByteArray → ByteArray → Int → Int → Option (Bool)
  | 0, _, _, _, _, _, _, _, _, _ => none
  | k + 1, x48, x106000, x106001, x106002, x106003, x106004, x106005, x106006, x106007 => if x48 = true then (some false) else ((merkhetref01_Name.f k x106004).bind fun t106 => (if t106 = true then ((merkhetref01_Name.f k x106005).bind fun t107 => (some t107)) else (some false)))
end
def merkhetref01_May.f (k : Nat) (a0_0 : Int) (a0_1 : Int) (a0_2 : Int) (a0_3 : Int) (a0_4 : ByteArray) (a0_5 : ByteArray) (a0_6 : Int) (a0_7 : Int) : Option (Bool) := if a0_0 = 0 then (merkhetref01_May.j0 k true a0_0 a0_1 a0_2 a0_3 a0_4 a0_5 a0_6 a0_7) else (if a0_1 = 0 then (merkhetref01_May.j0 k true a0_0 a0_1 a0_2 a0_3 a0_4 a0_5 a0_6 a0_7) else (merkhetref01_May.j0 k (a0_2 == a0_1) a0_0 a0_1 a0_2 a0_3 a0_4 a0_5 a0_6 a0_7))
theorem merkhetref01_May.mono_l : ∀ k, (∀ y0 y1 y2 y3 y4 y5 y6 y7 y8, LeO (merkhetref01_May.j0 k y0 y1 y2 y3 y4 y5 y6 y7 y8) (merkhetref01_May.j0 (k + 1) y0 y1 y2 y3 y4 y5 y6 y7 y8)) ∧ (∀ y0 y1 y2 y3 y4 y5 y6 y7 y8, LeO (merkhetref01_May.j1 k y0 y1 y2 y3 y4 y5 y6 y7 y8) (merkhetref01_May.j1 (k + 1) y0 y1 y2 y3 y4 y5 y6 y7 y8)) ∧ (∀ y0 y1 y2 y3 y4 y5 y6 y7 y8, LeO (merkhetref01_May.j2 k y0 y1 y2 y3 y4 y5 y6 y7 y8) (merkhetref01_May.j2 (k + 1) y0 y1 y2 y3 y4 y5 y6 y7 y8))
  | 0 => ⟨fun _ _ _ _ _ _ _ _ _ r h => by simp [merkhetref01_May.j0] at h, fun _ _ _ _ _ _ _ _ _ r h => by simp [merkhetref01_May.j1] at h, fun _ _ _ _ _ _ _ _ _ r h => by simp [merkhetref01_May.j2] at h⟩
  | k + 1 => by
    obtain ⟨ih0, ih1, ih2⟩ := merkhetref01_May.mono_l k
    refine ⟨?_, ?_, ?_⟩
    · intro y0 y1 y2 y3 y4 y5 y6 y7 y8
      unfold merkhetref01_May.j0
      repeat' first
      | (with_reducible exact ih0 _ _ _ _ _ _ _ _ _)
      | (with_reducible exact ih1 _ _ _ _ _ _ _ _ _)
      | (with_reducible exact ih2 _ _ _ _ _ _ _ _ _)
      | (with_reducible exact merkhetref01_Name.mono _ _)
      | (with_reducible exact LeO.refl _)
      | (with_reducible exact LeO.none _)
      | (with_reducible refine LeO.ite ?_ ?_)
      | (with_reducible refine LeO.bind ?_ (fun _ => ?_))
      | exact ih0 _ _ _ _ _ _ _ _ _
      | exact ih1 _ _ _ _ _ _ _ _ _
      | exact ih2 _ _ _ _ _ _ _ _ _
      | exact merkhetref01_Name.mono _ _
      | exact LeO.none _
      | refine LeO.ite ?_ ?_
      | refine LeO.bind ?_ (fun _ => ?_)
    · intro y0 y1 y2 y3 y4 y5 y6 y7 y8
      unfold merkhetref01_May.j1
      repeat' first
      | (with_reducible exact ih0 _ _ _ _ _ _ _ _ _)
      | (with_reducible exact ih1 _ _ _ _ _ _ _ _ _)
      | (with_reducible exact ih2 _ _ _ _ _ _ _ _ _)
      | (with_reducible exact merkhetref01_Name.mono _ _)
      | (with_reducible exact LeO.refl _)
      | (with_reducible exact LeO.none _)
      | (with_reducible refine LeO.ite ?_ ?_)
      | (with_reducible refine LeO.bind ?_ (fun _ => ?_))
      | exact ih0 _ _ _ _ _ _ _ _ _
      | exact ih1 _ _ _ _ _ _ _ _ _
      | exact ih2 _ _ _ _ _ _ _ _ _
      | exact merkhetref01_Name.mono _ _
      | exact LeO.none _
      | refine LeO.ite ?_ ?_
      | refine LeO.bind ?_ (fun _ => ?_)
    · intro y0 y1 y2 y3 y4 y5 y6 y7 y8
      unfold merkhetref01_May.j2
      repeat' first
      | (with_reducible exact ih0 _ _ _ _ _ _ _ _ _)
      | (with_reducible exact ih1 _ _ _ _ _ _ _ _ _)
      | (with_reducible exact ih2 _ _ _ _ _ _ _ _ _)
      | (with_reducible exact merkhetref01_Name.mono _ _)
      | (with_reducible exact LeO.refl _)
      | (with_reducible exact LeO.none _)
      | (with_reducible refine LeO.ite ?_ ?_)
      | (with_reducible refine LeO.bind ?_ (fun _ => ?_))
      | exact ih0 _ _ _ _ _ _ _ _ _
      | exact ih1 _ _ _ _ _ _ _ _ _
      | exact ih2 _ _ _ _ _ _ _ _ _
      | exact merkhetref01_Name.mono _ _
      | exact LeO.none _
      | refine LeO.ite ?_ ?_
      | refine LeO.bind ?_ (fun _ => ?_)
theorem merkhetref01_May.mono : ∀ a0 a1 a2 a3 a4 a5 a6 a7 k, LeO (merkhetref01_May.f k a0 a1 a2 a3 a4 a5 a6 a7) (merkhetref01_May.f (k + 1) a0 a1 a2 a3 a4 a5 a6 a7) := by
  intro a0 a1 a2 a3 a4 a5 a6 a7 k
  obtain ⟨ih0, ih1, ih2⟩ := merkhetref01_May.mono_l k
  unfold merkhetref01_May.f
  repeat' first
      | (with_reducible exact ih0 _ _ _ _ _ _ _ _ _)
      | (with_reducible exact ih1 _ _ _ _ _ _ _ _ _)
      | (with_reducible exact ih2 _ _ _ _ _ _ _ _ _)
      | (with_reducible exact merkhetref01_Name.mono _ _)
      | (with_reducible exact LeO.refl _)
      | (with_reducible exact LeO.none _)
      | (with_reducible refine LeO.ite ?_ ?_)
      | (with_reducible refine LeO.bind ?_ (fun _ => ?_))
      | exact ih0 _ _ _ _ _ _ _ _ _
      | exact ih1 _ _ _ _ _ _ _ _ _
      | exact ih2 _ _ _ _ _ _ _ _ _
      | exact merkhetref01_Name.mono _ _
      | exact LeO.none _
      | refine LeO.ite ?_ ?_
      | refine LeO.bind ?_ (fun _ => ?_)
set_option maxHeartbeats 8000000 in
set_option maxRecDepth 100000 in
theorem merkhetref01_May.calls (k : Nat) (a0_0 : Int) (a0_1 : Int) (a0_2 : Int) (a0_3 : Int) (a0_4 : ByteArray) (a0_5 : ByteArray) (a0_6 : Int) (a0_7 : Int) (r : Bool) (w : World) (h : merkhetref01_May.f k a0_0 a0_1 a0_2 a0_3 a0_4 a0_5 a0_6 a0_7 = some r) :
    Calls Try.prog 32 #[.agg #[.int .u64 a0_0, .int .u64 a0_1, .int .u64 a0_2, .int .u8 a0_3, .string a0_4, .string a0_5, .int .i64 a0_6, .int .i64 a0_7]] w fun e w' => e = .returned (.bool r) ∧ Below w.heap.size w w' := by
  have hu42 := Try.underlying42
  have HB := Aside0.mk (Below.refl w.heap.size w)
  have H : (if a0_0 = 0 then (merkhetref01_May.j0 k true a0_0 a0_1 a0_2 a0_3 a0_4 a0_5 a0_6 a0_7) else (if a0_1 = 0 then (merkhetref01_May.j0 k true a0_0 a0_1 a0_2 a0_3 a0_4 a0_5 a0_6 a0_7) else (merkhetref01_May.j0 k (a0_2 == a0_1) a0_0 a0_1 a0_2 a0_3 a0_4 a0_5 a0_6 a0_7))) = some r := h
  clear h
  have HC2 := Aside0.mk H
  clear H
  go_enter Try.func32, Try.ntmps32
  go_upto_region 1 with (first | ((with_reducible refine gate_dst (N := 1) rfl ?_); refine box_event ?hg (N := 1) ?hd (cs := #[.int .u64 a0_0, .int .u64 a0_1, .int .u64 a0_2, .int .u8 a0_3, .string a0_4, .string a0_5, .int .i64 a0_6, .int .i64 a0_7]) (t := 42) ?hr ?_; (case hd => rfl); (case hg => rfl); (case hr => first | (go_simp; done) | (go_simp; rfl)); intro gb105 hg w3 hbox hb; have n0_ := Aside0.mk (below_step (by repeat (first | (with_reducible first | exact HB.out | apply below_alloc | apply pw_below_drewN | apply below_drew1) | exact HB.out)) hb); have n1_ := Aside0.mk (hbox); have n2_ := Aside0.mk ((by rw [hg]; exact (below_size (by repeat (first | (with_reducible first | exact HB.out | apply below_alloc | apply pw_below_drewN | apply below_drew1) | exact HB.out))) : w.heap.size ≤ gb105)); have n3_ := Aside0.mk ((by rw [hg]; exact (below_size (by repeat (first | (with_reducible first | exact HB.out | apply below_alloc | apply pw_below_drewN | apply below_drew1) | exact HB.out))) : w.heap.size ≤ gb105)); clear HB; have HB := n0_; have BK105 := n1_; have GW105 := n2_; have GE105 := n3_; clear n0_ n1_ n2_ n3_; clear hb hbox hg))
  (try simp only [Act.put, List.setIfInBounds_toArray, List.set_cons_zero, List.set_cons_succ])
  go_cut [17] (fun v17 wc => ∃ (kq : Nat) (x17_1 : Bool), v17 = .bool x17_1 ∧ Aside0 (merkhetref01_May.j0 kq x17_1 a0_0 a0_1 a0_2 a0_3 a0_4 a0_5 a0_6 a0_7 = some r) ∧ Aside0 (kq ≤ k) ∧ Aside0 (wc.heap[gb105]? = some (.cells #[.int .u64 a0_0, .int .u64 a0_1, .int .u64 a0_2, .int .u8 a0_3, .string a0_4, .string a0_5, .int .i64 a0_6, .int .i64 a0_7] 42 (0, 0))) ∧ Aside0 (Below w.heap.size w wc))
  case first =>
    have H := HC2.out
    clear HC2
    by_cases c4 : a0_0 = 0
    · rw [if_pos c4] at H
      have c4b0 : (a0_0 == 0) = true := beq_iff_eq.mpr c4
      have c4b1 : (a0_0 != 0) = false := bne_eq_false_iff_eq.mpr c4
      clear c4
      (first | rw [c4b0] | (simp only [i64_w, i32_w]; rw [c4b0]) | skip)
      have H' := Aside0.mk H
      clear H
      have hcz5_0 : w3.cell? ⟨gb105, 0, none⟩ = some (.int .u64 a0_0) := (blk_cell BK105.out 0).trans rfl
      have hcz5_1 : w3.cell? ⟨gb105, 1, none⟩ = some (.int .u64 a0_1) := (blk_cell BK105.out 1).trans rfl
      have hcz5_2 : w3.cell? ⟨gb105, 2, none⟩ = some (.int .u64 a0_2) := (blk_cell BK105.out 2).trans rfl
      have hcz5_3 : w3.cell? ⟨gb105, 3, none⟩ = some (.int .u8 a0_3) := (blk_cell BK105.out 3).trans rfl
      have hcz5_4 : w3.cell? ⟨gb105, 4, none⟩ = some (.string a0_4) := (blk_cell BK105.out 4).trans rfl
      have hcz5_5 : w3.cell? ⟨gb105, 5, none⟩ = some (.string a0_5) := (blk_cell BK105.out 5).trans rfl
      have hcz5_6 : w3.cell? ⟨gb105, 6, none⟩ = some (.int .i64 a0_6) := (blk_cell BK105.out 6).trans rfl
      have hcz5_7 : w3.cell? ⟨gb105, 7, none⟩ = some (.int .i64 a0_7) := (blk_cell BK105.out 7).trans rfl
      have hfz5_0 := blk_frozen BK105.out 0
      have hfz5_1 := blk_frozen BK105.out 1
      have hfz5_2 := blk_frozen BK105.out 2
      have hfz5_3 := blk_frozen BK105.out 3
      have hfz5_4 := blk_frozen BK105.out 4
      have hfz5_5 := blk_frozen BK105.out 5
      have hfz5_6 := blk_frozen BK105.out 6
      have hfz5_7 := blk_frozen BK105.out 7
      go_wp2
      go_meet
      case rel => exact ⟨_, (true), (by first | rfl | (simp; done) | (simp [*]; done)), H', ⟨by first | omega | exact Nat.le_refl _⟩, ⟨by (with_reducible repeat (first | refine blk_drewN ?_ _ | refine blk_drew ?_ | refine blk_alloc ?_ _)); exact BK105.out⟩, ⟨by repeat (first | (with_reducible first | exact HB.out | apply below_alloc | apply pw_below_drewN | apply below_drew1 | refine below_set ?_ GE105.out) | exact HB.out)⟩⟩
    · rw [if_neg c4] at H
      have c4b0 : (a0_0 == 0) = false := beq_eq_false_iff_ne.mpr c4
      have c4b1 : (a0_0 != 0) = true := bne_iff_ne.mpr c4
      (first | rw [c4b0] | (simp only [i64_w, i32_w]; rw [c4b0]) | skip)
      by_cases c6 : a0_1 = 0
      · rw [if_pos c6] at H
        have c6b0 : (a0_1 == 0) = true := beq_iff_eq.mpr c6
        have c6b1 : (a0_1 != 0) = false := bne_eq_false_iff_eq.mpr c6
        clear c6
        have H' := Aside0.mk H
        clear H
        have hcz7_0 : w3.cell? ⟨gb105, 0, none⟩ = some (.int .u64 a0_0) := (blk_cell BK105.out 0).trans rfl
        have hcz7_1 : w3.cell? ⟨gb105, 1, none⟩ = some (.int .u64 a0_1) := (blk_cell BK105.out 1).trans rfl
        have hcz7_2 : w3.cell? ⟨gb105, 2, none⟩ = some (.int .u64 a0_2) := (blk_cell BK105.out 2).trans rfl
        have hcz7_3 : w3.cell? ⟨gb105, 3, none⟩ = some (.int .u8 a0_3) := (blk_cell BK105.out 3).trans rfl
        have hcz7_4 : w3.cell? ⟨gb105, 4, none⟩ = some (.string a0_4) := (blk_cell BK105.out 4).trans rfl
        have hcz7_5 : w3.cell? ⟨gb105, 5, none⟩ = some (.string a0_5) := (blk_cell BK105.out 5).trans rfl
        have hcz7_6 : w3.cell? ⟨gb105, 6, none⟩ = some (.int .i64 a0_6) := (blk_cell BK105.out 6).trans rfl
        have hcz7_7 : w3.cell? ⟨gb105, 7, none⟩ = some (.int .i64 a0_7) := (blk_cell BK105.out 7).trans rfl
        have hfz7_0 := blk_frozen BK105.out 0
        have hfz7_1 := blk_frozen BK105.out 1
        have hfz7_2 := blk_frozen BK105.out 2
        have hfz7_3 := blk_frozen BK105.out 3
        have hfz7_4 := blk_frozen BK105.out 4
        have hfz7_5 := blk_frozen BK105.out 5
        have hfz7_6 := blk_frozen BK105.out 6
        have hfz7_7 := blk_frozen BK105.out 7
        go_wp2
        go_meet
        case rel => exact ⟨_, (true), (by first | rfl | (simp; done) | (simp [*]; done)), H', ⟨by first | omega | exact Nat.le_refl _⟩, ⟨by (with_reducible repeat (first | refine blk_drewN ?_ _ | refine blk_drew ?_ | refine blk_alloc ?_ _)); exact BK105.out⟩, ⟨by repeat (first | (with_reducible first | exact HB.out | apply below_alloc | apply pw_below_drewN | apply below_drew1 | refine below_set ?_ GE105.out) | exact HB.out)⟩⟩
      · rw [if_neg c6] at H
        have c6b0 : (a0_1 == 0) = false := beq_eq_false_iff_ne.mpr c6
        have c6b1 : (a0_1 != 0) = true := bne_iff_ne.mpr c6
        have H' := Aside0.mk H
        clear H
        have hcz8_0 : w3.cell? ⟨gb105, 0, none⟩ = some (.int .u64 a0_0) := (blk_cell BK105.out 0).trans rfl
        have hcz8_1 : w3.cell? ⟨gb105, 1, none⟩ = some (.int .u64 a0_1) := (blk_cell BK105.out 1).trans rfl
        have hcz8_2 : w3.cell? ⟨gb105, 2, none⟩ = some (.int .u64 a0_2) := (blk_cell BK105.out 2).trans rfl
        have hcz8_3 : w3.cell? ⟨gb105, 3, none⟩ = some (.int .u8 a0_3) := (blk_cell BK105.out 3).trans rfl
        have hcz8_4 : w3.cell? ⟨gb105, 4, none⟩ = some (.string a0_4) := (blk_cell BK105.out 4).trans rfl
        have hcz8_5 : w3.cell? ⟨gb105, 5, none⟩ = some (.string a0_5) := (blk_cell BK105.out 5).trans rfl
        have hcz8_6 : w3.cell? ⟨gb105, 6, none⟩ = some (.int .i64 a0_6) := (blk_cell BK105.out 6).trans rfl
        have hcz8_7 : w3.cell? ⟨gb105, 7, none⟩ = some (.int .i64 a0_7) := (blk_cell BK105.out 7).trans rfl
        have hfz8_0 := blk_frozen BK105.out 0
        have hfz8_1 := blk_frozen BK105.out 1
        have hfz8_2 := blk_frozen BK105.out 2
        have hfz8_3 := blk_frozen BK105.out 3
        have hfz8_4 := blk_frozen BK105.out 4
        have hfz8_5 := blk_frozen BK105.out 5
        have hfz8_6 := blk_frozen BK105.out 6
        have hfz8_7 := blk_frozen BK105.out 7
        go_wp2
        go_meet
        case rel => exact ⟨_, ((a0_2 == a0_1)), (by first | rfl | (simp; done) | (simp [*]; done)), H', ⟨by first | omega | exact Nat.le_refl _⟩, ⟨by (with_reducible repeat (first | refine blk_drewN ?_ _ | refine blk_drew ?_ | refine blk_alloc ?_ _)); exact BK105.out⟩, ⟨by repeat (first | (with_reducible first | exact HB.out | apply below_alloc | apply pw_below_drewN | apply below_drew1 | refine below_set ?_ GE105.out) | exact HB.out)⟩⟩
  case rest =>
    clear HC2
    (try clear p2); (try clear c3); (try clear c4); (try clear c4b0); (try clear c4b1); (try clear c6); (try clear c6b0); (try clear c6b1); (try clear hcz5_0); (try clear hcz5_1); (try clear hcz5_2); (try clear hcz5_3); (try clear hcz5_4); (try clear hcz5_5); (try clear hcz5_6); (try clear hcz5_7); (try clear hcz7_0); (try clear hcz7_1); (try clear hcz7_2); (try clear hcz7_3); (try clear hcz7_4); (try clear hcz7_5); (try clear hcz7_6); (try clear hcz7_7); (try clear hcz8_0); (try clear hcz8_1); (try clear hcz8_2); (try clear hcz8_3); (try clear hcz8_4); (try clear hcz8_5); (try clear hcz8_6); (try clear hcz8_7); (try clear hfz5_0); (try clear hfz5_1); (try clear hfz5_2); (try clear hfz5_3); (try clear hfz5_4); (try clear hfz5_5); (try clear hfz5_6); (try clear hfz5_7); (try clear hfz7_0); (try clear hfz7_1); (try clear hfz7_2); (try clear hfz7_3); (try clear hfz7_4); (try clear hfz7_5); (try clear hfz7_6); (try clear hfz7_7); (try clear hfz8_0); (try clear hfz8_1); (try clear hfz8_2); (try clear hfz8_3); (try clear hfz8_4); (try clear hfz8_5); (try clear hfz8_6); (try clear hfz8_7)
    obtain ⟨kq, x17_1, rfl, HA, HJ1, BK105, HB⟩ := hcut
    cases kq with
    | zero => exact absurd HA.out (by simp [merkhetref01_May.j0])
    | succ kj1 =>
      have H := HA.out
      clear HA
      simp only [merkhetref01_May.j0] at H
      by_cases c9 : x17_1 = true
      · subst c9
        have H1 : (some false) = some r := by rw [if_pos rfl] at H; exact H
        clear H
        have H := H1
        clear H1
        obtain rfl := Option.some.inj H
        go_wp2
        go_ret
        exact ⟨by first | rfl | (simp [errW_none, errW_some] <;> rfl) | (simp [*, errW_none, errW_some] <;> rfl), by repeat (first | (with_reducible first | exact HB.out | apply below_alloc | apply pw_below_drewN | apply below_drew1 | refine below_set ?_ GE105.out) | exact HB.out)⟩
      · replace c9 := Bool.eq_false_iff.mpr c9
        subst c9
        have H1 : (if a0_3 = 0 then (merkhetref01_May.j1 kj1 false a0_0 a0_1 a0_2 a0_3 a0_4 a0_5 a0_6 a0_7) else (if a0_3 = 1 then (merkhetref01_May.j1 kj1 false a0_0 a0_1 a0_2 a0_3 a0_4 a0_5 a0_6 a0_7) else (merkhetref01_May.j1 kj1 (a0_3 != 2) a0_0 a0_1 a0_2 a0_3 a0_4 a0_5 a0_6 a0_7))) = some r := by rw [if_neg (show ¬ (false = true) by decide)] at H; exact H
        clear H
        have H := H1
        clear H1
        have HC10 := Aside0.mk H
        clear H
        go_upto_region 3 with (fail)
        go_cut [30] (fun v30 wc => ∃ (kq : Nat) (x30_9 : Bool), v30 = .bool x30_9 ∧ Aside0 (merkhetref01_May.j1 kq x30_9 a0_0 a0_1 a0_2 a0_3 a0_4 a0_5 a0_6 a0_7 = some r) ∧ Aside0 (kq ≤ kj1) ∧ Aside0 (wc.heap[gb105]? = some (.cells #[.int .u64 a0_0, .int .u64 a0_1, .int .u64 a0_2, .int .u8 a0_3, .string a0_4, .string a0_5, .int .i64 a0_6, .int .i64 a0_7] 42 (0, 0))) ∧ Aside0 (Below w.heap.size w wc))
        case first =>
          have H := HC10.out
          clear HC10
          by_cases c11 : a0_3 = 0
          · rw [if_pos c11] at H
            have c11b0 : (a0_3 == 0) = true := beq_iff_eq.mpr c11
            have c11b1 : (a0_3 != 0) = false := bne_eq_false_iff_eq.mpr c11
            clear c11
            (first | rw [c11b0] | (simp only [i64_w, i32_w]; rw [c11b0]) | skip)
            have H' := Aside0.mk H
            clear H
            have hcz12_0 : wc.cell? ⟨gb105, 0, none⟩ = some (.int .u64 a0_0) := (blk_cell BK105.out 0).trans rfl
            have hcz12_1 : wc.cell? ⟨gb105, 1, none⟩ = some (.int .u64 a0_1) := (blk_cell BK105.out 1).trans rfl
            have hcz12_2 : wc.cell? ⟨gb105, 2, none⟩ = some (.int .u64 a0_2) := (blk_cell BK105.out 2).trans rfl
            have hcz12_3 : wc.cell? ⟨gb105, 3, none⟩ = some (.int .u8 a0_3) := (blk_cell BK105.out 3).trans rfl
            have hcz12_4 : wc.cell? ⟨gb105, 4, none⟩ = some (.string a0_4) := (blk_cell BK105.out 4).trans rfl
            have hcz12_5 : wc.cell? ⟨gb105, 5, none⟩ = some (.string a0_5) := (blk_cell BK105.out 5).trans rfl
            have hcz12_6 : wc.cell? ⟨gb105, 6, none⟩ = some (.int .i64 a0_6) := (blk_cell BK105.out 6).trans rfl
            have hcz12_7 : wc.cell? ⟨gb105, 7, none⟩ = some (.int .i64 a0_7) := (blk_cell BK105.out 7).trans rfl
            have hfz12_0 := blk_frozen BK105.out 0
            have hfz12_1 := blk_frozen BK105.out 1
            have hfz12_2 := blk_frozen BK105.out 2
            have hfz12_3 := blk_frozen BK105.out 3
            have hfz12_4 := blk_frozen BK105.out 4
            have hfz12_5 := blk_frozen BK105.out 5
            have hfz12_6 := blk_frozen BK105.out 6
            have hfz12_7 := blk_frozen BK105.out 7
            go_wp2
            go_meet
            case rel => exact ⟨_, (false), (by first | rfl | (simp; done) | (simp [*]; done)), H', ⟨by have := HJ1.out; first | omega | exact Nat.le_refl _⟩, ⟨by (with_reducible repeat (first | refine blk_drewN ?_ _ | refine blk_drew ?_ | refine blk_alloc ?_ _)); exact BK105.out⟩, ⟨by repeat (first | (with_reducible first | exact HB.out | apply below_alloc | apply pw_below_drewN | apply below_drew1 | refine below_set ?_ GE105.out) | exact HB.out)⟩⟩
          · rw [if_neg c11] at H
            have c11b0 : (a0_3 == 0) = false := beq_eq_false_iff_ne.mpr c11
            have c11b1 : (a0_3 != 0) = true := bne_iff_ne.mpr c11
            (first | rw [c11b0] | (simp only [i64_w, i32_w]; rw [c11b0]) | skip)
            by_cases c13 : a0_3 = 1
            · rw [if_pos c13] at H
              have c13b0 : (a0_3 == 1) = true := beq_iff_eq.mpr c13
              have c13b1 : (a0_3 != 1) = false := bne_eq_false_iff_eq.mpr c13
              clear c13
              have H' := Aside0.mk H
              clear H
              have hcz14_0 : wc.cell? ⟨gb105, 0, none⟩ = some (.int .u64 a0_0) := (blk_cell BK105.out 0).trans rfl
              have hcz14_1 : wc.cell? ⟨gb105, 1, none⟩ = some (.int .u64 a0_1) := (blk_cell BK105.out 1).trans rfl
              have hcz14_2 : wc.cell? ⟨gb105, 2, none⟩ = some (.int .u64 a0_2) := (blk_cell BK105.out 2).trans rfl
              have hcz14_3 : wc.cell? ⟨gb105, 3, none⟩ = some (.int .u8 a0_3) := (blk_cell BK105.out 3).trans rfl
              have hcz14_4 : wc.cell? ⟨gb105, 4, none⟩ = some (.string a0_4) := (blk_cell BK105.out 4).trans rfl
              have hcz14_5 : wc.cell? ⟨gb105, 5, none⟩ = some (.string a0_5) := (blk_cell BK105.out 5).trans rfl
              have hcz14_6 : wc.cell? ⟨gb105, 6, none⟩ = some (.int .i64 a0_6) := (blk_cell BK105.out 6).trans rfl
              have hcz14_7 : wc.cell? ⟨gb105, 7, none⟩ = some (.int .i64 a0_7) := (blk_cell BK105.out 7).trans rfl
              have hfz14_0 := blk_frozen BK105.out 0
              have hfz14_1 := blk_frozen BK105.out 1
              have hfz14_2 := blk_frozen BK105.out 2
              have hfz14_3 := blk_frozen BK105.out 3
              have hfz14_4 := blk_frozen BK105.out 4
              have hfz14_5 := blk_frozen BK105.out 5
              have hfz14_6 := blk_frozen BK105.out 6
              have hfz14_7 := blk_frozen BK105.out 7
              go_wp2
              go_meet
              case rel => exact ⟨_, (false), (by first | rfl | (simp; done) | (simp [*]; done)), H', ⟨by have := HJ1.out; first | omega | exact Nat.le_refl _⟩, ⟨by (with_reducible repeat (first | refine blk_drewN ?_ _ | refine blk_drew ?_ | refine blk_alloc ?_ _)); exact BK105.out⟩, ⟨by repeat (first | (with_reducible first | exact HB.out | apply below_alloc | apply pw_below_drewN | apply below_drew1 | refine below_set ?_ GE105.out) | exact HB.out)⟩⟩
            · rw [if_neg c13] at H
              have c13b0 : (a0_3 == 1) = false := beq_eq_false_iff_ne.mpr c13
              have c13b1 : (a0_3 != 1) = true := bne_iff_ne.mpr c13
              have H' := Aside0.mk H
              clear H
              have hcz15_0 : wc.cell? ⟨gb105, 0, none⟩ = some (.int .u64 a0_0) := (blk_cell BK105.out 0).trans rfl
              have hcz15_1 : wc.cell? ⟨gb105, 1, none⟩ = some (.int .u64 a0_1) := (blk_cell BK105.out 1).trans rfl
              have hcz15_2 : wc.cell? ⟨gb105, 2, none⟩ = some (.int .u64 a0_2) := (blk_cell BK105.out 2).trans rfl
              have hcz15_3 : wc.cell? ⟨gb105, 3, none⟩ = some (.int .u8 a0_3) := (blk_cell BK105.out 3).trans rfl
              have hcz15_4 : wc.cell? ⟨gb105, 4, none⟩ = some (.string a0_4) := (blk_cell BK105.out 4).trans rfl
              have hcz15_5 : wc.cell? ⟨gb105, 5, none⟩ = some (.string a0_5) := (blk_cell BK105.out 5).trans rfl
              have hcz15_6 : wc.cell? ⟨gb105, 6, none⟩ = some (.int .i64 a0_6) := (blk_cell BK105.out 6).trans rfl
              have hcz15_7 : wc.cell? ⟨gb105, 7, none⟩ = some (.int .i64 a0_7) := (blk_cell BK105.out 7).trans rfl
              have hfz15_0 := blk_frozen BK105.out 0
              have hfz15_1 := blk_frozen BK105.out 1
              have hfz15_2 := blk_frozen BK105.out 2
              have hfz15_3 := blk_frozen BK105.out 3
              have hfz15_4 := blk_frozen BK105.out 4
              have hfz15_5 := blk_frozen BK105.out 5
              have hfz15_6 := blk_frozen BK105.out 6
              have hfz15_7 := blk_frozen BK105.out 7
              go_wp2
              go_meet
              case rel => exact ⟨_, ((a0_3 != 2)), (by first | rfl | (simp; done) | (simp [*]; done)), H', ⟨by have := HJ1.out; first | omega | exact Nat.le_refl _⟩, ⟨by (with_reducible repeat (first | refine blk_drewN ?_ _ | refine blk_drew ?_ | refine blk_alloc ?_ _)); exact BK105.out⟩, ⟨by repeat (first | (with_reducible first | exact HB.out | apply below_alloc | apply pw_below_drewN | apply below_drew1 | refine below_set ?_ GE105.out) | exact HB.out)⟩⟩
        case rest =>
          clear HC10
          (try clear c1); (try clear p2); (try clear c3); (try clear c4); (try clear c4b0); (try clear c4b1); (try clear c6); (try clear c6b0); (try clear c6b1); (try clear c9); (try clear c11); (try clear c11b0); (try clear c11b1); (try clear c13); (try clear c13b0); (try clear c13b1); (try clear hcz12_0); (try clear hcz12_1); (try clear hcz12_2); (try clear hcz12_3); (try clear hcz12_4); (try clear hcz12_5); (try clear hcz12_6); (try clear hcz12_7); (try clear hcz14_0); (try clear hcz14_1); (try clear hcz14_2); (try clear hcz14_3); (try clear hcz14_4); (try clear hcz14_5); (try clear hcz14_6); (try clear hcz14_7); (try clear hcz15_0); (try clear hcz15_1); (try clear hcz15_2); (try clear hcz15_3); (try clear hcz15_4); (try clear hcz15_5); (try clear hcz15_6); (try clear hcz15_7); (try clear hcz5_0); (try clear hcz5_1); (try clear hcz5_2); (try clear hcz5_3); (try clear hcz5_4); (try clear hcz5_5); (try clear hcz5_6); (try clear hcz5_7); (try clear hcz7_0); (try clear hcz7_1); (try clear hcz7_2); (try clear hcz7_3); (try clear hcz7_4); (try clear hcz7_5); (try clear hcz7_6); (try clear hcz7_7); (try clear hcz8_0); (try clear hcz8_1); (try clear hcz8_2); (try clear hcz8_3); (try clear hcz8_4); (try clear hcz8_5); (try clear hcz8_6); (try clear hcz8_7); (try clear hfz12_0); (try clear hfz12_1); (try clear hfz12_2); (try clear hfz12_3); (try clear hfz12_4); (try clear hfz12_5); (try clear hfz12_6); (try clear hfz12_7); (try clear hfz14_0); (try clear hfz14_1); (try clear hfz14_2); (try clear hfz14_3); (try clear hfz14_4); (try clear hfz14_5); (try clear hfz14_6); (try clear hfz14_7); (try clear hfz15_0); (try clear hfz15_1); (try clear hfz15_2); (try clear hfz15_3); (try clear hfz15_4); (try clear hfz15_5); (try clear hfz15_6); (try clear hfz15_7); (try clear hfz5_0); (try clear hfz5_1); (try clear hfz5_2); (try clear hfz5_3); (try clear hfz5_4); (try clear hfz5_5); (try clear hfz5_6); (try clear hfz5_7); (try clear hfz7_0); (try clear hfz7_1); (try clear hfz7_2); (try clear hfz7_3); (try clear hfz7_4); (try clear hfz7_5); (try clear hfz7_6); (try clear hfz7_7); (try clear hfz8_0); (try clear hfz8_1); (try clear hfz8_2); (try clear hfz8_3); (try clear hfz8_4); (try clear hfz8_5); (try clear hfz8_6); (try clear hfz8_7); (try clear p2)
          obtain ⟨kq, x30_9, rfl, HA, HJ9, BK105, HB⟩ := hcut
          cases kq with
          | zero => exact absurd HA.out (by simp [merkhetref01_May.j1])
          | succ kj9 =>
            have H := HA.out
            clear HA
            simp only [merkhetref01_May.j1] at H
            by_cases c16 : x30_9 = true
            · subst c16
              have H1 : (some false) = some r := by rw [if_pos rfl] at H; exact H
              clear H
              have H := H1
              clear H1
              obtain rfl := Option.some.inj H
              go_wp2
              go_ret
              exact ⟨by first | rfl | (simp [errW_none, errW_some] <;> rfl) | (simp [*, errW_none, errW_some] <;> rfl), by repeat (first | (with_reducible first | exact HB.out | apply below_alloc | apply pw_below_drewN | apply below_drew1 | refine below_set ?_ GE105.out) | exact HB.out)⟩
            · replace c16 := Bool.eq_false_iff.mpr c16
              subst c16
              have H1 : (if a0_6 < 0 then (merkhetref01_May.j2 kj9 true a0_0 a0_1 a0_2 a0_3 a0_4 a0_5 a0_6 a0_7) else (if a0_6 > 1125899906842623 then (merkhetref01_May.j2 kj9 true a0_0 a0_1 a0_2 a0_3 a0_4 a0_5 a0_6 a0_7) else (if a0_7 < 0 then (merkhetref01_May.j2 kj9 true a0_0 a0_1 a0_2 a0_3 a0_4 a0_5 a0_6 a0_7) else (merkhetref01_May.j2 kj9 (decide (a0_7 > 1125899906842624)) a0_0 a0_1 a0_2 a0_3 a0_4 a0_5 a0_6 a0_7)))) = some r := by rw [if_neg (show ¬ (false = true) by decide)] at H; exact H
              clear H
              have H := H1
              clear H1
              have HC17 := Aside0.mk H
              clear H
              go_upto_region 5 with (fail)
              go_cut [48] (fun v48 wc => ∃ (kq : Nat) (x48_16 : Bool), v48 = .bool x48_16 ∧ Aside0 (merkhetref01_May.j2 kq x48_16 a0_0 a0_1 a0_2 a0_3 a0_4 a0_5 a0_6 a0_7 = some r) ∧ Aside0 (kq ≤ kj9) ∧ Aside0 (wc.heap[gb105]? = some (.cells #[.int .u64 a0_0, .int .u64 a0_1, .int .u64 a0_2, .int .u8 a0_3, .string a0_4, .string a0_5, .int .i64 a0_6, .int .i64 a0_7] 42 (0, 0))) ∧ Aside0 (Below w.heap.size w wc))
              case first =>
                have H := HC17.out
                clear HC17
                by_cases c18 : a0_6 < 0
                · rw [if_pos c18] at H
                  have c18b0 : decide (a0_6 < 0) = true := decide_eq_true c18
                  clear c18
                  (first | rw [c18b0] | (simp only [i64_w, i32_w]; rw [c18b0]) | skip)
                  have H' := Aside0.mk H
                  clear H
                  have hcz19_0 : wc.cell? ⟨gb105, 0, none⟩ = some (.int .u64 a0_0) := (blk_cell BK105.out 0).trans rfl
                  have hcz19_1 : wc.cell? ⟨gb105, 1, none⟩ = some (.int .u64 a0_1) := (blk_cell BK105.out 1).trans rfl
                  have hcz19_2 : wc.cell? ⟨gb105, 2, none⟩ = some (.int .u64 a0_2) := (blk_cell BK105.out 2).trans rfl
                  have hcz19_3 : wc.cell? ⟨gb105, 3, none⟩ = some (.int .u8 a0_3) := (blk_cell BK105.out 3).trans rfl
                  have hcz19_4 : wc.cell? ⟨gb105, 4, none⟩ = some (.string a0_4) := (blk_cell BK105.out 4).trans rfl
                  have hcz19_5 : wc.cell? ⟨gb105, 5, none⟩ = some (.string a0_5) := (blk_cell BK105.out 5).trans rfl
                  have hcz19_6 : wc.cell? ⟨gb105, 6, none⟩ = some (.int .i64 a0_6) := (blk_cell BK105.out 6).trans rfl
                  have hcz19_7 : wc.cell? ⟨gb105, 7, none⟩ = some (.int .i64 a0_7) := (blk_cell BK105.out 7).trans rfl
                  have hfz19_0 := blk_frozen BK105.out 0
                  have hfz19_1 := blk_frozen BK105.out 1
                  have hfz19_2 := blk_frozen BK105.out 2
                  have hfz19_3 := blk_frozen BK105.out 3
                  have hfz19_4 := blk_frozen BK105.out 4
                  have hfz19_5 := blk_frozen BK105.out 5
                  have hfz19_6 := blk_frozen BK105.out 6
                  have hfz19_7 := blk_frozen BK105.out 7
                  go_wp2
                  go_meet
                  case rel => exact ⟨_, (true), (by first | rfl | (simp; done) | (simp [*]; done)), H', ⟨by have := HJ1.out; have := HJ9.out; first | omega | exact Nat.le_refl _⟩, ⟨by (with_reducible repeat (first | refine blk_drewN ?_ _ | refine blk_drew ?_ | refine blk_alloc ?_ _)); exact BK105.out⟩, ⟨by repeat (first | (with_reducible first | exact HB.out | apply below_alloc | apply pw_below_drewN | apply below_drew1 | refine below_set ?_ GE105.out) | exact HB.out)⟩⟩
                · rw [if_neg c18] at H
                  have c18b0 : decide (a0_6 < 0) = false := decide_eq_false c18
                  clear c18
                  (first | rw [c18b0] | (simp only [i64_w, i32_w]; rw [c18b0]) | skip)
                  by_cases c20 : a0_6 > 1125899906842623
                  · rw [if_pos c20] at H
                    have c20b0 : decide (1125899906842623 < a0_6) = true := decide_eq_true c20
                    clear c20
                    have H' := Aside0.mk H
                    clear H
                    have hcz21_0 : wc.cell? ⟨gb105, 0, none⟩ = some (.int .u64 a0_0) := (blk_cell BK105.out 0).trans rfl
                    have hcz21_1 : wc.cell? ⟨gb105, 1, none⟩ = some (.int .u64 a0_1) := (blk_cell BK105.out 1).trans rfl
                    have hcz21_2 : wc.cell? ⟨gb105, 2, none⟩ = some (.int .u64 a0_2) := (blk_cell BK105.out 2).trans rfl
                    have hcz21_3 : wc.cell? ⟨gb105, 3, none⟩ = some (.int .u8 a0_3) := (blk_cell BK105.out 3).trans rfl
                    have hcz21_4 : wc.cell? ⟨gb105, 4, none⟩ = some (.string a0_4) := (blk_cell BK105.out 4).trans rfl
                    have hcz21_5 : wc.cell? ⟨gb105, 5, none⟩ = some (.string a0_5) := (blk_cell BK105.out 5).trans rfl
                    have hcz21_6 : wc.cell? ⟨gb105, 6, none⟩ = some (.int .i64 a0_6) := (blk_cell BK105.out 6).trans rfl
                    have hcz21_7 : wc.cell? ⟨gb105, 7, none⟩ = some (.int .i64 a0_7) := (blk_cell BK105.out 7).trans rfl
                    have hfz21_0 := blk_frozen BK105.out 0
                    have hfz21_1 := blk_frozen BK105.out 1
                    have hfz21_2 := blk_frozen BK105.out 2
                    have hfz21_3 := blk_frozen BK105.out 3
                    have hfz21_4 := blk_frozen BK105.out 4
                    have hfz21_5 := blk_frozen BK105.out 5
                    have hfz21_6 := blk_frozen BK105.out 6
                    have hfz21_7 := blk_frozen BK105.out 7
                    go_wp2
                    go_meet
                    case rel => exact ⟨_, (true), (by first | rfl | (simp; done) | (simp [*]; done)), H', ⟨by have := HJ1.out; have := HJ9.out; first | omega | exact Nat.le_refl _⟩, ⟨by (with_reducible repeat (first | refine blk_drewN ?_ _ | refine blk_drew ?_ | refine blk_alloc ?_ _)); exact BK105.out⟩, ⟨by repeat (first | (with_reducible first | exact HB.out | apply below_alloc | apply pw_below_drewN | apply below_drew1 | refine below_set ?_ GE105.out) | exact HB.out)⟩⟩
                  · rw [if_neg c20] at H
                    have c20b0 : decide (1125899906842623 < a0_6) = false := decide_eq_false c20
                    clear c20
                    by_cases c22 : a0_7 < 0
                    · rw [if_pos c22] at H
                      have c22b0 : decide (a0_7 < 0) = true := decide_eq_true c22
                      clear c22
                      have H' := Aside0.mk H
                      clear H
                      have hcz23_0 : wc.cell? ⟨gb105, 0, none⟩ = some (.int .u64 a0_0) := (blk_cell BK105.out 0).trans rfl
                      have hcz23_1 : wc.cell? ⟨gb105, 1, none⟩ = some (.int .u64 a0_1) := (blk_cell BK105.out 1).trans rfl
                      have hcz23_2 : wc.cell? ⟨gb105, 2, none⟩ = some (.int .u64 a0_2) := (blk_cell BK105.out 2).trans rfl
                      have hcz23_3 : wc.cell? ⟨gb105, 3, none⟩ = some (.int .u8 a0_3) := (blk_cell BK105.out 3).trans rfl
                      have hcz23_4 : wc.cell? ⟨gb105, 4, none⟩ = some (.string a0_4) := (blk_cell BK105.out 4).trans rfl
                      have hcz23_5 : wc.cell? ⟨gb105, 5, none⟩ = some (.string a0_5) := (blk_cell BK105.out 5).trans rfl
                      have hcz23_6 : wc.cell? ⟨gb105, 6, none⟩ = some (.int .i64 a0_6) := (blk_cell BK105.out 6).trans rfl
                      have hcz23_7 : wc.cell? ⟨gb105, 7, none⟩ = some (.int .i64 a0_7) := (blk_cell BK105.out 7).trans rfl
                      have hfz23_0 := blk_frozen BK105.out 0
                      have hfz23_1 := blk_frozen BK105.out 1
                      have hfz23_2 := blk_frozen BK105.out 2
                      have hfz23_3 := blk_frozen BK105.out 3
                      have hfz23_4 := blk_frozen BK105.out 4
                      have hfz23_5 := blk_frozen BK105.out 5
                      have hfz23_6 := blk_frozen BK105.out 6
                      have hfz23_7 := blk_frozen BK105.out 7
                      go_wp2
                      go_meet
                      case rel => exact ⟨_, (true), (by first | rfl | (simp; done) | (simp [*]; done)), H', ⟨by have := HJ1.out; have := HJ9.out; first | omega | exact Nat.le_refl _⟩, ⟨by (with_reducible repeat (first | refine blk_drewN ?_ _ | refine blk_drew ?_ | refine blk_alloc ?_ _)); exact BK105.out⟩, ⟨by repeat (first | (with_reducible first | exact HB.out | apply below_alloc | apply pw_below_drewN | apply below_drew1 | refine below_set ?_ GE105.out) | exact HB.out)⟩⟩
                    · rw [if_neg c22] at H
                      have c22b0 : decide (a0_7 < 0) = false := decide_eq_false c22
                      clear c22
                      have H' := Aside0.mk H
                      clear H
                      have hcz24_0 : wc.cell? ⟨gb105, 0, none⟩ = some (.int .u64 a0_0) := (blk_cell BK105.out 0).trans rfl
                      have hcz24_1 : wc.cell? ⟨gb105, 1, none⟩ = some (.int .u64 a0_1) := (blk_cell BK105.out 1).trans rfl
                      have hcz24_2 : wc.cell? ⟨gb105, 2, none⟩ = some (.int .u64 a0_2) := (blk_cell BK105.out 2).trans rfl
                      have hcz24_3 : wc.cell? ⟨gb105, 3, none⟩ = some (.int .u8 a0_3) := (blk_cell BK105.out 3).trans rfl
                      have hcz24_4 : wc.cell? ⟨gb105, 4, none⟩ = some (.string a0_4) := (blk_cell BK105.out 4).trans rfl
                      have hcz24_5 : wc.cell? ⟨gb105, 5, none⟩ = some (.string a0_5) := (blk_cell BK105.out 5).trans rfl
                      have hcz24_6 : wc.cell? ⟨gb105, 6, none⟩ = some (.int .i64 a0_6) := (blk_cell BK105.out 6).trans rfl
                      have hcz24_7 : wc.cell? ⟨gb105, 7, none⟩ = some (.int .i64 a0_7) := (blk_cell BK105.out 7).trans rfl
                      have hfz24_0 := blk_frozen BK105.out 0
                      have hfz24_1 := blk_frozen BK105.out 1
                      have hfz24_2 := blk_frozen BK105.out 2
                      have hfz24_3 := blk_frozen BK105.out 3
                      have hfz24_4 := blk_frozen BK105.out 4
                      have hfz24_5 := blk_frozen BK105.out 5
                      have hfz24_6 := blk_frozen BK105.out 6
                      have hfz24_7 := blk_frozen BK105.out 7
                      go_wp2
                      go_meet
                      case rel => exact ⟨_, (decide (a0_7 > 1125899906842624)), (by first | rfl | (simp; done) | (simp [*]; done)), H', ⟨by have := HJ1.out; have := HJ9.out; first | omega | exact Nat.le_refl _⟩, ⟨by (with_reducible repeat (first | refine blk_drewN ?_ _ | refine blk_drew ?_ | refine blk_alloc ?_ _)); exact BK105.out⟩, ⟨by repeat (first | (with_reducible first | exact HB.out | apply below_alloc | apply pw_below_drewN | apply below_drew1 | refine below_set ?_ GE105.out) | exact HB.out)⟩⟩
              case rest =>
                clear HC17
                (try clear c1); (try clear c2); (try clear p2); (try clear c3); (try clear c4); (try clear c4b0); (try clear c4b1); (try clear c6); (try clear c6b0); (try clear c6b1); (try clear c9); (try clear c11); (try clear c11b0); (try clear c11b1); (try clear c13); (try clear c13b0); (try clear c13b1); (try clear c16); (try clear c18); (try clear c18b0); (try clear c20); (try clear c20b0); (try clear c22); (try clear c22b0); (try clear hcz12_0); (try clear hcz12_1); (try clear hcz12_2); (try clear hcz12_3); (try clear hcz12_4); (try clear hcz12_5); (try clear hcz12_6); (try clear hcz12_7); (try clear hcz14_0); (try clear hcz14_1); (try clear hcz14_2); (try clear hcz14_3); (try clear hcz14_4); (try clear hcz14_5); (try clear hcz14_6); (try clear hcz14_7); (try clear hcz15_0); (try clear hcz15_1); (try clear hcz15_2); (try clear hcz15_3); (try clear hcz15_4); (try clear hcz15_5); (try clear hcz15_6); (try clear hcz15_7); (try clear hcz19_0); (try clear hcz19_1); (try clear hcz19_2); (try clear hcz19_3); (try clear hcz19_4); (try clear hcz19_5); (try clear hcz19_6); (try clear hcz19_7); (try clear hcz21_0); (try clear hcz21_1); (try clear hcz21_2); (try clear hcz21_3); (try clear hcz21_4); (try clear hcz21_5); (try clear hcz21_6); (try clear hcz21_7); (try clear hcz23_0); (try clear hcz23_1); (try clear hcz23_2); (try clear hcz23_3); (try clear hcz23_4); (try clear hcz23_5); (try clear hcz23_6); (try clear hcz23_7); (try clear hcz24_0); (try clear hcz24_1); (try clear hcz24_2); (try clear hcz24_3); (try clear hcz24_4); (try clear hcz24_5); (try clear hcz24_6); (try clear hcz24_7); (try clear hcz5_0); (try clear hcz5_1); (try clear hcz5_2); (try clear hcz5_3); (try clear hcz5_4); (try clear hcz5_5); (try clear hcz5_6); (try clear hcz5_7); (try clear hcz7_0); (try clear hcz7_1); (try clear hcz7_2); (try clear hcz7_3); (try clear hcz7_4); (try clear hcz7_5); (try clear hcz7_6); (try clear hcz7_7); (try clear hcz8_0); (try clear hcz8_1); (try clear hcz8_2); (try clear hcz8_3); (try clear hcz8_4); (try clear hcz8_5); (try clear hcz8_6); (try clear hcz8_7); (try clear hfz12_0); (try clear hfz12_1); (try clear hfz12_2); (try clear hfz12_3); (try clear hfz12_4); (try clear hfz12_5); (try clear hfz12_6); (try clear hfz12_7); (try clear hfz14_0); (try clear hfz14_1); (try clear hfz14_2); (try clear hfz14_3); (try clear hfz14_4); (try clear hfz14_5); (try clear hfz14_6); (try clear hfz14_7); (try clear hfz15_0); (try clear hfz15_1); (try clear hfz15_2); (try clear hfz15_3); (try clear hfz15_4); (try clear hfz15_5); (try clear hfz15_6); (try clear hfz15_7); (try clear hfz19_0); (try clear hfz19_1); (try clear hfz19_2); (try clear hfz19_3); (try clear hfz19_4); (try clear hfz19_5); (try clear hfz19_6); (try clear hfz19_7); (try clear hfz21_0); (try clear hfz21_1); (try clear hfz21_2); (try clear hfz21_3); (try clear hfz21_4); (try clear hfz21_5); (try clear hfz21_6); (try clear hfz21_7); (try clear hfz23_0); (try clear hfz23_1); (try clear hfz23_2); (try clear hfz23_3); (try clear hfz23_4); (try clear hfz23_5); (try clear hfz23_6); (try clear hfz23_7); (try clear hfz24_0); (try clear hfz24_1); (try clear hfz24_2); (try clear hfz24_3); (try clear hfz24_4); (try clear hfz24_5); (try clear hfz24_6); (try clear hfz24_7); (try clear hfz5_0); (try clear hfz5_1); (try clear hfz5_2); (try clear hfz5_3); (try clear hfz5_4); (try clear hfz5_5); (try clear hfz5_6); (try clear hfz5_7); (try clear hfz7_0); (try clear hfz7_1); (try clear hfz7_2); (try clear hfz7_3); (try clear hfz7_4); (try clear hfz7_5); (try clear hfz7_6); (try clear hfz7_7); (try clear hfz8_0); (try clear hfz8_1); (try clear hfz8_2); (try clear hfz8_3); (try clear hfz8_4); (try clear hfz8_5); (try clear hfz8_6); (try clear hfz8_7); (try clear p2)
                obtain ⟨kq, x48_16, rfl, HA, HJ16, BK105, HB⟩ := hcut
                cases kq with
                | zero => exact absurd HA.out (by simp [merkhetref01_May.j2])
                | succ kj16 =>
                  have H := HA.out
                  clear HA
                  simp only [merkhetref01_May.j2] at H
                  by_cases c25 : x48_16 = true
                  · subst c25
                    have H1 : (some false) = some r := by rw [if_pos rfl] at H; exact H
                    clear H
                    have H := H1
                    clear H1
                    obtain rfl := Option.some.inj H
                    go_wp2
                    go_ret
                    exact ⟨by first | rfl | (simp [errW_none, errW_some] <;> rfl) | (simp [*, errW_none, errW_some] <;> rfl), by repeat (first | (with_reducible first | exact HB.out | apply below_alloc | apply pw_below_drewN | apply below_drew1 | refine below_set ?_ GE105.out) | exact HB.out)⟩
                  · replace c25 := Bool.eq_false_iff.mpr c25
                    subst c25
                    have H1 : ((merkhetref01_Name.f kj16 a0_4).bind fun t106 => (if t106 = true then ((merkhetref01_Name.f kj16 a0_5).bind fun t107 => (some t107)) else (some false))) = some r := by rw [if_neg (show ¬ (false = true) by decide)] at H; exact H
                    clear H
                    have H := H1
                    clear H1
                    replace H := Option.bind_eq_some_iff.mp H
                    obtain ⟨t106, A260, H⟩ := H
                    replace H : (if t106 = true then ((merkhetref01_Name.f kj16 a0_5).bind fun t107 => (some t107)) else (some false)) = some r := H
                    have A26 := Aside0.mk A260
                    clear A260
                    by_cases c27 : t106 = true
                    · subst c27
                      have H1 : ((merkhetref01_Name.f kj16 a0_5).bind fun t107 => (some t107)) = some r := by rw [if_pos rfl] at H; exact H
                      clear H
                      have H := H1
                      clear H1
                      replace H := Option.bind_eq_some_iff.mp H
                      obtain ⟨t107, A280, H⟩ := H
                      replace H : (some t107) = some r := H
                      have A28 := Aside0.mk A280
                      clear A280
                      obtain rfl := Option.some.inj H
                      have hcz29_0 : wc.cell? ⟨gb105, 0, none⟩ = some (.int .u64 a0_0) := (blk_cell BK105.out 0).trans rfl
                      have hcz29_1 : wc.cell? ⟨gb105, 1, none⟩ = some (.int .u64 a0_1) := (blk_cell BK105.out 1).trans rfl
                      have hcz29_2 : wc.cell? ⟨gb105, 2, none⟩ = some (.int .u64 a0_2) := (blk_cell BK105.out 2).trans rfl
                      have hcz29_3 : wc.cell? ⟨gb105, 3, none⟩ = some (.int .u8 a0_3) := (blk_cell BK105.out 3).trans rfl
                      have hcz29_4 : wc.cell? ⟨gb105, 4, none⟩ = some (.string a0_4) := (blk_cell BK105.out 4).trans rfl
                      have hcz29_5 : wc.cell? ⟨gb105, 5, none⟩ = some (.string a0_5) := (blk_cell BK105.out 5).trans rfl
                      have hcz29_6 : wc.cell? ⟨gb105, 6, none⟩ = some (.int .i64 a0_6) := (blk_cell BK105.out 6).trans rfl
                      have hcz29_7 : wc.cell? ⟨gb105, 7, none⟩ = some (.int .i64 a0_7) := (blk_cell BK105.out 7).trans rfl
                      have hfz29_0 := blk_frozen BK105.out 0
                      have hfz29_1 := blk_frozen BK105.out 1
                      have hfz29_2 := blk_frozen BK105.out 2
                      have hfz29_3 := blk_frozen BK105.out 3
                      have hfz29_4 := blk_frozen BK105.out 4
                      have hfz29_5 := blk_frozen BK105.out 5
                      have hfz29_6 := blk_frozen BK105.out 6
                      have hfz29_7 := blk_frozen BK105.out 7
                      go_wp2_with (first | ((with_reducible refine gate_callee (f := 53) rfl ?_); refine goesL_ (some 51) rfl rfl Try.func53 (by kernel_rfl) rfl #[.string a0_4] rfl (by (try simp only [List.map_toArray, List.map_cons, List.map_nil]); first | done | rfl | (simp only [List.length_drop, List.length_take]; rfl)) ?_; (with_reducible refine (merkhetref01_Name.calls kj16 a0_4 true _ A26.out).mono ?_); rintro e w' ⟨rfl, ⟨nd, rfl⟩⟩; refine ⟨_, rfl, ?_⟩) | (go_at_call 53; (with_reducible refine (merkhetref01_Name.calls kj16 a0_5 t107 _ A28.out).mono ?_); rintro e w' ⟨rfl, ⟨nd, rfl⟩⟩))
                      go_ret
                      exact ⟨by first | rfl | (simp [errW_none, errW_some] <;> rfl) | (simp [*, errW_none, errW_some] <;> rfl), by repeat (first | (with_reducible first | exact HB.out | apply below_alloc | apply pw_below_drewN | apply below_drew1 | refine below_set ?_ GE105.out) | exact HB.out)⟩
                    · replace c27 := Bool.eq_false_iff.mpr c27
                      subst c27
                      have H1 : (some false) = some r := by rw [if_neg (show ¬ (false = true) by decide)] at H; exact H
                      clear H
                      have H := H1
                      clear H1
                      obtain rfl := Option.some.inj H
                      have hcz30_0 : wc.cell? ⟨gb105, 0, none⟩ = some (.int .u64 a0_0) := (blk_cell BK105.out 0).trans rfl
                      have hcz30_1 : wc.cell? ⟨gb105, 1, none⟩ = some (.int .u64 a0_1) := (blk_cell BK105.out 1).trans rfl
                      have hcz30_2 : wc.cell? ⟨gb105, 2, none⟩ = some (.int .u64 a0_2) := (blk_cell BK105.out 2).trans rfl
                      have hcz30_3 : wc.cell? ⟨gb105, 3, none⟩ = some (.int .u8 a0_3) := (blk_cell BK105.out 3).trans rfl
                      have hcz30_4 : wc.cell? ⟨gb105, 4, none⟩ = some (.string a0_4) := (blk_cell BK105.out 4).trans rfl
                      have hcz30_5 : wc.cell? ⟨gb105, 5, none⟩ = some (.string a0_5) := (blk_cell BK105.out 5).trans rfl
                      have hcz30_6 : wc.cell? ⟨gb105, 6, none⟩ = some (.int .i64 a0_6) := (blk_cell BK105.out 6).trans rfl
                      have hcz30_7 : wc.cell? ⟨gb105, 7, none⟩ = some (.int .i64 a0_7) := (blk_cell BK105.out 7).trans rfl
                      have hfz30_0 := blk_frozen BK105.out 0
                      have hfz30_1 := blk_frozen BK105.out 1
                      have hfz30_2 := blk_frozen BK105.out 2
                      have hfz30_3 := blk_frozen BK105.out 3
                      have hfz30_4 := blk_frozen BK105.out 4
                      have hfz30_5 := blk_frozen BK105.out 5
                      have hfz30_6 := blk_frozen BK105.out 6
                      have hfz30_7 := blk_frozen BK105.out 7
                      go_wp2_with (first | ((with_reducible refine gate_callee (f := 53) rfl ?_); refine goesL_ (some 51) rfl rfl Try.func53 (by kernel_rfl) rfl #[.string a0_4] rfl (by (try simp only [List.map_toArray, List.map_cons, List.map_nil]); first | done | rfl | (simp only [List.length_drop, List.length_take]; rfl)) ?_; (with_reducible refine (merkhetref01_Name.calls kj16 a0_4 false _ A26.out).mono ?_); rintro e w' ⟨rfl, ⟨nd, rfl⟩⟩; refine ⟨_, rfl, ?_⟩))
                      go_ret
                      exact ⟨by first | rfl | (simp [errW_none, errW_some] <;> rfl) | (simp [*, errW_none, errW_some] <;> rfl), by repeat (first | (with_reducible first | exact HB.out | apply below_alloc | apply pw_below_drewN | apply below_drew1 | refine below_set ?_ GE105.out) | exact HB.out)⟩

end Go.Proofs.Ytjgpggjjgimibaa.Q

/- bound.raised, sum, above, Holds. -/
namespace Go.Proofs.Ytjgpggjjgimibaa.L
open Go.RowKit Go.Proofs.Ytjgpggjjgimibaa.Q Go.Proofs.YtjgpggjjgimibaaW.PrintWords Go.Proofs.YtjgpggjjgimibaaW.PrintLast Go.Proofs.YtjgpggjjgimibaaW.PrintMore Go.Proofs.YtjgpggjjgimibaaW.MapB Go.Proofs.YtjgpggjjgimibaaW.Lib
set_option linter.unusedVariables false
set_option linter.unusedSimpArgs false

def inI (n : Int) : Prop := -9223372036854775808 ≤ n ∧ n < 9223372036854775808
instance : DecidablePred inI := fun n => by unfold inI; infer_instance
theorem own1 (w : World) (cs : Array Value) (t : TypeId) (i : Nat) {v : Value} (h : cs[i]? = some v) : (w.alloc (.cells cs t)).drew.cell? ⟨w.heap.size, i, none⟩ = some v := (blk_cell (MapKept.heap_alloc w _).1 i).trans h
end Go.Proofs.Ytjgpggjjgimibaa.L

/- bound.All: the closure, slices.IndexFunc and ContainsFunc over edges. -/
namespace Go.Proofs.Ytjgpggjjgimibaa.L
open Go.RowKit Go.Proofs.Ytjgpggjjgimibaa.Q Go.Proofs.YtjgpggjjgimibaaW.PrintWords Go.Proofs.YtjgpggjjgimibaaW.PrintLast Go.Proofs.YtjgpggjjgimibaaW.PrintMore Go.Proofs.YtjgpggjjgimibaaW.MapB Go.Proofs.YtjgpggjjgimibaaW.Lib
set_option linter.unusedVariables false
set_option linter.unusedSimpArgs false
end Go.Proofs.Ytjgpggjjgimibaa.L

/- relax.May: which edges may be. -/
namespace Go.Proofs.Ytjgpggjjgimibaa.L
open Go.RowKit Go.Proofs.Ytjgpggjjgimibaa.Q Go.Proofs.YtjgpggjjgimibaaW.PrintWords Go.Proofs.YtjgpggjjgimibaaW.PrintLast Go.Proofs.YtjgpggjjgimibaaW.PrintMore Go.Proofs.YtjgpggjjgimibaaW.MapB Go.Proofs.YtjgpggjjgimibaaW.Lib
set_option linter.unusedVariables false
set_option linter.unusedSimpArgs false
/-- What is no edge of n hosts. -/
def badE (n : Int) (e : S37) : Bool := decide (min e.f0 e.f1 < 0) || (decide (n ≤ max e.f0 e.f1) || (decide (4503599627370496 < e.f2) || decide (e.f2 < -4503599627370496)))
theorem keep1r {w : World} {a : Addr} {v : Value} {o1 : Obj} (h : w.cell? a = some v) : (w.alloc o1).cell? a = some v :=
  ((below_alloc (Below.refl w.heap.size w) o1).cell (World.block_lt_of_cell? w _ h)).trans h
set_option maxRecDepth 100000 in
set_option maxHeartbeats 2000000 in
theorem bad_calls (n : Int) (B : Nat) (e : S37) (w : World) (hc : w.cell? ⟨B, 0, none⟩ = some (.int .i64 n)) : Calls Try.prog 93 #[.agg #[.int .i64 e.f0, .int .i64 e.f1, .int .i64 e.f2, .int .i64 e.f3.f0, .int .i64 e.f3.f1, .bool e.f4], .pointer (some ⟨B, 0, none⟩)] w fun r w' => r = .returned (.bool (badE n e)) ∧ Below w.heap.size w w' := by
  have HB := Aside0.mk (Below.refl w.heap.size w)
  have hk := fun o => keep1r (o1 := o) hc
  clear hc
  unfold badE
  cases c1 : decide (min e.f0 e.f1 < 0) with
  | true =>
    go_enter Try.func93, Try.ntmps93
    go_wp2_with fail
    go_ret
    exact ⟨rfl, below_alloc HB.out _⟩
  | false =>
  cases c2 : decide (n ≤ max e.f0 e.f1) with
  | true =>
    go_enter Try.func93, Try.ntmps93
    go_wp2_with fail
    go_ret
    exact ⟨rfl, below_alloc HB.out _⟩
  | false =>
  cases c3 : decide (4503599627370496 < e.f2) with
  | true =>
    go_enter Try.func93, Try.ntmps93
    go_wp2_with fail
    go_ret
    exact ⟨rfl, below_alloc HB.out _⟩
  | false =>
  cases c4 : decide (e.f2 < -4503599627370496) with
  | true =>
    go_enter Try.func93, Try.ntmps93
    go_wp2_with fail
    go_ret
    exact ⟨rfl, below_alloc HB.out _⟩
  | false =>
    go_enter Try.func93, Try.ntmps93
    go_wp2_with fail
    go_ret
    exact ⟨rfl, below_alloc HB.out _⟩
set_option maxHeartbeats 4000000 in
set_option maxRecDepth 100000 in
theorem edgemay_index (n : Int) (B : Nat) (es : List S37) (hn : es.length ≤ 1000000000) (A0 : Option Addr) (c0 : Nat) (w : World) (hr0 : Kd.C k37 w A0 es.length es)
    (QL0 : ∀ e ∈ es, ∀ W, Below w.heap.size w W → Calls Try.prog 93 #[.agg #[.int .i64 e.f0, .int .i64 e.f1, .int .i64 e.f2, .int .i64 e.f3.f0, .int .i64 e.f3.f1, .bool e.f4], .pointer (some ⟨B, 0, none⟩)] W fun r w' => r = .returned (.bool ((badE n) e)) ∧ Below W.heap.size W w') :
    Calls Try.prog 59 #[.slice A0 es.length c0, .func (.func 93) #[] #[.pointer (some ⟨B, 0, none⟩)]] w fun r w' => ∃ i : Int, r = .returned (.int .i64 i) ∧ decide (0 ≤ i) = es.any (badE n) ∧ Below w.heap.size w w' := by
  have HB0 := Aside0.mk (Below.refl w.heap.size w)
  have HR0 := Aside0.mk hr0
  have HN := Aside0.mk hn
  have QL := Aside0.mk QL0
  clear hr0 hn QL0
  generalize hpp : (badE n) = pp at *
  clear hpp
  go_enter Try.func59, Try.ntmps59
  go_wp2_with fail
  go_loopg [8] es.length (fun kq v8 w' => ∃ x8 : Int, v8 = .int .i64 x8 ∧ Aside0 (0 ≤ x8 ∧ x8 + kq = es.length) ∧ Aside0 (∀ e ∈ es.take x8.toNat, pp e = false) ∧ Aside0 (Below w.heap.size w w'))
  case atStart => exact ⟨0, rfl, ⟨by omega, by omega⟩, ⟨by simp⟩, HB0⟩
  case round =>
    obtain ⟨x8, rfl, HK, HA, HB⟩ := hrel
    by_cases c1 : x8 < (es.length : Int)
    · have c1b := decide_eq_true c1
      have p1 : 0 ≤ x8 := HK.out.1
      obtain ⟨ad, e1, hx0, hx1, hx2, hx3, hx4, hx5⟩ := at_T37 HR0.out x8 p1 c1
      cases e1
      replace hx0 := (HB.out.cell (World.block_lt_of_cell? w _ hx0)).trans hx0
      replace hx1 := (HB.out.cell (World.block_lt_of_cell? w _ hx1)).trans hx1
      replace hx2 := (HB.out.cell (World.block_lt_of_cell? w _ hx2)).trans hx2
      replace hx3 := (HB.out.cell (World.block_lt_of_cell? w _ hx3)).trans hx3
      replace hx4 := (HB.out.cell (World.block_lt_of_cell? w _ hx4)).trans hx4
      replace hx5 := (HB.out.cell (World.block_lt_of_cell? w _ hx5)).trans hx5
      have hit : x8.toNat < es.length := by omega
      have hev : rd_T37 es x8 = es[x8.toNat] := by simp [rd_T37, List.getD, hit]
      have hem : rd_T37 es x8 ∈ es := by rw [hev]; exact List.getElem_mem _
      have HE := Aside0.mk (show es.take (x8 + 1).toNat = es.take x8.toNat ++ [rd_T37 es x8] from by
        rw [show (x8 + 1).toNat = x8.toNat + 1 by omega, List.take_succ_eq_append_getElem hit, hev])
      have QE := Aside0.mk (QL.out _ hem wr HB.out)
      have HM := Aside0.mk hem
      have P1 := Aside0.mk p1
      have Q1 := Aside0.mk c1
      have W1 := Aside0.mk (show wrap64 (x8 + 1) = x8 + 1 from by unfold wrap64; have := HN.out; have := P1.out; have := Q1.out; omega)
      clear hev hem hit
      generalize rd_T37 es x8 = e at *
      replace p1 := eq_true p1
      replace c1 := eq_true c1
      obtain ⟨k1, rfl⟩ : ∃ k1, gk = k1 + 1 := ⟨gk - 1, by have := HK.out; have := Q1.out; omega⟩
      cases hq : pp e with
      | false =>
        rw [hq] at QE
        have HQ := Aside0.mk hq
        clear hq
        go_wp2_with (go_at_call 93; refine QE.out.mono ?_; rintro r w1 ⟨rfl, hb⟩; have HB1 := Aside0.mk (below_step HB.out hb); clear hb)
        go_roundg k1
        case measure => omega
        case rel => exact ⟨x8 + 1, by rw [W1.out], ⟨by have := P1.out; omega, by have := HK.out; omega⟩, ⟨by
          rw [HE.out]
          intro y hy
          rcases List.mem_append.1 hy with h | h
          · exact HA.out y h
          · rw [List.mem_singleton.1 h]; exact HQ.out⟩, HB1⟩
      | true =>
        rw [hq] at QE
        have HQ := Aside0.mk hq
        clear hq
        go_wp2_with (go_at_call 93; refine QE.out.mono ?_; rintro r w1 ⟨rfl, hb⟩; have HB1 := Aside0.mk (below_step HB.out hb); clear hb)
        go_ret
        refine ⟨x8, rfl, ?_, HB1.out⟩
        rw [decide_eq_true P1.out]
        exact (List.any_eq_true.2 ⟨e, HM.out, HQ.out⟩).symm
    · have c1b := decide_eq_false c1
      have hx : x8.toNat = es.length := by have := HK.out; omega
      have ha := HA.out
      rw [hx, List.take_length] at ha
      have HAll := Aside0.mk ha
      clear ha hx c1
      go_wp2_with fail
      go_ret
      refine ⟨-1, rfl, ?_, HB.out⟩
      exact (List.any_eq_false.2 (fun e he => by rw [HAll.out e he]; simp)).symm
set_option maxHeartbeats 2000000 in
set_option maxRecDepth 100000 in
theorem edgemay_contains (n : Int) (B : Nat) (es : List S37) (hn : es.length ≤ 1000000000) (A0 : Option Addr) (c0 : Nat) (w : World) (hr0 : Kd.C k37 w A0 es.length es)
    (QL0 : ∀ e ∈ es, ∀ W, Below w.heap.size w W → Calls Try.prog 93 #[.agg #[.int .i64 e.f0, .int .i64 e.f1, .int .i64 e.f2, .int .i64 e.f3.f0, .int .i64 e.f3.f1, .bool e.f4], .pointer (some ⟨B, 0, none⟩)] W fun r w' => r = .returned (.bool ((badE n) e)) ∧ Below W.heap.size W w') :
    Calls Try.prog 39 #[.slice A0 es.length c0, .func (.func 93) #[] #[.pointer (some ⟨B, 0, none⟩)]] w fun r w' => r = .returned (.bool (es.any (badE n))) ∧ Below w.heap.size w w' := by
  have HB0 := Aside0.mk (Below.refl w.heap.size w)
  have QI := Aside0.mk (edgemay_index n B es hn A0 c0 w hr0 QL0)
  clear hn hr0 QL0
  go_enter Try.func39, Try.ntmps39
  go_wp2_with (go_at_call 59; refine QI.out.mono ?_; rintro r w1 ⟨i, rfl, hd, hb⟩; have HD := Aside0.mk hd; have HB2 := Aside0.mk hb; clear hb hd)
  go_ret
  refine ⟨?_, HB2.out⟩
  rw [← HD.out]
  rfl
/-- Which edges may be. -/
def rmayB (n : Int) (es : List S37) : Bool := if 0 ≤ n ∧ n ≤ 32 then !es.any (badE n) else false
set_option maxRecDepth 100000 in
set_option maxHeartbeats 2000000 in
theorem rmayE_calls (n : Int) (es : List S37) (hn : es.length ≤ 1000000000) (A0 : Option Addr) (c0 : Nat) (w : World) (hr0 : Kd.C k37 w A0 es.length es) :
    Calls Try.prog 75 #[.int .i64 n, .slice A0 es.length c0] w fun r w' => r = .returned (.bool (rmayB n es)) ∧ Below w.heap.size w w' := by
  have hmf : ∀ (fn : Fn) (first cap : Array Value) (w : World), (Instr.makeFunc fn first cap).run Try.prog w = .ok (.func fn first cap) w := fun _ _ _ _ => rfl
  have HB := Aside0.mk (Below.refl w.heap.size w)
  have hb1 := below_alloc HB.out (.cells #[.int .i64 n] 3)
  have hcell : (w.alloc (.cells #[.int .i64 n] 3)).cell? ⟨w.heap.size, 0, none⟩ = some (.int .i64 n) := (blk_cell (MapKept.heap_alloc w _).1 0).trans rfl
  have QC := Aside0.mk (edgemay_contains n w.heap.size es hn A0 c0 _ (Kd.C_below hr0 hb1) (fun e he W hb => bad_calls n w.heap.size e W ((hb.cell (World.block_lt_of_cell? _ _ hcell)).trans hcell)))
  have HB1 := Aside0.mk hb1
  clear hb1 hcell hn hr0
  by_cases h0 : n < 0
  · have hv : rmayB n es = false := by unfold rmayB; rw [if_neg (by omega)]
    rw [hv]
    have b0 := decide_eq_true h0
    clear h0 hv
    go_enter Try.func75, Try.ntmps75
    go_wp2_with fail
    go_ret
    exact ⟨rfl, below_alloc HB.out _⟩
  by_cases h1 : 32 < n
  · have hv : rmayB n es = false := by unfold rmayB; rw [if_neg (by omega)]
    rw [hv]
    have b0 := decide_eq_false h0
    have b1 := decide_eq_true h1
    clear h0 h1 hv
    go_enter Try.func75, Try.ntmps75
    go_wp2_with fail
    go_ret
    exact ⟨rfl, below_alloc HB.out _⟩
  have hv : rmayB n es = !es.any (badE n) := by unfold rmayB; rw [if_pos ⟨by omega, by omega⟩]
  rw [hv]
  have b0 := decide_eq_false h0
  have b1 := decide_eq_false h1
  clear h0 h1 hv
  generalize es.any (badE n) = r at *
  go_enter Try.func75, Try.ntmps75
  go_wp2_with (go_at_call 39; refine QC.out.mono ?_; rintro e w1 ⟨rfl, hb⟩; have HB2 := Aside0.mk (below_step HB1.out hb); clear hb)
  go_ret
  exact ⟨rfl, HB2.out⟩
end Go.Proofs.Ytjgpggjjgimibaa.L

-- Written by wip/tools/gp.py, a program of this session round the kit's printer. Lean checks it.
namespace Go.Proofs.Ytjgpggjjgimibaa.B
open Go.RowKit Go.Proofs.Ytjgpggjjgimibaa.Q Go.Proofs.YtjgpggjjgimibaaW.PrintWords Go.Proofs.YtjgpggjjgimibaaW.PrintLast Go.Proofs.YtjgpggjjgimibaaW.PrintMore
attribute [local go_sem] max2_int min2_int max_two min_two max_three min_three max_four min_four   -- for this text's walks alone
set_option linter.unusedVariables false
set_option linter.unusedSimpArgs false




-- the values' own types

end Go.Proofs.Ytjgpggjjgimibaa.B

-- Written by wip/tools/gp.py, a program of this session round the kit's printer. Lean checks it.
namespace Go.Proofs.Ytjgpggjjgimibaa.B
open Go.RowKit Go.Proofs.Ytjgpggjjgimibaa.Q Go.Proofs.YtjgpggjjgimibaaW.PrintWords Go.Proofs.YtjgpggjjgimibaaW.PrintLast Go.Proofs.YtjgpggjjgimibaaW.PrintMore
attribute [local go_sem] max2_int min2_int max_two min_two max_three min_three max_four min_four   -- for this text's walks alone
set_option linter.unusedVariables false
set_option linter.unusedSimpArgs false
/-! ### bits_Mul64: function 106 -/
def bits_Mul64.f (a0 : Int) (a1 : Int) : Option (Int × Int) := some (IntKind.u64.wrap ((IntKind.u64.wrap ((IntKind.u64.wrap ((a0 / 4294967296) * (a1 / 4294967296))) + ((IntKind.u64.wrap ((IntKind.u64.wrap ((a0 / 4294967296) * (Go.bits .and .u64 a1 4294967295))) + ((IntKind.u64.wrap ((Go.bits .and .u64 a0 4294967295) * (Go.bits .and .u64 a1 4294967295))) / 4294967296))) / 4294967296))) + ((IntKind.u64.wrap ((Go.bits .and .u64 (IntKind.u64.wrap ((IntKind.u64.wrap ((a0 / 4294967296) * (Go.bits .and .u64 a1 4294967295))) + ((IntKind.u64.wrap ((Go.bits .and .u64 a0 4294967295) * (Go.bits .and .u64 a1 4294967295))) / 4294967296))) 4294967295) + (IntKind.u64.wrap ((Go.bits .and .u64 a0 4294967295) * (a1 / 4294967296))))) / 4294967296)), IntKind.u64.wrap (a0 * a1))
set_option maxHeartbeats 8000000 in
set_option maxRecDepth 100000 in
theorem bits_Mul64.calls (a0 : Int) (a1 : Int) (r1 : Int) (r2 : Int) (w : World) (h : bits_Mul64.f a0 a1 = some (r1, r2)) :
    Calls Try.prog 106 #[.int .u64 a0, .int .u64 a1] w fun e w' => e = .returned (.tuple #[.int .u64 r1, .int .u64 r2]) ∧ Drawn0 w w' := by
  have H : (some (IntKind.u64.wrap ((IntKind.u64.wrap ((IntKind.u64.wrap ((a0 / 4294967296) * (a1 / 4294967296))) + ((IntKind.u64.wrap ((IntKind.u64.wrap ((a0 / 4294967296) * (Go.bits .and .u64 a1 4294967295))) + ((IntKind.u64.wrap ((Go.bits .and .u64 a0 4294967295) * (Go.bits .and .u64 a1 4294967295))) / 4294967296))) / 4294967296))) + ((IntKind.u64.wrap ((Go.bits .and .u64 (IntKind.u64.wrap ((IntKind.u64.wrap ((a0 / 4294967296) * (Go.bits .and .u64 a1 4294967295))) + ((IntKind.u64.wrap ((Go.bits .and .u64 a0 4294967295) * (Go.bits .and .u64 a1 4294967295))) / 4294967296))) 4294967295) + (IntKind.u64.wrap ((Go.bits .and .u64 a0 4294967295) * (a1 / 4294967296))))) / 4294967296)), IntKind.u64.wrap (a0 * a1))) = some (r1, r2) := h
  clear h
  simp only [Option.some.injEq, Prod.mk.injEq] at H
  obtain ⟨rfl, rfl⟩ := H
  go_enter Try.func106, Try.ntmps106
  go_wp2
  go_ret2
  exact ⟨by first | rfl | (simp; done) | (simp [*]; done), by repeat (first | exact Drawn0.refl _ | apply Drawn0.step)⟩

/-! ### bits_Mul: function 103 -/
def bits_Mul.f (a0 : Int) (a1 : Int) : Option (Int × Int) := (bits_Mul64.f a0 a1).bind fun bt101 => (some (bt101.1, bt101.2))
set_option maxHeartbeats 8000000 in
set_option maxRecDepth 100000 in
theorem bits_Mul.calls (a0 : Int) (a1 : Int) (r1 : Int) (r2 : Int) (w : World) (h : bits_Mul.f a0 a1 = some (r1, r2)) :
    Calls Try.prog 103 #[.int .u64 a0, .int .u64 a1] w fun e w' => e = .returned (.tuple #[.int .u64 r1, .int .u64 r2]) ∧ Drawn0 w w' := by
  have H : ((bits_Mul64.f a0 a1).bind fun bt101 => (some (bt101.1, bt101.2))) = some (r1, r2) := h
  clear h
  replace H := Option.bind_eq_some_iff.mp H
  obtain ⟨⟨t101, t102⟩, A30, H⟩ := H
  replace H : (some (t101, t102)) = some (r1, r2) := H
  have A3 := Aside0.mk A30
  clear A30
  simp only [Option.some.injEq, Prod.mk.injEq] at H
  obtain ⟨rfl, rfl⟩ := H
  go_enter Try.func103, Try.ntmps103
  go_wp2_with (first | ((with_reducible refine gate_callee (f := 106) rfl ?_); refine goesL_ (some 25) rfl rfl Try.func106 (by kernel_rfl) rfl #[.int .u64 a0, .int .u64 a1] rfl (by (try simp only [List.map_toArray, List.map_cons, List.map_nil]); first | done | rfl | (simp only [List.length_drop, List.length_take]; rfl)) ?_; (with_reducible refine (bits_Mul64.calls a0 a1 t101 t102 _ A3.out).mono ?_); rintro e w' ⟨rfl, ⟨nd, rfl⟩⟩; refine ⟨_, rfl, ?_⟩))
  go_ret2
  exact ⟨by first | rfl | (simp; done) | (simp [*]; done), by repeat (first | exact Drawn0.refl _ | apply Drawn0.step)⟩

end Go.Proofs.Ytjgpggjjgimibaa.B

/- slices.Clone, slices.Repeat, relax.row. -/
namespace Go.Proofs.Ytjgpggjjgimibaa.L
open Go.RowKit Go.Proofs.Ytjgpggjjgimibaa.Q Go.Proofs.YtjgpggjjgimibaaW.PrintWords Go.Proofs.YtjgpggjjgimibaaW.PrintLast Go.Proofs.YtjgpggjjgimibaaW.PrintMore Go.Proofs.YtjgpggjjgimibaaW.MapB Go.Proofs.YtjgpggjjgimibaaW.Lib
set_option linter.unusedVariables false
set_option linter.unusedSimpArgs false
set_option maxHeartbeats 1000000 in
theorem clone64_calls (l : List Int) (hl : l.length ≤ 17592186044416) (A : Option Addr) (c : Nat) (w : World) (hr : Kd.C (Kd.int .i64) w A l.length l) (hc : l.length ≤ c) :
    Calls Try.prog 96 #[.slice A l.length c] w fun e w' => ∃ v : Value, e = .returned v ∧ Kd.R (Kd.int .i64) 2 w' w.heap.size (fun _ => True) v l ∧ Below w.heap.size w w' := by
  have q : ∀ (w : World) (a : Option Addr) (n c n' c' : Nat), (binOp .eql 33 (.slice a n c) (.slice none n' c')).run Try.prog w = .ok (.bool a.isNone) w := fun w a n c n' c' => Go.Lib.run_eql_slice_nil w _ _ a n c n' c' Try.underlying33
  cases A with
  | none =>
    have h0 : l = [] := by
      cases l with
      | nil => rfl
      | cons x l => obtain ⟨ad, h, _⟩ := hr.2.2 (by simp); exact absurd h (by simp)
    subst h0
    go_enter Try.func96, Try.ntmps96
    go_wp2
    go_ret
    exact ⟨_, rfl, Kd.R_nil _ _ _ _ _, Below.refl _ _⟩
  | some ad =>
    have HR0 := Aside0.mk hr
    clear hr
    have HL := Aside0.mk hl
    clear hl
    go_enter Try.func96, Try.ntmps96
    go_wp2_with (first
      | ((with_reducible refine gate_dst (N := 5) rfl ?_); refine Kd.R_lit (Kd.int .i64) _ 2 ?hg (N := 5) ?hd (xs := ([] : List Int)) (inner := []) (ok := fun _ => True) (okp := fun _ => True) ?hr ?hp (fun _ hk => hk) trivial (Below.refl _ _) (Nat.le_refl _) (by simp) ?_; (case hd => rfl); (case hg => rfl); (case hr => first | (go_simp; done) | (go_simp; rfl)); (case hp => exact (Reps.none _ _)); intro v1 w1 ho hb hg_ hnew_; clear hg_ hnew_; have HO := Aside0.mk ho; have HB := Aside0.mk hb; clear ho hb)
      | ((with_reducible refine gate_builtin (b := .append) (xs := #[.tmp 5, .tmp 6]) rfl ?_); at_builtin; refine Kd.R_append_rows (Kd.int .i64) (w0 := w) w.heap.size rfl (.tmp 5) (.tmp 6) 33 2 (.int .i64 0) 8 rfl Try.underlying33 (by kernel_rfl) rfl (by decide) (by omega) v1 [] l _ _ _ (fun _ => True) (fun _ => False) rfl rfl ?aO ?aR (fun _ _ h => h) (fun _ h => h.elim) ?aF ?aB ?aS ?aL ?_; (case aR => exact (Kd.C_below HR0.out HB.out)); (case aB => exact HB.out); (case aF => exact (fun _ _ => trivial)); (case aO => exact HO.out); (case aS => exact HB.out.size); (case aL => have := HL.out; simp only [List.length_nil]; omega); intro v2 w2 ho hb hg hat; rw [List.nil_append] at ho; have HB2 := Aside0.mk hb; have HO2 := Aside0.mk ho; clear ho hb hg hat))
    go_ret
    exact ⟨_, rfl, HO2.out, HB2.out⟩
theorem heap_made (W : World) (z : Value) (n : Nat) (e : TypeId) : (W.alloc (.cells (madeCells #[z] n) e)).heap[W.heap.size]? = some (.cells (List.replicate n z).toArray e (0, 0)) := by
  have h := (MapKept.heap_alloc W (.cells (madeCells #[z] n) e)).1
  have e1 : madeCells #[z] n = (List.replicate n z).toArray := by
    apply Array.ext
    · simp [madeCells]
    · intro i h1 h2
      simp [madeCells, Nat.mod_one]
  exact h.trans (by rw [e1])
theorem rep_cells {w : World} (v : Value) (m : Nat) (ad : Addr) (u : World) (hm : m ≤ 1) (h : u.cell? ad = some v) : ∀ (j : Nat) (x : Value), (List.replicate m v)[j]? = some x → u.cell? (ad.add j) = some x := by
  intro j x hx
  have hj : j < m := by
    rcases Nat.lt_or_ge j m with h | h
    · exact h
    · rw [List.getElem?_eq_none (by rw [List.length_replicate]; exact h)] at hx; cases hx
  obtain rfl : j = 0 := by omega
  rw [List.getElem?_replicate, if_pos hj] at hx
  cases hx
  rw [Addr.add_zero']
  exact h
theorem rep_src {w : World} {g m k : Nat} {x : Value} {zs : List Value} {e : TypeId} (h : w.heap[g]? = some (.cells (List.replicate m x ++ zs).toArray e (0, 0))) (hk : k ≤ m) : ∀ (j : Nat) (v : Value), (List.replicate k x)[j]? = some v → w.drew.cell? ((⟨g, 0, none⟩ : Addr).add j) = some v := by
  intro j v hv
  have hj : j < k := by
    rcases Nat.lt_or_ge j k with h | h
    · exact h
    · rw [List.getElem?_eq_none (by rw [List.length_replicate]; exact h)] at hv; cases hv
  rw [List.getElem?_replicate, if_pos hj] at hv
  cases hv
  have h2 := blk_cell h j
  have e1 : ((⟨g, 0, none⟩ : Addr).add j) = ⟨g, j, none⟩ := by rw [Addr.add_lit, Nat.zero_add]
  rw [e1]
  refine Eq.trans (show w.drew.cell? ⟨g, j, none⟩ = w.cell? ⟨g, j, none⟩ from rfl) (h2.trans ?_)
  simp [List.getElem?_append_left, List.length_replicate, show j < m by omega]
theorem own_rep {w : World} {g n base : Nat} {v : Value} {e : TypeId} (hg : w.heap[g]? = some (.cells (List.replicate n v).toArray e (0, 0))) (hb : base ≤ g) (hn : n ≤ 1000000) : w.ownsRow base e 1 (.slice (some ⟨g, 0, none⟩) n n) n (List.replicate n v) := by
  have hm : n ≤ Go.maxLen := Nat.le_trans hn (by decide)
  exact ⟨by rw [List.length_replicate, Nat.mul_one], .inr ⟨g, n, _, rfl, hb, hg, Nat.le_refl _, hm, by simp, by simp⟩⟩
theorem splice_rep0 (n k : Nat) (x z : Value) (h : k ≤ n) : Go.splice (List.replicate n z) 0 (List.replicate k x) = List.replicate k x ++ List.replicate (n - k) z := by
  unfold Go.splice
  rw [List.take_zero, List.nil_append, List.length_replicate, List.drop_replicate, Nat.zero_add]
theorem splice_rep (n m k : Nat) (x z : Value) (h : m + k ≤ n) : Go.splice (List.replicate m x ++ List.replicate (n - m) z) m (List.replicate k x) = List.replicate (m + k) x ++ List.replicate (n - (m + k)) z := by
  unfold Go.splice
  rw [List.length_replicate, List.take_append_of_le_length (by rw [List.length_replicate]; omega), List.take_replicate, Nat.min_self, List.drop_append, List.length_replicate, List.drop_of_length_le (l := List.replicate m x) (by rw [List.length_replicate]; omega), List.nil_append, List.drop_replicate, ← List.append_assoc, List.replicate_append_replicate]
  congr 2
  omega
theorem mul1_f (n : Nat) (h : n < 4294967296) : B.bits_Mul.f 1 (n : Int) = some (0, (n : Int)) := by
  have e1 : Go.bits .and .u64 1 4294967295 = 1 := by decide +kernel
  have e2 : Go.bits .and .u64 (n : Int) 4294967295 = (n : Int) := by
    rw [show (4294967295 : Int) = ((4294967295 : Nat) : Int) from rfl, bits_and_u64_nat n 4294967295 (by omega) (by decide)]
    rw [show 4294967295 = 2 ^ 32 - 1 by decide, Nat.and_two_pow_sub_one_eq_mod, Nat.mod_eq_of_lt (by omega)]
  have e0 : Go.bits .and .u64 0 4294967295 = 0 := by decide +kernel
  have e3 : (n : Int) / 4294967296 = 0 := by omega
  have e4 : (1 : Int) / 4294967296 = 0 := by decide
  have w0 : IntKind.u64.wrap 0 = 0 := by decide
  have wn : IntKind.u64.wrap (n : Int) = (n : Int) := by simp [IntKind.wrap, IntKind.signed, IntKind.bits]; omega
  unfold B.bits_Mul.f B.bits_Mul64.f
  simp only [e1, e2, e3, e4, Int.zero_mul, Int.mul_zero, Int.one_mul, w0, wn, Int.zero_add, Int.add_zero, e0, Option.bind_some, Int.zero_ediv]
theorem mul1_calls (n : Nat) (h : n < 4294967296) (w : World) : Calls Try.prog 103 #[.int .u64 1, .int .u64 (n : Int)] w fun e w' => e = .returned (.tuple #[.int .u64 0, .int .u64 (n : Int)]) ∧ Below w.heap.size w w' := by
  refine (B.bits_Mul.calls 1 n 0 n w (mul1_f n h)).mono ?_
  rintro e w' ⟨rfl, hd⟩
  exact ⟨rfl, hd.below⟩
set_option maxHeartbeats 4000000 in
set_option maxRecDepth 100000 in
theorem rep64_calls (x : Int) (n : Nat) (hn : n ≤ 1000000) (A0 : Option Addr) (c0 : Nat) (w : World) (hr0 : Kd.C (Kd.int .i64) w A0 1 [x]) :
    Calls Try.prog 94 #[.slice A0 1 c0, .int .i64 (n : Int)] w fun e w' => ∃ v : Value, e = .returned v ∧ Kd.R (Kd.int .i64) 2 w' w.heap.size (fun _ => True) v (List.replicate n x) ∧ Below w.heap.size w w' := by
  have HB := Aside0.mk (Below.refl w.heap.size w)
  obtain ⟨ad, e1, hx⟩ := Kd.at_int hr0 0 (by decide) (by decide)
  cases e1
  have hx0 : rd [x] 0 = x := rfl
  rw [hx0, show ad.add (Int.toNat 0) = ad from Addr.add_zero' _] at hx
  have HX := Aside0.mk hx
  have QM := Aside0.mk (fun W => mul1_calls n (by omega) W)
  have hmk := print_make 33 2 .i64 8 Try.underlying33 (by kernel_rfl) (by omega) n (by omega)
  have hn0 : decide ((n : Int) < 0) = false := decide_eq_false (by omega)
  have hnm : decide ((9223372036854775807 : Int) < (n : Int)) = false := decide_eq_false (by omega)
  have huw : IntKind.u64.wrap (n : Int) = (n : Int) := by simp [IntKind.wrap, IntKind.signed, IntKind.bits]; omega
  have hsw : IntKind.i64.wrap (n : Int) = (n : Int) := (i64_w _).trans (wrap_id (by omega) (by omega))
  have HN := Aside0.mk hn
  clear hr0 hn hx hx0
  go_enter Try.func94, Try.ntmps94
  go_wp2_with (first
    | (go_at_call 103; (with_reducible refine (QM.out _).mono ?_); rintro e w1 ⟨rfl, hb⟩; have HB1 := Aside0.mk hb; clear hb)
    | ((with_reducible refine gate_builtin (b := .copy) (xs := #[.tmp 31, .tmp 32]) rfl ?_); go_loud (refine wpList_copy_splice rfl (.tmp 31) (.tmp 32) 33 33 rfl 2 Try.underlying33 (by kernel_rfl) (some ⟨w1.heap.size, 0, none⟩) (some ad) n n 1 c0 rfl rfl w1.heap.size 0 (List.replicate n (.int .i64 0)) 2 ?cg (List.replicate (min 1 n) (.int .i64 x)) ?cn ?cp ?cf ?c1 w.heap.size w ?cb ?cB ?_; (case cg => exact heap_made w1 _ n _); (case cn => exact List.length_replicate); (case cp => intro hp; exact ⟨rfl, ad, rfl, rep_cells (w := w) _ (min 1 n) ad _ (by omega) (((below_alloc HB1.out _).cell (World.block_lt_of_cell? w _ HX.out)).trans HX.out)⟩); (case cf => rw [List.length_replicate, List.length_replicate]; omega); (case c1 => intro v hv; rw [List.eq_of_mem_replicate hv] <;> rfl); (case cb => exact below_alloc HB1.out _); (case cB => exact HB1.out.size); intro w2 hg hb; have HG2 := Aside0.mk (show w2.heap[w1.heap.size]? = _ from splice_rep0 n (min 1 n) (.int .i64 x) (.int .i64 0) (by omega) ▸ hg.out); have HB2 := Aside0.mk hb; clear hg hb)))
  generalize hgg : w1.heap.size = g at *
  have HGb := Aside0.mk (show w.heap.size ≤ g from hgg ▸ HB1.out.size)
  clear hgg
  go_loopg [8] n (fun kq v8 w' => ∃ m : Nat, v8 = .int .i64 (m : Int) ∧ Aside0 (m ≤ n ∧ n ≤ m + kq ∧ (0 < n → 0 < m)) ∧ Aside0 (w'.heap[g]? = some (.cells (List.replicate m (Value.int .i64 x) ++ List.replicate (n - m) (Value.int .i64 0)).toArray 2 (0, 0))) ∧ Aside0 (Below w.heap.size w w'))
  case atStart => exact ⟨min 1 n, rfl, ⟨by omega, by omega, by omega⟩, ⟨by exact HG2.out⟩, HB2⟩
  case round =>
    obtain ⟨m, rfl, HK, HG, HB⟩ := hrel
    by_cases c1 : m < n
    · have c1b : decide ((m : Int) < (n : Int)) = true := decide_eq_true (by omega)
      have c1c : decide (m < n) = true := decide_eq_true c1
      have hm0 : (0 : Int) ≤ (m : Int) := by omega
      have hmn : (m : Int) ≤ (n : Int) := by omega
      obtain ⟨k1, rfl⟩ : ∃ k1, gk = k1 + 1 := ⟨gk - 1, by have := HK.out; omega⟩
      have hne : (n = m) = False := eq_false (by omega)
      have HC1 := Aside0.mk c1
      clear c1
      go_wp2_with fail
      go_region_law ((refine step_copy_splice rfl (.tmp 41) (.tmp 44) 33 33 rfl 2 Try.underlying33 (by kernel_rfl) (some ⟨g, m, none⟩) (some ⟨g, 0, none⟩) (n - m) (n - m) m n ?hd ?hs g m (List.replicate m (Value.int .i64 x) ++ List.replicate (n - m) (Value.int .i64 0)) 2 ?cg (List.replicate (min m (n - m)) (Value.int .i64 x)) ?cn ?cp ?cf ?c1 w.heap.size w ?cb ?cB ?_; (case hd => first | (go_simp; done) | (go_simp; rfl)); (case hs => first | (go_simp; done) | (go_simp; rfl)); (case cg => exact HG.out); (case cn => exact List.length_replicate); (case cp => intro hp; exact ⟨rfl, _, rfl, rep_src HG.out (by omega)⟩); (case cf => rw [List.length_append, List.length_replicate, List.length_replicate, List.length_replicate]; have := HC1.out; omega); (case c1 => intro v hv; rw [List.eq_of_mem_replicate hv] <;> rfl); (case cb => exact below_drew HB.out); (case cB => exact HGb.out); intro w3 hg hb; have HG3 := Aside0.mk (show w3.heap[g]? = _ from splice_rep n m (min m (n - m)) (.int .i64 x) (.int .i64 0) (by have := HC1.out; omega) ▸ hg.out); have HB3 := Aside0.mk hb; clear hg hb))
      have HM := Aside0.mk (show wrap64 ((m : Int) + (min m (n - m) : Nat)) = ((m + min m (n - m) : Nat) : Int) from by unfold wrap64; have := HN.out; have := HC1.out; omega)
      go_wp2_with fail
      go_roundg k1
      case measure => omega
      case rel => exact ⟨m + min m (n - m), congrArg (Value.int .i64) ((i64_w _).trans HM.out), ⟨by have := HK.out; have := HC1.out; omega, by have := HK.out; have := HC1.out; omega, by have := HK.out; have := HC1.out; omega⟩, HG3, HB3⟩
    · have c1b : decide ((m : Int) < (n : Int)) = false := decide_eq_false (by omega)
      have c1c : decide (m < n) = false := decide_eq_false c1
      have hmn : m = n := by have := HK.out; omega
      have HMN := Aside0.mk hmn
      clear c1 hmn
      go_wp2_with fail
      go_ret
      refine ⟨_, rfl, Kd.R_of_own ?_ (fun _ _ => trivial), HB.out⟩
      have hg := HG.out
      rw [HMN.out, Nat.sub_self, List.replicate_zero, List.append_nil] at hg
      have ho := own_rep (base := w.heap.size) hg HGb.out HN.out
      have he : encs (Value.int .i64) (List.replicate n x) = List.replicate n (Value.int .i64 x) := by simp [encs]
      rw [he, List.length_replicate]
      exact ho
set_option maxHeartbeats 4000000 in
set_option maxRecDepth 100000 in
theorem repI_calls (x : Int) (n : Nat) (hn : n ≤ 1000000) (A0 : Option Addr) (c0 : Nat) (w : World) (hr0 : Kd.C (Kd.int .i64) w A0 1 [x]) :
    Calls Try.prog 95 #[.slice A0 1 c0, .int .i64 (n : Int)] w fun e w' => ∃ v : Value, e = .returned v ∧ Kd.R (Kd.int .i64) 3 w' w.heap.size (fun _ => True) v (List.replicate n x) ∧ Below w.heap.size w w' := by
  have HB := Aside0.mk (Below.refl w.heap.size w)
  obtain ⟨ad, e1, hx⟩ := Kd.at_int hr0 0 (by decide) (by decide)
  cases e1
  have hx0 : rd [x] 0 = x := rfl
  rw [hx0, show ad.add (Int.toNat 0) = ad from Addr.add_zero' _] at hx
  have HX := Aside0.mk hx
  have QM := Aside0.mk (fun W => mul1_calls n (by omega) W)
  have hmk := print_make 27 3 .i64 8 Try.underlying27 (by kernel_rfl) (by omega) n (by omega)
  have hn0 : decide ((n : Int) < 0) = false := decide_eq_false (by omega)
  have hnm : decide ((9223372036854775807 : Int) < (n : Int)) = false := decide_eq_false (by omega)
  have huw : IntKind.u64.wrap (n : Int) = (n : Int) := by simp [IntKind.wrap, IntKind.signed, IntKind.bits]; omega
  have hsw : IntKind.i64.wrap (n : Int) = (n : Int) := (i64_w _).trans (wrap_id (by omega) (by omega))
  have HN := Aside0.mk hn
  clear hr0 hn hx hx0
  go_enter Try.func95, Try.ntmps95
  go_wp2_with (first
    | (go_at_call 103; (with_reducible refine (QM.out _).mono ?_); rintro e w1 ⟨rfl, hb⟩; have HB1 := Aside0.mk hb; clear hb)
    | ((with_reducible refine gate_builtin (b := .copy) (xs := #[.tmp 31, .tmp 32]) rfl ?_); go_loud (refine wpList_copy_splice rfl (.tmp 31) (.tmp 32) 27 27 rfl 3 Try.underlying27 (by kernel_rfl) (some ⟨w1.heap.size, 0, none⟩) (some ad) n n 1 c0 rfl rfl w1.heap.size 0 (List.replicate n (.int .i64 0)) 3 ?cg (List.replicate (min 1 n) (.int .i64 x)) ?cn ?cp ?cf ?c1 w.heap.size w ?cb ?cB ?_; (case cg => exact heap_made w1 _ n _); (case cn => exact List.length_replicate); (case cp => intro hp; exact ⟨rfl, ad, rfl, rep_cells (w := w) _ (min 1 n) ad _ (by omega) (((below_alloc HB1.out _).cell (World.block_lt_of_cell? w _ HX.out)).trans HX.out)⟩); (case cf => rw [List.length_replicate, List.length_replicate]; omega); (case c1 => intro v hv; rw [List.eq_of_mem_replicate hv] <;> rfl); (case cb => exact below_alloc HB1.out _); (case cB => exact HB1.out.size); intro w2 hg hb; have HG2 := Aside0.mk (show w2.heap[w1.heap.size]? = _ from splice_rep0 n (min 1 n) (.int .i64 x) (.int .i64 0) (by omega) ▸ hg.out); have HB2 := Aside0.mk hb; clear hg hb)))
  generalize hgg : w1.heap.size = g at *
  have HGb := Aside0.mk (show w.heap.size ≤ g from hgg ▸ HB1.out.size)
  clear hgg
  go_loopg [8] n (fun kq v8 w' => ∃ m : Nat, v8 = .int .i64 (m : Int) ∧ Aside0 (m ≤ n ∧ n ≤ m + kq ∧ (0 < n → 0 < m)) ∧ Aside0 (w'.heap[g]? = some (.cells (List.replicate m (Value.int .i64 x) ++ List.replicate (n - m) (Value.int .i64 0)).toArray 3 (0, 0))) ∧ Aside0 (Below w.heap.size w w'))
  case atStart => exact ⟨min 1 n, rfl, ⟨by omega, by omega, by omega⟩, ⟨by exact HG2.out⟩, HB2⟩
  case round =>
    obtain ⟨m, rfl, HK, HG, HB⟩ := hrel
    by_cases c1 : m < n
    · have c1b : decide ((m : Int) < (n : Int)) = true := decide_eq_true (by omega)
      have c1c : decide (m < n) = true := decide_eq_true c1
      have hm0 : (0 : Int) ≤ (m : Int) := by omega
      have hmn : (m : Int) ≤ (n : Int) := by omega
      obtain ⟨k1, rfl⟩ : ∃ k1, gk = k1 + 1 := ⟨gk - 1, by have := HK.out; omega⟩
      have hne : (n = m) = False := eq_false (by omega)
      have HC1 := Aside0.mk c1
      clear c1
      go_wp2_with fail
      go_region_law ((refine step_copy_splice rfl (.tmp 41) (.tmp 44) 27 27 rfl 3 Try.underlying27 (by kernel_rfl) (some ⟨g, m, none⟩) (some ⟨g, 0, none⟩) (n - m) (n - m) m n ?hd ?hs g m (List.replicate m (Value.int .i64 x) ++ List.replicate (n - m) (Value.int .i64 0)) 3 ?cg (List.replicate (min m (n - m)) (Value.int .i64 x)) ?cn ?cp ?cf ?c1 w.heap.size w ?cb ?cB ?_; (case hd => first | (go_simp; done) | (go_simp; rfl)); (case hs => first | (go_simp; done) | (go_simp; rfl)); (case cg => exact HG.out); (case cn => exact List.length_replicate); (case cp => intro hp; exact ⟨rfl, _, rfl, rep_src HG.out (by omega)⟩); (case cf => rw [List.length_append, List.length_replicate, List.length_replicate, List.length_replicate]; have := HC1.out; omega); (case c1 => intro v hv; rw [List.eq_of_mem_replicate hv] <;> rfl); (case cb => exact below_drew HB.out); (case cB => exact HGb.out); intro w3 hg hb; have HG3 := Aside0.mk (show w3.heap[g]? = _ from splice_rep n m (min m (n - m)) (.int .i64 x) (.int .i64 0) (by have := HC1.out; omega) ▸ hg.out); have HB3 := Aside0.mk hb; clear hg hb))
      have HM := Aside0.mk (show wrap64 ((m : Int) + (min m (n - m) : Nat)) = ((m + min m (n - m) : Nat) : Int) from by unfold wrap64; have := HN.out; have := HC1.out; omega)
      go_wp2_with fail
      go_roundg k1
      case measure => omega
      case rel => exact ⟨m + min m (n - m), congrArg (Value.int .i64) ((i64_w _).trans HM.out), ⟨by have := HK.out; have := HC1.out; omega, by have := HK.out; have := HC1.out; omega, by have := HK.out; have := HC1.out; omega⟩, HG3, HB3⟩
    · have c1b : decide ((m : Int) < (n : Int)) = false := decide_eq_false (by omega)
      have c1c : decide (m < n) = false := decide_eq_false c1
      have hmn : m = n := by have := HK.out; omega
      have HMN := Aside0.mk hmn
      clear c1 hmn
      go_wp2_with fail
      go_ret
      refine ⟨_, rfl, Kd.R_of_own ?_ (fun _ _ => trivial), HB.out⟩
      have hg := HG.out
      rw [HMN.out, Nat.sub_self, List.replicate_zero, List.append_nil] at hg
      have ho := own_rep (base := w.heap.size) hg HGb.out HN.out
      have he : encs (Value.int .i64) (List.replicate n x) = List.replicate n (Value.int .i64 x) := by simp [encs]
      rw [he, List.length_replicate]
      exact ho
theorem one_int {k : IntKind} {e : TypeId} {x : Int} (W : World) (b : Nat) (h : W.heap[b]? = some (.cells #[.int k x] e (0, 0))) : Kd.C (Kd.int k) W (some ⟨b, 0, none⟩) 1 [x] := by
  refine ⟨rfl, by simp, fun _ => ⟨_, rfl, fun j p hj => ?_⟩⟩
  rcases j with _ | j
  · cases hj
    refine ⟨[.int k x], rfl, rfl, fun i u hi => ?_⟩
    rcases i with _ | i
    · cases hi
      rw [Addr.add_lit]; exact (blk_cell h _).trans rfl
    · cases hi
  · cases hj
set_option maxRecDepth 100000 in
theorem row64_calls (n x : Int) (h0 : 0 ≤ n) (h1 : n ≤ 1000000) (w : World) :
    Calls Try.prog 76 #[.int .i64 n, .int .i64 x] w fun e w' => ∃ v : Value, e = .returned v ∧ Kd.R (Kd.int .i64) 2 w' w.heap.size (fun _ => True) v (List.replicate n.toNat x) ∧ Below w.heap.size w w' := by
  have HB := Aside0.mk (Below.refl w.heap.size w)
  have QR := Aside0.mk (rep64_calls x n.toNat (by omega) (some ⟨w.heap.size, 0, none⟩) 1 (w.alloc (.cells #[.int .i64 x] 2)) (one_int _ _ (MapKept.heap_alloc w _).1))
  rw [Int.toNat_of_nonneg h0] at QR
  clear h0 h1
  go_enter Try.func76, Try.ntmps76
  go_wp2_with (go_at_call 94; go_loud ((with_reducible refine QR.out.mono ?_); rintro e w1 ⟨v, rfl, ho, hb⟩; have HO := Aside0.mk (Kd.R_lower ho (below_alloc HB.out _).size); have HB1 := Aside0.mk (below_step (below_alloc HB.out _) hb); clear ho hb))
  go_ret
  exact ⟨_, rfl, HO.out, HB1.out⟩
set_option maxRecDepth 100000 in
theorem rowI_calls (n x : Int) (h0 : 0 ≤ n) (h1 : n ≤ 1000000) (w : World) :
    Calls Try.prog 77 #[.int .i64 n, .int .i64 x] w fun e w' => ∃ v : Value, e = .returned v ∧ Kd.R (Kd.int .i64) 3 w' w.heap.size (fun _ => True) v (List.replicate n.toNat x) ∧ Below w.heap.size w w' := by
  have HB := Aside0.mk (Below.refl w.heap.size w)
  have QR := Aside0.mk (repI_calls x n.toNat (by omega) (some ⟨w.heap.size, 0, none⟩) 1 (w.alloc (.cells #[.int .i64 x] 3)) (one_int _ _ (MapKept.heap_alloc w _).1))
  rw [Int.toNat_of_nonneg h0] at QR
  clear h0 h1
  go_enter Try.func77, Try.ntmps77
  go_wp2_with (go_at_call 95; go_loud ((with_reducible refine QR.out.mono ?_); rintro e w1 ⟨v, rfl, ho, hb⟩; have HO := Aside0.mk (Kd.R_lower ho (below_alloc HB.out _).size); have HB1 := Aside0.mk (below_step (below_alloc HB.out _) hb); clear ho hb))
  go_ret
  exact ⟨_, rfl, HO.out, HB1.out⟩
end Go.Proofs.Ytjgpggjjgimibaa.L

/- relax.next: one layer behind another. -/
namespace Go.Proofs.Ytjgpggjjgimibaa.L
open Go.RowKit Go.Proofs.Ytjgpggjjgimibaa.Q Go.Proofs.YtjgpggjjgimibaaW.PrintWords Go.Proofs.YtjgpggjjgimibaaW.PrintLast Go.Proofs.YtjgpggjjgimibaaW.PrintMore Go.Proofs.YtjgpggjjgimibaaW.MapB Go.Proofs.YtjgpggjjgimibaaW.Lib
set_option linter.unusedVariables false
set_option linter.unusedSimpArgs false
/-- One edge of a layer: its target has less by it. -/
def stepN (had : List Int) (acc : List Int × List Int) (i : Int) (e : S37) : List Int × List Int :=
  if wrap64 (rd had e.f0 + e.f2) < rd acc.1 e.f1 then (acc.1.set e.f1.toNat (wrap64 (rd had e.f0 + e.f2)), acc.2.set e.f1.toNat i) else acc
def nextL (had : List Int) (es : List S37) : Nat → List Int × List Int
  | 0 => (had, List.replicate had.length (-1))
  | k + 1 => stepN had (nextL had es k) (k : Int) (rd_T37 es (k : Int))
theorem stepN_len (had : List Int) (acc : List Int × List Int) (i : Int) (e : S37) : (stepN had acc i e).1.length = acc.1.length ∧ (stepN had acc i e).2.length = acc.2.length := by
  unfold stepN
  split
  · exact ⟨List.length_set .., List.length_set ..⟩
  · exact ⟨rfl, rfl⟩
theorem nextL_len (had : List Int) (es : List S37) : ∀ k, (nextL had es k).1.length = had.length ∧ (nextL had es k).2.length = had.length
  | 0 => ⟨rfl, List.length_replicate⟩
  | k + 1 => by
    have h := stepN_len had (nextL had es k) (k : Int) (rd_T37 es (k : Int))
    have ih := nextL_len had es k
    exact ⟨h.1.trans ih.1, h.2.trans ih.2⟩
/-- Edges among n hosts. -/
def inE (n : Nat) (es : List S37) : Prop := ∀ e ∈ es, 0 ≤ e.f0 ∧ e.f0 < n ∧ 0 ≤ e.f1 ∧ e.f1 < n
instance (n : Nat) : DecidablePred (inE n) := fun es => by unfold inE; infer_instance
theorem rdE_mem (l : List S37) (i : Int) (h0 : 0 ≤ i) (h1 : i < l.length) : rd_T37 l i ∈ l := by
  have hx : i.toNat < l.length := by omega
  rw [show rd_T37 l i = l[i.toNat] by simp [rd_T37, List.getD, hx]]
  exact List.getElem_mem _
theorem results_tmp2' {fn : Func} {a b : Tmp} (h : fn.results = #[.tmp a, .tmp b]) (tmps : Array Value) (P : Program) (w : World) : (results fn tmps).run P w = .ok (.tuple #[tmps.getD a undef, tmps.getD b undef]) w := by
  simp [results, h]
set_option maxHeartbeats 8000000 in
set_option maxRecDepth 100000 in
theorem next_calls (had : List Int) (es : List S37) (hn : had.length ≤ 1000000) (he : es.length ≤ 1000000000) (hin : inE had.length es) (A0 A1 : Option Addr) (c0 c1_ : Nat) (w : World) (hr0 : Kd.C (Kd.int .i64) w A0 had.length had) (hc0 : had.length ≤ c0) (hr1 : Kd.C k37 w A1 es.length es) :
    Calls Try.prog 78 #[.slice A0 had.length c0, .slice A1 es.length c1_] w fun e w' => ∃ v1 v2 : Value, e = .returned (.tuple #[v1, v2]) ∧ Kd.R (Kd.int .i64) 2 w' w.heap.size (fun k => some k ≠ v2.ownBlock) v1 (nextL had es es.length).1 ∧ Kd.R (Kd.int .i64) 3 w' w.heap.size (fun k => some k ≠ v1.ownBlock) v2 (nextL had es es.length).2 ∧ Below w.heap.size w w' := by
  have HB0 := Aside0.mk (Below.refl w.heap.size w)
  have HR0 := Aside0.mk hr0
  have HR1 := Aside0.mk hr1
  have HN := Aside0.mk hn
  have HE := Aside0.mk he
  have HIn := Aside0.mk hin
  have QC := Aside0.mk (fun (W : World) (hb : Below w.heap.size w W) => clone64_calls had (by omega) A0 c0 W (Kd.C_below hr0 hb) hc0)
  have QR := Aside0.mk (fun W => rowI_calls (had.length : Int) (-1) (by omega) (by omega) W)
  have HLen := Aside0.mk (nextL_len had es)
  clear hr0 hr1 hn he hin hc0
  go_enter Try.func78, Try.ntmps78
  go_wp2_with (first
    | (go_at_call 96; (with_reducible refine (QC.out _ HB0.out).mono ?_); rintro e w1 ⟨v1, rfl, ho, hb⟩; have HB1 := Aside0.mk hb; have HO1 := Aside0.mk ho; clear ho hb)
    | (go_at_call 77; (with_reducible refine (QR.out _).mono ?_); rintro e w2 ⟨v2, rfl, ho, hb⟩; have HB2 := Aside0.mk (below_step HB1.out hb); have HH2 := Aside0.mk (Kd.R_elder' HO1.out (Kd.R_base ho) hb); have HY2 := Aside0.mk (Kd.R_lower (Kd.R_new' ho (Kd.R_lt HO1.out)) HB1.out.size); clear ho hb))
  obtain ⟨A6, c6, rfl⟩ := Kd.R_slice HH2.out
  obtain ⟨A7, c7, rfl⟩ := Kd.R_slice HY2.out
  have e7 : (List.replicate ((had.length : Nat) : Int).toNat (-1 : Int)).length = had.length := by rw [List.length_replicate]; omega
  have HY3 := HY2.out
  rw [e7, show ((had.length : Nat) : Int).toNat = had.length from rfl] at HY3
  have HY4 := Aside0.mk HY3
  simp only [e7]
  clear HY3 HY2 HO1 QC QR
  go_loopg [18] es.length (fun kq v18 w' => ∃ x18 : Int, v18 = .int .i64 x18 ∧ Aside0 (0 ≤ x18 ∧ x18 + kq = es.length) ∧ Aside0 (Kd.R (Kd.int .i64) 2 w' w.heap.size (fun k => some k ≠ (Value.slice A7 had.length c7).ownBlock) (.slice A6 had.length c6) (nextL had es x18.toNat).1) ∧ Aside0 (Kd.R (Kd.int .i64) 3 w' w.heap.size (fun k => some k ≠ (Value.slice A6 had.length c6).ownBlock) (.slice A7 had.length c7) (nextL had es x18.toNat).2) ∧ Aside0 (Below w.heap.size w w'))
  case atStart => exact ⟨0, rfl, ⟨by omega, by omega⟩, ⟨Kd.R_mono HH2.out (fun _ hk h => hk.2 (h.trans (own_len _ _ _ _ _)))⟩, ⟨Kd.R_mono HY4.out (fun _ hk => hk.2)⟩, HB2⟩
  case round =>
    clear HH2 HY4 HB2 HB1
    obtain ⟨x18, rfl, HK, HH, HY, HB⟩ := hrel
    by_cases c1 : x18 < (es.length : Int)
    · have c1b := decide_eq_true c1
      have p1 : 0 ≤ x18 := HK.out.1
      obtain ⟨ad1, e1, hx0, hx1, hx2, hx3, hx4, hx5⟩ := at_T37 HR1.out x18 p1 c1
      cases e1
      replace hx0 := (HB.out.cell (World.block_lt_of_cell? w _ hx0)).trans hx0
      replace hx1 := (HB.out.cell (World.block_lt_of_cell? w _ hx1)).trans hx1
      replace hx2 := (HB.out.cell (World.block_lt_of_cell? w _ hx2)).trans hx2
      replace hx3 := (HB.out.cell (World.block_lt_of_cell? w _ hx3)).trans hx3
      replace hx4 := (HB.out.cell (World.block_lt_of_cell? w _ hx4)).trans hx4
      replace hx5 := (HB.out.cell (World.block_lt_of_cell? w _ hx5)).trans hx5
      obtain ⟨i0, i1, i2, i3⟩ := HIn.out _ (rdE_mem es x18 p1 c1)
      have HS := Aside0.mk (show nextL had es (x18 + 1).toNat = stepN had (nextL had es x18.toNat) x18 (rd_T37 es x18) from by
        rw [show (x18 + 1).toNat = x18.toNat + 1 by omega]
        show stepN had (nextL had es x18.toNat) (x18.toNat : Int) (rd_T37 es (x18.toNat : Int)) = _
        rw [show (x18.toNat : Int) = x18 by omega])
      have HLx := Aside0.mk (HLen.out x18.toNat)
      have P1 := Aside0.mk p1
      have Q1 := Aside0.mk c1
      have W1 := Aside0.mk (show wrap64 (x18 + 1) = x18 + 1 from by unfold wrap64; have := HE.out; have := P1.out; have := Q1.out; omega)
      obtain ⟨ad0, e0, hh⟩ := Kd.at_int HR0.out (rd_T37 es x18).f0 i0 i1
      cases e0
      replace hh := (HB.out.cell (World.block_lt_of_cell? w _ hh)).trans hh
      generalize rd_T37 es x18 = e at *
      generalize nextL had es x18.toNat = acc at *
      obtain ⟨ha, hb_⟩ := HLx.out
      -- the rows' blocks
      have hg6 : ∃ g6, A6 = some ⟨g6, 0, none⟩ ∧ w.heap.size ≤ g6 := by
        have ho := (Kd.own_of_R HH.out).2
        rcases ho with ⟨h, h'⟩ | ⟨g, cap, cur, h, hbg, _⟩
        · exfalso; omega
        · injection h with h h2 h3; exact ⟨g, h, hbg⟩
      have hg7 : ∃ g7, A7 = some ⟨g7, 0, none⟩ ∧ w.heap.size ≤ g7 := by
        have ho := (Kd.own_of_R HY.out).2
        rcases ho with ⟨h, h'⟩ | ⟨g, cap, cur, h, hbg, _⟩
        · exfalso; omega
        · injection h with h h2 h3; exact ⟨g, h, hbg⟩
      obtain ⟨g6, rfl, hb6⟩ := hg6
      obtain ⟨g7, rfl, hb7⟩ := hg7
      obtain ⟨q6, e6, hc6⟩ := Kd.at_int (Kd.R_reads' HH.out).2.2 e.f1 i2 (by rw [← ha] at i3; exact i3)
      cases e6
      obtain ⟨q7, e7, hc7⟩ := Kd.at_int (Kd.R_reads' HY.out).2.2 e.f1 i2 (by rw [← hb_] at i3; exact i3)
      cases e7
      have d67 : g6 ≠ g7 := fun h => HH.out.1 g6 rfl (by rw [h]; rfl)
      have HD := Aside0.mk d67
      have l6 := World.block_lt_of_cell? wr _ hc6
      have l7 := World.block_lt_of_cell? wr _ hc7
      rw [Addr.add_lit, Nat.zero_add] at hc6 hc7 l6 l7
      have L6 := Aside0.mk (show g6 < wr.heap.size from l6)
      have L7 := Aside0.mk (show g7 < wr.heap.size from l7)
      have HC6 := Aside0.mk hc6
      have HC7 := Aside0.mk hc7
      have hv := Aside0.mk (show wrap64 (rd had e.f0 + e.f2) = wrap64 (rd had e.f0 + e.f2) from rfl)
      have HA := Aside0.mk ha
      have HBn := Aside0.mk hb_
      have hh1 := fun o => keep1r (o1 := o) hh
      have hst := Aside0.mk (show stepN had acc x18 e = if wrap64 (rd had e.f0 + e.f2) < rd acc.1 e.f1 then (acc.1.set e.f1.toNat (wrap64 (rd had e.f0 + e.f2)), acc.2.set e.f1.toNat x18) else acc from rfl)
      clear hc6 hc7 l6 l7 d67 ha hb_ HLx hv hh
      generalize rd had e.f0 = hf at *
      replace p1 := eq_true p1
      replace c1 := eq_true c1
      replace i0 := eq_true i0
      replace i1 := eq_true i1
      have I2 := Aside0.mk i2
      have I3 := Aside0.mk i3
      replace i2 := eq_true i2
      replace i3 := eq_true i3
      obtain ⟨k1, rfl⟩ : ∃ k1, gk = k1 + 1 := ⟨gk - 1, by have := HK.out; have := Q1.out; omega⟩
      go_upto_region 5 with (fail)
      go_cut [8, 9, 10, 16, 17, 18] (fun v8 v9 v10 v16 v17 v18 wc => v8 = .int .i64 x18 ∧ v16 = .slice (some ad1) es.length c1_ ∧ v17 = .int .i64 es.length ∧ v18 = .int .i64 x18 ∧ v10 = .int .i64 (wrap64 (hf + e.f2)) ∧ ∃ ke : Nat, v9 = .pointer (some ⟨ke, 0, none⟩) ∧ Aside0 (wr.heap.size ≤ ke ∧ wc.heap[ke]? = some (.cells #[.int .i64 e.f0, .int .i64 e.f1, .int .i64 e.f2, .int .i64 e.f3.f0, .int .i64 e.f3.f1, .bool e.f4] 37 (0, 0))) ∧ Aside0 (Below wr.heap.size wr wc))
      case first =>
        go_quiet (fail)
        go_wp2_with fail
        go_meet
        case rel => exact ⟨rfl, rfl, rfl, rfl, rfl, _, rfl, ⟨Nat.le_refl _, (MapKept.heap_alloc wr _).1⟩, ⟨pw_below_drewN (below_alloc (Below.refl wr.heap.size wr) _) _⟩⟩
      case rest =>
        obtain ⟨rfl, rfl, rfl, rfl, rfl, ke, rfl, HKE, HBW⟩ := hcut
        obtain ⟨w5, rfl⟩ : ∃ w5 : World, w5 = wc := ⟨_, rfl⟩
        clear hx0 hx1 hx2 hx3 hx4 hx5 hh1
        have hk0 : w5.cell? ⟨ke, 0, none⟩ = some (.int .i64 e.f0) := (blk_cell HKE.out.2 0).trans rfl
        have hk1 : w5.cell? ⟨ke, 1, none⟩ = some (.int .i64 e.f1) := (blk_cell HKE.out.2 1).trans rfl
        have hk2 : w5.cell? ⟨ke, 2, none⟩ = some (.int .i64 e.f2) := (blk_cell HKE.out.2 2).trans rfl
        have hc6 := (HBW.out.cell (World.block_lt_of_cell? wr _ HC6.out)).trans HC6.out
        have hc7 := (HBW.out.cell (World.block_lt_of_cell? wr _ HC7.out)).trans HC7.out
        have HH5 := Aside0.mk (Kd.R_below HH.out HBW.out)
        have HY5 := Aside0.mk (Kd.R_below HY.out HBW.out)
        have HB5 := Aside0.mk (below_step HB.out HBW.out)
        by_cases c2 : wrap64 (hf + e.f2) < rd acc.1 e.f1
        · have c2b := decide_eq_true c2
          have HST := hst.out
          rw [if_pos c2] at HST
          have HS2 := Aside0.mk (HS.out.trans HST)
          clear c2 HST hst HS
          generalize wrap64 (hf + e.f2) = x at *
          have n6 : ke ≠ g6 := by have := HKE.out.1; have := L6.out; omega
          have n7 : ke ≠ g7 := by have := HKE.out.1; have := L7.out; omega
          obtain ⟨cur6, hw6⟩ : ∃ cur, w5.heap[g6]? = some (.cells cur 2 (0, 0)) := by
            rcases (Kd.own_of_R HH5.out).2 with ⟨h, _⟩ | ⟨g, cap, cur, h, hbg, hh, _⟩
            · injection h with h1; cases h1
            · have hg : g6 = g := by
                injection h with h1
                injection h1 with h1
                injection h1
              subst hg
              exact ⟨cur, hh⟩
          obtain ⟨cur7, hw7⟩ : ∃ cur, w5.heap[g7]? = some (.cells cur 3 (0, 0)) := by
            rcases (Kd.own_of_R HY5.out).2 with ⟨h, _⟩ | ⟨g, cap, cur, h, hbg, hh, _⟩
            · injection h with h1; cases h1
            · have hg : g7 = g := by
                injection h with h1
                injection h1 with h1
                injection h1
              subst hg
              exact ⟨cur, hh⟩
          have f6 := blk_frozen hw6 e.f1.toNat
          have f7 := fun u => blk_frozen ((Below.heap_setCell w5 ⟨g6, e.f1.toNat, none⟩ u g7 (fun h => HD.out h.symm)).trans hw7) e.f1.toNat
          have f7' := blk_frozen hw7 e.f1.toNat
          have s1 : ∀ u, (w5.setCell ⟨g6, e.f1.toNat, none⟩ u).cell? ⟨ke, 1, none⟩ = some (.int .i64 e.f1) := fun u => (blk_cell ((Below.heap_setCell w5 ⟨g6, e.f1.toNat, none⟩ u ke n6).trans HKE.out.2) 1).trans rfl
          have s7 : ∀ u, (w5.setCell ⟨g6, e.f1.toNat, none⟩ u).cell? ⟨g7, e.f1.toNat, none⟩ = some (.int .i64 (rd acc.2 e.f1)) := fun u => (blk_cell ((Below.heap_setCell w5 ⟨g6, e.f1.toNat, none⟩ u g7 (fun h => HD.out h.symm)).trans hw7) _).trans ((blk_cell hw7 _).symm.trans hc7)
          clear hw6 hw7 n6 n7
          go_wp2_with fail
          go_region
          all_goals
            go_wp2_with fail
            go_roundg k1
            case measure => omega
            case rel => exact ⟨x18 + 1, by rw [W1.out], ⟨by have := P1.out; omega, by have := HK.out; omega⟩, ⟨by rw [HS2.out]; (repeat (first | apply Kd.R_drewN | apply Kd.R_drew)); exact Kd.R_far (Kd.R_putn HH5.out e.f1 x) (fun k hk h => hk (by rw [h]; rfl)) _⟩, ⟨by rw [HS2.out]; (repeat (first | apply Kd.R_drewN | apply Kd.R_drew)); exact Kd.R_putn (Kd.R_far HY5.out (p := ⟨g6, e.f1.toNat, none⟩) (fun k hk h => hk (by rw [h]; rfl)) _) e.f1 x18⟩, ⟨by (repeat (first | apply pw_below_drewN | apply below_drew)); exact below_set (below_set HB5.out hb6) hb7⟩⟩
        · have c2b := decide_eq_false c2
          have HST := hst.out
          rw [if_neg c2] at HST
          have HS2 := Aside0.mk (HS.out.trans HST)
          clear c2 HST hst HS
          go_wp2_with fail
          go_roundg k1
          case measure => omega
          case rel => exact ⟨x18 + 1, by rw [W1.out], ⟨by have := P1.out; omega, by have := HK.out; omega⟩, ⟨by rw [HS2.out]; exact HH5.out⟩, ⟨by rw [HS2.out]; exact HY5.out⟩, HB5⟩
    · have c1b := decide_eq_false c1
      have hx : x18.toNat = es.length := by have := HK.out; omega
      have HX := Aside0.mk hx
      clear c1 hx
      go_wp2_with fail
      refine bodyPost_ret (results_tmp2' rfl _ _ _) rfl ?_
      refine ⟨_, _, rfl, ?_, ?_, HB.out⟩
      · have h := HH.out; rw [HX.out] at h; exact h
      · have h := HY.out; rw [HX.out] at h; exact h
end Go.Proofs.Ytjgpggjjgimibaa.L

-- Written by wip/tools/gp.py, a program of this session round the kit's printer. Lean checks it.
namespace Go.Proofs.Ytjgpggjjgimibaa.X
open Go.RowKit Go.Proofs.Ytjgpggjjgimibaa.Q Go.Proofs.YtjgpggjjgimibaaW.PrintWords Go.Proofs.YtjgpggjjgimibaaW.PrintLast Go.Proofs.YtjgpggjjgimibaaW.PrintMore
attribute [local go_sem] max2_int min2_int max_two min_two max_three min_three max_four min_four   -- for this text's walks alone
set_option linter.unusedVariables false
set_option linter.unusedSimpArgs false
end Go.Proofs.Ytjgpggjjgimibaa.X

-- Written by wip/tools/gp.py, a program of this session round the kit's printer. Lean checks it.
namespace Go.Proofs.Ytjgpggjjgimibaa.Q
open Go.RowKit Go.Proofs.YtjgpggjjgimibaaW.PrintWords Go.Proofs.YtjgpggjjgimibaaW.PrintLast Go.Proofs.YtjgpggjjgimibaaW.PrintMore
attribute [local go_sem] max2_int min2_int max_two min_two max_three min_three max_four min_four   -- for this text's walks alone
set_option linter.unusedVariables false
set_option linter.unusedSimpArgs false

/-! ### span_letter: function 81 -/
def span_letter.f (a0 : Int) : Option (Bool) := if a0 ≥ 97 then (if a0 ≤ 122 then (some true) else (if a0 ≥ 48 then (if a0 ≤ 57 then (some true) else (if a0 = 45 then (some true) else (if a0 = 46 then (some true) else (some (a0 == 95))))) else (if a0 = 45 then (some true) else (if a0 = 46 then (some true) else (some (a0 == 95)))))) else (if a0 ≥ 48 then (if a0 ≤ 57 then (some true) else (if a0 = 45 then (some true) else (if a0 = 46 then (some true) else (some (a0 == 95))))) else (if a0 = 45 then (some true) else (if a0 = 46 then (some true) else (some (a0 == 95)))))
set_option maxHeartbeats 8000000 in
set_option maxRecDepth 100000 in
theorem span_letter.calls (a0 : Int) (r : Bool) (w : World) (h : span_letter.f a0 = some r) :
    Calls Try.prog 81 #[.int .u8 a0] w fun e w' => e = .returned (.bool r) ∧ Drawn0 w w' := by
  have H : (if a0 ≥ 97 then (if a0 ≤ 122 then (some true) else (if a0 ≥ 48 then (if a0 ≤ 57 then (some true) else (if a0 = 45 then (some true) else (if a0 = 46 then (some true) else (some (a0 == 95))))) else (if a0 = 45 then (some true) else (if a0 = 46 then (some true) else (some (a0 == 95)))))) else (if a0 ≥ 48 then (if a0 ≤ 57 then (some true) else (if a0 = 45 then (some true) else (if a0 = 46 then (some true) else (some (a0 == 95))))) else (if a0 = 45 then (some true) else (if a0 = 46 then (some true) else (some (a0 == 95)))))) = some r := h
  clear h
  by_cases c2 : a0 ≥ 97
  · rw [if_pos c2] at H
    have c2b0 : decide (97 ≤ a0) = true := decide_eq_true c2
    clear c2
    by_cases c3 : a0 ≤ 122
    · rw [if_pos c3] at H
      have c3b0 : decide (a0 ≤ 122) = true := decide_eq_true c3
      clear c3
      obtain rfl := Option.some.inj H
      go_enter Try.func81, Try.ntmps81
      go_wp2
      go_ret
      exact ⟨by first | rfl | (simp; done) | (simp [*]; done), by repeat (first | exact Drawn0.refl _ | apply Drawn0.step)⟩
    · rw [if_neg c3] at H
      have c3b0 : decide (a0 ≤ 122) = false := decide_eq_false c3
      clear c3
      by_cases c4 : a0 ≥ 48
      · rw [if_pos c4] at H
        have c4b0 : decide (48 ≤ a0) = true := decide_eq_true c4
        clear c4
        by_cases c5 : a0 ≤ 57
        · rw [if_pos c5] at H
          have c5b0 : decide (a0 ≤ 57) = true := decide_eq_true c5
          clear c5
          obtain rfl := Option.some.inj H
          go_enter Try.func81, Try.ntmps81
          go_wp2
          go_ret
          exact ⟨by first | rfl | (simp; done) | (simp [*]; done), by repeat (first | exact Drawn0.refl _ | apply Drawn0.step)⟩
        · rw [if_neg c5] at H
          have c5b0 : decide (a0 ≤ 57) = false := decide_eq_false c5
          clear c5
          by_cases c6 : a0 = 45
          · rw [if_pos c6] at H
            have c6b0 : (a0 == 45) = true := beq_iff_eq.mpr c6
            have c6b1 : (a0 != 45) = false := bne_eq_false_iff_eq.mpr c6
            clear c6
            obtain rfl := Option.some.inj H
            go_enter Try.func81, Try.ntmps81
            go_wp2
            go_ret
            exact ⟨by first | rfl | (simp; done) | (simp [*]; done), by repeat (first | exact Drawn0.refl _ | apply Drawn0.step)⟩
          · rw [if_neg c6] at H
            have c6b0 : (a0 == 45) = false := beq_eq_false_iff_ne.mpr c6
            have c6b1 : (a0 != 45) = true := bne_iff_ne.mpr c6
            by_cases c7 : a0 = 46
            · rw [if_pos c7] at H
              have c7b0 : (a0 == 46) = true := beq_iff_eq.mpr c7
              have c7b1 : (a0 != 46) = false := bne_eq_false_iff_eq.mpr c7
              clear c7
              obtain rfl := Option.some.inj H
              go_enter Try.func81, Try.ntmps81
              go_wp2
              go_ret
              exact ⟨by first | rfl | (simp; done) | (simp [*]; done), by repeat (first | exact Drawn0.refl _ | apply Drawn0.step)⟩
            · rw [if_neg c7] at H
              have c7b0 : (a0 == 46) = false := beq_eq_false_iff_ne.mpr c7
              have c7b1 : (a0 != 46) = true := bne_iff_ne.mpr c7
              obtain rfl := Option.some.inj H
              go_enter Try.func81, Try.ntmps81
              go_wp2
              go_ret
              exact ⟨by first | rfl | (simp; done) | (simp [*]; done), by repeat (first | exact Drawn0.refl _ | apply Drawn0.step)⟩
      · rw [if_neg c4] at H
        have c4b0 : decide (48 ≤ a0) = false := decide_eq_false c4
        clear c4
        by_cases c8 : a0 = 45
        · rw [if_pos c8] at H
          have c8b0 : (a0 == 45) = true := beq_iff_eq.mpr c8
          have c8b1 : (a0 != 45) = false := bne_eq_false_iff_eq.mpr c8
          clear c8
          obtain rfl := Option.some.inj H
          go_enter Try.func81, Try.ntmps81
          go_wp2
          go_ret
          exact ⟨by first | rfl | (simp; done) | (simp [*]; done), by repeat (first | exact Drawn0.refl _ | apply Drawn0.step)⟩
        · rw [if_neg c8] at H
          have c8b0 : (a0 == 45) = false := beq_eq_false_iff_ne.mpr c8
          have c8b1 : (a0 != 45) = true := bne_iff_ne.mpr c8
          by_cases c9 : a0 = 46
          · rw [if_pos c9] at H
            have c9b0 : (a0 == 46) = true := beq_iff_eq.mpr c9
            have c9b1 : (a0 != 46) = false := bne_eq_false_iff_eq.mpr c9
            clear c9
            obtain rfl := Option.some.inj H
            go_enter Try.func81, Try.ntmps81
            go_wp2
            go_ret
            exact ⟨by first | rfl | (simp; done) | (simp [*]; done), by repeat (first | exact Drawn0.refl _ | apply Drawn0.step)⟩
          · rw [if_neg c9] at H
            have c9b0 : (a0 == 46) = false := beq_eq_false_iff_ne.mpr c9
            have c9b1 : (a0 != 46) = true := bne_iff_ne.mpr c9
            obtain rfl := Option.some.inj H
            go_enter Try.func81, Try.ntmps81
            go_wp2
            go_ret
            exact ⟨by first | rfl | (simp; done) | (simp [*]; done), by repeat (first | exact Drawn0.refl _ | apply Drawn0.step)⟩
  · rw [if_neg c2] at H
    have c2b0 : decide (97 ≤ a0) = false := decide_eq_false c2
    clear c2
    by_cases c10 : a0 ≥ 48
    · rw [if_pos c10] at H
      have c10b0 : decide (48 ≤ a0) = true := decide_eq_true c10
      clear c10
      by_cases c11 : a0 ≤ 57
      · rw [if_pos c11] at H
        have c11b0 : decide (a0 ≤ 57) = true := decide_eq_true c11
        clear c11
        obtain rfl := Option.some.inj H
        go_enter Try.func81, Try.ntmps81
        go_wp2
        go_ret
        exact ⟨by first | rfl | (simp; done) | (simp [*]; done), by repeat (first | exact Drawn0.refl _ | apply Drawn0.step)⟩
      · rw [if_neg c11] at H
        have c11b0 : decide (a0 ≤ 57) = false := decide_eq_false c11
        clear c11
        by_cases c12 : a0 = 45
        · rw [if_pos c12] at H
          have c12b0 : (a0 == 45) = true := beq_iff_eq.mpr c12
          have c12b1 : (a0 != 45) = false := bne_eq_false_iff_eq.mpr c12
          clear c12
          obtain rfl := Option.some.inj H
          go_enter Try.func81, Try.ntmps81
          go_wp2
          go_ret
          exact ⟨by first | rfl | (simp; done) | (simp [*]; done), by repeat (first | exact Drawn0.refl _ | apply Drawn0.step)⟩
        · rw [if_neg c12] at H
          have c12b0 : (a0 == 45) = false := beq_eq_false_iff_ne.mpr c12
          have c12b1 : (a0 != 45) = true := bne_iff_ne.mpr c12
          by_cases c13 : a0 = 46
          · rw [if_pos c13] at H
            have c13b0 : (a0 == 46) = true := beq_iff_eq.mpr c13
            have c13b1 : (a0 != 46) = false := bne_eq_false_iff_eq.mpr c13
            clear c13
            obtain rfl := Option.some.inj H
            go_enter Try.func81, Try.ntmps81
            go_wp2
            go_ret
            exact ⟨by first | rfl | (simp; done) | (simp [*]; done), by repeat (first | exact Drawn0.refl _ | apply Drawn0.step)⟩
          · rw [if_neg c13] at H
            have c13b0 : (a0 == 46) = false := beq_eq_false_iff_ne.mpr c13
            have c13b1 : (a0 != 46) = true := bne_iff_ne.mpr c13
            obtain rfl := Option.some.inj H
            go_enter Try.func81, Try.ntmps81
            go_wp2
            go_ret
            exact ⟨by first | rfl | (simp; done) | (simp [*]; done), by repeat (first | exact Drawn0.refl _ | apply Drawn0.step)⟩
    · rw [if_neg c10] at H
      have c10b0 : decide (48 ≤ a0) = false := decide_eq_false c10
      clear c10
      by_cases c14 : a0 = 45
      · rw [if_pos c14] at H
        have c14b0 : (a0 == 45) = true := beq_iff_eq.mpr c14
        have c14b1 : (a0 != 45) = false := bne_eq_false_iff_eq.mpr c14
        clear c14
        obtain rfl := Option.some.inj H
        go_enter Try.func81, Try.ntmps81
        go_wp2
        go_ret
        exact ⟨by first | rfl | (simp; done) | (simp [*]; done), by repeat (first | exact Drawn0.refl _ | apply Drawn0.step)⟩
      · rw [if_neg c14] at H
        have c14b0 : (a0 == 45) = false := beq_eq_false_iff_ne.mpr c14
        have c14b1 : (a0 != 45) = true := bne_iff_ne.mpr c14
        by_cases c15 : a0 = 46
        · rw [if_pos c15] at H
          have c15b0 : (a0 == 46) = true := beq_iff_eq.mpr c15
          have c15b1 : (a0 != 46) = false := bne_eq_false_iff_eq.mpr c15
          clear c15
          obtain rfl := Option.some.inj H
          go_enter Try.func81, Try.ntmps81
          go_wp2
          go_ret
          exact ⟨by first | rfl | (simp; done) | (simp [*]; done), by repeat (first | exact Drawn0.refl _ | apply Drawn0.step)⟩
        · rw [if_neg c15] at H
          have c15b0 : (a0 == 46) = false := beq_eq_false_iff_ne.mpr c15
          have c15b1 : (a0 != 46) = true := bne_iff_ne.mpr c15
          obtain rfl := Option.some.inj H
          go_enter Try.func81, Try.ntmps81
          go_wp2
          go_ret
          exact ⟨by first | rfl | (simp; done) | (simp [*]; done), by repeat (first | exact Drawn0.refl _ | apply Drawn0.step)⟩

/-! ### span_Name: function 72 -/
mutual
def span_Name.j0 : Nat → ByteArray → Bool → Option (Bool)
  | 0, _, _ => none
  | k + 1, x0, x11 => if x11 = true then (some false) else (span_Name.l0 k x0 (x0.size : Int) 0)
def span_Name.l0 : Nat → ByteArray → Int → Int → Option (Bool)
  | 0, _, _, _ => none
  | k + 1, x0, x13, x14 => if x14 < x13 then (if 0 ≤ x14 then (if x14 < (x0.size : Int) then ((span_letter.f (bt x0 x14)).bind fun t101 => (if t101 = true then (span_Name.l0 k x0 x13 (wrap64 (x14 + 1))) else (some false))) else (none)) else (none)) else (some true)
end
def span_Name.f (k : Nat) (a0 : ByteArray) : Option (Bool) := if (a0.size : Int) < 1 then (span_Name.j0 k a0 true) else (span_Name.j0 k a0 (decide ((a0.size : Int) > 16)))
theorem span_Name.mono_l : ∀ k, (∀ y0 y1, LeO (span_Name.j0 k y0 y1) (span_Name.j0 (k + 1) y0 y1)) ∧ (∀ y0 y1 y2, LeO (span_Name.l0 k y0 y1 y2) (span_Name.l0 (k + 1) y0 y1 y2))
  | 0 => ⟨fun _ _ r h => by simp [span_Name.j0] at h, fun _ _ _ r h => by simp [span_Name.l0] at h⟩
  | k + 1 => by
    obtain ⟨ih0, ih1⟩ := span_Name.mono_l k
    refine ⟨?_, ?_⟩
    · intro y0 y1
      unfold span_Name.j0
      repeat' first
      | (with_reducible exact ih0 _ _)
      | (with_reducible exact ih1 _ _ _)
      | (with_reducible exact LeO.refl _)
      | (with_reducible exact LeO.none _)
      | (with_reducible refine LeO.ite ?_ ?_)
      | (with_reducible refine LeO.bind ?_ (fun _ => ?_))
      | exact ih0 _ _
      | exact ih1 _ _ _
      | exact LeO.none _
      | refine LeO.ite ?_ ?_
      | refine LeO.bind ?_ (fun _ => ?_)
    · intro y0 y1 y2
      unfold span_Name.l0
      repeat' first
      | (with_reducible exact ih0 _ _)
      | (with_reducible exact ih1 _ _ _)
      | (with_reducible exact LeO.refl _)
      | (with_reducible exact LeO.none _)
      | (with_reducible refine LeO.ite ?_ ?_)
      | (with_reducible refine LeO.bind ?_ (fun _ => ?_))
      | exact ih0 _ _
      | exact ih1 _ _ _
      | exact LeO.none _
      | refine LeO.ite ?_ ?_
      | refine LeO.bind ?_ (fun _ => ?_)
theorem span_Name.mono : ∀ a0 k, LeO (span_Name.f k a0) (span_Name.f (k + 1) a0) := by
  intro a0 k
  obtain ⟨ih0, ih1⟩ := span_Name.mono_l k
  unfold span_Name.f
  repeat' first
      | (with_reducible exact ih0 _ _)
      | (with_reducible exact ih1 _ _ _)
      | (with_reducible exact LeO.refl _)
      | (with_reducible exact LeO.none _)
      | (with_reducible refine LeO.ite ?_ ?_)
      | (with_reducible refine LeO.bind ?_ (fun _ => ?_))
      | exact ih0 _ _
      | exact ih1 _ _ _
      | exact LeO.none _
      | refine LeO.ite ?_ ?_
      | refine LeO.bind ?_ (fun _ => ?_)
set_option maxHeartbeats 8000000 in
set_option maxRecDepth 100000 in
theorem span_Name.calls (k : Nat) (a0 : ByteArray) (r : Bool) (w : World) (h : span_Name.f k a0 = some r) :
    Calls Try.prog 72 #[.string a0] w fun e w' => e = .returned (.bool r) ∧ Drawn0 w w' := by
  have H : (if (a0.size : Int) < 1 then (span_Name.j0 k a0 true) else (span_Name.j0 k a0 (decide ((a0.size : Int) > 16)))) = some r := h
  clear h
  have HC2 := Aside0.mk H
  clear H
  go_enter Try.func72, Try.ntmps72
  go_upto_region 1 with (fail)
  go_cut [11] (fun v11 wc => ∃ (kq : Nat) (x11_1 : Bool), v11 = .bool x11_1 ∧ Aside0 (span_Name.j0 kq a0 x11_1 = some r) ∧ Aside0 (kq ≤ k) ∧ Drawn0 w wc)
  case first =>
    have H := HC2.out
    clear HC2
    by_cases c3 : (a0.size : Int) < 1
    · rw [if_pos c3] at H
      have c3b0 : decide ((a0.size : Int) < 1) = true := decide_eq_true c3
      have c3b1 : decide (a0.size < 1) = true := decide_eq_true (by omega)
      clear c3
      (first | rw [c3b0] | (simp only [i64_w, i32_w]; rw [c3b0]) | skip)
      have H' := Aside0.mk H
      clear H
      go_wp2
      go_meet
      case rel => exact ⟨_, (true), (by first | rfl | (simp; done) | (simp [*]; done)), H', ⟨by first | omega | exact Nat.le_refl _⟩, by repeat (first | exact Drawn0.refl _ | apply Drawn0.step)⟩
    · rw [if_neg c3] at H
      have c3b0 : decide ((a0.size : Int) < 1) = false := decide_eq_false c3
      have c3b1 : decide (a0.size < 1) = false := decide_eq_false (by omega)
      clear c3
      (first | rw [c3b0] | (simp only [i64_w, i32_w]; rw [c3b0]) | skip)
      have H' := Aside0.mk H
      clear H
      go_wp2
      go_meet
      case rel => exact ⟨_, (decide ((a0.size : Int) > 16)), (by first | rfl | (simp; done) | (simp [*]; done)), H', ⟨by first | omega | exact Nat.le_refl _⟩, by repeat (first | exact Drawn0.refl _ | apply Drawn0.step)⟩
  case rest =>
    clear HC2
    (try clear p2); (try clear c3); (try clear c3b0); (try clear c3b1)
    obtain ⟨kq, x11_1, rfl, HA, HJ1, ⟨mc1, rfl⟩⟩ := hcut
    cases kq with
    | zero => exact absurd HA.out (by simp [span_Name.j0])
    | succ kj1 =>
      have H := HA.out
      clear HA
      simp only [span_Name.j0] at H
      by_cases c4 : x11_1 = true
      · subst c4
        have H1 : (some false) = some r := by rw [if_pos rfl] at H; exact H
        clear H
        have H := H1
        clear H1
        obtain rfl := Option.some.inj H
        go_wp2
        go_ret
        exact ⟨by first | rfl | (simp; done) | (simp [*]; done), by repeat (first | exact Drawn0.refl _ | apply Drawn0.step)⟩
      · replace c4 := Bool.eq_false_iff.mpr c4
        subst c4
        have H1 : (span_Name.l0 kj1 a0 (a0.size : Int) 0) = some r := by rw [if_neg (show ¬ (false = true) by decide)] at H; exact H
        clear H
        have H := H1
        clear H1
        have H' := Aside0.mk H
        clear H
        go_wp2
        go_loopg [14] kj1 (fun kq v14 w' => ∃ (x14_2 : Int), v14 = .int .i64 x14_2 ∧ Aside0 (span_Name.l0 kq a0 (a0.size : Int) x14_2 = some r) ∧ Aside0 (kq ≤ kj1) ∧ Drawn0 w w')
        case atStart => exact ⟨(0), (by first | rfl | (simp; done) | (simp [*]; done)), H', ⟨Nat.le_refl _⟩, by repeat (first | exact Drawn0.refl _ | apply Drawn0.step)⟩
        case round =>
          clear H'
          (try clear c1); (try clear p2); (try clear c3); (try clear c3b0); (try clear c3b1); (try clear c4); (try clear p2)
          obtain ⟨x14_2, rfl, HA, HK2, ⟨m2, rfl⟩⟩ := hrel
          cases gk with
          | zero => exact absurd HA.out (by simp [span_Name.l0])
          | succ k2 =>
            have H := HA.out
            clear HA
            simp only [span_Name.l0] at H
            by_cases c5 : x14_2 < (a0.size : Int)
            · rw [if_pos c5] at H
              have c5b0 : decide (x14_2 < (a0.size : Int)) = true := decide_eq_true c5
              clear c5
              by_cases c6 : 0 ≤ x14_2
              · rw [if_pos c6] at H
                have c6b0 : decide (0 ≤ x14_2) = true := decide_eq_true c6
                clear c6
                by_cases c7 : x14_2 < (a0.size : Int)
                · rw [if_pos c7] at H
                  have c7b0 : decide (x14_2 < (a0.size : Int)) = true := decide_eq_true c7
                  clear c7
                  replace H := Option.bind_eq_some_iff.mp H
                  obtain ⟨t101, A90, H⟩ := H
                  replace H : (if t101 = true then (span_Name.l0 k2 a0 (a0.size : Int) (wrap64 (x14_2 + 1))) else (some false)) = some r := H
                  have A9 := Aside0.mk A90
                  clear A90
                  by_cases c10 : t101 = true
                  · subst c10
                    have H1 : (span_Name.l0 k2 a0 (a0.size : Int) (wrap64 (x14_2 + 1))) = some r := by rw [if_pos rfl] at H; exact H
                    clear H
                    have H := H1
                    clear H1
                    have H' := Aside0.mk H
                    clear H
                    have p8 : 0 ≤ (x14_2 : Int) := of_decide_eq_true (by first | (with_reducible assumption) | assumption)
                    have q8 : x14_2 < (a0.size : Int) := of_decide_eq_true (by first | (with_reducible assumption) | assumption)
                    have hx8 := bt_at a0 x14_2
                    replace p8 := eq_true p8
                    replace q8 := eq_true q8
                    go_wp2_with (first | ((with_reducible refine gate_callee (f := 81) rfl ?_); refine goesL_ (some 20) rfl rfl Try.func81 (by kernel_rfl) rfl #[.int .u8 (bt a0 x14_2)] rfl (by (try simp only [List.map_toArray, List.map_cons, List.map_nil]); first | done | rfl | (simp only [List.length_drop, List.length_take]; rfl)) ?_; (with_reducible refine (span_letter.calls (bt a0 x14_2) true _ A9.out).mono ?_); rintro e w' ⟨rfl, ⟨nd, rfl⟩⟩; refine ⟨_, rfl, ?_⟩))
                    go_roundg k2
                    case measure => have := HJ1.out; have := HK2.out; omega
                    case rel => exact ⟨(wrap64 (x14_2 + 1)), (by first | rfl | (simp; done) | (simp [*]; done)), H', ⟨by have := HJ1.out; have := HK2.out; omega⟩, by repeat (first | exact Drawn0.refl _ | apply Drawn0.step)⟩
                  · replace c10 := Bool.eq_false_iff.mpr c10
                    subst c10
                    have H1 : (some false) = some r := by rw [if_neg (show ¬ (false = true) by decide)] at H; exact H
                    clear H
                    have H := H1
                    clear H1
                    obtain rfl := Option.some.inj H
                    have p8 : 0 ≤ (x14_2 : Int) := of_decide_eq_true (by first | (with_reducible assumption) | assumption)
                    have q8 : x14_2 < (a0.size : Int) := of_decide_eq_true (by first | (with_reducible assumption) | assumption)
                    have hx8 := bt_at a0 x14_2
                    replace p8 := eq_true p8
                    replace q8 := eq_true q8
                    go_wp2_with (first | ((with_reducible refine gate_callee (f := 81) rfl ?_); refine goesL_ (some 20) rfl rfl Try.func81 (by kernel_rfl) rfl #[.int .u8 (bt a0 x14_2)] rfl (by (try simp only [List.map_toArray, List.map_cons, List.map_nil]); first | done | rfl | (simp only [List.length_drop, List.length_take]; rfl)) ?_; (with_reducible refine (span_letter.calls (bt a0 x14_2) false _ A9.out).mono ?_); rintro e w' ⟨rfl, ⟨nd, rfl⟩⟩; refine ⟨_, rfl, ?_⟩))
                    go_ret
                    exact ⟨by first | rfl | (simp; done) | (simp [*]; done), by repeat (first | exact Drawn0.refl _ | apply Drawn0.step)⟩
                · rw [if_neg c7] at H
                  exact absurd H (by simp)
              · rw [if_neg c6] at H
                exact absurd H (by simp)
            · rw [if_neg c5] at H
              have c5b0 : decide (x14_2 < (a0.size : Int)) = false := decide_eq_false c5
              clear c5
              obtain rfl := Option.some.inj H
              go_wp2
              go_ret
              exact ⟨by first | rfl | (simp; done) | (simp [*]; done), by repeat (first | exact Drawn0.refl _ | apply Drawn0.step)⟩

/-! ### span_May: function 63 -/
mutual
def span_May.j0 : Nat → Bool → Int → Int → Int → Int → ByteArray → ByteArray → Int → Int → Option (Bool)
  | 0, _, _, _, _, _, _, _, _, _ => none
  | k + 1, x3, x103000, x103001, x103002, x103003, x103004, x103005, x103006, x103007 => if x3 = true then (some false) else (if x103006 < 0 then (span_May.j1 k (decide (x103006 < 0)) x103000 x103001 x103002 x103003 x103004 x103005 x103006 x103007) else (if x103006 ≥ 1125899906842624 then (span_May.j1 k (decide (x103006 ≥ 1125899906842624)) x103000 x103001 x103002 x103003 x103004 x103005 x103006 x103007) else (if x103007 < 0 then (span_May.j1 k (decide (x103007 < 0)) x103000 x103001 x103002 x103003 x103004 x103005 x103006 x103007) else (span_May.j1 k (decide (x103007 > 1125899906842624)) x103000 x103001 x103002 x103003 x103004 x103005 x103006 x103007))))
def span_May.j1 : Nat → Bool → Int → Int → Int → Int → ByteArray → ByteArray → Int → Int → Option (Bool)
  | 0, _, _, _, _, _, _, _, _, _ => none
  | k + 1, x18, x103000, x103001, x103002, x103003, x103004, x103005, x103006, x103007 => if x18 = true then (some false) else ((span_Name.f k x103004).bind fun t103 => (if t103 = true then ((span_Name.f k x103005).bind fun t104 => (some t104)) else (some false)))
end
def span_May.f (k : Nat) (a0_0 : Int) (a0_1 : Int) (a0_2 : Int) (a0_3 : Int) (a0_4 : ByteArray) (a0_5 : ByteArray) (a0_6 : Int) (a0_7 : Int) : Option (Bool) := if a0_0 = 0 then (span_May.j0 k (a0_0 == 0) a0_0 a0_1 a0_2 a0_3 a0_4 a0_5 a0_6 a0_7) else (if a0_1 = 0 then (span_May.j0 k (a0_1 == 0) a0_0 a0_1 a0_2 a0_3 a0_4 a0_5 a0_6 a0_7) else (if a0_2 = a0_1 then (span_May.j0 k (a0_2 == a0_1) a0_0 a0_1 a0_2 a0_3 a0_4 a0_5 a0_6 a0_7) else (span_May.j0 k (decide (a0_3 > 2)) a0_0 a0_1 a0_2 a0_3 a0_4 a0_5 a0_6 a0_7)))
theorem span_May.mono_l : ∀ k, (∀ y0 y1 y2 y3 y4 y5 y6 y7 y8, LeO (span_May.j0 k y0 y1 y2 y3 y4 y5 y6 y7 y8) (span_May.j0 (k + 1) y0 y1 y2 y3 y4 y5 y6 y7 y8)) ∧ (∀ y0 y1 y2 y3 y4 y5 y6 y7 y8, LeO (span_May.j1 k y0 y1 y2 y3 y4 y5 y6 y7 y8) (span_May.j1 (k + 1) y0 y1 y2 y3 y4 y5 y6 y7 y8))
  | 0 => ⟨fun _ _ _ _ _ _ _ _ _ r h => by simp [span_May.j0] at h, fun _ _ _ _ _ _ _ _ _ r h => by simp [span_May.j1] at h⟩
  | k + 1 => by
    obtain ⟨ih0, ih1⟩ := span_May.mono_l k
    refine ⟨?_, ?_⟩
    · intro y0 y1 y2 y3 y4 y5 y6 y7 y8
      unfold span_May.j0
      repeat' first
      | (with_reducible exact ih0 _ _ _ _ _ _ _ _ _)
      | (with_reducible exact ih1 _ _ _ _ _ _ _ _ _)
      | (with_reducible exact span_Name.mono _ _)
      | (with_reducible exact LeO.refl _)
      | (with_reducible exact LeO.none _)
      | (with_reducible refine LeO.ite ?_ ?_)
      | (with_reducible refine LeO.bind ?_ (fun _ => ?_))
      | exact ih0 _ _ _ _ _ _ _ _ _
      | exact ih1 _ _ _ _ _ _ _ _ _
      | exact span_Name.mono _ _
      | exact LeO.none _
      | refine LeO.ite ?_ ?_
      | refine LeO.bind ?_ (fun _ => ?_)
    · intro y0 y1 y2 y3 y4 y5 y6 y7 y8
      unfold span_May.j1
      repeat' first
      | (with_reducible exact ih0 _ _ _ _ _ _ _ _ _)
      | (with_reducible exact ih1 _ _ _ _ _ _ _ _ _)
      | (with_reducible exact span_Name.mono _ _)
      | (with_reducible exact LeO.refl _)
      | (with_reducible exact LeO.none _)
      | (with_reducible refine LeO.ite ?_ ?_)
      | (with_reducible refine LeO.bind ?_ (fun _ => ?_))
      | exact ih0 _ _ _ _ _ _ _ _ _
      | exact ih1 _ _ _ _ _ _ _ _ _
      | exact span_Name.mono _ _
      | exact LeO.none _
      | refine LeO.ite ?_ ?_
      | refine LeO.bind ?_ (fun _ => ?_)
theorem span_May.mono : ∀ a0 a1 a2 a3 a4 a5 a6 a7 k, LeO (span_May.f k a0 a1 a2 a3 a4 a5 a6 a7) (span_May.f (k + 1) a0 a1 a2 a3 a4 a5 a6 a7) := by
  intro a0 a1 a2 a3 a4 a5 a6 a7 k
  obtain ⟨ih0, ih1⟩ := span_May.mono_l k
  unfold span_May.f
  repeat' first
      | (with_reducible exact ih0 _ _ _ _ _ _ _ _ _)
      | (with_reducible exact ih1 _ _ _ _ _ _ _ _ _)
      | (with_reducible exact span_Name.mono _ _)
      | (with_reducible exact LeO.refl _)
      | (with_reducible exact LeO.none _)
      | (with_reducible refine LeO.ite ?_ ?_)
      | (with_reducible refine LeO.bind ?_ (fun _ => ?_))
      | exact ih0 _ _ _ _ _ _ _ _ _
      | exact ih1 _ _ _ _ _ _ _ _ _
      | exact span_Name.mono _ _
      | exact LeO.none _
      | refine LeO.ite ?_ ?_
      | refine LeO.bind ?_ (fun _ => ?_)
set_option maxHeartbeats 8000000 in
set_option maxRecDepth 100000 in
theorem span_May.calls (k : Nat) (a0_0 : Int) (a0_1 : Int) (a0_2 : Int) (a0_3 : Int) (a0_4 : ByteArray) (a0_5 : ByteArray) (a0_6 : Int) (a0_7 : Int) (r : Bool) (w : World) (h : span_May.f k a0_0 a0_1 a0_2 a0_3 a0_4 a0_5 a0_6 a0_7 = some r) :
    Calls Try.prog 63 #[.agg #[.int .u64 a0_0, .int .u64 a0_1, .int .u64 a0_2, .int .u8 a0_3, .string a0_4, .string a0_5, .int .i64 a0_6, .int .i64 a0_7]] w fun e w' => e = .returned (.bool r) ∧ Below w.heap.size w w' := by
  have hu42 := Try.underlying42
  have HB := Aside0.mk (Below.refl w.heap.size w)
  have H : (if a0_0 = 0 then (span_May.j0 k (a0_0 == 0) a0_0 a0_1 a0_2 a0_3 a0_4 a0_5 a0_6 a0_7) else (if a0_1 = 0 then (span_May.j0 k (a0_1 == 0) a0_0 a0_1 a0_2 a0_3 a0_4 a0_5 a0_6 a0_7) else (if a0_2 = a0_1 then (span_May.j0 k (a0_2 == a0_1) a0_0 a0_1 a0_2 a0_3 a0_4 a0_5 a0_6 a0_7) else (span_May.j0 k (decide (a0_3 > 2)) a0_0 a0_1 a0_2 a0_3 a0_4 a0_5 a0_6 a0_7)))) = some r := h
  clear h
  have HC2 := Aside0.mk H
  clear H
  go_enter Try.func63, Try.ntmps63
  go_upto_if 3 with (first | ((with_reducible refine gate_dst (N := 1) rfl ?_); refine box_event ?hg (N := 1) ?hd (cs := #[.int .u64 a0_0, .int .u64 a0_1, .int .u64 a0_2, .int .u8 a0_3, .string a0_4, .string a0_5, .int .i64 a0_6, .int .i64 a0_7]) (t := 42) ?hr ?_; (case hd => rfl); (case hg => rfl); (case hr => first | (go_simp; done) | (go_simp; rfl)); intro gb102 hg w3 hbox hb; have n0_ := Aside0.mk (below_step (by repeat (first | (with_reducible first | exact HB.out | apply below_alloc | apply pw_below_drewN | apply below_drew1) | exact HB.out)) hb); have n1_ := Aside0.mk (hbox); have n2_ := Aside0.mk ((by rw [hg]; exact (below_size (by repeat (first | (with_reducible first | exact HB.out | apply below_alloc | apply pw_below_drewN | apply below_drew1) | exact HB.out))) : w.heap.size ≤ gb102)); have n3_ := Aside0.mk ((by rw [hg]; exact (below_size (by repeat (first | (with_reducible first | exact HB.out | apply below_alloc | apply pw_below_drewN | apply below_drew1) | exact HB.out))) : w.heap.size ≤ gb102)); clear HB; have HB := n0_; have BK102 := n1_; have GW102 := n2_; have GE102 := n3_; clear n0_ n1_ n2_ n3_; clear hb hbox hg; have hcz4_0 : w3.cell? ⟨gb102, 0, none⟩ = some (.int .u64 a0_0) := (blk_cell BK102.out 0).trans rfl; have hcz4_1 : w3.cell? ⟨gb102, 1, none⟩ = some (.int .u64 a0_1) := (blk_cell BK102.out 1).trans rfl; have hcz4_2 : w3.cell? ⟨gb102, 2, none⟩ = some (.int .u64 a0_2) := (blk_cell BK102.out 2).trans rfl; have hcz4_3 : w3.cell? ⟨gb102, 3, none⟩ = some (.int .u8 a0_3) := (blk_cell BK102.out 3).trans rfl; have hcz4_4 : w3.cell? ⟨gb102, 4, none⟩ = some (.string a0_4) := (blk_cell BK102.out 4).trans rfl; have hcz4_5 : w3.cell? ⟨gb102, 5, none⟩ = some (.string a0_5) := (blk_cell BK102.out 5).trans rfl; have hcz4_6 : w3.cell? ⟨gb102, 6, none⟩ = some (.int .i64 a0_6) := (blk_cell BK102.out 6).trans rfl; have hcz4_7 : w3.cell? ⟨gb102, 7, none⟩ = some (.int .i64 a0_7) := (blk_cell BK102.out 7).trans rfl; have hfz4_0 := blk_frozen BK102.out 0; have hfz4_1 := blk_frozen BK102.out 1; have hfz4_2 := blk_frozen BK102.out 2; have hfz4_3 := blk_frozen BK102.out 3; have hfz4_4 := blk_frozen BK102.out 4; have hfz4_5 := blk_frozen BK102.out 5; have hfz4_6 := blk_frozen BK102.out 6; have hfz4_7 := blk_frozen BK102.out 7))
  (try simp only [Act.put, List.setIfInBounds_toArray, List.set_cons_zero, List.set_cons_succ])
  go_cut [3] (fun v3 wc => ∃ (kq : Nat) (x3_1 : Bool), v3 = .bool x3_1 ∧ Aside0 (span_May.j0 kq x3_1 a0_0 a0_1 a0_2 a0_3 a0_4 a0_5 a0_6 a0_7 = some r) ∧ Aside0 (kq ≤ k) ∧ Aside0 (wc.heap[gb102]? = some (.cells #[.int .u64 a0_0, .int .u64 a0_1, .int .u64 a0_2, .int .u8 a0_3, .string a0_4, .string a0_5, .int .i64 a0_6, .int .i64 a0_7] 42 (0, 0))) ∧ Aside0 (Below w.heap.size w wc))
  case first =>
    have H := HC2.out
    clear HC2
    by_cases c5 : a0_0 = 0
    · rw [if_pos c5] at H
      have c5b0 : (a0_0 == 0) = true := beq_iff_eq.mpr c5
      have c5b1 : (a0_0 != 0) = false := bne_eq_false_iff_eq.mpr c5
      clear c5
      (first | rw [c5b0] | (simp only [i64_w, i32_w]; rw [c5b0]) | skip)
      have H' := Aside0.mk H
      clear H
      go_wp2
      go_meet
      case rel => exact ⟨_, ((a0_0 == 0)), (by first | rfl | (simp; done) | (simp [*]; done)), H', ⟨by first | omega | exact Nat.le_refl _⟩, ⟨by (with_reducible repeat (first | refine blk_drewN ?_ _ | refine blk_drew ?_ | refine blk_alloc ?_ _)); exact BK102.out⟩, ⟨by repeat (first | (with_reducible first | exact HB.out | apply below_alloc | apply pw_below_drewN | apply below_drew1 | refine below_set ?_ GE102.out) | exact HB.out)⟩⟩
    · rw [if_neg c5] at H
      have c5b0 : (a0_0 == 0) = false := beq_eq_false_iff_ne.mpr c5
      have c5b1 : (a0_0 != 0) = true := bne_iff_ne.mpr c5
      (first | rw [c5b0] | (simp only [i64_w, i32_w]; rw [c5b0]) | skip)
      by_cases c6 : a0_1 = 0
      · rw [if_pos c6] at H
        have c6b0 : (a0_1 == 0) = true := beq_iff_eq.mpr c6
        have c6b1 : (a0_1 != 0) = false := bne_eq_false_iff_eq.mpr c6
        clear c6
        have H' := Aside0.mk H
        clear H
        have hcz7_0 : w3.cell? ⟨gb102, 0, none⟩ = some (.int .u64 a0_0) := (blk_cell BK102.out 0).trans rfl
        have hcz7_1 : w3.cell? ⟨gb102, 1, none⟩ = some (.int .u64 a0_1) := (blk_cell BK102.out 1).trans rfl
        have hcz7_2 : w3.cell? ⟨gb102, 2, none⟩ = some (.int .u64 a0_2) := (blk_cell BK102.out 2).trans rfl
        have hcz7_3 : w3.cell? ⟨gb102, 3, none⟩ = some (.int .u8 a0_3) := (blk_cell BK102.out 3).trans rfl
        have hcz7_4 : w3.cell? ⟨gb102, 4, none⟩ = some (.string a0_4) := (blk_cell BK102.out 4).trans rfl
        have hcz7_5 : w3.cell? ⟨gb102, 5, none⟩ = some (.string a0_5) := (blk_cell BK102.out 5).trans rfl
        have hcz7_6 : w3.cell? ⟨gb102, 6, none⟩ = some (.int .i64 a0_6) := (blk_cell BK102.out 6).trans rfl
        have hcz7_7 : w3.cell? ⟨gb102, 7, none⟩ = some (.int .i64 a0_7) := (blk_cell BK102.out 7).trans rfl
        have hfz7_0 := blk_frozen BK102.out 0
        have hfz7_1 := blk_frozen BK102.out 1
        have hfz7_2 := blk_frozen BK102.out 2
        have hfz7_3 := blk_frozen BK102.out 3
        have hfz7_4 := blk_frozen BK102.out 4
        have hfz7_5 := blk_frozen BK102.out 5
        have hfz7_6 := blk_frozen BK102.out 6
        have hfz7_7 := blk_frozen BK102.out 7
        go_wp2
        go_meet
        case rel => exact ⟨_, ((a0_1 == 0)), (by first | rfl | (simp; done) | (simp [*]; done)), H', ⟨by first | omega | exact Nat.le_refl _⟩, ⟨by (with_reducible repeat (first | refine blk_drewN ?_ _ | refine blk_drew ?_ | refine blk_alloc ?_ _)); exact BK102.out⟩, ⟨by repeat (first | (with_reducible first | exact HB.out | apply below_alloc | apply pw_below_drewN | apply below_drew1 | refine below_set ?_ GE102.out) | exact HB.out)⟩⟩
      · rw [if_neg c6] at H
        have c6b0 : (a0_1 == 0) = false := beq_eq_false_iff_ne.mpr c6
        have c6b1 : (a0_1 != 0) = true := bne_iff_ne.mpr c6
        by_cases c8 : a0_2 = a0_1
        · rw [if_pos c8] at H
          have c8b0 : (a0_2 == a0_1) = true := beq_iff_eq.mpr c8
          have c8b1 : (a0_2 != a0_1) = false := bne_eq_false_iff_eq.mpr c8
          clear c8
          have H' := Aside0.mk H
          clear H
          have hcz9_0 : w3.cell? ⟨gb102, 0, none⟩ = some (.int .u64 a0_0) := (blk_cell BK102.out 0).trans rfl
          have hcz9_1 : w3.cell? ⟨gb102, 1, none⟩ = some (.int .u64 a0_1) := (blk_cell BK102.out 1).trans rfl
          have hcz9_2 : w3.cell? ⟨gb102, 2, none⟩ = some (.int .u64 a0_2) := (blk_cell BK102.out 2).trans rfl
          have hcz9_3 : w3.cell? ⟨gb102, 3, none⟩ = some (.int .u8 a0_3) := (blk_cell BK102.out 3).trans rfl
          have hcz9_4 : w3.cell? ⟨gb102, 4, none⟩ = some (.string a0_4) := (blk_cell BK102.out 4).trans rfl
          have hcz9_5 : w3.cell? ⟨gb102, 5, none⟩ = some (.string a0_5) := (blk_cell BK102.out 5).trans rfl
          have hcz9_6 : w3.cell? ⟨gb102, 6, none⟩ = some (.int .i64 a0_6) := (blk_cell BK102.out 6).trans rfl
          have hcz9_7 : w3.cell? ⟨gb102, 7, none⟩ = some (.int .i64 a0_7) := (blk_cell BK102.out 7).trans rfl
          have hfz9_0 := blk_frozen BK102.out 0
          have hfz9_1 := blk_frozen BK102.out 1
          have hfz9_2 := blk_frozen BK102.out 2
          have hfz9_3 := blk_frozen BK102.out 3
          have hfz9_4 := blk_frozen BK102.out 4
          have hfz9_5 := blk_frozen BK102.out 5
          have hfz9_6 := blk_frozen BK102.out 6
          have hfz9_7 := blk_frozen BK102.out 7
          go_wp2
          go_meet
          case rel => exact ⟨_, ((a0_2 == a0_1)), (by first | rfl | (simp; done) | (simp [*]; done)), H', ⟨by first | omega | exact Nat.le_refl _⟩, ⟨by (with_reducible repeat (first | refine blk_drewN ?_ _ | refine blk_drew ?_ | refine blk_alloc ?_ _)); exact BK102.out⟩, ⟨by repeat (first | (with_reducible first | exact HB.out | apply below_alloc | apply pw_below_drewN | apply below_drew1 | refine below_set ?_ GE102.out) | exact HB.out)⟩⟩
        · rw [if_neg c8] at H
          have c8b0 : (a0_2 == a0_1) = false := beq_eq_false_iff_ne.mpr c8
          have c8b1 : (a0_2 != a0_1) = true := bne_iff_ne.mpr c8
          have H' := Aside0.mk H
          clear H
          have hcz10_0 : w3.cell? ⟨gb102, 0, none⟩ = some (.int .u64 a0_0) := (blk_cell BK102.out 0).trans rfl
          have hcz10_1 : w3.cell? ⟨gb102, 1, none⟩ = some (.int .u64 a0_1) := (blk_cell BK102.out 1).trans rfl
          have hcz10_2 : w3.cell? ⟨gb102, 2, none⟩ = some (.int .u64 a0_2) := (blk_cell BK102.out 2).trans rfl
          have hcz10_3 : w3.cell? ⟨gb102, 3, none⟩ = some (.int .u8 a0_3) := (blk_cell BK102.out 3).trans rfl
          have hcz10_4 : w3.cell? ⟨gb102, 4, none⟩ = some (.string a0_4) := (blk_cell BK102.out 4).trans rfl
          have hcz10_5 : w3.cell? ⟨gb102, 5, none⟩ = some (.string a0_5) := (blk_cell BK102.out 5).trans rfl
          have hcz10_6 : w3.cell? ⟨gb102, 6, none⟩ = some (.int .i64 a0_6) := (blk_cell BK102.out 6).trans rfl
          have hcz10_7 : w3.cell? ⟨gb102, 7, none⟩ = some (.int .i64 a0_7) := (blk_cell BK102.out 7).trans rfl
          have hfz10_0 := blk_frozen BK102.out 0
          have hfz10_1 := blk_frozen BK102.out 1
          have hfz10_2 := blk_frozen BK102.out 2
          have hfz10_3 := blk_frozen BK102.out 3
          have hfz10_4 := blk_frozen BK102.out 4
          have hfz10_5 := blk_frozen BK102.out 5
          have hfz10_6 := blk_frozen BK102.out 6
          have hfz10_7 := blk_frozen BK102.out 7
          go_wp2
          go_meet
          case rel => exact ⟨_, (decide (a0_3 > 2)), (by first | rfl | (simp; done) | (simp [*]; done)), H', ⟨by first | omega | exact Nat.le_refl _⟩, ⟨by (with_reducible repeat (first | refine blk_drewN ?_ _ | refine blk_drew ?_ | refine blk_alloc ?_ _)); exact BK102.out⟩, ⟨by repeat (first | (with_reducible first | exact HB.out | apply below_alloc | apply pw_below_drewN | apply below_drew1 | refine below_set ?_ GE102.out) | exact HB.out)⟩⟩
  case rest =>
    clear HC2
    (try clear p2); (try clear c5); (try clear c5b0); (try clear c5b1); (try clear c6); (try clear c6b0); (try clear c6b1); (try clear c8); (try clear c8b0); (try clear c8b1); (try clear hcz10_0); (try clear hcz10_1); (try clear hcz10_2); (try clear hcz10_3); (try clear hcz10_4); (try clear hcz10_5); (try clear hcz10_6); (try clear hcz10_7); (try clear hcz4_0); (try clear hcz4_1); (try clear hcz4_2); (try clear hcz4_3); (try clear hcz4_4); (try clear hcz4_5); (try clear hcz4_6); (try clear hcz4_7); (try clear hcz7_0); (try clear hcz7_1); (try clear hcz7_2); (try clear hcz7_3); (try clear hcz7_4); (try clear hcz7_5); (try clear hcz7_6); (try clear hcz7_7); (try clear hcz9_0); (try clear hcz9_1); (try clear hcz9_2); (try clear hcz9_3); (try clear hcz9_4); (try clear hcz9_5); (try clear hcz9_6); (try clear hcz9_7); (try clear hfz10_0); (try clear hfz10_1); (try clear hfz10_2); (try clear hfz10_3); (try clear hfz10_4); (try clear hfz10_5); (try clear hfz10_6); (try clear hfz10_7); (try clear hfz4_0); (try clear hfz4_1); (try clear hfz4_2); (try clear hfz4_3); (try clear hfz4_4); (try clear hfz4_5); (try clear hfz4_6); (try clear hfz4_7); (try clear hfz7_0); (try clear hfz7_1); (try clear hfz7_2); (try clear hfz7_3); (try clear hfz7_4); (try clear hfz7_5); (try clear hfz7_6); (try clear hfz7_7); (try clear hfz9_0); (try clear hfz9_1); (try clear hfz9_2); (try clear hfz9_3); (try clear hfz9_4); (try clear hfz9_5); (try clear hfz9_6); (try clear hfz9_7)
    obtain ⟨kq, x3_1, rfl, HA, HJ1, BK102, HB⟩ := hcut
    cases kq with
    | zero => exact absurd HA.out (by simp [span_May.j0])
    | succ kj1 =>
      have H := HA.out
      clear HA
      simp only [span_May.j0] at H
      by_cases c11 : x3_1 = true
      · subst c11
        have H1 : (some false) = some r := by rw [if_pos rfl] at H; exact H
        clear H
        have H := H1
        clear H1
        obtain rfl := Option.some.inj H
        go_wp2
        go_ret
        exact ⟨by first | rfl | (simp [errW_none, errW_some] <;> rfl) | (simp [*, errW_none, errW_some] <;> rfl), by repeat (first | (with_reducible first | exact HB.out | apply below_alloc | apply pw_below_drewN | apply below_drew1 | refine below_set ?_ GE102.out) | exact HB.out)⟩
      · replace c11 := Bool.eq_false_iff.mpr c11
        subst c11
        have H1 : (if a0_6 < 0 then (span_May.j1 kj1 (decide (a0_6 < 0)) a0_0 a0_1 a0_2 a0_3 a0_4 a0_5 a0_6 a0_7) else (if a0_6 ≥ 1125899906842624 then (span_May.j1 kj1 (decide (a0_6 ≥ 1125899906842624)) a0_0 a0_1 a0_2 a0_3 a0_4 a0_5 a0_6 a0_7) else (if a0_7 < 0 then (span_May.j1 kj1 (decide (a0_7 < 0)) a0_0 a0_1 a0_2 a0_3 a0_4 a0_5 a0_6 a0_7) else (span_May.j1 kj1 (decide (a0_7 > 1125899906842624)) a0_0 a0_1 a0_2 a0_3 a0_4 a0_5 a0_6 a0_7)))) = some r := by rw [if_neg (show ¬ (false = true) by decide)] at H; exact H
        clear H
        have H := H1
        clear H1
        have HC12 := Aside0.mk H
        clear H
        have hcz13_0 : wc.cell? ⟨gb102, 0, none⟩ = some (.int .u64 a0_0) := (blk_cell BK102.out 0).trans rfl
        have hcz13_1 : wc.cell? ⟨gb102, 1, none⟩ = some (.int .u64 a0_1) := (blk_cell BK102.out 1).trans rfl
        have hcz13_2 : wc.cell? ⟨gb102, 2, none⟩ = some (.int .u64 a0_2) := (blk_cell BK102.out 2).trans rfl
        have hcz13_3 : wc.cell? ⟨gb102, 3, none⟩ = some (.int .u8 a0_3) := (blk_cell BK102.out 3).trans rfl
        have hcz13_4 : wc.cell? ⟨gb102, 4, none⟩ = some (.string a0_4) := (blk_cell BK102.out 4).trans rfl
        have hcz13_5 : wc.cell? ⟨gb102, 5, none⟩ = some (.string a0_5) := (blk_cell BK102.out 5).trans rfl
        have hcz13_6 : wc.cell? ⟨gb102, 6, none⟩ = some (.int .i64 a0_6) := (blk_cell BK102.out 6).trans rfl
        have hcz13_7 : wc.cell? ⟨gb102, 7, none⟩ = some (.int .i64 a0_7) := (blk_cell BK102.out 7).trans rfl
        have hfz13_0 := blk_frozen BK102.out 0
        have hfz13_1 := blk_frozen BK102.out 1
        have hfz13_2 := blk_frozen BK102.out 2
        have hfz13_3 := blk_frozen BK102.out 3
        have hfz13_4 := blk_frozen BK102.out 4
        have hfz13_5 := blk_frozen BK102.out 5
        have hfz13_6 := blk_frozen BK102.out 6
        have hfz13_7 := blk_frozen BK102.out 7
        go_upto_if 18 with (fail)
        go_cut [18] (fun v18 wc => ∃ (kq : Nat) (x18_11 : Bool), v18 = .bool x18_11 ∧ Aside0 (span_May.j1 kq x18_11 a0_0 a0_1 a0_2 a0_3 a0_4 a0_5 a0_6 a0_7 = some r) ∧ Aside0 (kq ≤ kj1) ∧ Aside0 (wc.heap[gb102]? = some (.cells #[.int .u64 a0_0, .int .u64 a0_1, .int .u64 a0_2, .int .u8 a0_3, .string a0_4, .string a0_5, .int .i64 a0_6, .int .i64 a0_7] 42 (0, 0))) ∧ Aside0 (Below w.heap.size w wc))
        case first =>
          have H := HC12.out
          clear HC12
          by_cases c14 : a0_6 < 0
          · rw [if_pos c14] at H
            have c14b0 : decide (a0_6 < 0) = true := decide_eq_true c14
            clear c14
            (first | rw [c14b0] | (simp only [i64_w, i32_w]; rw [c14b0]) | skip)
            have H' := Aside0.mk H
            clear H
            go_wp2
            go_meet
            case rel => exact ⟨_, (decide (a0_6 < 0)), (by first | rfl | (simp; done) | (simp [*]; done)), H', ⟨by have := HJ1.out; first | omega | exact Nat.le_refl _⟩, ⟨by (with_reducible repeat (first | refine blk_drewN ?_ _ | refine blk_drew ?_ | refine blk_alloc ?_ _)); exact BK102.out⟩, ⟨by repeat (first | (with_reducible first | exact HB.out | apply below_alloc | apply pw_below_drewN | apply below_drew1 | refine below_set ?_ GE102.out) | exact HB.out)⟩⟩
          · rw [if_neg c14] at H
            have c14b0 : decide (a0_6 < 0) = false := decide_eq_false c14
            clear c14
            (first | rw [c14b0] | (simp only [i64_w, i32_w]; rw [c14b0]) | skip)
            by_cases c15 : a0_6 ≥ 1125899906842624
            · rw [if_pos c15] at H
              have c15b0 : decide (1125899906842624 ≤ a0_6) = true := decide_eq_true c15
              clear c15
              have H' := Aside0.mk H
              clear H
              have hcz16_0 : wc.cell? ⟨gb102, 0, none⟩ = some (.int .u64 a0_0) := (blk_cell BK102.out 0).trans rfl
              have hcz16_1 : wc.cell? ⟨gb102, 1, none⟩ = some (.int .u64 a0_1) := (blk_cell BK102.out 1).trans rfl
              have hcz16_2 : wc.cell? ⟨gb102, 2, none⟩ = some (.int .u64 a0_2) := (blk_cell BK102.out 2).trans rfl
              have hcz16_3 : wc.cell? ⟨gb102, 3, none⟩ = some (.int .u8 a0_3) := (blk_cell BK102.out 3).trans rfl
              have hcz16_4 : wc.cell? ⟨gb102, 4, none⟩ = some (.string a0_4) := (blk_cell BK102.out 4).trans rfl
              have hcz16_5 : wc.cell? ⟨gb102, 5, none⟩ = some (.string a0_5) := (blk_cell BK102.out 5).trans rfl
              have hcz16_6 : wc.cell? ⟨gb102, 6, none⟩ = some (.int .i64 a0_6) := (blk_cell BK102.out 6).trans rfl
              have hcz16_7 : wc.cell? ⟨gb102, 7, none⟩ = some (.int .i64 a0_7) := (blk_cell BK102.out 7).trans rfl
              have hfz16_0 := blk_frozen BK102.out 0
              have hfz16_1 := blk_frozen BK102.out 1
              have hfz16_2 := blk_frozen BK102.out 2
              have hfz16_3 := blk_frozen BK102.out 3
              have hfz16_4 := blk_frozen BK102.out 4
              have hfz16_5 := blk_frozen BK102.out 5
              have hfz16_6 := blk_frozen BK102.out 6
              have hfz16_7 := blk_frozen BK102.out 7
              go_wp2
              go_meet
              case rel => exact ⟨_, (decide (a0_6 ≥ 1125899906842624)), (by first | rfl | (simp; done) | (simp [*]; done)), H', ⟨by have := HJ1.out; first | omega | exact Nat.le_refl _⟩, ⟨by (with_reducible repeat (first | refine blk_drewN ?_ _ | refine blk_drew ?_ | refine blk_alloc ?_ _)); exact BK102.out⟩, ⟨by repeat (first | (with_reducible first | exact HB.out | apply below_alloc | apply pw_below_drewN | apply below_drew1 | refine below_set ?_ GE102.out) | exact HB.out)⟩⟩
            · rw [if_neg c15] at H
              have c15b0 : decide (1125899906842624 ≤ a0_6) = false := decide_eq_false c15
              clear c15
              by_cases c17 : a0_7 < 0
              · rw [if_pos c17] at H
                have c17b0 : decide (a0_7 < 0) = true := decide_eq_true c17
                clear c17
                have H' := Aside0.mk H
                clear H
                have hcz18_0 : wc.cell? ⟨gb102, 0, none⟩ = some (.int .u64 a0_0) := (blk_cell BK102.out 0).trans rfl
                have hcz18_1 : wc.cell? ⟨gb102, 1, none⟩ = some (.int .u64 a0_1) := (blk_cell BK102.out 1).trans rfl
                have hcz18_2 : wc.cell? ⟨gb102, 2, none⟩ = some (.int .u64 a0_2) := (blk_cell BK102.out 2).trans rfl
                have hcz18_3 : wc.cell? ⟨gb102, 3, none⟩ = some (.int .u8 a0_3) := (blk_cell BK102.out 3).trans rfl
                have hcz18_4 : wc.cell? ⟨gb102, 4, none⟩ = some (.string a0_4) := (blk_cell BK102.out 4).trans rfl
                have hcz18_5 : wc.cell? ⟨gb102, 5, none⟩ = some (.string a0_5) := (blk_cell BK102.out 5).trans rfl
                have hcz18_6 : wc.cell? ⟨gb102, 6, none⟩ = some (.int .i64 a0_6) := (blk_cell BK102.out 6).trans rfl
                have hcz18_7 : wc.cell? ⟨gb102, 7, none⟩ = some (.int .i64 a0_7) := (blk_cell BK102.out 7).trans rfl
                have hfz18_0 := blk_frozen BK102.out 0
                have hfz18_1 := blk_frozen BK102.out 1
                have hfz18_2 := blk_frozen BK102.out 2
                have hfz18_3 := blk_frozen BK102.out 3
                have hfz18_4 := blk_frozen BK102.out 4
                have hfz18_5 := blk_frozen BK102.out 5
                have hfz18_6 := blk_frozen BK102.out 6
                have hfz18_7 := blk_frozen BK102.out 7
                go_wp2
                go_meet
                case rel => exact ⟨_, (decide (a0_7 < 0)), (by first | rfl | (simp; done) | (simp [*]; done)), H', ⟨by have := HJ1.out; first | omega | exact Nat.le_refl _⟩, ⟨by (with_reducible repeat (first | refine blk_drewN ?_ _ | refine blk_drew ?_ | refine blk_alloc ?_ _)); exact BK102.out⟩, ⟨by repeat (first | (with_reducible first | exact HB.out | apply below_alloc | apply pw_below_drewN | apply below_drew1 | refine below_set ?_ GE102.out) | exact HB.out)⟩⟩
              · rw [if_neg c17] at H
                have c17b0 : decide (a0_7 < 0) = false := decide_eq_false c17
                clear c17
                have H' := Aside0.mk H
                clear H
                have hcz19_0 : wc.cell? ⟨gb102, 0, none⟩ = some (.int .u64 a0_0) := (blk_cell BK102.out 0).trans rfl
                have hcz19_1 : wc.cell? ⟨gb102, 1, none⟩ = some (.int .u64 a0_1) := (blk_cell BK102.out 1).trans rfl
                have hcz19_2 : wc.cell? ⟨gb102, 2, none⟩ = some (.int .u64 a0_2) := (blk_cell BK102.out 2).trans rfl
                have hcz19_3 : wc.cell? ⟨gb102, 3, none⟩ = some (.int .u8 a0_3) := (blk_cell BK102.out 3).trans rfl
                have hcz19_4 : wc.cell? ⟨gb102, 4, none⟩ = some (.string a0_4) := (blk_cell BK102.out 4).trans rfl
                have hcz19_5 : wc.cell? ⟨gb102, 5, none⟩ = some (.string a0_5) := (blk_cell BK102.out 5).trans rfl
                have hcz19_6 : wc.cell? ⟨gb102, 6, none⟩ = some (.int .i64 a0_6) := (blk_cell BK102.out 6).trans rfl
                have hcz19_7 : wc.cell? ⟨gb102, 7, none⟩ = some (.int .i64 a0_7) := (blk_cell BK102.out 7).trans rfl
                have hfz19_0 := blk_frozen BK102.out 0
                have hfz19_1 := blk_frozen BK102.out 1
                have hfz19_2 := blk_frozen BK102.out 2
                have hfz19_3 := blk_frozen BK102.out 3
                have hfz19_4 := blk_frozen BK102.out 4
                have hfz19_5 := blk_frozen BK102.out 5
                have hfz19_6 := blk_frozen BK102.out 6
                have hfz19_7 := blk_frozen BK102.out 7
                go_wp2
                go_meet
                case rel => exact ⟨_, (decide (a0_7 > 1125899906842624)), (by first | rfl | (simp; done) | (simp [*]; done)), H', ⟨by have := HJ1.out; first | omega | exact Nat.le_refl _⟩, ⟨by (with_reducible repeat (first | refine blk_drewN ?_ _ | refine blk_drew ?_ | refine blk_alloc ?_ _)); exact BK102.out⟩, ⟨by repeat (first | (with_reducible first | exact HB.out | apply below_alloc | apply pw_below_drewN | apply below_drew1 | refine below_set ?_ GE102.out) | exact HB.out)⟩⟩
        case rest =>
          clear HC12
          (try clear c1); (try clear p2); (try clear c5); (try clear c5b0); (try clear c5b1); (try clear c6); (try clear c6b0); (try clear c6b1); (try clear c8); (try clear c8b0); (try clear c8b1); (try clear c11); (try clear c14); (try clear c14b0); (try clear c15); (try clear c15b0); (try clear c17); (try clear c17b0); (try clear hcz10_0); (try clear hcz10_1); (try clear hcz10_2); (try clear hcz10_3); (try clear hcz10_4); (try clear hcz10_5); (try clear hcz10_6); (try clear hcz10_7); (try clear hcz13_0); (try clear hcz13_1); (try clear hcz13_2); (try clear hcz13_3); (try clear hcz13_4); (try clear hcz13_5); (try clear hcz13_6); (try clear hcz13_7); (try clear hcz16_0); (try clear hcz16_1); (try clear hcz16_2); (try clear hcz16_3); (try clear hcz16_4); (try clear hcz16_5); (try clear hcz16_6); (try clear hcz16_7); (try clear hcz18_0); (try clear hcz18_1); (try clear hcz18_2); (try clear hcz18_3); (try clear hcz18_4); (try clear hcz18_5); (try clear hcz18_6); (try clear hcz18_7); (try clear hcz19_0); (try clear hcz19_1); (try clear hcz19_2); (try clear hcz19_3); (try clear hcz19_4); (try clear hcz19_5); (try clear hcz19_6); (try clear hcz19_7); (try clear hcz4_0); (try clear hcz4_1); (try clear hcz4_2); (try clear hcz4_3); (try clear hcz4_4); (try clear hcz4_5); (try clear hcz4_6); (try clear hcz4_7); (try clear hcz7_0); (try clear hcz7_1); (try clear hcz7_2); (try clear hcz7_3); (try clear hcz7_4); (try clear hcz7_5); (try clear hcz7_6); (try clear hcz7_7); (try clear hcz9_0); (try clear hcz9_1); (try clear hcz9_2); (try clear hcz9_3); (try clear hcz9_4); (try clear hcz9_5); (try clear hcz9_6); (try clear hcz9_7); (try clear hfz10_0); (try clear hfz10_1); (try clear hfz10_2); (try clear hfz10_3); (try clear hfz10_4); (try clear hfz10_5); (try clear hfz10_6); (try clear hfz10_7); (try clear hfz13_0); (try clear hfz13_1); (try clear hfz13_2); (try clear hfz13_3); (try clear hfz13_4); (try clear hfz13_5); (try clear hfz13_6); (try clear hfz13_7); (try clear hfz16_0); (try clear hfz16_1); (try clear hfz16_2); (try clear hfz16_3); (try clear hfz16_4); (try clear hfz16_5); (try clear hfz16_6); (try clear hfz16_7); (try clear hfz18_0); (try clear hfz18_1); (try clear hfz18_2); (try clear hfz18_3); (try clear hfz18_4); (try clear hfz18_5); (try clear hfz18_6); (try clear hfz18_7); (try clear hfz19_0); (try clear hfz19_1); (try clear hfz19_2); (try clear hfz19_3); (try clear hfz19_4); (try clear hfz19_5); (try clear hfz19_6); (try clear hfz19_7); (try clear hfz4_0); (try clear hfz4_1); (try clear hfz4_2); (try clear hfz4_3); (try clear hfz4_4); (try clear hfz4_5); (try clear hfz4_6); (try clear hfz4_7); (try clear hfz7_0); (try clear hfz7_1); (try clear hfz7_2); (try clear hfz7_3); (try clear hfz7_4); (try clear hfz7_5); (try clear hfz7_6); (try clear hfz7_7); (try clear hfz9_0); (try clear hfz9_1); (try clear hfz9_2); (try clear hfz9_3); (try clear hfz9_4); (try clear hfz9_5); (try clear hfz9_6); (try clear hfz9_7); (try clear p2)
          obtain ⟨kq, x18_11, rfl, HA, HJ11, BK102, HB⟩ := hcut
          cases kq with
          | zero => exact absurd HA.out (by simp [span_May.j1])
          | succ kj11 =>
            have H := HA.out
            clear HA
            simp only [span_May.j1] at H
            by_cases c20 : x18_11 = true
            · subst c20
              have H1 : (some false) = some r := by rw [if_pos rfl] at H; exact H
              clear H
              have H := H1
              clear H1
              obtain rfl := Option.some.inj H
              go_wp2
              go_ret
              exact ⟨by first | rfl | (simp [errW_none, errW_some] <;> rfl) | (simp [*, errW_none, errW_some] <;> rfl), by repeat (first | (with_reducible first | exact HB.out | apply below_alloc | apply pw_below_drewN | apply below_drew1 | refine below_set ?_ GE102.out) | exact HB.out)⟩
            · replace c20 := Bool.eq_false_iff.mpr c20
              subst c20
              have H1 : ((span_Name.f kj11 a0_4).bind fun t103 => (if t103 = true then ((span_Name.f kj11 a0_5).bind fun t104 => (some t104)) else (some false))) = some r := by rw [if_neg (show ¬ (false = true) by decide)] at H; exact H
              clear H
              have H := H1
              clear H1
              replace H := Option.bind_eq_some_iff.mp H
              obtain ⟨t103, A210, H⟩ := H
              replace H : (if t103 = true then ((span_Name.f kj11 a0_5).bind fun t104 => (some t104)) else (some false)) = some r := H
              have A21 := Aside0.mk A210
              clear A210
              by_cases c22 : t103 = true
              · subst c22
                have H1 : ((span_Name.f kj11 a0_5).bind fun t104 => (some t104)) = some r := by rw [if_pos rfl] at H; exact H
                clear H
                have H := H1
                clear H1
                replace H := Option.bind_eq_some_iff.mp H
                obtain ⟨t104, A230, H⟩ := H
                replace H : (some t104) = some r := H
                have A23 := Aside0.mk A230
                clear A230
                obtain rfl := Option.some.inj H
                have hcz24_0 : wc.cell? ⟨gb102, 0, none⟩ = some (.int .u64 a0_0) := (blk_cell BK102.out 0).trans rfl
                have hcz24_1 : wc.cell? ⟨gb102, 1, none⟩ = some (.int .u64 a0_1) := (blk_cell BK102.out 1).trans rfl
                have hcz24_2 : wc.cell? ⟨gb102, 2, none⟩ = some (.int .u64 a0_2) := (blk_cell BK102.out 2).trans rfl
                have hcz24_3 : wc.cell? ⟨gb102, 3, none⟩ = some (.int .u8 a0_3) := (blk_cell BK102.out 3).trans rfl
                have hcz24_4 : wc.cell? ⟨gb102, 4, none⟩ = some (.string a0_4) := (blk_cell BK102.out 4).trans rfl
                have hcz24_5 : wc.cell? ⟨gb102, 5, none⟩ = some (.string a0_5) := (blk_cell BK102.out 5).trans rfl
                have hcz24_6 : wc.cell? ⟨gb102, 6, none⟩ = some (.int .i64 a0_6) := (blk_cell BK102.out 6).trans rfl
                have hcz24_7 : wc.cell? ⟨gb102, 7, none⟩ = some (.int .i64 a0_7) := (blk_cell BK102.out 7).trans rfl
                have hfz24_0 := blk_frozen BK102.out 0
                have hfz24_1 := blk_frozen BK102.out 1
                have hfz24_2 := blk_frozen BK102.out 2
                have hfz24_3 := blk_frozen BK102.out 3
                have hfz24_4 := blk_frozen BK102.out 4
                have hfz24_5 := blk_frozen BK102.out 5
                have hfz24_6 := blk_frozen BK102.out 6
                have hfz24_7 := blk_frozen BK102.out 7
                go_wp2_with (first | ((with_reducible refine gate_callee (f := 72) rfl ?_); refine goesL_ (some 33) rfl rfl Try.func72 (by kernel_rfl) rfl #[.string a0_4] rfl (by (try simp only [List.map_toArray, List.map_cons, List.map_nil]); first | done | rfl | (simp only [List.length_drop, List.length_take]; rfl)) ?_; (with_reducible refine (span_Name.calls kj11 a0_4 true _ A21.out).mono ?_); rintro e w' ⟨rfl, ⟨nd, rfl⟩⟩; refine ⟨_, rfl, ?_⟩) | (go_at_call 72; (with_reducible refine (span_Name.calls kj11 a0_5 t104 _ A23.out).mono ?_); rintro e w' ⟨rfl, ⟨nd, rfl⟩⟩))
                go_ret
                exact ⟨by first | rfl | (simp [errW_none, errW_some] <;> rfl) | (simp [*, errW_none, errW_some] <;> rfl), by repeat (first | (with_reducible first | exact HB.out | apply below_alloc | apply pw_below_drewN | apply below_drew1 | refine below_set ?_ GE102.out) | exact HB.out)⟩
              · replace c22 := Bool.eq_false_iff.mpr c22
                subst c22
                have H1 : (some false) = some r := by rw [if_neg (show ¬ (false = true) by decide)] at H; exact H
                clear H
                have H := H1
                clear H1
                obtain rfl := Option.some.inj H
                have hcz25_0 : wc.cell? ⟨gb102, 0, none⟩ = some (.int .u64 a0_0) := (blk_cell BK102.out 0).trans rfl
                have hcz25_1 : wc.cell? ⟨gb102, 1, none⟩ = some (.int .u64 a0_1) := (blk_cell BK102.out 1).trans rfl
                have hcz25_2 : wc.cell? ⟨gb102, 2, none⟩ = some (.int .u64 a0_2) := (blk_cell BK102.out 2).trans rfl
                have hcz25_3 : wc.cell? ⟨gb102, 3, none⟩ = some (.int .u8 a0_3) := (blk_cell BK102.out 3).trans rfl
                have hcz25_4 : wc.cell? ⟨gb102, 4, none⟩ = some (.string a0_4) := (blk_cell BK102.out 4).trans rfl
                have hcz25_5 : wc.cell? ⟨gb102, 5, none⟩ = some (.string a0_5) := (blk_cell BK102.out 5).trans rfl
                have hcz25_6 : wc.cell? ⟨gb102, 6, none⟩ = some (.int .i64 a0_6) := (blk_cell BK102.out 6).trans rfl
                have hcz25_7 : wc.cell? ⟨gb102, 7, none⟩ = some (.int .i64 a0_7) := (blk_cell BK102.out 7).trans rfl
                have hfz25_0 := blk_frozen BK102.out 0
                have hfz25_1 := blk_frozen BK102.out 1
                have hfz25_2 := blk_frozen BK102.out 2
                have hfz25_3 := blk_frozen BK102.out 3
                have hfz25_4 := blk_frozen BK102.out 4
                have hfz25_5 := blk_frozen BK102.out 5
                have hfz25_6 := blk_frozen BK102.out 6
                have hfz25_7 := blk_frozen BK102.out 7
                go_wp2_with (first | ((with_reducible refine gate_callee (f := 72) rfl ?_); refine goesL_ (some 33) rfl rfl Try.func72 (by kernel_rfl) rfl #[.string a0_4] rfl (by (try simp only [List.map_toArray, List.map_cons, List.map_nil]); first | done | rfl | (simp only [List.length_drop, List.length_take]; rfl)) ?_; (with_reducible refine (span_Name.calls kj11 a0_4 false _ A21.out).mono ?_); rintro e w' ⟨rfl, ⟨nd, rfl⟩⟩; refine ⟨_, rfl, ?_⟩))
                go_ret
                exact ⟨by first | rfl | (simp [errW_none, errW_some] <;> rfl) | (simp [*, errW_none, errW_some] <;> rfl), by repeat (first | (with_reducible first | exact HB.out | apply below_alloc | apply pw_below_drewN | apply below_drew1 | refine below_set ?_ GE102.out) | exact HB.out)⟩

end Go.Proofs.Ytjgpggjjgimibaa.Q

/- rpc.finder's closure, rpc.Gaps. -/
namespace Go.Proofs.Ytjgpggjjgimibaa.L
open Go.RowKit Go.Proofs.Ytjgpggjjgimibaa.Q Go.Proofs.YtjgpggjjgimibaaW.PrintWords Go.Proofs.YtjgpggjjgimibaaW.PrintLast Go.Proofs.YtjgpggjjgimibaaW.PrintMore Go.Proofs.YtjgpggjjgimibaaW.MapB Go.Proofs.YtjgpggjjgimibaaW.Lib
set_option linter.unusedVariables false
set_option linter.unusedSimpArgs false

theorem results_cell2 {fn : Func} {a b : Tmp} {t : TypeId} (h : fn.results = #[.cell a t, .tmp b]) (tmps : Array Value) (P : Program) (w : World) (ad : Addr) (v : Value) (ha : tmps.getD a undef = .pointer (some ad)) (hl : (loadVar t ad).run P w = .ok v w) :
    (results fn tmps).run P w = .ok (.tuple #[v, tmps.getD b undef]) w := by
  have ha' : tmps[a]?.getD undef = .pointer (some ad) := by rw [← ha]; simp
  have e : ∀ ad w, (asAddr (.pointer (some ad))).run P w = .ok ad w := fun _ _ => rfl
  simp [results, h, ha', hl, e]
/-- A value stored over a whole block. -/
theorem store_blk {P : Program} {ops : Array Oper} {rest : List Oper} {o : Oper} {a : Act} {Q : Exit → Act → World → Prop} {W : World} {k : Nat} {old : Array Value} (t : TypeId) (u : Value) (seg : List Value) (hN : o.dst = none) (hG : o.guard = none) (p x : Operand) (hP : o.op = .store t p x)
    (haddr : a.eval p = .pointer (some ⟨k, 0, none⟩)) (hx : a.eval x = u) (hu : u.cells.toList = seg) (ht : (P.info? t).map (·.size) = some seg.length) (h1 : ∀ q ∈ seg, q.oneCell' = true) (hb : W.heap[k]? = some (.cells old t (0, 0))) (hsz : old.size = seg.length)
    (h : ∀ W', W'.heap[k]? = some (.cells seg.toArray t (0, 0)) → W.grownBy W' (some k) → wpList P ops Q rest a W') : wpList P ops Q (o :: rest) a W := by
  obtain ⟨cur', hc, hs, hl⟩ := setCells_row seg 0 W old hb (by omega)
  have hcur : cur' = seg.toArray := by
    apply Array.toList_inj.1
    rw [hl]
    simp [← hsz]
  have hrun : (Instr.storeAt t (.pointer (some ⟨k, 0, none⟩)) u).run P W = .ok () (W.setCells k 0 seg) := run_store_run t u seg hb hu ht (by omega) h1
  obtain ⟨s1, s2, s3, s4⟩ := setCells_same k seg 0 W
  have hg : W.grownBy (W.setCells k 0 seg) (some k) := ⟨s1, s2, s3, by omega, fun i _ hi => setCells_far seg 0 i (fun e => hi (by rw [e]))⟩
  refine wpList_plain hG fun K hK => ?_
  unfold Oper.wp execOp
  simp only [hP, haddr, hx, Sem.run_bind, Sem.run_pure, Result.andThen_ok, hrun]
  show K (a.put o.dst undef) _
  rw [hN]
  exact hK a _ (h _ (by rw [hc, hcur]) hg)
/-- What the finder gives at a place. -/
def findS (m : S42 → Bool) (l : List S42) (i : Int) : S42 × Bool := if 0 ≤ i ∧ i < l.length ∧ m (rd_T42 l i) = true then (rd_T42 l i, true) else (z42, false)
theorem load_span (W : World) (k : Nat) (s : S42) (h : W.heap[k]? = some (.cells #[.int .u64 s.f0, .int .u64 s.f1, .int .u64 s.f2, .int .u8 s.f3, .string s.f4, .string s.f5, .int .i64 s.f6, .int .i64 s.f7] 42 (0, 0))) :
    (loadVar 42 ⟨k, 0, none⟩).run Try.prog W = .ok (.agg #[.int .u64 s.f0, .int .u64 s.f1, .int .u64 s.f2, .int .u8 s.f3, .string s.f4, .string s.f5, .int .i64 s.f6, .int .i64 s.f7]) W := by
  have c0 : W.cell? ⟨k, 0, none⟩ = _ := (blk_cell h 0).trans rfl
  have c1 : W.cell? ⟨k, 1, none⟩ = _ := (blk_cell h 1).trans rfl
  have c2 : W.cell? ⟨k, 2, none⟩ = _ := (blk_cell h 2).trans rfl
  have c3 : W.cell? ⟨k, 3, none⟩ = _ := (blk_cell h 3).trans rfl
  have c4 : W.cell? ⟨k, 4, none⟩ = _ := (blk_cell h 4).trans rfl
  have c5 : W.cell? ⟨k, 5, none⟩ = _ := (blk_cell h 5).trans rfl
  have c6 : W.cell? ⟨k, 6, none⟩ = _ := (blk_cell h 6).trans rfl
  have c7 : W.cell? ⟨k, 7, none⟩ = _ := (blk_cell h 7).trans rfl
  clear h
  go_simp
set_option maxHeartbeats 4000000 in
set_option maxRecDepth 100000 in
theorem found_calls (m : S42 → Bool) (l : List S42) (hm : ∀ s ∈ l, ∃ k, span_May.f k s.f0 s.f1 s.f2 s.f3 s.f4 s.f5 s.f6 s.f7 = some (m s)) (i : Int) (A0 : Option Addr) (c0 B : Nat) (w : World) (hr : Kd.C k42 w A0 l.length l) (hcell : w.cell? ⟨B, 0, none⟩ = some (.slice A0 l.length c0)) :
    Calls Try.prog 70 #[.int .i64 i, .pointer (some ⟨B, 0, none⟩)] w fun e w' => e = .returned (.tuple #[.agg #[.int .u64 (findS m l i).1.f0, .int .u64 (findS m l i).1.f1, .int .u64 (findS m l i).1.f2, .int .u8 (findS m l i).1.f3, .string (findS m l i).1.f4, .string (findS m l i).1.f5, .int .i64 (findS m l i).1.f6, .int .i64 (findS m l i).1.f7], .bool (findS m l i).2]) ∧ Below w.heap.size w w' := by
  have HB := Aside0.mk (Below.refl w.heap.size w)
  have hc1 : ∀ o, (w.alloc o).cell? ⟨B, 0, none⟩ = some (.slice A0 l.length c0) := fun o => ((below_alloc HB.out o).cell (World.block_lt_of_cell? w _ hcell)).trans hcell
  by_cases h0 : i < 0
  · have e : findS m l i = (z42, false) := by unfold findS; rw [if_neg (by omega)]
    rw [e]
    have b0 : decide (i < 0) = true := decide_eq_true h0
    clear e hm hr h0
    go_enter Try.func70, Try.ntmps70
    go_wp2_with fail
    refine bodyPost_ret (results_cell2 rfl _ _ _ _ _ rfl (load_span _ _ z42 (MapKept.heap_alloc w _).1)) rfl ⟨rfl, below_alloc HB.out _⟩
  · have b0 : decide (i < 0) = false := decide_eq_false h0
    by_cases h1 : i < (l.length : Int)
    · have b1 : decide ((l.length : Int) ≤ i) = false := decide_eq_false (by omega)
      have p0 : 0 ≤ i := by omega
      obtain ⟨ad, e1, hx0, hx1, hx2, hx3, hx4, hx5, hx6, hx7⟩ := at_T42 hr i p0 h1
      cases e1
      replace hx0 := fun o => ((below_alloc HB.out o).cell (World.block_lt_of_cell? w _ hx0)).trans hx0
      replace hx1 := fun o => ((below_alloc HB.out o).cell (World.block_lt_of_cell? w _ hx1)).trans hx1
      replace hx2 := fun o => ((below_alloc HB.out o).cell (World.block_lt_of_cell? w _ hx2)).trans hx2
      replace hx3 := fun o => ((below_alloc HB.out o).cell (World.block_lt_of_cell? w _ hx3)).trans hx3
      replace hx4 := fun o => ((below_alloc HB.out o).cell (World.block_lt_of_cell? w _ hx4)).trans hx4
      replace hx5 := fun o => ((below_alloc HB.out o).cell (World.block_lt_of_cell? w _ hx5)).trans hx5
      replace hx6 := fun o => ((below_alloc HB.out o).cell (World.block_lt_of_cell? w _ hx6)).trans hx6
      replace hx7 := fun o => ((below_alloc HB.out o).cell (World.block_lt_of_cell? w _ hx7)).trans hx7
      have hit : i.toNat < l.length := by omega
      have hmem : rd_T42 l i ∈ l := by
        rw [show rd_T42 l i = l[i.toNat] by simp [rd_T42, List.getD, hit]]
        exact List.getElem_mem _
      obtain ⟨km, hkm⟩ := hm _ hmem
      have QM := Aside0.mk (fun W => span_May.calls km _ _ _ _ _ _ _ _ _ W hkm)
      have hq : findS m l i = if m (rd_T42 l i) = true then (rd_T42 l i, true) else (z42, false) := by
        unfold findS
        by_cases hv : m (rd_T42 l i) = true
        · rw [if_pos ⟨p0, h1, hv⟩, if_pos hv]
        · rw [if_neg (fun h => hv h.2.2), if_neg hv]
      rw [hq]
      clear hq hkm hmem hm hr hit h0
      generalize rd_T42 l i = s at *
      replace p0 := eq_true p0
      replace h1 := eq_true h1
      cases hv : m s with
      | true =>
        rw [hv] at QM
        rw [if_pos rfl]
        clear hv
        go_enter Try.func70, Try.ntmps70
        go_wp2_with (first | (go_at_call 63; refine (QM.out _).mono ?_; rintro e w1 ⟨rfl, hb⟩; have HB1 := Aside0.mk (below_step (below_alloc HB.out _) hb); have BK := Aside0.mk ((hb.block w.heap.size (by simp)).trans (MapKept.heap_alloc w _).1); have hc2 : w1.cell? ⟨B, 0, none⟩ = _ := (hb.cell (World.block_lt_of_cell? _ _ (hc1 _))).trans (hc1 _); have hy0 := (hb.cell (World.block_lt_of_cell? _ _ (hx0 _))).trans (hx0 _); have hy1 := (hb.cell (World.block_lt_of_cell? _ _ (hx1 _))).trans (hx1 _); have hy2 := (hb.cell (World.block_lt_of_cell? _ _ (hx2 _))).trans (hx2 _); have hy3 := (hb.cell (World.block_lt_of_cell? _ _ (hx3 _))).trans (hx3 _); have hy4 := (hb.cell (World.block_lt_of_cell? _ _ (hx4 _))).trans (hx4 _); have hy5 := (hb.cell (World.block_lt_of_cell? _ _ (hx5 _))).trans (hx5 _); have hy6 := (hb.cell (World.block_lt_of_cell? _ _ (hx6 _))).trans (hx6 _); have hy7 := (hb.cell (World.block_lt_of_cell? _ _ (hx7 _))).trans (hx7 _); clear hb) | ((with_reducible refine gate_store (t := 42) (p := 3) rfl ?_); refine store_blk 42 _ [.int .u64 s.f0, .int .u64 s.f1, .int .u64 s.f2, .int .u8 s.f3, .string s.f4, .string s.f5, .int .i64 s.f6, .int .i64 s.f7] rfl rfl (.tmp 3) (.tmp 25) rfl rfl rfl rfl (by kernel_rfl) (by intro q hq; simp only [List.mem_cons, List.not_mem_nil, or_false] at hq; rcases hq with rfl | rfl | rfl | rfl | rfl | rfl | rfl | rfl <;> rfl) BK.out rfl ?_; intro w2 hbk hg; have BK2 := Aside0.mk hbk; have HB2 := Aside0.mk (HB1.out.grown hg HB1.out.size (fun j hj => by cases hj; exact Nat.le_refl _)); clear hbk hg))
        refine bodyPost_ret (results_cell2 rfl _ _ _ _ _ rfl (load_span _ _ s BK2.out)) rfl ⟨rfl, HB2.out⟩
      | false =>
        rw [hv] at QM
        rw [if_neg (by simp)]
        clear hv
        go_enter Try.func70, Try.ntmps70
        go_wp2_with (first | (go_at_call 63; refine (QM.out _).mono ?_; rintro e w1 ⟨rfl, hb⟩; have HB1 := Aside0.mk (below_step (below_alloc HB.out _) hb); have BK := Aside0.mk ((hb.block w.heap.size (by simp)).trans (MapKept.heap_alloc w _).1); have hc2 : w1.cell? ⟨B, 0, none⟩ = _ := (hb.cell (World.block_lt_of_cell? _ _ (hc1 _))).trans (hc1 _); have hy0 := (hb.cell (World.block_lt_of_cell? _ _ (hx0 _))).trans (hx0 _); have hy1 := (hb.cell (World.block_lt_of_cell? _ _ (hx1 _))).trans (hx1 _); have hy2 := (hb.cell (World.block_lt_of_cell? _ _ (hx2 _))).trans (hx2 _); have hy3 := (hb.cell (World.block_lt_of_cell? _ _ (hx3 _))).trans (hx3 _); have hy4 := (hb.cell (World.block_lt_of_cell? _ _ (hx4 _))).trans (hx4 _); have hy5 := (hb.cell (World.block_lt_of_cell? _ _ (hx5 _))).trans (hx5 _); have hy6 := (hb.cell (World.block_lt_of_cell? _ _ (hx6 _))).trans (hx6 _); have hy7 := (hb.cell (World.block_lt_of_cell? _ _ (hx7 _))).trans (hx7 _); clear hb) | ((with_reducible refine gate_store (t := 42) (p := 3) rfl ?_); refine store_blk 42 _ [.int .u64 z42.f0, .int .u64 z42.f1, .int .u64 z42.f2, .int .u8 z42.f3, .string z42.f4, .string z42.f5, .int .i64 z42.f6, .int .i64 z42.f7] rfl rfl (.tmp 3) (.tmp 21) rfl rfl rfl rfl (by kernel_rfl) (by intro q hq; simp only [List.mem_cons, List.not_mem_nil, or_false] at hq; rcases hq with rfl | rfl | rfl | rfl | rfl | rfl | rfl | rfl <;> rfl) BK.out rfl ?_; intro w2 hbk hg; have BK2 := Aside0.mk hbk; have HB2 := Aside0.mk (HB1.out.grown hg HB1.out.size (fun j hj => by cases hj; exact Nat.le_refl _)); clear hbk hg))
        refine bodyPost_ret (results_cell2 rfl _ _ _ _ _ rfl (load_span _ _ z42 BK2.out)) rfl ⟨rfl, HB2.out⟩
    · have e : findS m l i = (z42, false) := by unfold findS; rw [if_neg (by omega)]
      rw [e]
      have b1 : decide ((l.length : Int) ≤ i) = true := decide_eq_true (by omega)
      clear e hm hr h0 h1
      go_enter Try.func70, Try.ntmps70
      go_wp2_with fail
      refine bodyPost_ret (results_cell2 rfl _ _ _ _ _ rfl (load_span _ _ z42 (MapKept.heap_alloc w _).1)) rfl ⟨rfl, below_alloc HB.out _⟩
end Go.Proofs.Ytjgpggjjgimibaa.L

/- rpc.finder, rpc.Gaps. -/
namespace Go.Proofs.Ytjgpggjjgimibaa.L
open Go.RowKit Go.Proofs.Ytjgpggjjgimibaa.Q Go.Proofs.YtjgpggjjgimibaaW.PrintWords Go.Proofs.YtjgpggjjgimibaaW.PrintLast Go.Proofs.YtjgpggjjgimibaaW.PrintMore Go.Proofs.YtjgpggjjgimibaaW.MapB Go.Proofs.YtjgpggjjgimibaaW.Lib
set_option linter.unusedVariables false
set_option linter.unusedSimpArgs false

theorem finder_calls (A0 : Option Addr) (n c0 : Nat) (w : World) : Calls Try.prog 56 #[.slice A0 n c0] w fun e w' => ∃ B, e = .returned (.func (.func 70) #[] #[.pointer (some ⟨B, 0, none⟩)]) ∧ w'.cell? ⟨B, 0, none⟩ = some (.slice A0 n c0) ∧ Below w.heap.size w w' := by
  have hmf : ∀ (fn : Fn) (first cap : Array Value) (w : World), (Instr.makeFunc fn first cap).run Try.prog w = .ok (.func fn first cap) w := fun _ _ _ _ => rfl
  have HB := Aside0.mk (Below.refl w.heap.size w)
  go_enter Try.func56, Try.ntmps56
  go_wp2_with fail
  go_ret
  exact ⟨w.heap.size, rfl, (blk_cell (MapKept.heap_alloc w _).1 0).trans rfl, below_alloc HB.out _⟩
/-- A pair's lead and rest. -/
def gapsB (m : S42 → Bool) (l : List S42) (c s : Int) : Int × Int × Bool :=
  if (findS m l c).2 = true ∧ (findS m l s).2 = true then (wrap64 ((findS m l s).1.f6 - (findS m l c).1.f6), wrap64 (wrap64 ((findS m l c).1.f7 - (findS m l s).1.f7) - wrap64 ((findS m l s).1.f6 - (findS m l c).1.f6)), true) else (0, 0, false)
set_option maxHeartbeats 4000000 in
set_option maxRecDepth 100000 in
theorem gaps_calls (m : S42 → Bool) (l : List S42) (hm : ∀ s ∈ l, ∃ k, span_May.f k s.f0 s.f1 s.f2 s.f3 s.f4 s.f5 s.f6 s.f7 = some (m s)) (p0 p1 : Int) (A0 : Option Addr) (c0 : Nat) (w : World) (hr : Kd.C k42 w A0 l.length l) :
    Calls Try.prog 35 #[.slice A0 l.length c0, .agg #[.int .i64 p0, .int .i64 p1]] w fun e w' => e = .returned (.tuple #[.int .i64 (gapsB m l p0 p1).1, .int .i64 (gapsB m l p0 p1).2.1, .bool (gapsB m l p0 p1).2.2]) ∧ Below w.heap.size w w' := by
  have HB := Aside0.mk (Below.refl w.heap.size w)
  have QF0 := Aside0.mk (fun (B : Nat) (W : World) (hb : Below w.heap.size w W) hc => found_calls m l hm p0 A0 c0 B W (Kd.C_below hr hb) hc)
  have QF1 := Aside0.mk (fun (B : Nat) (W : World) (hb : Below w.heap.size w W) hc => found_calls m l hm p1 A0 c0 B W (Kd.C_below hr hb) hc)
  clear hm hr
  have hg : gapsB m l p0 p1 = if (findS m l p0).2 = true ∧ (findS m l p1).2 = true then (wrap64 ((findS m l p1).1.f6 - (findS m l p0).1.f6), wrap64 (wrap64 ((findS m l p0).1.f7 - (findS m l p1).1.f7) - wrap64 ((findS m l p1).1.f6 - (findS m l p0).1.f6)), true) else (0, 0, false) := rfl
  rw [hg]
  clear hg
  generalize findS m l p0 = X at *
  generalize findS m l p1 = Y at *
  obtain ⟨x, bx⟩ := X
  obtain ⟨y, bY⟩ := Y
  dsimp only at *
  have go : ∀ (b1 b2 : Bool), bx = b1 → bY = b2 → Calls Try.prog 35 #[.slice A0 l.length c0, .agg #[.int .i64 p0, .int .i64 p1]] w fun e w' => e = .returned (.tuple #[.int .i64 (if b1 = true ∧ b2 = true then (wrap64 (y.f6 - x.f6), wrap64 (wrap64 (x.f7 - y.f7) - wrap64 (y.f6 - x.f6)), true) else ((0 : Int), (0 : Int), false)).1, .int .i64 (if b1 = true ∧ b2 = true then (wrap64 (y.f6 - x.f6), wrap64 (wrap64 (x.f7 - y.f7) - wrap64 (y.f6 - x.f6)), true) else ((0 : Int), (0 : Int), false)).2.1, .bool (if b1 = true ∧ b2 = true then (wrap64 (y.f6 - x.f6), wrap64 (wrap64 (x.f7 - y.f7) - wrap64 (y.f6 - x.f6)), true) else ((0 : Int), (0 : Int), false)).2.2]) ∧ Below w.heap.size w w' := by
    intro b1 b2 e1 e2
    subst e1 e2
    cases bx <;> cases bY
    all_goals
      simp only [true_and, and_true, and_false, false_and, if_true, if_false, Bool.false_eq_true, and_self, reduceIte]
      go_enter Try.func35, Try.ntmps35
      go_wp2_with (first
        | (go_at_call 56; refine (finder_calls A0 _ c0 _).mono ?_; rintro e w1 ⟨B, rfl, hcl, hb⟩; have HB1 := Aside0.mk (below_step (below_alloc HB.out _) hb); have bp := (hb.block w.heap.size (by simp)).trans (MapKept.heap_alloc w _).1; have k0 : w1.cell? ⟨w.heap.size, 0, none⟩ = some (.int .i64 p0) := (blk_cell bp 0).trans rfl; have k1 : w1.cell? ⟨w.heap.size, 1, none⟩ = some (.int .i64 p1) := (blk_cell bp 1).trans rfl; have HC1 := Aside0.mk hcl; clear hb bp hcl)
        | (go_at_call 70; with_reducible refine (QF0.out B w1 HB1.out HC1.out).mono ?_; rintro e w2 ⟨rfl, hb⟩; have HB2 := Aside0.mk (below_step HB1.out hb); have HC2 := Aside0.mk ((hb.cell (World.block_lt_of_cell? _ _ HC1.out)).trans HC1.out); have k3 := (hb.cell (World.block_lt_of_cell? _ _ k1)).trans k1; have k4 := fun o => ((below_alloc (Below.refl w2.heap.size w2) o).cell (World.block_lt_of_cell? w2 _ k3)).trans k3; clear hb QF0 HC1 HB1)
        | (go_at_call 70; refine (QF1.out B _ (below_alloc HB2.out _) (((below_alloc (Below.refl w2.heap.size w2) _).cell (World.block_lt_of_cell? w2 _ HC2.out)).trans HC2.out)).mono ?_; rintro e w3 ⟨rfl, hb⟩; have HB3 := Aside0.mk (below_step (below_alloc HB2.out _) hb); have bx3 := (hb.block w2.heap.size (by simp)).trans (MapKept.heap_alloc w2 _).1; have j6 : w3.cell? ⟨w2.heap.size, 6, none⟩ = some (.int .i64 x.f6) := (blk_cell bx3 6).trans rfl; have j7 : w3.cell? ⟨w2.heap.size, 7, none⟩ = some (.int .i64 x.f7) := (blk_cell bx3 7).trans rfl; have i6 := fun o => ((below_alloc (Below.refl w3.heap.size w3) o).cell (World.block_lt_of_cell? w3 _ j6)).trans j6; have i7 := fun o => ((below_alloc (Below.refl w3.heap.size w3) o).cell (World.block_lt_of_cell? w3 _ j7)).trans j7; clear hb bx3))
      repeat (go_quiet (fail); try go_wp2)
      refine bodyPost_ret (results_tmp3 rfl _ _ _) rfl ?_
      exact ⟨rfl, by first | exact below_alloc HB3.out _ | exact pw_below_drewN (below_alloc HB3.out _) _ | (apply pw_below_drewN; exact below_alloc HB3.out _)⟩
  exact go _ _ rfl rfl
end Go.Proofs.Ytjgpggjjgimibaa.L

/- Plain lists: orders told by -1, 0, 1; which records count; each text once, in order. -/
namespace Go.Proofs.Ytjgpggjjgimibaa.L
set_option linter.unusedVariables false
def cmpB (a b : ByteArray) : Int := Go.Lib.compareBytes a.data.toList b.data.toList
/-- An order, told by -1, 0, 1. -/
structure IsCmp {α : Type} (c : α → α → Int) : Prop where
  rng : ∀ a b, -1 ≤ c a b ∧ c a b ≤ 1
  anti : ∀ a b, c b a = - c a b
  zero : ∀ a b, c a b = 0 ↔ a = b
  trans : ∀ a b d, c a b ≤ 0 → c b d ≤ 0 → c a d ≤ 0
theorem cmpL_rng : ∀ a b : List UInt8, -1 ≤ Go.Lib.compareBytes a b ∧ Go.Lib.compareBytes a b ≤ 1
  | [], [] => by simp [Go.Lib.compareBytes]
  | [], _ :: _ => by simp [Go.Lib.compareBytes]
  | _ :: _, [] => by simp [Go.Lib.compareBytes]
  | x :: a, y :: b => by
    have := cmpL_rng a b
    simp only [Go.Lib.compareBytes]; (repeat' split) <;> omega
theorem cmpL_anti : ∀ a b : List UInt8, Go.Lib.compareBytes b a = - Go.Lib.compareBytes a b
  | [], [] => by simp [Go.Lib.compareBytes]
  | [], _ :: _ => by simp [Go.Lib.compareBytes]
  | _ :: _, [] => by simp [Go.Lib.compareBytes]
  | x :: a, y :: b => by
    have ih := cmpL_anti a b
    simp only [Go.Lib.compareBytes, UInt8.lt_iff_toNat_lt]; (repeat' split) <;> omega
theorem cmpL_zero : ∀ a b : List UInt8, Go.Lib.compareBytes a b = 0 ↔ a = b
  | [], [] => by simp [Go.Lib.compareBytes]
  | [], _ :: _ => by simp [Go.Lib.compareBytes]
  | _ :: _, [] => by simp [Go.Lib.compareBytes]
  | x :: a, y :: b => by
    have ih := cmpL_zero a b
    simp only [Go.Lib.compareBytes, UInt8.lt_iff_toNat_lt, List.cons.injEq, ← UInt8.toNat_inj, ← ih]; (repeat' split) <;> omega
theorem cmpL_trans : ∀ a b d : List UInt8, Go.Lib.compareBytes a b ≤ 0 → Go.Lib.compareBytes b d ≤ 0 → Go.Lib.compareBytes a d ≤ 0
  | [], _, [] => by simp [Go.Lib.compareBytes]
  | [], _, _ :: _ => by simp [Go.Lib.compareBytes]
  | _ :: _, [], _ => by simp [Go.Lib.compareBytes]
  | _ :: _, _ :: _, [] => by simp [Go.Lib.compareBytes]
  | x :: a, y :: b, z :: d => by
    have ih := cmpL_trans a b d
    simp only [Go.Lib.compareBytes, UInt8.lt_iff_toNat_lt]; (repeat' split) <;> omega
theorem cmpB_is : IsCmp cmpB := by
  refine ⟨fun a b => cmpL_rng _ _, fun a b => cmpL_anti _ _, fun a b => ?_, fun a b d => cmpL_trans _ _ _⟩
  unfold cmpB
  rw [cmpL_zero]
  constructor
  · intro h; cases a; cases b; simp_all
  · rintro rfl; rfl
end Go.Proofs.Ytjgpggjjgimibaa.L
namespace Go.Proofs.Ytjgpggjjgimibaa.L
set_option linter.unusedVariables false

section
variable {α : Type} {c : α → α → Int} {id : α → Int} {ok : α → Bool}
/-- Of records l, those of out count: each number once, that may be, none of its number ahead of it. -/
structure Counts (c : α → α → Int) (id : α → Int) (ok : α → Bool) (l out : List α) : Prop where
  ids : out.Pairwise fun x y => id x ≠ id y
  mem : ∀ x ∈ out, x ∈ l ∧ ok x = true
  best : ∀ y ∈ l, ok y = true → ∃ x ∈ out, id x = id y ∧ c x y ≤ 0
theorem Counts.inj {l out : List α} (h : Counts c id ok l out) {x y : α} (hx : x ∈ out) (hy : y ∈ out) (e : id x = id y) : x = y := by
  obtain ⟨i, hi, rfl⟩ := List.getElem_of_mem hx
  obtain ⟨j, hj, rfl⟩ := List.getElem_of_mem hy
  have hp := List.pairwise_iff_getElem.1 h.ids
  rcases Nat.lt_trichotomy i j with h1 | h1 | h1
  · exact absurd e (hp i j hi hj h1)
  · subst h1; rfl
  · exact absurd e.symm (hp j i hj hi h1)
theorem Counts.mem_iff (hc : IsCmp c) {l out : List α} (h : Counts c id ok l out) (x : α) : x ∈ out ↔ x ∈ l ∧ ok x = true ∧ ∀ y ∈ l, ok y = true → id y = id x → c x y ≤ 0 := by
  constructor
  · intro hx
    refine ⟨(h.mem x hx).1, (h.mem x hx).2, fun y hy ho e => ?_⟩
    obtain ⟨x', hx', e', hcc⟩ := h.best y hy ho
    obtain rfl := h.inj hx' hx (e'.trans e)
    exact hcc
  · rintro ⟨hx, ho, hb⟩
    obtain ⟨x', hx', e', hcc⟩ := h.best x hx ho
    have h1 := h.mem x' hx'
    have h2 := hb x' h1.1 h1.2 e'
    have := hc.anti x x'
    obtain rfl := (hc.zero x x').1 (by omega)
    exact hx'
theorem Counts.nodup {l out : List α} (h : Counts c id ok l out) : out.Nodup := h.ids.imp (fun hne e => hne (by rw [e]))
theorem Counts.one (hc : IsCmp c) {l l' a b : List α} (ha : Counts c id ok l a) (hb : Counts c id ok l' b) (sa : a.Pairwise fun x y => c x y ≤ 0) (sb : b.Pairwise fun x y => c x y ≤ 0) (hl : ∀ x, x ∈ l ↔ x ∈ l') : a = b := by
  refine List.Perm.eq_of_pairwise (le := fun x y => c x y ≤ 0) (fun x y _ _ h1 h2 => (hc.zero x y).1 (by have := hc.anti x y; omega)) sa sb ?_
  refine (List.perm_ext_iff_of_nodup ha.nodup hb.nodup).2 fun x => ?_
  rw [ha.mem_iff hc, hb.mem_iff hc]
  simp only [hl]
/-- The program's own round. -/
def stepD (c : α → α → Int) (id : α → Int) (ok : α → Bool) (m : List α) (s : α) : List α :=
  if ok s = true then (match m.findIdx? (fun x => decide (id x = id s)) with | none => m ++ [s] | some j => if c s (m.getD j s) < 0 then m.set j s else m) else m
theorem Counts.step (hc : IsCmp c) {p m : List α} (h : Counts c id ok p m) (s : α) : Counts c id ok (p ++ [s]) (stepD c id ok m s) := by
  have old : ∀ x ∈ m, x ∈ p ++ [s] ∧ ok x = true := fun x hx => ⟨List.mem_append_left _ (h.mem x hx).1, (h.mem x hx).2⟩
  have hss : c s s = 0 := (hc.zero s s).2 rfl
  unfold stepD
  by_cases ho : ok s = true
  · rw [if_pos ho]
    cases hf : m.findIdx? (fun x => decide (id x = id s)) with
    | none =>
      have hn := List.findIdx?_eq_none_iff.1 hf
      refine ⟨?_, ?_, ?_⟩
      · rw [List.pairwise_append]
        refine ⟨h.ids, List.pairwise_singleton _ _, fun x hx y hy => ?_⟩
        obtain rfl := List.mem_singleton.1 hy
        simpa using hn x hx
      · intro x hx
        rcases List.mem_append.1 hx with hx | hx
        · exact old x hx
        · obtain rfl := List.mem_singleton.1 hx
          exact ⟨by simp, ho⟩
      · intro y hy hoy
        rcases List.mem_append.1 hy with hy | hy
        · obtain ⟨x, hx, h2⟩ := h.best y hy hoy
          exact ⟨x, List.mem_append_left _ hx, h2⟩
        · obtain rfl := List.mem_singleton.1 hy
          exact ⟨y, by simp, rfl, by omega⟩
    | some j =>
      obtain ⟨hj, hid, _⟩ := List.findIdx?_eq_some_iff_getElem.1 hf
      have hid' : id m[j] = id s := by simpa using hid
      have hg : m.getD j s = m[j] := by simp [List.getD, hj]
      have hp := List.pairwise_iff_getElem.1 h.ids
      simp only [hg]
      by_cases hlt : c s m[j] < 0
      · rw [if_pos hlt]
        refine ⟨?_, ?_, ?_⟩
        · rw [List.pairwise_iff_getElem]
          intro a b ha hb hab
          rw [List.length_set] at ha hb
          rw [List.getElem_set, List.getElem_set]
          split
          · rw [if_neg (by omega), ← hid']
            rename_i e; subst e
            exact hp j b ha hb hab
          · split
            · rw [← hid']
              rename_i e; subst e
              exact hp a j ha hb hab
            · exact hp a b ha hb hab
        · intro x hx
          rcases List.mem_or_eq_of_mem_set hx with hx | rfl
          · exact old x hx
          · exact ⟨by simp, ho⟩
        · have hs : s ∈ m.set j s := List.mem_set hj s
          intro y hy hoy
          rcases List.mem_append.1 hy with hy | hy
          · obtain ⟨x, hx, e, hcc⟩ := h.best y hy hoy
            obtain ⟨i, hi, rfl⟩ := List.getElem_of_mem hx
            by_cases hij : j = i
            · subst hij
              exact ⟨s, hs, by rw [← hid', e], hc.trans _ _ _ (by omega) hcc⟩
            · refine ⟨m[i], ?_, e, hcc⟩
              have : (m.set j s)[i]'(by simpa using hi) = m[i] := by rw [List.getElem_set, if_neg hij]
              rw [← this]
              exact List.getElem_mem _
          · obtain rfl := List.mem_singleton.1 hy
            exact ⟨y, hs, rfl, by omega⟩
      · rw [if_neg hlt]
        refine ⟨h.ids, old, fun y hy hoy => ?_⟩
        rcases List.mem_append.1 hy with hy | hy
        · exact h.best y hy hoy
        · obtain rfl := List.mem_singleton.1 hy
          have := hc.anti y m[j]
          exact ⟨m[j], List.getElem_mem _, hid', by omega⟩
  · rw [if_neg ho]
    refine ⟨h.ids, old, fun y hy hoy => ?_⟩
    rcases List.mem_append.1 hy with hy | hy
    · exact h.best y hy hoy
    · obtain rfl := List.mem_singleton.1 hy
      exact absurd hoy ho
theorem Counts.from {l l' out : List α} (h : Counts c id ok l out) (hl : ∀ x, ok x = true → (x ∈ l ↔ x ∈ l')) : Counts c id ok l' out :=
  ⟨h.ids, fun x hx => ⟨(hl x (h.mem x hx).2).1 (h.mem x hx).1, (h.mem x hx).2⟩, fun y hy ho => h.best y ((hl y ho).2 hy) ho⟩
end
end Go.Proofs.Ytjgpggjjgimibaa.L
namespace Go.Proofs.Ytjgpggjjgimibaa.L
set_option linter.unusedVariables false

section
variable {α : Type} {c : α → α → Int}
def Rise (c : α → α → Int) (l : List α) : Prop := l.Pairwise fun x y => c x y < 0
theorem Rise.nodup (hc : IsCmp c) {l : List α} (h : Rise c l) : l.Nodup := h.imp (fun {x y} h e => by subst e; have := (hc.zero x x).2 rfl; omega)
theorem Rise.one (hc : IsCmp c) {a b : List α} (ha : Rise c a) (hb : Rise c b) (hm : ∀ x, x ∈ a ↔ x ∈ b) : a = b := by
  refine List.Perm.eq_of_pairwise (le := fun x y => c x y ≤ 0) (fun x y _ _ h1 h2 => (hc.zero x y).1 (by have := hc.anti x y; omega)) (ha.imp (fun h => by omega)) (hb.imp (fun h => by omega)) ?_
  exact (List.perm_ext_iff_of_nodup (ha.nodup hc) (hb.nodup hc)).2 hm
theorem compactUpTo_rise [Inhabited α] [DecidableEq α] (hc : IsCmp c) (d : Array α) (hs : ∀ i j, i < j → j < d.size → c d[i]! d[j]! ≤ 0) : ∀ m, m ≤ d.size → Rise c (Go.Lib.compactUpTo d m) ∧ ∀ x, x ∈ Go.Lib.compactUpTo d m ↔ ∃ j, j < m ∧ d[j]! = x
  | 0, _ => ⟨by simp [Go.Lib.compactUpTo, Rise], fun x => by simp [Go.Lib.compactUpTo]⟩
  | m + 1, hm => by
    obtain ⟨h1, h2⟩ := compactUpTo_rise hc d hs m (by omega)
    rw [Go.Lib.compactUpTo_succ]
    by_cases hk : Go.Lib.keeps d m = true
    · rw [if_pos hk]
      refine ⟨?_, fun x => ?_⟩
      · unfold Rise
        rw [List.pairwise_append]
        refine ⟨h1, List.pairwise_singleton _ _, fun x hx y hy => ?_⟩
        obtain rfl := List.mem_singleton.1 hy
        obtain ⟨j, hj, rfl⟩ := (h2 x).1 hx
        have h3 := hs j m hj (by omega)
        rcases Int.lt_or_eq_of_le h3 with h4 | h4
        · exact h4
        · exfalso
          have h5 := (hc.zero _ _).1 h4
          have h6 : m ≠ 0 := by omega
          have h7 : d[m]! ≠ d[m - 1]! := by simpa [Go.Lib.keeps, h6] using hk
          apply h7
          by_cases e : j = m - 1
          · rw [← h5, e]
          · have h8 := hs j (m - 1) (by omega) (by omega)
            have h9 := hs (m - 1) m (by omega) (by omega)
            rw [h5] at h8
            have := hc.anti d[m]! d[m - 1]!
            exact (hc.zero _ _).1 (by omega)
      · rw [List.mem_append, h2, List.mem_singleton]
        constructor
        · rintro (⟨j, hj, rfl⟩ | rfl)
          · exact ⟨j, by omega, rfl⟩
          · exact ⟨m, by omega, rfl⟩
        · rintro ⟨j, hj, rfl⟩
          by_cases e : j = m
          · subst e; exact .inr rfl
          · exact .inl ⟨j, by omega, rfl⟩
    · rw [if_neg hk, List.append_nil]
      refine ⟨h1, fun x => ?_⟩
      rw [h2]
      constructor
      · rintro ⟨j, hj, rfl⟩; exact ⟨j, by omega, rfl⟩
      · rintro ⟨j, hj, rfl⟩
        by_cases e : j = m
        · subst e
          have h6 : j ≠ 0 ∧ d[j]! = d[j - 1]! := by
            simp only [Go.Lib.keeps, decide_eq_true_eq, not_or, ne_eq] at hk
            exact ⟨hk.1, Decidable.not_not.1 hk.2⟩
          exact ⟨j - 1, by omega, h6.2.symm⟩
        · exact ⟨j, by omega, rfl⟩
theorem compact_rise [Inhabited α] [DecidableEq α] (hc : IsCmp c) (l : List α) (hs : l.Pairwise fun x y => c x y ≤ 0) : Rise c (Go.Lib.compact l) ∧ ∀ x, x ∈ Go.Lib.compact l ↔ x ∈ l := by
  have hg : ∀ j (h : j < l.length), l.toArray[j]! = l[j] := fun j h => by rw [getElem!_pos l.toArray j (by simpa using h)]; simp
  obtain ⟨h1, h2⟩ := compactUpTo_rise hc l.toArray (fun i j hij hj => by
    have hj' : j < l.length := by simpa using hj
    rw [hg i (by omega), hg j hj']
    exact List.pairwise_iff_getElem.1 hs i j (by omega) hj' hij) l.length (by simp)
  refine ⟨h1, fun x => (h2 x).trans ⟨?_, fun hx => ?_⟩⟩
  · rintro ⟨j, hj, rfl⟩; rw [hg j hj]; exact List.getElem_mem _
  · obtain ⟨j, hj, rfl⟩ := List.getElem_of_mem hx
    exact ⟨j, hj, hg j hj⟩

/-- Where a text stands among texts in order, from the end on. -/
def posG (c : α → α → Int) (l : List α) (s : α) : Nat → Nat
  | 0 => 0
  | j + 1 => if c (l.getD j s) s > 0 then posG c l s j else j + 1
theorem posG_le (l : List α) (s : α) : ∀ j, posG c l s j ≤ j
  | 0 => Nat.le_refl _
  | j + 1 => by
    unfold posG
    split
    · exact Nat.le_succ_of_le (posG_le l s j)
    · exact Nat.le_refl _
theorem posG_above (l : List α) (s : α) : ∀ j i, posG c l s j ≤ i → i < j → c (l.getD i s) s > 0
  | 0, i, _, h => by omega
  | j + 1, i, h1, h2 => by
    unfold posG at h1
    split at h1
    · rename_i hc
      by_cases e : i = j
      · subst e; exact hc
      · exact posG_above l s j i h1 (by omega)
    · omega
theorem posG_below (l : List α) (s : α) : ∀ j, 0 < posG c l s j → c (l.getD (posG c l s j - 1) s) s ≤ 0
  | 0, h => by simp [posG] at h
  | j + 1, h => by
    unfold posG at h ⊢
    split
    · rename_i hc; rw [if_pos hc] at h; exact posG_below l s j h
    · rename_i hc; simp only [Nat.add_sub_cancel]; omega
/-- The document's own round: a text that is there already stays out. -/
def insH [DecidableEq α] (c : α → α → Int) (l : List α) (s : α) : List α := if s ∈ l then l else l.take (posG c l s l.length) ++ s :: l.drop (posG c l s l.length)
theorem insH_mem [DecidableEq α] (l : List α) (s x : α) : x ∈ insH c l s ↔ x ∈ l ∨ x = s := by
  unfold insH
  split
  · constructor
    · exact .inl
    · rintro (h | rfl) <;> assumption
  · have h := (List.perm_middle (a := s) (l₁ := l.take (posG c l s l.length)) (l₂ := l.drop (posG c l s l.length))).mem_iff (a := x)
    rw [h, List.mem_cons, List.take_append_drop]
    exact or_comm
theorem insH_length [DecidableEq α] (l : List α) (s : α) : (insH c l s).length ≤ l.length + 1 := by
  have := posG_le (c := c) l s l.length
  unfold insH
  split
  · omega
  · simp; omega
theorem insH_rise [DecidableEq α] (hc : IsCmp c) {l : List α} (s : α) (h : Rise c l) : Rise c (insH c l s) := by
  unfold insH
  split
  · exact h
  · rename_i hn
    have hp := posG_le (c := c) l s l.length
    have ha := posG_above (c := c) l s l.length
    have hb := posG_below (c := c) l s l.length
    generalize posG c l s l.length = p at *
    have hs : ∀ i j (hi : i < l.length) (hj : j < l.length), i < j → c l[i] l[j] < 0 := fun i j hi hj hij => List.pairwise_iff_getElem.1 h i j hi hj hij
    have tr : ∀ x y z, c x y ≤ 0 → c y z < 0 → c x z < 0 := fun x y z h1 h2 => by
      have h3 := hc.trans x y z h1 (by omega)
      rcases Int.lt_or_eq_of_le h3 with h4 | h4
      · exact h4
      · obtain rfl := (hc.zero _ _).1 h4
        have := hc.anti x y
        omega
    have h1 : ∀ x ∈ l.take p, c x s < 0 := by
      intro x hx
      obtain ⟨i, hi, rfl⟩ := List.getElem_of_mem hx
      have hip : i < p ∧ i < l.length := by simp at hi; omega
      have h2 : c l[p - 1] s < 0 := by
        have := hb (by omega)
        rw [List.getD, List.getElem?_eq_getElem (by omega)] at this
        simp only [Option.getD_some] at this
        rcases Int.lt_or_eq_of_le this with h4 | h4
        · exact h4
        · exact absurd ((hc.zero _ _).1 h4 ▸ List.getElem_mem _) hn
      rw [List.getElem_take]
      by_cases e : i = p - 1
      · subst e; exact h2
      · exact tr _ _ _ (by have := hs i (p - 1) hip.2 (by omega) (by omega); omega) h2
    have h2 : ∀ y ∈ l.drop p, c s y < 0 := by
      intro y hy
      obtain ⟨i, hi, rfl⟩ := List.getElem_of_mem hy
      have hil : p + i < l.length := by simp at hi; omega
      rw [List.getElem_drop]
      have := ha (p + i) (by omega) hil
      rw [List.getD, List.getElem?_eq_getElem hil] at this
      have an := hc.anti l[p + i] s
      simp only [Option.getD_some] at this
      omega
    unfold Rise
    rw [List.pairwise_append]
    refine ⟨h.sublist (List.take_sublist _ _), ?_, ?_⟩
    · rw [List.pairwise_cons]
      exact ⟨h2, h.sublist (List.drop_sublist _ _)⟩
    · intro x hx y hy
      rcases List.mem_cons.1 hy with rfl | hy
      · exact h1 x hx
      · exact tr _ _ _ (by have := h1 x hx; omega) (h2 y hy)
theorem foldH [DecidableEq α] (hc : IsCmp c) : ∀ (l a : List α), Rise c a → Rise c (l.foldl (insH c) a) ∧ (∀ x, x ∈ l.foldl (insH c) a ↔ x ∈ a ∨ x ∈ l) ∧ (l.foldl (insH c) a).length ≤ a.length + l.length
  | [], a, h => ⟨h, by simp, by simp⟩
  | s :: l, a, h => by
    obtain ⟨h1, h2, h3⟩ := foldH hc l (insH c a s) (insH_rise hc s h)
    refine ⟨h1, fun x => ?_, ?_⟩
    · rw [List.foldl_cons, h2, insH_mem, List.mem_cons, or_assoc]
    · rw [List.foldl_cons]
      have := insH_length (c := c) a s
      simp only [List.length_cons]
      omega
end

theorem cmpL_lt : ∀ a b : List UInt8, Go.Lib.compareBytes a b < 0 ↔ a < b
  | [], [] => by simp [Go.Lib.compareBytes]
  | [], _ :: _ => by simp [Go.Lib.compareBytes]
  | _ :: _, [] => by simp [Go.Lib.compareBytes]
  | x :: a, y :: b => by
    have ih := cmpL_lt a b
    rw [List.cons_lt_cons_iff, ← ih]
    simp only [Go.Lib.compareBytes, UInt8.lt_iff_toNat_lt, ← UInt8.toNat_inj]
    (repeat' split) <;> omega
theorem cmpL_le (a b : List UInt8) : Go.Lib.compareBytes a b ≤ 0 ↔ a ≤ b := by
  have h := cmpL_lt b a
  have h2 := cmpL_anti a b
  have h3 : a ≤ b ↔ ¬ b < a := Iff.rfl
  rw [h3, ← h]
  omega
theorem cmpL_is : IsCmp Go.Lib.compareBytes := ⟨cmpL_rng, cmpL_anti, cmpL_zero, cmpL_trans⟩
/-- Texts, each once, in order: as the library's sort and compaction leave them. -/
def hostsL (l : List (List UInt8)) : List (List UInt8) := Go.Lib.compact (l.mergeSort fun x y => decide (x ≤ y))
theorem hostsL_rise (l : List (List UInt8)) : Rise Go.Lib.compareBytes (hostsL l) ∧ ∀ x, x ∈ hostsL l ↔ x ∈ l := by
  have hs : (l.mergeSort fun x y => decide (x ≤ y)).Pairwise fun x y => Go.Lib.compareBytes x y ≤ 0 := by
    have h := List.pairwise_mergeSort (le := fun x y : List UInt8 => decide (x ≤ y)) (fun a b c h1 h2 => by
      simp only [decide_eq_true_eq, ← cmpL_le] at *
      exact cmpL_trans _ _ _ h1 h2) (fun a b => by
      simp only [Bool.or_eq_true, decide_eq_true_eq, ← cmpL_le]
      have := cmpL_anti a b
      omega) l
    exact h.imp (fun h => by simpa [cmpL_le] using h)
  obtain ⟨h1, h2⟩ := compact_rise cmpL_is _ hs
  exact ⟨h1, fun x => (h2 x).trans (List.mergeSort_perm l _).mem_iff⟩
theorem hostsL_length (l : List (List UInt8)) : (hostsL l).length ≤ l.length := by
  refine Nat.le_trans (Go.Lib.compact_length_le _) ?_
  rw [List.length_mergeSort]; exact Nat.le_refl _
end Go.Proofs.Ytjgpggjjgimibaa.L

