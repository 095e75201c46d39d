-- Written by wip/tools/gp.py, a program of this session round the kit's printer. Lean checks it.
import Derived.Test.YtjgpggjjgimibaaProg
import Derived.Below
import Derived.Deep.Draws
import Derived.Deep.AppendLies
import Derived.Maps.AppendAt
import Derived.OwnWalk
import Derived.Laws.BytesArg
import Derived.Laws.MakeOwn
import Derived.Laws.OwnMore
import Derived.Deep.OwnRows
import Derived.Tactics
import Derived.Lib.ConvBytes
import Derived.Laws.Slices
import Derived.WalkKit
import Derived.KernelRfl
import Derived.RowKit3
import Derived.Deep.LoopGhost
import Derived.Deep.QuietTactic
import Derived.BigQuiet
import Derived.WideLaws
import Derived.Deep.DeepCutAuto
import Derived.Deep.CutBlock
import Derived.Deep.RegionHeld3
import Derived.Laws.Rows
import Derived.Lib.AppendStr
import Derived.ArgAppend
import Derived.Laws.IdiomCopy
import Derived.OrdersHeld
import Derived.Laws.BitsLemmas
import Derived.RowKit
import Derived.Test.YtjgpggjjgimibaaWWords
import Derived.Test.YtjgpggjjgimibaaWLast
import Derived.Test.YtjgpggjjgimibaaWTab
import Derived.Test.YtjgpggjjgimibaaWFour
import Derived.Test.YtjgpggjjgimibaaWQPut
import Derived.Test.YtjgpggjjgimibaaWApart
import Derived.Test.YtjgpggjjgimibaaWArr
import Derived.Test.YtjgpggjjgimibaaWZeros
import Derived.Test.YtjgpggjjgimibaaWFoot
import Derived.Test.YtjgpggjjgimibaaWKept
import Derived.Test.YtjgpggjjgimibaaWShare
import Derived.Test.YtjgpggjjgimibaaWN
import Derived.Test.YtjgpggjjgimibaaWFootNe
import Derived.Test.YtjgpggjjgimibaaWAt
import Derived.Test.YtjgpggjjgimibaaWEqStruct
import Derived.Test.YtjgpggjjgimibaaWRepsOne
import Derived.Test.YtjgpggjjgimibaaWInv
import Derived.Test.YtjgpggjjgimibaaWInvWords
import Derived.Test.YtjgpggjjgimibaaWGuard
import Derived.Test.YtjgpggjjgimibaaWNEv
import Derived.Test.YtjgpggjjgimibaaWMore
namespace Go.Proofs.Ytjgpggjjgimibaa.Q
open Go.RowKit Go.Proofs.YtjgpggjjgimibaaW.PrintWords Go.Proofs.YtjgpggjjgimibaaW.PrintLast Go.Proofs.YtjgpggjjgimibaaW.PrintMore
attribute [local go_sem] max2_int min2_int max_two min_two max_three min_three max_four min_four   -- for this text's walks alone
set_option linter.unusedVariables false
set_option linter.unusedSimpArgs false



theorem own_len (A : Option Addr) (n m c d : Nat) : (Value.slice A n c).ownBlock = (Value.slice A m d).ownBlock := by cases A <;> rfl
def errW : Option Int → Value
  | none => .nilIface
  | some c => .iface 0 (.int .i64 c)
theorem errW_none : errW none = .nilIface := rfl
theorem errW_some (c : Int) : errW (some c) = .iface 0 (.int .i64 c) := rfl

-- the values' own types
/-! #### struct type 35 -/
structure S35 where
  f0 : Int
  f1 : Int
def z35 : S35 := ⟨(0 : Int), (0 : Int)⟩
def k35 : Kd S35 := Kd.iso (Kd.pair (Kd.int .i64) (Kd.int .i64)) (fun x : S35 => (x.f0, x.f1))
theorem k35_heap : Kd.Heap k35 := Kd.heap_iso _ (Kd.heap_pair (Kd.heap_int .i64) (Kd.heap_int .i64))
theorem k35_open {w : World} {x : S35} {cs : List Value} (h : k35.K w x cs) : cs = [.int .i64 x.f0, .int .i64 x.f1] := by
  obtain ⟨_, _, rfl, rfl, rfl⟩ := h
  exact rfl
theorem k35_openM {w : World} {base : Nat} {ok : Nat → Prop} {x : S35} {cs : List Value} (h : k35.M w base ok x cs) : cs = [.int .i64 x.f0, .int .i64 x.f1] := by
  obtain ⟨_, _, rfl, rfl, rfl⟩ := h
  exact rfl
theorem k35_mk (w : World) (x : S35)  : k35.K w x [.int .i64 x.f0, .int .i64 x.f1] := ⟨[.int .i64 x.f0], [.int .i64 x.f1], rfl, rfl, rfl⟩
theorem k35_mkM (w : World) (base : Nat) (ok : Nat → Prop) (x : S35)  : k35.M w base ok x [.int .i64 x.f0, .int .i64 x.f1] := ⟨[.int .i64 x.f0], [.int .i64 x.f1], rfl, rfl, rfl⟩
theorem k35_mkF (W : World) (ok : Nat → Prop) (x : S35) : Kd.FK k35 W ok x [.int .i64 x.f0, .int .i64 x.f1] := fun W2 _ => k35_mk W2 x
def rd_T35 (xs : List S35) (i : Int) : S35 := xs.getD i.toNat z35
theorem at_T35 {w : World} {A : Option Addr} {n : Nat} {xs : List S35} (h : Kd.C k35 w A n xs) (i : Int) (h0 : 0 ≤ i) (h1 : i < n) : ∃ ad , A = some ad ∧ w.cell? (ad.add (i.toNat * 2)) = some (.int .i64 (rd_T35 xs i).f0) ∧ w.cell? ⟨(ad.add (i.toNat * 2)).block, (ad.add (i.toNat * 2)).off + 1, none⟩ = some (.int .i64 (rd_T35 xs i).f1) := by
  obtain ⟨ad, c, e, _, hK, hc0⟩ := Kd.C_get h z35 i h0 h1
  have hc : ∀ j u, c[j]? = some u → w.cell? (ad.add (i.toNat * 2 + j)) = some u := hc0
  obtain rfl := k35_open hK
  exact ⟨ad, e, hc 0 _ rfl, by rw [← add_field _ _ 1 (by omega)]; exact hc 1 _ rfl⟩

/-! #### struct type 37 -/
structure S37 where
  f0 : Int
  f1 : Int
  f2 : Int
  f3 : S35
  f4 : Bool
def z37 : S37 := ⟨(0 : Int), (0 : Int), (0 : Int), z35, false⟩
def k37 : Kd S37 := Kd.iso (Kd.pair (Kd.int .i64) (Kd.pair (Kd.int .i64) (Kd.pair (Kd.int .i64) (Kd.pair k35 Kd.bool)))) (fun x : S37 => (x.f0, x.f1, x.f2, x.f3, x.f4))
theorem k37_heap : Kd.Heap k37 := Kd.heap_iso _ (Kd.heap_pair (Kd.heap_int .i64) (Kd.heap_pair (Kd.heap_int .i64) (Kd.heap_pair (Kd.heap_int .i64) (Kd.heap_pair k35_heap Kd.heap_bool))))
theorem k37_open {w : World} {x : S37} {cs : List Value} (h : k37.K w x cs) : cs = [.int .i64 x.f0, .int .i64 x.f1, .int .i64 x.f2, .int .i64 x.f3.f0, .int .i64 x.f3.f1, .bool x.f4] := by
  obtain ⟨_, _, rfl, rfl, ⟨_, _, rfl, rfl, ⟨_, _, rfl, rfl, ⟨_, _, rfl, s3, rfl⟩⟩⟩⟩ := h
  obtain rfl := k35_open s3
  exact rfl
theorem k37_openM {w : World} {base : Nat} {ok : Nat → Prop} {x : S37} {cs : List Value} (h : k37.M w base ok x cs) : cs = [.int .i64 x.f0, .int .i64 x.f1, .int .i64 x.f2, .int .i64 x.f3.f0, .int .i64 x.f3.f1, .bool x.f4] := by
  obtain ⟨_, _, rfl, rfl, ⟨_, _, rfl, rfl, ⟨_, _, rfl, rfl, ⟨_, _, rfl, s3, rfl⟩⟩⟩⟩ := h
  obtain rfl := k35_openM s3
  exact rfl
theorem k37_mk (w : World) (x : S37)  : k37.K w x [.int .i64 x.f0, .int .i64 x.f1, .int .i64 x.f2, .int .i64 x.f3.f0, .int .i64 x.f3.f1, .bool x.f4] := ⟨[.int .i64 x.f0], [.int .i64 x.f1, .int .i64 x.f2, .int .i64 x.f3.f0, .int .i64 x.f3.f1, .bool x.f4], rfl, rfl, ⟨[.int .i64 x.f1], [.int .i64 x.f2, .int .i64 x.f3.f0, .int .i64 x.f3.f1, .bool x.f4], rfl, rfl, ⟨[.int .i64 x.f2], [.int .i64 x.f3.f0, .int .i64 x.f3.f1, .bool x.f4], rfl, rfl, ⟨[.int .i64 x.f3.f0, .int .i64 x.f3.f1], [.bool x.f4], rfl, (k35_mk w x.f3 ), rfl⟩⟩⟩⟩
theorem k37_mkM (w : World) (base : Nat) (ok : Nat → Prop) (x : S37)  : k37.M w base ok x [.int .i64 x.f0, .int .i64 x.f1, .int .i64 x.f2, .int .i64 x.f3.f0, .int .i64 x.f3.f1, .bool x.f4] := ⟨[.int .i64 x.f0], [.int .i64 x.f1, .int .i64 x.f2, .int .i64 x.f3.f0, .int .i64 x.f3.f1, .bool x.f4], rfl, rfl, ⟨[.int .i64 x.f1], [.int .i64 x.f2, .int .i64 x.f3.f0, .int .i64 x.f3.f1, .bool x.f4], rfl, rfl, ⟨[.int .i64 x.f2], [.int .i64 x.f3.f0, .int .i64 x.f3.f1, .bool x.f4], rfl, rfl, ⟨[.int .i64 x.f3.f0, .int .i64 x.f3.f1], [.bool x.f4], rfl, (k35_mkM w base ok x.f3 ), rfl⟩⟩⟩⟩
theorem k37_mkF (W : World) (ok : Nat → Prop) (x : S37) : Kd.FK k37 W ok x [.int .i64 x.f0, .int .i64 x.f1, .int .i64 x.f2, .int .i64 x.f3.f0, .int .i64 x.f3.f1, .bool x.f4] := fun W2 _ => k37_mk W2 x
def rd_T37 (xs : List S37) (i : Int) : S37 := xs.getD i.toNat z37
theorem at_T37 {w : World} {A : Option Addr} {n : Nat} {xs : List S37} (h : Kd.C k37 w A n xs) (i : Int) (h0 : 0 ≤ i) (h1 : i < n) : ∃ ad , A = some ad ∧ w.cell? (ad.add (i.toNat * 6)) = some (.int .i64 (rd_T37 xs i).f0) ∧ w.cell? ⟨(ad.add (i.toNat * 6)).block, (ad.add (i.toNat * 6)).off + 1, none⟩ = some (.int .i64 (rd_T37 xs i).f1) ∧ w.cell? ⟨(ad.add (i.toNat * 6)).block, (ad.add (i.toNat * 6)).off + 2, none⟩ = some (.int .i64 (rd_T37 xs i).f2) ∧ w.cell? ⟨(ad.add (i.toNat * 6)).block, (ad.add (i.toNat * 6)).off + 3, none⟩ = some (.int .i64 (rd_T37 xs i).f3.f0) ∧ w.cell? ⟨(ad.add (i.toNat * 6)).block, (ad.add (i.toNat * 6)).off + 4, none⟩ = some (.int .i64 (rd_T37 xs i).f3.f1) ∧ w.cell? ⟨(ad.add (i.toNat * 6)).block, (ad.add (i.toNat * 6)).off + 5, none⟩ = some (.bool (rd_T37 xs i).f4) := by
  obtain ⟨ad, c, e, _, hK, hc0⟩ := Kd.C_get h z37 i h0 h1
  have hc : ∀ j u, c[j]? = some u → w.cell? (ad.add (i.toNat * 6 + j)) = some u := hc0
  obtain rfl := k37_open hK
  exact ⟨ad, e, hc 0 _ rfl, by rw [← add_field _ _ 1 (by omega)]; exact hc 1 _ rfl, by rw [← add_field _ _ 2 (by omega)]; exact hc 2 _ rfl, by rw [← add_field _ _ 3 (by omega)]; exact hc 3 _ rfl, by rw [← add_field _ _ 4 (by omega)]; exact hc 4 _ rfl, by rw [← add_field _ _ 5 (by omega)]; exact hc 5 _ rfl⟩

/-! #### struct type 42 -/
structure S42 where
  f0 : Int
  f1 : Int
  f2 : Int
  f3 : Int
  f4 : ByteArray
  f5 : ByteArray
  f6 : Int
  f7 : Int
def z42 : S42 := ⟨(0 : Int), (0 : Int), (0 : Int), (0 : Int), (⟨#[]⟩ : ByteArray), (⟨#[]⟩ : ByteArray), (0 : Int), (0 : Int)⟩
def k42 : Kd S42 := Kd.iso (Kd.pair (Kd.int .u64) (Kd.pair (Kd.int .u64) (Kd.pair (Kd.int .u64) (Kd.pair (Kd.int .u8) (Kd.pair Kd.string (Kd.pair Kd.string (Kd.pair (Kd.int .i64) (Kd.int .i64)))))))) (fun x : S42 => (x.f0, x.f1, x.f2, x.f3, x.f4, x.f5, x.f6, x.f7))
theorem k42_heap : Kd.Heap k42 := Kd.heap_iso _ (Kd.heap_pair (Kd.heap_int .u64) (Kd.heap_pair (Kd.heap_int .u64) (Kd.heap_pair (Kd.heap_int .u64) (Kd.heap_pair (Kd.heap_int .u8) (Kd.heap_pair Kd.heap_string (Kd.heap_pair Kd.heap_string (Kd.heap_pair (Kd.heap_int .i64) (Kd.heap_int .i64))))))))
theorem k42_open {w : World} {x : S42} {cs : List Value} (h : k42.K w x cs) : cs = [.int .u64 x.f0, .int .u64 x.f1, .int .u64 x.f2, .int .u8 x.f3, .string x.f4, .string x.f5, .int .i64 x.f6, .int .i64 x.f7] := by
  obtain ⟨_, _, rfl, rfl, ⟨_, _, rfl, rfl, ⟨_, _, rfl, rfl, ⟨_, _, rfl, rfl, ⟨_, _, rfl, rfl, ⟨_, _, rfl, rfl, ⟨_, _, rfl, rfl, rfl⟩⟩⟩⟩⟩⟩⟩ := h
  exact rfl
theorem k42_openM {w : World} {base : Nat} {ok : Nat → Prop} {x : S42} {cs : List Value} (h : k42.M w base ok x cs) : cs = [.int .u64 x.f0, .int .u64 x.f1, .int .u64 x.f2, .int .u8 x.f3, .string x.f4, .string x.f5, .int .i64 x.f6, .int .i64 x.f7] := by
  obtain ⟨_, _, rfl, rfl, ⟨_, _, rfl, rfl, ⟨_, _, rfl, rfl, ⟨_, _, rfl, rfl, ⟨_, _, rfl, rfl, ⟨_, _, rfl, rfl, ⟨_, _, rfl, rfl, rfl⟩⟩⟩⟩⟩⟩⟩ := h
  exact rfl
theorem k42_mk (w : World) (x : S42)  : k42.K w x [.int .u64 x.f0, .int .u64 x.f1, .int .u64 x.f2, .int .u8 x.f3, .string x.f4, .string x.f5, .int .i64 x.f6, .int .i64 x.f7] := ⟨[.int .u64 x.f0], [.int .u64 x.f1, .int .u64 x.f2, .int .u8 x.f3, .string x.f4, .string x.f5, .int .i64 x.f6, .int .i64 x.f7], rfl, rfl, ⟨[.int .u64 x.f1], [.int .u64 x.f2, .int .u8 x.f3, .string x.f4, .string x.f5, .int .i64 x.f6, .int .i64 x.f7], rfl, rfl, ⟨[.int .u64 x.f2], [.int .u8 x.f3, .string x.f4, .string x.f5, .int .i64 x.f6, .int .i64 x.f7], rfl, rfl, ⟨[.int .u8 x.f3], [.string x.f4, .string x.f5, .int .i64 x.f6, .int .i64 x.f7], rfl, rfl, ⟨[.string x.f4], [.string x.f5, .int .i64 x.f6, .int .i64 x.f7], rfl, rfl, ⟨[.string x.f5], [.int .i64 x.f6, .int .i64 x.f7], rfl, rfl, ⟨[.int .i64 x.f6], [.int .i64 x.f7], rfl, rfl, rfl⟩⟩⟩⟩⟩⟩⟩
theorem k42_mkM (w : World) (base : Nat) (ok : Nat → Prop) (x : S42)  : k42.M w base ok x [.int .u64 x.f0, .int .u64 x.f1, .int .u64 x.f2, .int .u8 x.f3, .string x.f4, .string x.f5, .int .i64 x.f6, .int .i64 x.f7] := ⟨[.int .u64 x.f0], [.int .u64 x.f1, .int .u64 x.f2, .int .u8 x.f3, .string x.f4, .string x.f5, .int .i64 x.f6, .int .i64 x.f7], rfl, rfl, ⟨[.int .u64 x.f1], [.int .u64 x.f2, .int .u8 x.f3, .string x.f4, .string x.f5, .int .i64 x.f6, .int .i64 x.f7], rfl, rfl, ⟨[.int .u64 x.f2], [.int .u8 x.f3, .string x.f4, .string x.f5, .int .i64 x.f6, .int .i64 x.f7], rfl, rfl, ⟨[.int .u8 x.f3], [.string x.f4, .string x.f5, .int .i64 x.f6, .int .i64 x.f7], rfl, rfl, ⟨[.string x.f4], [.string x.f5, .int .i64 x.f6, .int .i64 x.f7], rfl, rfl, ⟨[.string x.f5], [.int .i64 x.f6, .int .i64 x.f7], rfl, rfl, ⟨[.int .i64 x.f6], [.int .i64 x.f7], rfl, rfl, rfl⟩⟩⟩⟩⟩⟩⟩
theorem k42_mkF (W : World) (ok : Nat → Prop) (x : S42) : Kd.FK k42 W ok x [.int .u64 x.f0, .int .u64 x.f1, .int .u64 x.f2, .int .u8 x.f3, .string x.f4, .string x.f5, .int .i64 x.f6, .int .i64 x.f7] := fun W2 _ => k42_mk W2 x
def rd_T42 (xs : List S42) (i : Int) : S42 := xs.getD i.toNat z42
theorem at_T42 {w : World} {A : Option Addr} {n : Nat} {xs : List S42} (h : Kd.C k42 w A n xs) (i : Int) (h0 : 0 ≤ i) (h1 : i < n) : ∃ ad , A = some ad ∧ w.cell? (ad.add (i.toNat * 8)) = some (.int .u64 (rd_T42 xs i).f0) ∧ w.cell? ⟨(ad.add (i.toNat * 8)).block, (ad.add (i.toNat * 8)).off + 1, none⟩ = some (.int .u64 (rd_T42 xs i).f1) ∧ w.cell? ⟨(ad.add (i.toNat * 8)).block, (ad.add (i.toNat * 8)).off + 2, none⟩ = some (.int .u64 (rd_T42 xs i).f2) ∧ w.cell? ⟨(ad.add (i.toNat * 8)).block, (ad.add (i.toNat * 8)).off + 3, none⟩ = some (.int .u8 (rd_T42 xs i).f3) ∧ w.cell? ⟨(ad.add (i.toNat * 8)).block, (ad.add (i.toNat * 8)).off + 4, none⟩ = some (.string (rd_T42 xs i).f4) ∧ w.cell? ⟨(ad.add (i.toNat * 8)).block, (ad.add (i.toNat * 8)).off + 5, none⟩ = some (.string (rd_T42 xs i).f5) ∧ w.cell? ⟨(ad.add (i.toNat * 8)).block, (ad.add (i.toNat * 8)).off + 6, none⟩ = some (.int .i64 (rd_T42 xs i).f6) ∧ w.cell? ⟨(ad.add (i.toNat * 8)).block, (ad.add (i.toNat * 8)).off + 7, none⟩ = some (.int .i64 (rd_T42 xs i).f7) := by
  obtain ⟨ad, c, e, _, hK, hc0⟩ := Kd.C_get h z42 i h0 h1
  have hc : ∀ j u, c[j]? = some u → w.cell? (ad.add (i.toNat * 8 + j)) = some u := hc0
  obtain rfl := k42_open hK
  exact ⟨ad, e, hc 0 _ rfl, by rw [← add_field _ _ 1 (by omega)]; exact hc 1 _ rfl, by rw [← add_field _ _ 2 (by omega)]; exact hc 2 _ rfl, by rw [← add_field _ _ 3 (by omega)]; exact hc 3 _ rfl, by rw [← add_field _ _ 4 (by omega)]; exact hc 4 _ rfl, by rw [← add_field _ _ 5 (by omega)]; exact hc 5 _ rfl, by rw [← add_field _ _ 6 (by omega)]; exact hc 6 _ rfl, by rw [← add_field _ _ 7 (by omega)]; exact hc 7 _ rfl⟩

end Go.Proofs.Ytjgpggjjgimibaa.Q
