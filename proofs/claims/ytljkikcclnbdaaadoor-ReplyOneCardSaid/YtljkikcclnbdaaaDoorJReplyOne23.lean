/- Texts joined by wip/tools/merge.py: Qx0 PutP PakA BufG Px0 Px1 PakB. -/
import Derived.Test.YtljkikcclnbdaaaDoorProg
import Derived.Below
import Derived.Deep.Draws
import Derived.Deep.AppendLies
import Derived.Maps.AppendAt
import Derived.OwnWalk
import Derived.Laws.BytesArg
import Derived.Laws.MakeOwn
import Derived.Laws.OwnMore
import Derived.Deep.OwnRows
import Derived.Tactics
import Derived.Lib.ConvBytes
import Derived.Laws.Slices
import Derived.WalkKit
import Derived.KernelRfl
import Derived.RowKit3
import Derived.Deep.LoopGhost
import Derived.Deep.QuietTactic
import Derived.BigQuiet
import Derived.WideLaws
import Derived.Deep.DeepCutAuto
import Derived.Deep.CutBlock
import Derived.Deep.RegionHeld3
import Derived.Laws.Rows
import Derived.Lib.AppendStr
import Derived.ArgAppend
import Derived.Laws.IdiomCopy
import Derived.OrdersHeld
import Derived.Laws.BitsLemmas
import Derived.RowKit
import Derived.Test.YtljkikcclnbdaaaDoorJReplyOne2
import Derived.Test.YtljkikcclnbdaaaDoorJReplyOne0
import Derived.Test.YtljkikcclnbdaaaDoorJReplyOne14
import Derived.Test.YtljkikcclnbdaaaDoorJReplyOne15
import Derived.Test.YtljkikcclnbdaaaDoorJReplyOne3
import Derived.Test.YtljkikcclnbdaaaDoorJReplyOne4
import Derived.Test.YtljkikcclnbdaaaDoorJReplyOne5
import Derived.Test.YtljkikcclnbdaaaDoorJReplyOne6
import Derived.Test.YtljkikcclnbdaaaDoorJReplyOne7
import Derived.Test.YtljkikcclnbdaaaDoorJReplyOne8
import Derived.Test.YtljkikcclnbdaaaDoorJReplyOne9
import Derived.Test.YtljkikcclnbdaaaDoorJReplyOne10
import Derived.Test.YtljkikcclnbdaaaDoorJReplyOne16
import Derived.Test.YtljkikcclnbdaaaDoorJReplyOne17
import Derived.Test.YtljkikcclnbdaaaDoorJReplyOne18
import Derived.Test.YtljkikcclnbdaaaDoorJReplyOne19
import Derived.Test.YtljkikcclnbdaaaDoorJReplyOne20
import Derived.Test.YtljkikcclnbdaaaDoorJReplyOne21
import Derived.Test.YtljkikcclnbdaaaDoorJReplyOne22
import Derived.Test.YtljkikcclnbdaaaDoorJReplyOne11
import Derived.Test.YtljkikcclnbdaaaDoorJReplyOne12
import Derived.Test.YtljkikcclnbdaaaDoorJReplyOne13
import Derived.WalkSpells
import Derived.Laws.CopyOwn
import Derived.Laws.Bits64b
import Derived.Lib.BufferOld
import Derived.ScopeJumps
import Derived.WalkMore
-- Written by wip/tools/gp.py, a program of this session round the kit's printer. Lean checks it.
namespace Go.Proofs.YtljkikcclnbdaaaDoor.Q
open Go.RowKit Go.Proofs.YtljkikcclnbdaaaDoorW.PrintWords Go.Proofs.YtljkikcclnbdaaaDoorW.PrintLast Go.Proofs.YtljkikcclnbdaaaDoorW.PrintMore
attribute [local go_sem] max2_int min2_int max_two min_two max_three min_three max_four min_four   -- for this text's walks alone
set_option linter.unusedVariables false
set_option linter.unusedSimpArgs false
def errW : Option Int → Value
  | none => .nilIface
  | some c => .iface 0 (.int .i64 c)
theorem errW_none : errW none = .nilIface := rfl
theorem errW_some (c : Int) : errW (some c) = .iface 0 (.int .i64 c) := rfl

-- the values' own types
/-! #### struct type 56 -/
structure S56 where
  f0 : Int
  f1 : Int
  f2 : Int
  f3 : Int
  f4 : ByteArray
  f5 : ByteArray
  f6 : Int
  f7 : Int
def z56 : S56 := ⟨(0 : Int), (0 : Int), (0 : Int), (0 : Int), (⟨#[]⟩ : ByteArray), (⟨#[]⟩ : ByteArray), (0 : Int), (0 : Int)⟩
def k56 : Kd S56 := Kd.iso (Kd.pair (Kd.int .u64) (Kd.pair (Kd.int .u64) (Kd.pair (Kd.int .u64) (Kd.pair (Kd.int .u8) (Kd.pair Kd.string (Kd.pair Kd.string (Kd.pair (Kd.int .i64) (Kd.int .i64)))))))) (fun x : S56 => (x.f0, x.f1, x.f2, x.f3, x.f4, x.f5, x.f6, x.f7))
theorem k56_open {w : World} {x : S56} {cs : List Value} (h : k56.K w x cs) : cs = [.int .u64 x.f0, .int .u64 x.f1, .int .u64 x.f2, .int .u8 x.f3, .string x.f4, .string x.f5, .int .i64 x.f6, .int .i64 x.f7] := by
  obtain ⟨_, _, rfl, rfl, ⟨_, _, rfl, rfl, ⟨_, _, rfl, rfl, ⟨_, _, rfl, rfl, ⟨_, _, rfl, rfl, ⟨_, _, rfl, rfl, ⟨_, _, rfl, rfl, rfl⟩⟩⟩⟩⟩⟩⟩ := h
  exact rfl
theorem k56_mkM (w : World) (base : Nat) (ok : Nat → Prop) (x : S56)  : k56.M w base ok x [.int .u64 x.f0, .int .u64 x.f1, .int .u64 x.f2, .int .u8 x.f3, .string x.f4, .string x.f5, .int .i64 x.f6, .int .i64 x.f7] := ⟨[.int .u64 x.f0], [.int .u64 x.f1, .int .u64 x.f2, .int .u8 x.f3, .string x.f4, .string x.f5, .int .i64 x.f6, .int .i64 x.f7], rfl, rfl, ⟨[.int .u64 x.f1], [.int .u64 x.f2, .int .u8 x.f3, .string x.f4, .string x.f5, .int .i64 x.f6, .int .i64 x.f7], rfl, rfl, ⟨[.int .u64 x.f2], [.int .u8 x.f3, .string x.f4, .string x.f5, .int .i64 x.f6, .int .i64 x.f7], rfl, rfl, ⟨[.int .u8 x.f3], [.string x.f4, .string x.f5, .int .i64 x.f6, .int .i64 x.f7], rfl, rfl, ⟨[.string x.f4], [.string x.f5, .int .i64 x.f6, .int .i64 x.f7], rfl, rfl, ⟨[.string x.f5], [.int .i64 x.f6, .int .i64 x.f7], rfl, rfl, ⟨[.int .i64 x.f6], [.int .i64 x.f7], rfl, rfl, rfl⟩⟩⟩⟩⟩⟩⟩
def rd_T56 (xs : List S56) (i : Int) : S56 := xs.getD i.toNat z56
theorem at_T56 {w : World} {A : Option Addr} {n : Nat} {xs : List S56} (h : Kd.C k56 w A n xs) (i : Int) (h0 : 0 ≤ i) (h1 : i < n) : ∃ ad , A = some ad ∧ w.cell? (ad.add (i.toNat * 8)) = some (.int .u64 (rd_T56 xs i).f0) ∧ w.cell? ⟨(ad.add (i.toNat * 8)).block, (ad.add (i.toNat * 8)).off + 1, none⟩ = some (.int .u64 (rd_T56 xs i).f1) ∧ w.cell? ⟨(ad.add (i.toNat * 8)).block, (ad.add (i.toNat * 8)).off + 2, none⟩ = some (.int .u64 (rd_T56 xs i).f2) ∧ w.cell? ⟨(ad.add (i.toNat * 8)).block, (ad.add (i.toNat * 8)).off + 3, none⟩ = some (.int .u8 (rd_T56 xs i).f3) ∧ w.cell? ⟨(ad.add (i.toNat * 8)).block, (ad.add (i.toNat * 8)).off + 4, none⟩ = some (.string (rd_T56 xs i).f4) ∧ w.cell? ⟨(ad.add (i.toNat * 8)).block, (ad.add (i.toNat * 8)).off + 5, none⟩ = some (.string (rd_T56 xs i).f5) ∧ w.cell? ⟨(ad.add (i.toNat * 8)).block, (ad.add (i.toNat * 8)).off + 6, none⟩ = some (.int .i64 (rd_T56 xs i).f6) ∧ w.cell? ⟨(ad.add (i.toNat * 8)).block, (ad.add (i.toNat * 8)).off + 7, none⟩ = some (.int .i64 (rd_T56 xs i).f7) := by
  obtain ⟨ad, c, e, _, hK, hc0⟩ := Kd.C_get h z56 i h0 h1
  have hc : ∀ j u, c[j]? = some u → w.cell? (ad.add (i.toNat * 8 + j)) = some u := hc0
  obtain rfl := k56_open hK
  exact ⟨ad, e, hc 0 _ rfl, by rw [← add_field _ _ 1 (by omega)]; exact hc 1 _ rfl, by rw [← add_field _ _ 2 (by omega)]; exact hc 2 _ rfl, by rw [← add_field _ _ 3 (by omega)]; exact hc 3 _ rfl, by rw [← add_field _ _ 4 (by omega)]; exact hc 4 _ rfl, by rw [← add_field _ _ 5 (by omega)]; exact hc 5 _ rfl, by rw [← add_field _ _ 6 (by omega)]; exact hc 6 _ rfl, by rw [← add_field _ _ 7 (by omega)]; exact hc 7 _ rfl⟩

/-! #### struct type 62 -/
structure S62 where
  f0 : Int
  f1 : Int
def z62 : S62 := ⟨(0 : Int), (0 : Int)⟩
def k62 : Kd S62 := Kd.iso (Kd.pair (Kd.int .i64) (Kd.int .i64)) (fun x : S62 => (x.f0, x.f1))
theorem k62_open {w : World} {x : S62} {cs : List Value} (h : k62.K w x cs) : cs = [.int .i64 x.f0, .int .i64 x.f1] := by
  obtain ⟨_, _, rfl, rfl, rfl⟩ := h
  exact rfl
/-! #### struct type 64 -/
structure S64 where
  f0 : Int
  f1 : Int
  f2 : Int
  f3 : S62
  f4 : Bool
def z64 : S64 := ⟨(0 : Int), (0 : Int), (0 : Int), z62, false⟩
def k64 : Kd S64 := Kd.iso (Kd.pair (Kd.int .i64) (Kd.pair (Kd.int .i64) (Kd.pair (Kd.int .i64) (Kd.pair k62 Kd.bool)))) (fun x : S64 => (x.f0, x.f1, x.f2, x.f3, x.f4))
theorem k64_open {w : World} {x : S64} {cs : List Value} (h : k64.K w x cs) : cs = [.int .i64 x.f0, .int .i64 x.f1, .int .i64 x.f2, .int .i64 x.f3.f0, .int .i64 x.f3.f1, .bool x.f4] := by
  obtain ⟨_, _, rfl, rfl, ⟨_, _, rfl, rfl, ⟨_, _, rfl, rfl, ⟨_, _, rfl, s3, rfl⟩⟩⟩⟩ := h
  obtain rfl := k62_open s3
  exact rfl
def rd_T64 (xs : List S64) (i : Int) : S64 := xs.getD i.toNat z64
theorem at_T64 {w : World} {A : Option Addr} {n : Nat} {xs : List S64} (h : Kd.C k64 w A n xs) (i : Int) (h0 : 0 ≤ i) (h1 : i < n) : ∃ ad , A = some ad ∧ w.cell? (ad.add (i.toNat * 6)) = some (.int .i64 (rd_T64 xs i).f0) ∧ w.cell? ⟨(ad.add (i.toNat * 6)).block, (ad.add (i.toNat * 6)).off + 1, none⟩ = some (.int .i64 (rd_T64 xs i).f1) ∧ w.cell? ⟨(ad.add (i.toNat * 6)).block, (ad.add (i.toNat * 6)).off + 2, none⟩ = some (.int .i64 (rd_T64 xs i).f2) ∧ w.cell? ⟨(ad.add (i.toNat * 6)).block, (ad.add (i.toNat * 6)).off + 3, none⟩ = some (.int .i64 (rd_T64 xs i).f3.f0) ∧ w.cell? ⟨(ad.add (i.toNat * 6)).block, (ad.add (i.toNat * 6)).off + 4, none⟩ = some (.int .i64 (rd_T64 xs i).f3.f1) ∧ w.cell? ⟨(ad.add (i.toNat * 6)).block, (ad.add (i.toNat * 6)).off + 5, none⟩ = some (.bool (rd_T64 xs i).f4) := by
  obtain ⟨ad, c, e, _, hK, hc0⟩ := Kd.C_get h z64 i h0 h1
  have hc : ∀ j u, c[j]? = some u → w.cell? (ad.add (i.toNat * 6 + j)) = some u := hc0
  obtain rfl := k64_open hK
  exact ⟨ad, e, hc 0 _ rfl, by rw [← add_field _ _ 1 (by omega)]; exact hc 1 _ rfl, by rw [← add_field _ _ 2 (by omega)]; exact hc 2 _ rfl, by rw [← add_field _ _ 3 (by omega)]; exact hc 3 _ rfl, by rw [← add_field _ _ 4 (by omega)]; exact hc 4 _ rfl, by rw [← add_field _ _ 5 (by omega)]; exact hc 5 _ rfl⟩

end Go.Proofs.YtljkikcclnbdaaaDoor.Q

/- An answer's bytes, plain; unlike answers have unlike bytes. -/
namespace Go.Proofs.YtljkikcclnbdaaaDoor.L
open Go.RowKit Go.Proofs.YtljkikcclnbdaaaDoor.Q Go.Proofs.YtljkikcclnbdaaaDoorW.PrintWords Go.Proofs.YtljkikcclnbdaaaDoorW.Lib
set_option linter.unusedVariables false
set_option linter.unusedSimpArgs false

/-- A number's bytes, the least first. -/
def leB : Nat → Int → List Int
  | 0, _ => []
  | k + 1, n => n % 256 :: leB k (n / 256)
theorem leB_length : ∀ (k : Nat) (n : Int), (leB k n).length = k
  | 0, _ => rfl
  | k + 1, n => by rw [leB, List.length_cons, leB_length k]
theorem leB_inj : ∀ (k : Nat) (a b : Int), 0 ≤ a → a < 256 ^ k → 0 ≤ b → b < 256 ^ k → leB k a = leB k b → a = b
  | 0, a, b, h1, h2, h3, h4, _ => by simp at h2 h4; omega
  | k + 1, a, b, h1, h2, h3, h4, h => by
    rw [leB, leB] at h
    obtain ⟨e1, e2⟩ := List.cons.inj h
    rw [Int.pow_succ] at h2 h4
    have := leB_inj k (a / 256) (b / 256) (by omega) (by omega) (by omega) (by omega) e2
    omega
theorem leB_byte : ∀ (k : Nat) (n : Int), ∀ x ∈ leB k n, 0 ≤ x ∧ x < 256
  | 0, _, _, h => by simp [leB] at h
  | k + 1, n, x, h => by
    rw [leB, List.mem_cons] at h
    rcases h with rfl | h
    · omega
    · exact leB_byte k _ x h
/-- A whole number as one that isn't below 0. -/
def upB (x : Int) : Int := x % 18446744073709551616
theorem upB_inj {a b : Int} (ha : -9223372036854775808 ≤ a ∧ a < 9223372036854775808) (hb : -9223372036854775808 ≤ b ∧ b < 9223372036854775808) (h : upB a = upB b) : a = b := by
  unfold upB at h; omega
theorem upB_in (a : Int) : 0 ≤ upB a ∧ upB a < 256 ^ 8 := by
  unfold upB; constructor <;> omega
/-- A text's field. -/
def textB (s : ByteArray) : List Int := (s.size : Int) :: (bytesOf s ++ List.replicate (16 - s.size) 0)
theorem bytesOf_length (s : ByteArray) : (bytesOf s).length = s.size := by unfold bytesOf; simp
theorem textB_length {s : ByteArray} (h : s.size ≤ 16) : (textB s).length = 17 := by
  unfold textB; simp [bytesOf_length]; omega
/-- Of the same length, and joined the same: the same. -/
theorem app_two {α : Type} {a b c d : List α} (h : a ++ b = c ++ d) (hl : a.length = c.length) : a = c ∧ b = d := List.append_inj h hl
theorem textB_inj {s t : ByteArray} (h : textB s = textB t) : s = t := by
  unfold textB at h
  obtain ⟨h1, h2⟩ := List.cons.inj h
  have e : s.size = t.size := by omega
  exact bytesOf_inj (app_two h2 (by rw [bytesOf_length, bytesOf_length, e])).1
theorem flat_inj {α : Type} {f : α → List Int} {n : Nat} {p : α → Prop} (hn : ∀ x, p x → (f x).length = n) (hf : ∀ x y, p x → p y → f x = f y → x = y) : ∀ (a b : List α), (∀ x ∈ a, p x) → (∀ x ∈ b, p x) → a.length = b.length → ∀ c d : List Int, a.flatMap f ++ c = b.flatMap f ++ d → a = b ∧ c = d
  | [], [], _, _, _, c, d, h => ⟨rfl, h⟩
  | [], _ :: _, _, _, hl, _, _, _ => by simp at hl
  | _ :: _, [], _, _, hl, _, _, _ => by simp at hl
  | x :: a, y :: b, ha, hb, hl, c, d, h => by
    rw [List.flatMap_cons, List.flatMap_cons, List.append_assoc, List.append_assoc] at h
    have px := ha x (by simp)
    have py := hb y (by simp)
    obtain ⟨h1, h2⟩ := app_two h (by rw [hn x px, hn y py])
    obtain ⟨h3, h4⟩ := flat_inj hn hf a b (fun z hz => ha z (by simp [hz])) (fun z hz => hb z (by simp [hz])) (by simpa using hl) c d h2
    exact ⟨by rw [hf x y px py h1, h3], h4⟩
abbrev SpB := S56
abbrev EdB := S64
structure AnB where
  f0 : Int
  f1 : List SpB
  f2 : List Int
  f3 : List ByteArray
  f4 : List Int
  f5 : List EdB
def spanB (s : SpB) : List Int := leB 8 s.f0 ++ (leB 8 s.f1 ++ (leB 8 s.f2 ++ (leB 1 s.f3 ++ (leB 8 (upB s.f6) ++ (leB 8 (upB s.f7) ++ (textB s.f4 ++ textB s.f5))))))
def fitSp (s : SpB) : Prop := (0 ≤ s.f0 ∧ s.f0 < 256 ^ 8) ∧ (0 ≤ s.f1 ∧ s.f1 < 256 ^ 8) ∧ (0 ≤ s.f2 ∧ s.f2 < 256 ^ 8) ∧ (0 ≤ s.f3 ∧ s.f3 < 256 ^ 1) ∧ (-9223372036854775808 ≤ s.f6 ∧ s.f6 < 9223372036854775808) ∧ (-9223372036854775808 ≤ s.f7 ∧ s.f7 < 9223372036854775808) ∧ s.f4.size ≤ 16 ∧ s.f5.size ≤ 16
theorem spanB_length {s : SpB} (h : fitSp s) : (spanB s).length = 75 := by
  unfold spanB
  simp only [List.length_append, leB_length, textB_length h.2.2.2.2.2.2.1, textB_length h.2.2.2.2.2.2.2]
theorem spanB_inj {s t : SpB} (hs : fitSp s) (ht : fitSp t) (h : spanB s = spanB t) : s = t := by
  unfold spanB at h
  obtain ⟨a0, a1, a2, a3, a6, a7, a4, a5⟩ := hs
  obtain ⟨b0, b1, b2, b3, b6, b7, b4, b5⟩ := ht
  obtain ⟨e0, h⟩ := app_two h (by rw [leB_length, leB_length])
  obtain ⟨e1, h⟩ := app_two h (by rw [leB_length, leB_length])
  obtain ⟨e2, h⟩ := app_two h (by rw [leB_length, leB_length])
  obtain ⟨e3, h⟩ := app_two h (by rw [leB_length, leB_length])
  obtain ⟨e6, h⟩ := app_two h (by rw [leB_length, leB_length])
  obtain ⟨e7, h⟩ := app_two h (by rw [leB_length, leB_length])
  obtain ⟨e4, e5⟩ := app_two h (by rw [textB_length a4, textB_length b4])
  cases s; cases t
  simp only at *
  rw [leB_inj 8 _ _ a0.1 a0.2 b0.1 b0.2 e0, leB_inj 8 _ _ a1.1 a1.2 b1.1 b1.2 e1, leB_inj 8 _ _ a2.1 a2.2 b2.1 b2.2 e2, leB_inj 1 _ _ a3.1 a3.2 b3.1 b3.2 e3,
    upB_inj a6 b6 (leB_inj 8 _ _ (upB_in _).1 (upB_in _).2 (upB_in _).1 (upB_in _).2 e6), upB_inj a7 b7 (leB_inj 8 _ _ (upB_in _).1 (upB_in _).2 (upB_in _).1 (upB_in _).2 e7), textB_inj e4, textB_inj e5]
def edgeB (e : EdB) : List Int := leB 1 e.f0 ++ (leB 1 e.f1 ++ (leB 8 (upB e.f2) ++ (leB 4 e.f3.f0 ++ (leB 4 e.f3.f1 ++ [if e.f4 = true then 1 else 0]))))
def fitEd (e : EdB) : Prop := (0 ≤ e.f0 ∧ e.f0 < 256 ^ 1) ∧ (0 ≤ e.f1 ∧ e.f1 < 256 ^ 1) ∧ (-9223372036854775808 ≤ e.f2 ∧ e.f2 < 9223372036854775808) ∧ (0 ≤ e.f3.f0 ∧ e.f3.f0 < 256 ^ 4) ∧ (0 ≤ e.f3.f1 ∧ e.f3.f1 < 256 ^ 4)
theorem edgeB_length (e : EdB) : (edgeB e).length = 19 := by
  unfold edgeB
  simp only [List.length_append, leB_length, List.length_cons, List.length_nil]
theorem edgeB_inj {s t : EdB} (hs : fitEd s) (ht : fitEd t) (h : edgeB s = edgeB t) : s = t := by
  unfold edgeB at h
  obtain ⟨a0, a1, a2, a3, a4⟩ := hs
  obtain ⟨b0, b1, b2, b3, b4⟩ := ht
  obtain ⟨e0, h⟩ := app_two h (by rw [leB_length, leB_length])
  obtain ⟨e1, h⟩ := app_two h (by rw [leB_length, leB_length])
  obtain ⟨e2, h⟩ := app_two h (by rw [leB_length, leB_length])
  obtain ⟨e3, h⟩ := app_two h (by rw [leB_length, leB_length])
  obtain ⟨e4, h⟩ := app_two h (by rw [leB_length, leB_length])
  have e5 : s.f4 = t.f4 := by
    obtain ⟨h5, _⟩ := List.cons.inj h
    cases hs : s.f4 <;> cases ht : t.f4 <;> simp_all
  have q0 := leB_inj 1 _ _ a0.1 a0.2 b0.1 b0.2 e0
  have q1 := leB_inj 1 _ _ a1.1 a1.2 b1.1 b1.2 e1
  have q2 := upB_inj a2 b2 (leB_inj 8 _ _ (upB_in _).1 (upB_in _).2 (upB_in _).1 (upB_in _).2 e2)
  have q3 := leB_inj 4 _ _ a3.1 a3.2 b3.1 b3.2 e3
  have q4 := leB_inj 4 _ _ a4.1 a4.2 b4.1 b4.2 e4
  obtain ⟨s0, s1, s2, ⟨s3, s4⟩, s5⟩ := s
  obtain ⟨t0, t1, t2, ⟨t3, t4⟩, t5⟩ := t
  simp only at q0 q1 q2 q3 q4 e5
  rw [q0, q1, q2, q3, q4, e5]
/-- Whole numbers, in eight bytes each. -/
def numB8 (l : List Int) : List Int := l.flatMap fun x => leB 8 (upB x)
def in64 (x : Int) : Prop := -9223372036854775808 ≤ x ∧ x < 9223372036854775808
theorem num8_inj {x y : Int} (hx : in64 x) (hy : in64 y) (h : leB 8 (upB x) = leB 8 (upB y)) : x = y :=
  upB_inj hx hy (leB_inj 8 _ _ (upB_in _).1 (upB_in _).2 (upB_in _).1 (upB_in _).2 h)
/-- An answer's bytes. -/
def answerB (a : AnB) : List Int :=
  leB 1 a.f0 ++ (if a.f0 = 0 then [] else leB 4 a.f1.length ++ (a.f1.flatMap spanB ++ (numB8 a.f2 ++ ((if a.f0 = 3 then [] else leB 1 a.f3.length ++ a.f3.flatMap textB) ++ (numB8 a.f4 ++ (if a.f0 = 2 then leB 1 a.f5.length ++ a.f5.flatMap edgeB else []))))))
/-- What an answer that may be is. -/
structure AnsIn (a : AnB) : Prop where
  v0 : 0 ≤ a.f0
  v1 : a.f0 ≤ 3
  none : a.f0 = 0 → a.f1 = [] ∧ a.f2 = [] ∧ a.f3 = [] ∧ a.f4 = [] ∧ a.f5 = []
  spans : ∀ s ∈ a.f1, fitSp s
  most : a.f1.length ≤ 1048576
  starts : a.f2.length = a.f1.length
  st : ∀ x ∈ a.f2, in64 x
  big : a.f0 = 3 → a.f3 = [] ∧ a.f4 = [] ∧ a.f5 = []
  hosts : ∀ h ∈ a.f3, h.size ≤ 16
  few : a.f3.length ≤ 32
  off : a.f0 = 1 → a.f4.length = a.f3.length ∧ a.f5 = []
  os : ∀ x ∈ a.f4, in64 x
  chain : a.f0 = 2 → a.f4 = [] ∧ a.f5.length ≤ 32
  edges : ∀ e ∈ a.f5, fitEd e
/-- Unlike answers have unlike bytes. -/
theorem answerB_inj {a b : AnB} (ha : AnsIn a) (hb : AnsIn b) (h : answerB a = answerB b) : a = b := by
  unfold answerB at h
  obtain ⟨e0, h⟩ := app_two h (by rw [leB_length, leB_length])
  have v : a.f0 = b.f0 := leB_inj 1 _ _ ha.v0 (by have := ha.v1; omega) hb.v0 (by have := hb.v1; omega) e0
  rw [← v] at h
  have na := ha.none; have nb := hb.none; have ba := ha.big; have bb := hb.big; have oa := ha.off; have ob := hb.off; have ca := ha.chain; have cb := hb.chain
  rw [← v] at nb bb ob cb
  by_cases h0 : a.f0 = 0
  · obtain ⟨a1, a2, a3, a4, a5⟩ := na h0
    obtain ⟨b1, b2, b3, b4, b5⟩ := nb h0
    cases a; cases b
    simp only at v a1 a2 a3 a4 a5 b1 b2 b3 b4 b5
    rw [v, a1, a2, a3, a4, a5, b1, b2, b3, b4, b5]
  · rw [if_neg h0, if_neg h0] at h
    obtain ⟨e1, h⟩ := app_two h (by rw [leB_length, leB_length])
    have m1 := ha.most; have m2 := hb.most
    have l1 : (a.f1.length : Int) = b.f1.length := leB_inj 4 _ _ (by omega) (by omega) (by omega) (by omega) e1
    obtain ⟨q1, h⟩ := flat_inj (f := spanB) (p := fitSp) (fun x hx => spanB_length hx) (fun x y hx hy => spanB_inj hx hy) a.f1 b.f1 ha.spans hb.spans (by omega) _ _ h
    have s1 := ha.starts; have s2 := hb.starts
    obtain ⟨q2, h⟩ := flat_inj (f := fun x => leB 8 (upB x)) (p := in64) (fun x hx => leB_length _ _) (fun x y hx hy => num8_inj hx hy) a.f2 b.f2 ha.st hb.st (by omega) _ _ h
    have hh : a.f3 = b.f3 ∧ numB8 a.f4 ++ (if a.f0 = 2 then leB 1 a.f5.length ++ a.f5.flatMap edgeB else []) = numB8 b.f4 ++ (if a.f0 = 2 then leB 1 b.f5.length ++ b.f5.flatMap edgeB else []) := by
      by_cases h3 : a.f0 = 3
      · rw [if_pos h3, if_pos h3, List.nil_append, List.nil_append] at h
        exact ⟨by rw [(ba h3).1, (bb h3).1], h⟩
      · rw [if_neg h3, if_neg h3, List.append_assoc, List.append_assoc] at h
        obtain ⟨e3, h⟩ := app_two h (by rw [leB_length, leB_length])
        have f1 := ha.few; have f2 := hb.few
        have l3 : (a.f3.length : Int) = b.f3.length := leB_inj 1 _ _ (by omega) (by omega) (by omega) (by omega) e3
        exact flat_inj (f := textB) (p := fun s => s.size ≤ 16) (fun x hx => textB_length hx) (fun x y hx hy => textB_inj) a.f3 b.f3 ha.hosts hb.hosts (by omega) _ _ h
    obtain ⟨q3, h⟩ := hh
    have hr : a.f4 = b.f4 ∧ a.f5 = b.f5 := by
      have hv := ha.v0; have hv1 := ha.v1
      rcases (show a.f0 = 1 ∨ a.f0 = 2 ∨ a.f0 = 3 by omega) with h1 | h2 | h3
      · obtain ⟨x1, x2⟩ := oa h1
        obtain ⟨y1, y2⟩ := ob h1
        obtain ⟨q4, _⟩ := flat_inj (f := fun x => leB 8 (upB x)) (p := in64) (fun x hx => leB_length _ _) (fun x y hx hy => num8_inj hx hy) a.f4 b.f4 ha.os hb.os (by rw [x1, y1, q3]) _ _ h
        exact ⟨q4, by rw [x2, y2]⟩
      · obtain ⟨x1, x2⟩ := ca h2
        obtain ⟨y1, y2⟩ := cb h2
        rw [x1, y1, if_pos h2, if_pos h2] at h
        obtain ⟨_, h⟩ := app_two h rfl
        obtain ⟨e5, h⟩ := app_two h (by rw [leB_length, leB_length])
        have l5 : (a.f5.length : Int) = b.f5.length := leB_inj 1 _ _ (by omega) (by omega) (by omega) (by omega) e5
        obtain ⟨q5, _⟩ := flat_inj (f := edgeB) (p := fitEd) (fun x hx => edgeB_length x) (fun x y hx hy => edgeB_inj hx hy) a.f5 b.f5 ha.edges hb.edges (by omega) [] [] (by rw [List.append_nil, List.append_nil]; exact h)
        exact ⟨by rw [x1, y1], q5⟩
      · obtain ⟨x1, x2, x3⟩ := ba h3
        obtain ⟨y1, y2, y3⟩ := bb h3
        exact ⟨by rw [x2, y2], by rw [x3, y3]⟩
    obtain ⟨q4, q5⟩ := hr
    cases a; cases b
    simp only at v q1 q2 q3 q4 q5
    rw [v, q1, q2, q3, q4, q5]
end Go.Proofs.YtljkikcclnbdaaaDoor.L

/- slices.Clone of bytes; what a Buffer does. -/
namespace Go.Proofs.YtljkikcclnbdaaaDoor.L
open Go.RowKit Go.Proofs.YtljkikcclnbdaaaDoor.Q Go.Proofs.YtljkikcclnbdaaaDoorW.PrintWords Go.Proofs.YtljkikcclnbdaaaDoorW.PrintLast Go.Proofs.YtljkikcclnbdaaaDoorW.PrintMore Go.Proofs.YtljkikcclnbdaaaDoorW.MapB Go.Proofs.YtljkikcclnbdaaaDoorW.Lib
set_option linter.unusedVariables false
set_option linter.unusedSimpArgs false
set_option maxHeartbeats 1000000 in
theorem cloneU_calls (l : List Int) (hl : l.length ≤ 140737488351232) (A : Option Addr) (c : Nat) (w : World) (hr : Kd.C (Kd.int .u8) w A l.length l) (hc : l.length ≤ c) :
    Calls Tryd.prog 48 #[.slice A l.length c] w fun e w' => ∃ v : Value, e = .returned v ∧ Kd.R (Kd.int .u8) 5 w' w.heap.size (fun _ => True) v l ∧ Below w.heap.size w w' := by
  have q : ∀ (w : World) (a : Option Addr) (n c n' c' : Nat), (binOp .eql 30 (.slice a n c) (.slice none n' c')).run Tryd.prog w = .ok (.bool a.isNone) w := fun w a n c n' c' => Go.Lib.run_eql_slice_nil w _ _ a n c n' c' Tryd.underlying30
  cases A with
  | none =>
    have h0 : l = [] := by
      cases l with
      | nil => rfl
      | cons x l => obtain ⟨ad, h, _⟩ := hr.2.2 (by simp); exact absurd h (by simp)
    subst h0
    go_enter Tryd.func48, Tryd.ntmps48
    go_wp2
    go_ret
    exact ⟨_, rfl, Kd.R_nil _ _ _ _ _, Below.refl _ _⟩
  | some ad =>
    have HR0 := Aside0.mk hr
    clear hr
    have HL := Aside0.mk hl
    clear hl
    go_enter Tryd.func48, Tryd.ntmps48
    go_wp2_with (first
      | ((with_reducible refine gate_dst (N := 5) rfl ?_); refine Kd.R_lit (Kd.int .u8) _ 5 ?hg (N := 5) ?hd (xs := ([] : List Int)) (inner := []) (ok := fun _ => True) (okp := fun _ => True) ?hr ?hp (fun _ hk => hk) trivial (Below.refl _ _) (Nat.le_refl _) (by simp) ?_; (case hd => rfl); (case hg => rfl); (case hr => first | (go_simp; done) | (go_simp; rfl)); (case hp => exact (Reps.none _ _)); intro v1 w1 ho hb hg_ hnew_; clear hg_ hnew_; have HO := Aside0.mk ho; have HB := Aside0.mk hb; clear ho hb)
      | ((with_reducible refine gate_builtin (b := .append) (xs := #[.tmp 5, .tmp 6]) rfl ?_); at_builtin; refine Kd.R_append_rows (Kd.int .u8) (w0 := w) w.heap.size rfl (.tmp 5) (.tmp 6) 30 5 (.int .u8 0) 1 rfl Tryd.underlying30 (by kernel_rfl) rfl (by decide) (by omega) v1 [] l _ _ _ (fun _ => True) (fun _ => False) rfl rfl ?aO ?aR (fun _ _ h => h) (fun _ h => h.elim) ?aF ?aB ?aS ?aL ?_; (case aR => exact (Kd.C_below HR0.out HB.out)); (case aB => exact HB.out); (case aF => exact (fun _ _ => trivial)); (case aO => exact HO.out); (case aS => exact HB.out.size); (case aL => have := HL.out; simp only [List.length_nil]; omega); intro v2 w2 ho hb hg hat; rw [List.nil_append] at ho; have HB2 := Aside0.mk hb; have HO2 := Aside0.mk ho; clear ho hb hg hat))
    go_ret
    exact ⟨_, rfl, HO2.out, HB2.out⟩
end Go.Proofs.YtljkikcclnbdaaaDoor.L

/- What is done with a Buffer: a byte, bytes, its bytes. -/
namespace Go.Proofs.YtljkikcclnbdaaaDoor.L
open Go.RowKit Go.Proofs.YtljkikcclnbdaaaDoor.Q Go.Proofs.YtljkikcclnbdaaaDoorW.PrintWords Go.Proofs.YtljkikcclnbdaaaDoorW.PrintLast Go.Proofs.YtljkikcclnbdaaaDoorW.PrintMore Go.Proofs.YtljkikcclnbdaaaDoorW.MapB Go.Proofs.YtljkikcclnbdaaaDoorW.Lib
set_option linter.unusedVariables false
set_option linter.unusedSimpArgs false

abbrev encU (l : List Int) : List Value := l.map (Value.int .u8)
theorem encU_one (l : List Int) : ∀ v ∈ encU l, v.oneCell' = true := by
  intro v hv
  obtain ⟨x, _, rfl⟩ := List.mem_map.1 hv
  rfl
/-- Block b is a Buffer that holds these bytes, made since w0. -/
def IsB (w0 : World) (b : Nat) (l : List Int) (w : World) : Prop := Go.Lib.IsBuffer 46 5 w0.heap.size b (encU l) w ∧ Below w0.heap.size w0 w
theorem IsB.alloc {w0 w : World} {b : Nat} {l : List Int} (h : IsB w0 b l w) (o : Obj) : IsB w0 b l (w.alloc o) := ⟨h.1.alloc o, below_alloc h.2 o⟩
theorem IsB.old {w0 w w' : World} {b : Nat} {l : List Int} (h : IsB w0 b l w) (hb : Below w.heap.size w w') : IsB w0 b l w' := ⟨h.1.old hb, below_step h.2 hb⟩
theorem IsB.drewN {w0 w : World} {b : Nat} {l : List Int} (h : IsB w0 b l w) (n : Nat) : IsB w0 b l (w.drewN n) := ⟨h.1.drewN n, Below.trans h.2 (pw_below_drewN (Below.refl _ _) n)⟩
theorem wbyte_calls {w0 w : World} {b : Nat} {l : List Int} (h : IsB w0 b l w) (c : Int) (hl : l.length + 1 ≤ 140737488355328) :
    Calls Tryd.prog 16 #[.pointer (some ⟨b, 0, none⟩), .int .u8 c] w fun e w' => e = .returned .nilIface ∧ IsB w0 b (l ++ [c]) w' := by
  refine (Any.Buffer_WriteByte Tryd.lays179 w0.heap.size b (encU l) c w h.1 h.2.size (encU_one l) (by rw [List.length_map]; exact hl)).mono ?_
  rintro e w' ⟨rfl, h1, h2⟩
  exact ⟨rfl, by rw [encU, List.map_append]; exact h1, Below.trans h.2 h2⟩
theorem write_calls {w0 w : World} {b : Nat} {l cs : List Int} (h : IsB w0 b l w) (a : Addr) (c : Nat) (hab : a.block ≠ b) (hsrc : ∀ j x, cs[j]? = some x → w.cell? (a.add j) = some (.int .u8 x)) (hl : l.length + cs.length ≤ 140737488355328) :
    Calls Tryd.prog 18 #[.pointer (some ⟨b, 0, none⟩), .slice (some a) cs.length c] w fun e w' => e = .returned (.tuple #[.int .i64 cs.length, .nilIface]) ∧ IsB w0 b (l ++ cs) w' := by
  refine (Any.Buffer_Write_any Tryd.lays180 w0.heap.size b (encU l) (encU cs) a cs.length c w h.1 h.2.size (encU_one l) (by rw [List.length_map]) hab (fun j v hj => ?_) (encU_one cs) (by rw [List.length_map]; exact hl)).mono ?_
  · rw [encU, List.getElem?_map] at hj
    obtain ⟨x, hx, rfl⟩ := Option.map_eq_some_iff.1 hj
    exact hsrc j x hx
  · rintro e w' ⟨rfl, h1, h2, _⟩
    exact ⟨rfl, by rw [encU, List.map_append]; exact h1, Below.trans h.2 h2⟩
theorem bytes_calls {w0 w : World} {b : Nat} {l : List Int} (h : IsB w0 b l w) :
    Calls Tryd.prog 17 #[.pointer (some ⟨b, 0, none⟩)] w fun e w' => ∃ v, e = .returned v ∧ Kd.R (Kd.int .u8) 5 w' w0.heap.size (fun _ => True) v l ∧ Below w0.heap.size w0 w' := by
  refine (Any.Buffer_Bytes Tryd.lays183 w0.heap.size b (encU l) w h.1).mono ?_
  rintro e w' ⟨v, rfl, h1, n, rfl⟩
  exact ⟨v, rfl, Kd.R_of_own (enc := Value.int .u8) (by rw [List.length_map] at h1; exact h1) (fun _ _ => trivial), Below.trans h.2 (pw_below_drewN (Below.refl _ _) n)⟩
/-- The bytes of a row, as they lie. -/
theorem row_src {w : World} {base : Nat} {ok : Nat → Prop} {v : Value} {cs : List Int} (h : Kd.R (Kd.int .u8) 5 w base ok v cs) (hp : 0 < cs.length) : ∃ g cap, v = .slice (some ⟨g, 0, none⟩) cs.length cap ∧ base ≤ g ∧ g < w.heap.size ∧ ∀ j x, cs[j]? = some x → w.cell? ((⟨g, 0, none⟩ : Addr).add j) = some (.int .u8 x) := by
  have ho := Kd.own_of_R h
  rcases ho.2 with ⟨_, h0⟩ | ⟨g, cap, cur, e, hg, hh, hcap, _, hcs, ht⟩
  · omega
  · refine ⟨g, cap, e, hg, (Array.getElem?_eq_some_iff.1 hh).1, fun j x hj => ?_⟩
    have hjl : j < cs.length := (List.getElem?_eq_some_iff.1 hj).1
    have h3 := congrArg (·[j]?) ht
    simp only [Nat.mul_one, List.getElem?_take] at h3
    rw [if_pos hjl, Array.getElem?_toList] at h3
    have h4 : cur[j]? = some (.int .u8 x) := by rw [h3]; simp [encs, hj]
    rw [Go.Lib.addr_add, Nat.zero_add]
    exact (blk_cell hh j).trans h4
end Go.Proofs.YtljkikcclnbdaaaDoor.L

-- Written by wip/tools/gp.py, a program of this session round the kit's printer. Lean checks it.
namespace Go.Proofs.YtljkikcclnbdaaaDoor.P
open Go.RowKit Go.Proofs.YtljkikcclnbdaaaDoor.Q Go.Proofs.YtljkikcclnbdaaaDoorW.PrintWords Go.Proofs.YtljkikcclnbdaaaDoorW.PrintLast Go.Proofs.YtljkikcclnbdaaaDoorW.PrintMore
attribute [local go_sem] max2_int min2_int max_two min_two max_three min_three max_four min_four   -- for this text's walks alone
set_option linter.unusedVariables false
set_option linter.unusedSimpArgs false




theorem info5 : (Tryd.prog.info? 5).map (fun i => (i.zero, i.size, i.bytes)) = some (some (.int .u8 0), 1, 1) := by kernel_rfl
end Go.Proofs.YtljkikcclnbdaaaDoor.P

-- Written by wip/tools/gp.py, a program of this session round the kit's printer. Lean checks it.
namespace Go.Proofs.YtljkikcclnbdaaaDoor.P
open Go.RowKit Go.Proofs.YtljkikcclnbdaaaDoor.Q Go.Proofs.YtljkikcclnbdaaaDoorW.PrintWords Go.Proofs.YtljkikcclnbdaaaDoorW.PrintLast Go.Proofs.YtljkikcclnbdaaaDoorW.PrintMore
attribute [local go_sem] max2_int min2_int max_two min_two max_three min_three max_four min_four   -- for this text's walks alone
set_option linter.unusedVariables false
set_option linter.unusedSimpArgs false

/-! ### pack_count: function 49 -/
def pack_count.f (a0 : Int) : Option (Int) := some (mn (mx a0 0) 8)
set_option maxHeartbeats 8000000 in
set_option maxRecDepth 100000 in
theorem pack_count.calls (a0 : Int) (r : Int) (w : World) (h : pack_count.f a0 = some r) :
    Calls Tryd.prog 49 #[.int .i64 a0] w fun e w' => e = .returned (.int .i64 r) ∧ Below w.heap.size w w' := by
  have HB := Aside0.mk (Below.refl w.heap.size w)
  have H : (some (mn (mx a0 0) 8)) = some r := h
  clear h
  obtain ⟨ji2, hji2⟩ : ∃ j_ : Int, (mx a0 0) = j_ := ⟨_, rfl⟩
  replace H : (some (mn (ji2) 8)) = some r := by first | (rw [hji2] at H; exact H) | (simp only [hji2] at H ⊢; exact H)
  (try (have hji2l : 0 ≤ ji2 := by (rw [← hji2]; unfold mx; (repeat' split) <;> omega)))
  (try (have hji2m : 0 ≤ ji2 := by omega))
  have hji2_ : (if a0 < 0 then 0 else a0) = ji2 := hji2
  obtain ⟨ji3, hji3⟩ : ∃ j_ : Int, (mn (ji2) 8) = j_ := ⟨_, rfl⟩
  replace H : (some ji3) = some r := by first | (rw [hji3] at H; exact H) | (simp only [hji3] at H ⊢; exact H)
  have hji3_ : (if 8 < (ji2) then 8 else (ji2)) = ji3 := hji3
  obtain rfl := Option.some.inj H
  go_enter Tryd.func49, Tryd.ntmps49
  go_wp2
  go_ret
  exact ⟨by first | rfl | (simp [errW_none, errW_some] <;> rfl) | (simp only [← hji2, ← hji3]; first | rfl | (simp [errW_none, errW_some] <;> rfl)) | (simp [*, errW_none, errW_some] <;> rfl), by repeat (first | (with_reducible first | exact HB.out | apply below_alloc | apply pw_below_drewN | apply below_drew1) | exact HB.out)⟩

/-! ### slices_Clone_byte_byte: function 48 (given) -/
def slices_Clone_byte_byte.f (l0 : List Int) : Option (List Int) := if l0.length ≤ 140737488351232 then some l0 else none
theorem slices_Clone_byte_byte.calls (A0 : Option Addr) (c0 : Nat) (l0 : List Int) (r : List Int) (w : World) (hr0 : Kd.C (Kd.int .u8) w A0 l0.length l0) (hc0 : l0.length ≤ c0) (h : slices_Clone_byte_byte.f l0 = some r) :
    Calls Tryd.prog 48 #[.slice A0 l0.length c0] w fun e w' => ∃ v0_ : Value, e = .returned (v0_) ∧ Kd.R (Kd.int .u8) 5 w' w.heap.size (fun _ => True) v0_ r ∧ Below w.heap.size w w' := by
  unfold slices_Clone_byte_byte.f at h
  split at h
  · rename_i hl
    obtain rfl := Option.some.inj h
    exact L.cloneU_calls l0 hl A0 c0 w hr0 hc0
  · cases h

/-! ### pack_PutText: function 22 -/
def pack_PutText.f (l0 : List Int) (a1 : ByteArray) : Option (List Int) := (slices_Clone_byte_byte.f l0).bind fun t101 => (if (a1.size : Int) > 16 then (some t101) else (if t101.length < 140737488355328 then ((some (t101 ++ [((a1.size : Int)) % 256] : List Int)).bind fun y104 => (if y104.length + a1.size < 140737488355328 then ((some (y104 ++ bytesOf a1 : List Int)).bind fun y107 => (if 0 ≤ (wrap64 (16 - (a1.size : Int))) then (if y107.length + (wrap64 (16 - (a1.size : Int)) : Int).toNat < 140737488355328 then (some (y107 ++ List.replicate (wrap64 (16 - (a1.size : Int)) : Int).toNat 0)) else (none)) else (none))) else (none))) else (none)))
set_option maxHeartbeats 8000000 in
set_option maxRecDepth 100000 in
theorem pack_PutText.calls (A0 : Option Addr) (c0 : Nat) (l0 : List Int) (a1 : ByteArray) (r : List Int) (w : World) (hr0 : Kd.C (Kd.int .u8) w A0 l0.length l0) (hc0 : l0.length ≤ c0) (h : pack_PutText.f l0 a1 = some r) :
    Calls Tryd.prog 22 #[.slice A0 l0.length c0, .string a1] w fun e w' => ∃ v0_ : Value, e = .returned (v0_) ∧ Kd.R (Kd.int .u8) 5 w' w.heap.size (fun _ => True) v0_ r ∧ Below w.heap.size w w' := by
  have HR0 := Aside0.mk hr0
  have HC0 := Aside0.mk hc0
  clear hr0 hc0
  have HB := Aside0.mk (Below.refl w.heap.size w)
  have H : ((slices_Clone_byte_byte.f l0).bind fun t101 => (if (a1.size : Int) > 16 then (some t101) else (if t101.length < 140737488355328 then ((some (t101 ++ [((a1.size : Int)) % 256] : List Int)).bind fun y104 => (if y104.length + a1.size < 140737488355328 then ((some (y104 ++ bytesOf a1 : List Int)).bind fun y107 => (if 0 ≤ (wrap64 (16 - (a1.size : Int))) then (if y107.length + (wrap64 (16 - (a1.size : Int)) : Int).toNat < 140737488355328 then (some (y107 ++ List.replicate (wrap64 (16 - (a1.size : Int)) : Int).toNat 0)) else (none)) else (none))) else (none))) else (none)))) = some r := h
  clear h
  replace H := Option.bind_eq_some_iff.mp H
  obtain ⟨t101, A30, H⟩ := H
  replace H : (if (a1.size : Int) > 16 then (some t101) else (if t101.length < 140737488355328 then ((some (t101 ++ [((a1.size : Int)) % 256] : List Int)).bind fun y104 => (if y104.length + a1.size < 140737488355328 then ((some (y104 ++ bytesOf a1 : List Int)).bind fun y107 => (if 0 ≤ (wrap64 (16 - (a1.size : Int))) then (if y107.length + (wrap64 (16 - (a1.size : Int)) : Int).toNat < 140737488355328 then (some (y107 ++ List.replicate (wrap64 (16 - (a1.size : Int)) : Int).toNat 0)) else (none)) else (none))) else (none))) else (none))) = some r := H
  have A3 := Aside0.mk A30
  clear A30
  by_cases c4 : (a1.size : Int) > 16
  · rw [if_pos c4] at H
    have c4b0 : decide (16 < (a1.size : Int)) = true := decide_eq_true c4
    have c4b1 : decide (16 < a1.size) = true := decide_eq_true (by omega)
    clear c4
    obtain rfl := Option.some.inj H
    go_enter Tryd.func22, Tryd.ntmps22
    go_wp2_with (first | ((with_reducible refine gate_callee (f := 48) rfl ?_); refine goesL_ (some 7) rfl rfl Tryd.func48 (by kernel_rfl) rfl #[.slice A0 l0.length c0] rfl (by (try simp only [List.map_toArray, List.map_cons, List.map_nil]); first | done | rfl | (simp only [List.length_drop, List.length_take]; rfl)) ?_; (with_reducible refine (slices_Clone_byte_byte.calls _ _ l0 t101 _ ?side1 ?side2 A3.out).mono ?_); (case side1 => repeat (first | exact HR0.out | (with_reducible refine Kd.C_alloc ?_ _) | (with_reducible refine Kd.C_drewN ?_ _) | (with_reducible refine Kd.C_drew ?_))); (case side2 => exact HC0.out); rintro e w5 ⟨v102, rfl, ho0, hb⟩; refine ⟨_, rfl, ?_⟩; have n0_ := Aside0.mk (Kd.R_lower ho0 (below_size (by repeat (first | (with_reducible first | exact HB.out | apply below_alloc | apply pw_below_drewN | apply below_drew1) | exact HB.out)))); have n1_ := Aside0.mk (below_step (by repeat (first | (with_reducible first | exact HB.out | apply below_alloc | apply pw_below_drewN | apply below_drew1) | exact HB.out)) hb); clear HB; have HO103 := n0_; have HB := n1_; clear n0_ n1_; (try clear hb); (try clear hb2); (try clear hk); (try clear hi); (try clear ho0)))
    go_ret
    exact ⟨_, by first | rfl | (simp [errW_none, errW_some] <;> rfl) | (simp [*, errW_none, errW_some] <;> rfl), by (with_reducible repeat (first | apply Kd.R_alloc | apply Kd.R_drewN | apply Kd.R_drew)); exact HO103.out, by repeat (first | (with_reducible first | exact HB.out | apply below_alloc | apply pw_below_drewN | apply below_drew1) | exact HB.out)⟩
  · rw [if_neg c4] at H
    have c4b0 : decide (16 < (a1.size : Int)) = false := decide_eq_false c4
    have c4b1 : decide (16 < a1.size) = false := decide_eq_false (by omega)
    clear c4
    by_cases c6 : t101.length < 140737488355328
    · rw [if_pos c6] at H
      have LMc6 := Aside0.mk c6
      clear c6
      obtain ⟨y104, hy104⟩ : ∃ y_ : List Int, y_ = (t101 ++ [((a1.size : Int)) % 256]) := ⟨_, rfl⟩
      replace H : (if y104.length + a1.size < 140737488355328 then ((some (y104 ++ bytesOf a1 : List Int)).bind fun y107 => (if 0 ≤ (wrap64 (16 - (a1.size : Int))) then (if y107.length + (wrap64 (16 - (a1.size : Int)) : Int).toNat < 140737488355328 then (some (y107 ++ List.replicate (wrap64 (16 - (a1.size : Int)) : Int).toNat 0)) else (none)) else (none))) else (none)) = some r := by first | (rw [hy104]; with_reducible exact H) | (have H2_ := (Option.bind_some _ _).symm.trans H; rw [hy104]; with_reducible exact H2_) | (have H2_ := (Option.bind_some _ _).symm.trans H; with_reducible exact H2_) | with_reducible exact H | (rw [hy104]; exact H) | exact H
      have Ny104 := Aside0.mk hy104
      clear hy104
      by_cases c7 : y104.length + a1.size < 140737488355328
      · rw [if_pos c7] at H
        have LMc7 := Aside0.mk c7
        clear c7
        obtain ⟨y107, hy107⟩ : ∃ y_ : List Int, y_ = (y104 ++ bytesOf a1) := ⟨_, rfl⟩
        replace H : (if 0 ≤ (wrap64 (16 - (a1.size : Int))) then (if y107.length + (wrap64 (16 - (a1.size : Int)) : Int).toNat < 140737488355328 then (some (y107 ++ List.replicate (wrap64 (16 - (a1.size : Int)) : Int).toNat 0)) else (none)) else (none)) = some r := by first | (rw [hy107]; with_reducible exact H) | (have H2_ := (Option.bind_some _ _).symm.trans H; rw [hy107]; with_reducible exact H2_) | (have H2_ := (Option.bind_some _ _).symm.trans H; with_reducible exact H2_) | with_reducible exact H | (rw [hy107]; exact H) | exact H
        have Ny107 := Aside0.mk hy107
        clear hy107
        obtain ⟨ji8, hji8⟩ : ∃ j_ : Int, (wrap64 (16 - (a1.size : Int))) = j_ := ⟨_, rfl⟩
        replace H : (if 0 ≤ (ji8) then (if y107.length + (ji8 : Int).toNat < 140737488355328 then (some (y107 ++ List.replicate (ji8 : Int).toNat 0)) else (none)) else (none)) = some r := by first | (rw [hji8] at H; exact H) | (simp only [hji8] at H ⊢; exact H)
        (try rw [hji8] at A3)
        have hji8w : (IntKind.i64.wrap (16 - (a1.size : Int))) = ji8 := (i64_w _).trans hji8
        by_cases c9 : 0 ≤ (ji8)
        · rw [if_pos c9] at H
          have c9b0 := eq_true c9
          have c9b1 : decide (0 ≤ (ji8)) = true := decide_eq_true c9
          clear c9
          by_cases c10 : y107.length + (ji8 : Int).toNat < 140737488355328
          · rw [if_pos c10] at H
            have LMc10 := Aside0.mk c10
            clear c10
            obtain ⟨y110, hy110⟩ : ∃ y_ : List Int, y_ = (y107 ++ List.replicate (ji8 : Int).toNat 0) := ⟨_, rfl⟩
            replace H : (some y110) = some r := by first | (rw [hy110]; with_reducible exact H) | (have H2_ := (Option.bind_some _ _).symm.trans H; rw [hy110]; with_reducible exact H2_) | (have H2_ := (Option.bind_some _ _).symm.trans H; with_reducible exact H2_) | with_reducible exact H | (rw [hy110]; exact H) | exact H
            have Ny110 := Aside0.mk hy110
            clear hy110
            obtain rfl := Option.some.inj H
            go_enter Tryd.func22, Tryd.ntmps22
            go_wp2_with (first | ((with_reducible refine gate_callee (f := 48) rfl ?_); refine goesL_ (some 7) rfl rfl Tryd.func48 (by kernel_rfl) rfl #[.slice A0 l0.length c0] rfl (by (try simp only [List.map_toArray, List.map_cons, List.map_nil]); first | done | rfl | (simp only [List.length_drop, List.length_take]; rfl)) ?_; (with_reducible refine (slices_Clone_byte_byte.calls _ _ l0 t101 _ ?side1 ?side2 A3.out).mono ?_); (case side1 => repeat (first | exact HR0.out | (with_reducible refine Kd.C_alloc ?_ _) | (with_reducible refine Kd.C_drewN ?_ _) | (with_reducible refine Kd.C_drew ?_))); (case side2 => exact HC0.out); rintro e w11 ⟨v102, rfl, ho0, hb⟩; refine ⟨_, rfl, ?_⟩; have n0_ := Aside0.mk (Kd.R_lower ho0 (below_size (by repeat (first | (with_reducible first | exact HB.out | apply below_alloc | apply pw_below_drewN | apply below_drew1) | exact HB.out)))); have n1_ := Aside0.mk (below_step (by repeat (first | (with_reducible first | exact HB.out | apply below_alloc | apply pw_below_drewN | apply below_drew1) | exact HB.out)) hb); clear HB; have HO103 := n0_; have HB := n1_; clear n0_ n1_; (try clear hb); (try clear hb2); (try clear hk); (try clear hi); (try clear ho0)) | ((with_reducible refine gate_builtin (b := .append) (xs := #[.tmp 12, .tmp 16]) rfl ?_); at_builtin; refine Kd.R_append (Kd.int .u8) (w0 := w) w.heap.size rfl (.tmp 12) (.tmp 16) 30 5 (.int .u8 0) 1 rfl Tryd.underlying30 info5 rfl (by decide) (by omega) v102 t101 (((a1.size : Int)) % 256) [.int .u8 (((a1.size : Int)) % 256)] (fun _ => True) (fun _ => False) rfl rfl ?aP (fun _ hk => hk.elim) ?aF ?aO ?aB ?aS ?aL ?_; (case aP => exact rfl); (case aB => exact (by repeat (first | (with_reducible first | exact HB.out | apply below_alloc | apply pw_below_drewN | apply below_drew1) | exact HB.out))); (case aF => exact (fun _ _ => trivial)); (case aO => exact (by (with_reducible repeat (first | apply Kd.R_alloc | apply Kd.R_drewN | apply Kd.R_drew)); exact HO103.out)); (case aS => exact (below_size (by repeat (first | (with_reducible first | exact HB.out | apply below_alloc | apply pw_below_drewN | apply below_drew1) | exact HB.out)))); (case aL => have := LMc6.out; omega); intro v105 w12 ho hb hg hat; rw [← Ny104.out] at ho; have n0_ := Aside0.mk (hb); have n1_ := Aside0.mk (ho); clear HB; clear HO103; have HB := n0_; have HO106 := n1_; clear n0_ n1_; clear ho hb hg hat) | (at_builtin; refine print_append_str (w0 := w) w.heap.size rfl (.tmp 17) _ 30 9 5 rfl Tryd.underlying30 Tryd.underlying9 info5 v105 y104 a1 rfl rfl ?aO ?aB ?aS ?aL ?_; (case aB => exact (by repeat (first | (with_reducible first | exact HB.out | apply below_alloc | apply pw_below_drewN | apply below_drew1) | exact HB.out))); (case aO => exact (Kd.own_of_R (by (with_reducible repeat (first | apply Kd.R_alloc | apply Kd.R_drewN | apply Kd.R_drew)); exact HO106.out))); (case aS => exact (below_size (by repeat (first | (with_reducible first | exact HB.out | apply below_alloc | apply pw_below_drewN | apply below_drew1) | exact HB.out)))); (case aL => have := LMc7.out; omega); intro v108 w13 ho0 hb hg; have ho := Kd.R_of_own (h1 := fun _ => rfl) (ok := fun _ => True) ho0 (fun _ _ => trivial); clear ho0; have hat := True.intro; rw [← Ny107.out] at ho; change Kd.R (Kd.int .u8) 5 w13 w.heap.size (fun _ => True) v108 y107 at ho; have n0_ := Aside0.mk (hb); have n1_ := Aside0.mk (ho); clear HB; clear HO106; have HB := n0_; have HO109 := n1_; clear n0_ n1_; clear ho hb hg hat) | (at_builtin; refine Kd.R_append_zeros (Kd.int .u8) (w0 := w) w.heap.size rfl (.tmp 20) (.tmp 23) 30 3 5 (.int .u8 0) 1 rfl Tryd.underlying30 Tryd.underlying3 info5 rfl (by decide) (by omega) v108 y107 0 (ji8 : Int) (fun _ => True) rfl rfl rfl ?aF ?aO (of_decide_eq_true (by first | (with_reducible assumption) | assumption)) ?aB ?aS ?aL ?_; (case aB => exact (by repeat (first | (with_reducible first | exact HB.out | apply below_alloc | apply pw_below_drewN | apply below_drew1) | exact HB.out))); (case aF => exact (fun _ _ => trivial)); (case aO => exact (by (with_reducible repeat (first | apply Kd.R_alloc | apply Kd.R_drewN | apply Kd.R_drew)); exact HO109.out)); (case aS => exact (below_size (by repeat (first | (with_reducible first | exact HB.out | apply below_alloc | apply pw_below_drewN | apply below_drew1) | exact HB.out)))); (case aL => have := LMc10.out; omega); intro v111 w14 ho hb hg hat; rw [← Ny110.out] at ho; have n0_ := Aside0.mk (hb); have n1_ := Aside0.mk (ho); clear HB; clear HO109; have HB := n0_; have HO112 := n1_; clear n0_ n1_; clear ho hb hg hat))
            go_ret
            exact ⟨_, by first | rfl | (simp [errW_none, errW_some] <;> rfl) | (simp only [← hji8]; first | rfl | (simp [errW_none, errW_some] <;> rfl)) | (simp [*, errW_none, errW_some] <;> rfl), by (with_reducible repeat (first | apply Kd.R_alloc | apply Kd.R_drewN | apply Kd.R_drew)); exact HO112.out, by repeat (first | (with_reducible first | exact HB.out | apply below_alloc | apply pw_below_drewN | apply below_drew1) | exact HB.out)⟩
          · rw [if_neg c10] at H
            exact absurd H (by simp)
        · rw [if_neg c9] at H
          exact absurd H (by simp)
      · rw [if_neg c7] at H
        exact absurd H (by simp)
    · rw [if_neg c6] at H
      exact absurd H (by simp)

end Go.Proofs.YtljkikcclnbdaaaDoor.P

/- pack.Put: a number's bytes behind others. -/
namespace Go.Proofs.YtljkikcclnbdaaaDoor.L
open Go.RowKit Go.Proofs.YtljkikcclnbdaaaDoor.Q Go.Proofs.YtljkikcclnbdaaaDoor.P Go.Proofs.YtljkikcclnbdaaaDoorW.PrintWords Go.Proofs.YtljkikcclnbdaaaDoorW.PrintLast Go.Proofs.YtljkikcclnbdaaaDoorW.PrintMore Go.Proofs.YtljkikcclnbdaaaDoorW.MapB Go.Proofs.YtljkikcclnbdaaaDoorW.Lib
set_option linter.unusedVariables false
set_option linter.unusedSimpArgs false
def intV : Value → Int | .int _ q => q | _ => 0
set_option maxHeartbeats 4000000 in
set_option maxRecDepth 1000000 in
theorem packput_calls (l : List Int) (A : Option Addr) (c : Nat) (n size : Int) (w : World) (hr : Kd.C (Kd.int .u8) w A l.length l) (hc : l.length ≤ c) (hl : l.length ≤ 140737488351000) (h0 : 0 ≤ n) (h1 : n < 18446744073709551616) (s0 : 0 ≤ size) (s1 : size ≤ 8) :
    Calls Tryd.prog 19 #[.slice A l.length c, .int .u64 n, .int .i64 size] w fun e w' => ∃ v : Value, e = .returned v ∧ Kd.R (Kd.int .u8) 5 w' w.heap.size (fun _ => True) v (l ++ leB size.toNat n) ∧ Below w.heap.size w w' := by
  have QC := Aside0.mk (cloneU_calls l (by omega) A c w hr hc)
  have QN : Aside0 (∀ W, Calls Tryd.prog 49 #[.int .i64 size] W fun e w' => e = .returned (.int .i64 size) ∧ Below W.heap.size W w') := ⟨fun W => pack_count.calls size size W (by unfold pack_count.f mn mx; congr 1; (repeat' split) <;> omega)⟩
  have HL := Aside0.mk hl
  have HN := Aside0.mk (And.intro h0 h1)
  have HS := Aside0.mk (And.intro s0 s1)
  clear hr hc hl h0 h1 s0 s1
  go_enter Tryd.func19, Tryd.ntmps19
  go_wp2_with fail
  refine wp_scope_jumps 0 (fun a' w' => ∃ (m x : Int) (acc : List Int) (v u9 u10 u11 u12 u13 u14 u15 u16 u17 u18 u19 u20 u21 u22 u23 u24 : Value), a' = { tmps := #[.slice A l.length c, .int .u64 x, .int .i64 size, undef, undef, undef, .slice none 0 0, v, .int .i64 m, u9, u10, u11, u12, u13, u14, u15, u16, u17, u18, u19, u20, u21, u22, u23, u24], defers := [] } ∧ Aside0 (0 ≤ m ∧ m ≤ 8) ∧ Aside0 (0 ≤ x ∧ x < 18446744073709551616) ∧ Aside0 (acc.length + m.toNat ≤ 140737488351010) ∧ Aside0 (acc ++ leB m.toNat x = l ++ leB size.toNat n) ∧ Aside0 (Kd.R (Kd.int .u8) 5 w' w.heap.size (fun _ => True) v acc) ∧ Aside0 (Below w.heap.size w w')) (fun a' _ => (intV (a'.tmps.getD 8 undef)).toNat) rfl ?_ ?_
  · go_wp2_with (first
      | (go_at_call 48; go_loud (refine QC.out.mono ?_; rintro e w1 ⟨v1, rfl, ho, hb⟩; have HO := Aside0.mk ho; have HB := Aside0.mk hb; clear ho hb))
      | (go_at_call 49; go_loud (refine (QN.out _).mono ?_; rintro e w2 ⟨rfl, hb⟩; have HO2 := Aside0.mk (Kd.R_below HO.out hb); have HB2 := Aside0.mk (below_step HB.out hb); clear hb)))
    have HLn := Aside0.mk (show l.length + size.toNat ≤ 140737488351010 from by have := HL.out; have := HS.out; omega)
    obtain ⟨A7, n7, e7⟩ := Kd.R_slice HO2.out
    subst e7
    by_cases hm : 0 < size
    · have hb := decide_eq_true hm
      have hK : wrap64 (size - 1) = size - 1 := by unfold wrap64; have := HS.out; omega
      go_step3
      go_wp2_with (first
        | ((with_reducible refine gate_builtin (b := .append) (xs := #[.tmp 15, .tmp 18]) rfl ?_); at_builtin; go_loud (refine Kd.R_append (Kd.int .u8) (w0 := w) w.heap.size rfl (.tmp 15) (.tmp 18) 30 5 (.int .u8 0) 1 rfl Tryd.underlying30 (by kernel_rfl) rfl (by decide) (by omega) (.slice A7 l.length n7) l (n % 256) [.int .u8 (n % 256)] (fun _ => True) (fun _ => False) rfl ?aX ?aP (fun _ hk => hk.elim) ?aF ?aO ?aB ?aS ?aL ?_; (case aX => first | rfl | (go_simp; done) | (simp; done)); (case aP => exact rfl); (case aB => exact HB2.out); (case aF => exact (fun _ _ => trivial)); (case aO => exact HO2.out); (case aS => exact HB2.out.size); (case aL => have := HLn.out; omega); intro v5 w5 ho hb hg5 hat5; have HO5 := Aside0.mk ho; have HB5 := Aside0.mk hb; clear ho hb hg5 hat5)))
      rw [hK]
      go_step3
      refine ⟨rfl, size - 1, n / 256, l ++ [n % 256], v5, _, _, _, _, _, _, _, _, _, _, _, _, _, _, _, _, rfl, ⟨by omega, by have := HS.out; omega⟩, ⟨by have := HN.out; omega, by have := HN.out; omega⟩, ⟨?_⟩, ⟨?_⟩, HO5, HB5⟩
      · have := HLn.out
        rw [List.length_append, List.length_cons, List.length_nil]; omega
      · have e : size.toNat = (size - 1).toNat + 1 := by omega
        rw [e, leB, List.append_assoc]; rfl
    · have hb := decide_eq_false hm
      go_step3
      go_wp2_with fail
      simp only [Exit.jump]
      go_ret
      have e : size.toNat = 0 := by have := HS.out; omega
      rw [e, leB, List.append_nil]
      exact ⟨_, rfl, HO2.out, HB2.out⟩
  · rintro a' w' ⟨m, x, acc, v, u9, u10, u11, u12, u13, u14, u15, u16, u17, u18, u19, u20, u21, u22, u23, u24, rfl, HM, HX, HLn, HEq, HO2, HB2⟩
    obtain ⟨A7, n7, e7⟩ := Kd.R_slice HO2.out
    subst e7
    by_cases hm : 0 < m
    · have hb := decide_eq_true hm
      have hK : wrap64 (m - 1) = m - 1 := by unfold wrap64; have := HM.out; omega
      go_wp2_with (first
        | ((with_reducible refine gate_builtin (b := .append) (xs := #[.tmp 15, .tmp 18]) rfl ?_); at_builtin; go_loud (refine Kd.R_append (Kd.int .u8) (w0 := w) w.heap.size rfl (.tmp 15) (.tmp 18) 30 5 (.int .u8 0) 1 rfl Tryd.underlying30 (by kernel_rfl) rfl (by decide) (by omega) (.slice A7 acc.length n7) acc (x % 256) [.int .u8 (x % 256)] (fun _ => True) (fun _ => False) rfl ?aX ?aP (fun _ hk => hk.elim) ?aF ?aO ?aB ?aS ?aL ?_; (case aX => first | rfl | (go_simp; done) | (simp; done)); (case aP => exact rfl); (case aB => exact HB2.out); (case aF => exact (fun _ _ => trivial)); (case aO => exact HO2.out); (case aS => exact HB2.out.size); (case aL => have := HLn.out; omega); intro v5 w5 ho hb hg5 hat5; have HO5 := Aside0.mk ho; have HB5 := Aside0.mk hb; clear ho hb hg5 hat5)))
      rw [hK]
      go_step3
      refine ⟨rfl, ⟨m - 1, x / 256, acc ++ [x % 256], v5, _, _, _, _, _, _, _, _, _, _, _, _, _, _, _, _, rfl, ⟨by omega, by have := HM.out; omega⟩, ⟨by have := HX.out; omega, by have := HX.out; omega⟩, ⟨?_⟩, ⟨?_⟩, HO5, HB5⟩, ?_⟩
      · have := HLn.out
        rw [List.length_append, List.length_cons, List.length_nil]; omega
      · have e : m.toNat = (m - 1).toNat + 1 := by omega
        rw [← HEq.out, e, leB, List.append_assoc]; rfl
      · simp only [intV, Array.getD]
        have := HM.out
        simp
        omega
    · have hb := decide_eq_false hm
      go_wp2_with fail
      simp only [Exit.jump]
      go_ret
      have e : m.toNat = 0 := by have := HM.out; omega
      have h := HEq.out
      rw [e, leB, List.append_nil] at h
      rw [← h]
      exact ⟨_, rfl, HO2.out, HB2.out⟩
end Go.Proofs.YtljkikcclnbdaaaDoor.L

