/- Texts joined by wip/tools/merge.py: ArrE Base0. -/
import Derived.ChangeKeysEq
import Derived.Test.YtmfdhcgdibefiaaJStatsTallies1
import Derived.Lib.Bytealg
import Derived.Lib.SlicesCompact
import Derived.Lib.RowBridge
/- Arrays, compared. -/
namespace Go.Proofs.YtmfdhcgdibefiaaW.ArrE
open Go.RowKit Go.Proofs.YtmfdhcgdibefiaaW.PrintWords
section
variable {P : Program} {w : World} {d c i : Nat} {e : TypeId} {xs ys : Array Value} {a b : Value} {r s : Bool} {is : List Nat}
end
end Go.Proofs.YtmfdhcgdibefiaaW.ArrE

/- Plain lists: orders told by -1, 0, 1; which records count; each text once, in order. -/
namespace Go.Proofs.Ytmfdhcgdibefiaa.L
set_option linter.unusedVariables false
def cmpB (a b : ByteArray) : Int := Go.Lib.compareBytes a.data.toList b.data.toList
/-- An order, told by -1, 0, 1. -/
structure IsCmp {α : Type} (c : α → α → Int) : Prop where
  rng : ∀ a b, -1 ≤ c a b ∧ c a b ≤ 1
  anti : ∀ a b, c b a = - c a b
  zero : ∀ a b, c a b = 0 ↔ a = b
  trans : ∀ a b d, c a b ≤ 0 → c b d ≤ 0 → c a d ≤ 0
theorem cmpL_rng : ∀ a b : List UInt8, -1 ≤ Go.Lib.compareBytes a b ∧ Go.Lib.compareBytes a b ≤ 1
  | [], [] => by simp [Go.Lib.compareBytes]
  | [], _ :: _ => by simp [Go.Lib.compareBytes]
  | _ :: _, [] => by simp [Go.Lib.compareBytes]
  | x :: a, y :: b => by
    have := cmpL_rng a b
    simp only [Go.Lib.compareBytes]; (repeat' split) <;> omega
theorem cmpL_anti : ∀ a b : List UInt8, Go.Lib.compareBytes b a = - Go.Lib.compareBytes a b
  | [], [] => by simp [Go.Lib.compareBytes]
  | [], _ :: _ => by simp [Go.Lib.compareBytes]
  | _ :: _, [] => by simp [Go.Lib.compareBytes]
  | x :: a, y :: b => by
    have ih := cmpL_anti a b
    simp only [Go.Lib.compareBytes, UInt8.lt_iff_toNat_lt]; (repeat' split) <;> omega
theorem cmpL_zero : ∀ a b : List UInt8, Go.Lib.compareBytes a b = 0 ↔ a = b
  | [], [] => by simp [Go.Lib.compareBytes]
  | [], _ :: _ => by simp [Go.Lib.compareBytes]
  | _ :: _, [] => by simp [Go.Lib.compareBytes]
  | x :: a, y :: b => by
    have ih := cmpL_zero a b
    simp only [Go.Lib.compareBytes, UInt8.lt_iff_toNat_lt, List.cons.injEq, ← UInt8.toNat_inj, ← ih]; (repeat' split) <;> omega
theorem cmpL_trans : ∀ a b d : List UInt8, Go.Lib.compareBytes a b ≤ 0 → Go.Lib.compareBytes b d ≤ 0 → Go.Lib.compareBytes a d ≤ 0
  | [], _, [] => by simp [Go.Lib.compareBytes]
  | [], _, _ :: _ => by simp [Go.Lib.compareBytes]
  | _ :: _, [], _ => by simp [Go.Lib.compareBytes]
  | _ :: _, _ :: _, [] => by simp [Go.Lib.compareBytes]
  | x :: a, y :: b, z :: d => by
    have ih := cmpL_trans a b d
    simp only [Go.Lib.compareBytes, UInt8.lt_iff_toNat_lt]; (repeat' split) <;> omega
theorem cmpB_is : IsCmp cmpB := by
  refine ⟨fun a b => cmpL_rng _ _, fun a b => cmpL_anti _ _, fun a b => ?_, fun a b d => cmpL_trans _ _ _⟩
  unfold cmpB
  rw [cmpL_zero]
  constructor
  · intro h; cases a; cases b; simp_all
  · rintro rfl; rfl
end Go.Proofs.Ytmfdhcgdibefiaa.L
namespace Go.Proofs.Ytmfdhcgdibefiaa.L
set_option linter.unusedVariables false

section
variable {α : Type} {c : α → α → Int} {id : α → Int} {ok : α → Bool}
/-- Of records l, those of out count: each number once, that may be, none of its number ahead of it. -/
structure Counts (c : α → α → Int) (id : α → Int) (ok : α → Bool) (l out : List α) : Prop where
  ids : out.Pairwise fun x y => id x ≠ id y
  mem : ∀ x ∈ out, x ∈ l ∧ ok x = true
  best : ∀ y ∈ l, ok y = true → ∃ x ∈ out, id x = id y ∧ c x y ≤ 0
theorem Counts.inj {l out : List α} (h : Counts c id ok l out) {x y : α} (hx : x ∈ out) (hy : y ∈ out) (e : id x = id y) : x = y := by
  obtain ⟨i, hi, rfl⟩ := List.getElem_of_mem hx
  obtain ⟨j, hj, rfl⟩ := List.getElem_of_mem hy
  have hp := List.pairwise_iff_getElem.1 h.ids
  rcases Nat.lt_trichotomy i j with h1 | h1 | h1
  · exact absurd e (hp i j hi hj h1)
  · subst h1; rfl
  · exact absurd e.symm (hp j i hj hi h1)
theorem Counts.mem_iff (hc : IsCmp c) {l out : List α} (h : Counts c id ok l out) (x : α) : x ∈ out ↔ x ∈ l ∧ ok x = true ∧ ∀ y ∈ l, ok y = true → id y = id x → c x y ≤ 0 := by
  constructor
  · intro hx
    refine ⟨(h.mem x hx).1, (h.mem x hx).2, fun y hy ho e => ?_⟩
    obtain ⟨x', hx', e', hcc⟩ := h.best y hy ho
    obtain rfl := h.inj hx' hx (e'.trans e)
    exact hcc
  · rintro ⟨hx, ho, hb⟩
    obtain ⟨x', hx', e', hcc⟩ := h.best x hx ho
    have h1 := h.mem x' hx'
    have h2 := hb x' h1.1 h1.2 e'
    have := hc.anti x x'
    obtain rfl := (hc.zero x x').1 (by omega)
    exact hx'
theorem Counts.nodup {l out : List α} (h : Counts c id ok l out) : out.Nodup := h.ids.imp (fun hne e => hne (by rw [e]))
theorem Counts.one (hc : IsCmp c) {l l' a b : List α} (ha : Counts c id ok l a) (hb : Counts c id ok l' b) (sa : a.Pairwise fun x y => c x y ≤ 0) (sb : b.Pairwise fun x y => c x y ≤ 0) (hl : ∀ x, x ∈ l ↔ x ∈ l') : a = b := by
  refine List.Perm.eq_of_pairwise (le := fun x y => c x y ≤ 0) (fun x y _ _ h1 h2 => (hc.zero x y).1 (by have := hc.anti x y; omega)) sa sb ?_
  refine (List.perm_ext_iff_of_nodup ha.nodup hb.nodup).2 fun x => ?_
  rw [ha.mem_iff hc, hb.mem_iff hc]
  simp only [hl]
/-- The program's own round. -/
def stepD (c : α → α → Int) (id : α → Int) (ok : α → Bool) (m : List α) (s : α) : List α :=
  if ok s = true then (match m.findIdx? (fun x => decide (id x = id s)) with | none => m ++ [s] | some j => if c s (m.getD j s) < 0 then m.set j s else m) else m
theorem Counts.step (hc : IsCmp c) {p m : List α} (h : Counts c id ok p m) (s : α) : Counts c id ok (p ++ [s]) (stepD c id ok m s) := by
  have old : ∀ x ∈ m, x ∈ p ++ [s] ∧ ok x = true := fun x hx => ⟨List.mem_append_left _ (h.mem x hx).1, (h.mem x hx).2⟩
  have hss : c s s = 0 := (hc.zero s s).2 rfl
  unfold stepD
  by_cases ho : ok s = true
  · rw [if_pos ho]
    cases hf : m.findIdx? (fun x => decide (id x = id s)) with
    | none =>
      have hn := List.findIdx?_eq_none_iff.1 hf
      refine ⟨?_, ?_, ?_⟩
      · rw [List.pairwise_append]
        refine ⟨h.ids, List.pairwise_singleton _ _, fun x hx y hy => ?_⟩
        obtain rfl := List.mem_singleton.1 hy
        simpa using hn x hx
      · intro x hx
        rcases List.mem_append.1 hx with hx | hx
        · exact old x hx
        · obtain rfl := List.mem_singleton.1 hx
          exact ⟨by simp, ho⟩
      · intro y hy hoy
        rcases List.mem_append.1 hy with hy | hy
        · obtain ⟨x, hx, h2⟩ := h.best y hy hoy
          exact ⟨x, List.mem_append_left _ hx, h2⟩
        · obtain rfl := List.mem_singleton.1 hy
          exact ⟨y, by simp, rfl, by omega⟩
    | some j =>
      obtain ⟨hj, hid, _⟩ := List.findIdx?_eq_some_iff_getElem.1 hf
      have hid' : id m[j] = id s := by simpa using hid
      have hg : m.getD j s = m[j] := by simp [List.getD, hj]
      have hp := List.pairwise_iff_getElem.1 h.ids
      simp only [hg]
      by_cases hlt : c s m[j] < 0
      · rw [if_pos hlt]
        refine ⟨?_, ?_, ?_⟩
        · rw [List.pairwise_iff_getElem]
          intro a b ha hb hab
          rw [List.length_set] at ha hb
          rw [List.getElem_set, List.getElem_set]
          split
          · rw [if_neg (by omega), ← hid']
            rename_i e; subst e
            exact hp j b ha hb hab
          · split
            · rw [← hid']
              rename_i e; subst e
              exact hp a j ha hb hab
            · exact hp a b ha hb hab
        · intro x hx
          rcases List.mem_or_eq_of_mem_set hx with hx | rfl
          · exact old x hx
          · exact ⟨by simp, ho⟩
        · have hs : s ∈ m.set j s := List.mem_set hj s
          intro y hy hoy
          rcases List.mem_append.1 hy with hy | hy
          · obtain ⟨x, hx, e, hcc⟩ := h.best y hy hoy
            obtain ⟨i, hi, rfl⟩ := List.getElem_of_mem hx
            by_cases hij : j = i
            · subst hij
              exact ⟨s, hs, by rw [← hid', e], hc.trans _ _ _ (by omega) hcc⟩
            · refine ⟨m[i], ?_, e, hcc⟩
              have : (m.set j s)[i]'(by simpa using hi) = m[i] := by rw [List.getElem_set, if_neg hij]
              rw [← this]
              exact List.getElem_mem _
          · obtain rfl := List.mem_singleton.1 hy
            exact ⟨y, hs, rfl, by omega⟩
      · rw [if_neg hlt]
        refine ⟨h.ids, old, fun y hy hoy => ?_⟩
        rcases List.mem_append.1 hy with hy | hy
        · exact h.best y hy hoy
        · obtain rfl := List.mem_singleton.1 hy
          have := hc.anti y m[j]
          exact ⟨m[j], List.getElem_mem _, hid', by omega⟩
  · rw [if_neg ho]
    refine ⟨h.ids, old, fun y hy hoy => ?_⟩
    rcases List.mem_append.1 hy with hy | hy
    · exact h.best y hy hoy
    · obtain rfl := List.mem_singleton.1 hy
      exact absurd hoy ho
theorem Counts.from {l l' out : List α} (h : Counts c id ok l out) (hl : ∀ x, ok x = true → (x ∈ l ↔ x ∈ l')) : Counts c id ok l' out :=
  ⟨h.ids, fun x hx => ⟨(hl x (h.mem x hx).2).1 (h.mem x hx).1, (h.mem x hx).2⟩, fun y hy ho => h.best y ((hl y ho).2 hy) ho⟩
end
end Go.Proofs.Ytmfdhcgdibefiaa.L
namespace Go.Proofs.Ytmfdhcgdibefiaa.L
set_option linter.unusedVariables false

section
variable {α : Type} {c : α → α → Int}
def Rise (c : α → α → Int) (l : List α) : Prop := l.Pairwise fun x y => c x y < 0
theorem Rise.nodup (hc : IsCmp c) {l : List α} (h : Rise c l) : l.Nodup := h.imp (fun {x y} h e => by subst e; have := (hc.zero x x).2 rfl; omega)
theorem Rise.one (hc : IsCmp c) {a b : List α} (ha : Rise c a) (hb : Rise c b) (hm : ∀ x, x ∈ a ↔ x ∈ b) : a = b := by
  refine List.Perm.eq_of_pairwise (le := fun x y => c x y ≤ 0) (fun x y _ _ h1 h2 => (hc.zero x y).1 (by have := hc.anti x y; omega)) (ha.imp (fun h => by omega)) (hb.imp (fun h => by omega)) ?_
  exact (List.perm_ext_iff_of_nodup (ha.nodup hc) (hb.nodup hc)).2 hm
theorem compactUpTo_rise [Inhabited α] [DecidableEq α] (hc : IsCmp c) (d : Array α) (hs : ∀ i j, i < j → j < d.size → c d[i]! d[j]! ≤ 0) : ∀ m, m ≤ d.size → Rise c (Go.Lib.compactUpTo d m) ∧ ∀ x, x ∈ Go.Lib.compactUpTo d m ↔ ∃ j, j < m ∧ d[j]! = x
  | 0, _ => ⟨by simp [Go.Lib.compactUpTo, Rise], fun x => by simp [Go.Lib.compactUpTo]⟩
  | m + 1, hm => by
    obtain ⟨h1, h2⟩ := compactUpTo_rise hc d hs m (by omega)
    rw [Go.Lib.compactUpTo_succ]
    by_cases hk : Go.Lib.keeps d m = true
    · rw [if_pos hk]
      refine ⟨?_, fun x => ?_⟩
      · unfold Rise
        rw [List.pairwise_append]
        refine ⟨h1, List.pairwise_singleton _ _, fun x hx y hy => ?_⟩
        obtain rfl := List.mem_singleton.1 hy
        obtain ⟨j, hj, rfl⟩ := (h2 x).1 hx
        have h3 := hs j m hj (by omega)
        rcases Int.lt_or_eq_of_le h3 with h4 | h4
        · exact h4
        · exfalso
          have h5 := (hc.zero _ _).1 h4
          have h6 : m ≠ 0 := by omega
          have h7 : d[m]! ≠ d[m - 1]! := by simpa [Go.Lib.keeps, h6] using hk
          apply h7
          by_cases e : j = m - 1
          · rw [← h5, e]
          · have h8 := hs j (m - 1) (by omega) (by omega)
            have h9 := hs (m - 1) m (by omega) (by omega)
            rw [h5] at h8
            have := hc.anti d[m]! d[m - 1]!
            exact (hc.zero _ _).1 (by omega)
      · rw [List.mem_append, h2, List.mem_singleton]
        constructor
        · rintro (⟨j, hj, rfl⟩ | rfl)
          · exact ⟨j, by omega, rfl⟩
          · exact ⟨m, by omega, rfl⟩
        · rintro ⟨j, hj, rfl⟩
          by_cases e : j = m
          · subst e; exact .inr rfl
          · exact .inl ⟨j, by omega, rfl⟩
    · rw [if_neg hk, List.append_nil]
      refine ⟨h1, fun x => ?_⟩
      rw [h2]
      constructor
      · rintro ⟨j, hj, rfl⟩; exact ⟨j, by omega, rfl⟩
      · rintro ⟨j, hj, rfl⟩
        by_cases e : j = m
        · subst e
          have h6 : j ≠ 0 ∧ d[j]! = d[j - 1]! := by
            simp only [Go.Lib.keeps, decide_eq_true_eq, not_or, ne_eq] at hk
            exact ⟨hk.1, Decidable.not_not.1 hk.2⟩
          exact ⟨j - 1, by omega, h6.2.symm⟩
        · exact ⟨j, by omega, rfl⟩
theorem compact_rise [Inhabited α] [DecidableEq α] (hc : IsCmp c) (l : List α) (hs : l.Pairwise fun x y => c x y ≤ 0) : Rise c (Go.Lib.compact l) ∧ ∀ x, x ∈ Go.Lib.compact l ↔ x ∈ l := by
  have hg : ∀ j (h : j < l.length), l.toArray[j]! = l[j] := fun j h => by rw [getElem!_pos l.toArray j (by simpa using h)]; simp
  obtain ⟨h1, h2⟩ := compactUpTo_rise hc l.toArray (fun i j hij hj => by
    have hj' : j < l.length := by simpa using hj
    rw [hg i (by omega), hg j hj']
    exact List.pairwise_iff_getElem.1 hs i j (by omega) hj' hij) l.length (by simp)
  refine ⟨h1, fun x => (h2 x).trans ⟨?_, fun hx => ?_⟩⟩
  · rintro ⟨j, hj, rfl⟩; rw [hg j hj]; exact List.getElem_mem _
  · obtain ⟨j, hj, rfl⟩ := List.getElem_of_mem hx
    exact ⟨j, hj, hg j hj⟩

/-- Where a text stands among texts in order, from the end on. -/
def posG (c : α → α → Int) (l : List α) (s : α) : Nat → Nat
  | 0 => 0
  | j + 1 => if c (l.getD j s) s > 0 then posG c l s j else j + 1
theorem posG_le (l : List α) (s : α) : ∀ j, posG c l s j ≤ j
  | 0 => Nat.le_refl _
  | j + 1 => by
    unfold posG
    split
    · exact Nat.le_succ_of_le (posG_le l s j)
    · exact Nat.le_refl _
theorem posG_succ (l : List α) (s : α) (j : Nat) : posG c l s (j + 1) = if c (l.getD j s) s > 0 then posG c l s j else j + 1 := rfl
theorem posG_above (l : List α) (s : α) : ∀ j i, posG c l s j ≤ i → i < j → c (l.getD i s) s > 0
  | 0, i, _, h => by omega
  | j + 1, i, h1, h2 => by
    unfold posG at h1
    split at h1
    · rename_i hc
      by_cases e : i = j
      · subst e; exact hc
      · exact posG_above l s j i h1 (by omega)
    · omega
theorem posG_below (l : List α) (s : α) : ∀ j, 0 < posG c l s j → c (l.getD (posG c l s j - 1) s) s ≤ 0
  | 0, h => by simp [posG] at h
  | j + 1, h => by
    unfold posG at h ⊢
    split
    · rename_i hc; rw [if_pos hc] at h; exact posG_below l s j h
    · rename_i hc; simp only [Nat.add_sub_cancel]; omega
/-- The document's own round: a text that is there already stays out. -/
def insH [DecidableEq α] (c : α → α → Int) (l : List α) (s : α) : List α := if s ∈ l then l else l.take (posG c l s l.length) ++ s :: l.drop (posG c l s l.length)
theorem insH_mem [DecidableEq α] (l : List α) (s x : α) : x ∈ insH c l s ↔ x ∈ l ∨ x = s := by
  unfold insH
  split
  · constructor
    · exact .inl
    · rintro (h | rfl) <;> assumption
  · have h := (List.perm_middle (a := s) (l₁ := l.take (posG c l s l.length)) (l₂ := l.drop (posG c l s l.length))).mem_iff (a := x)
    rw [h, List.mem_cons, List.take_append_drop]
    exact or_comm
theorem insH_length [DecidableEq α] (l : List α) (s : α) : (insH c l s).length ≤ l.length + 1 := by
  have := posG_le (c := c) l s l.length
  unfold insH
  split
  · omega
  · simp; omega
theorem insH_rise [DecidableEq α] (hc : IsCmp c) {l : List α} (s : α) (h : Rise c l) : Rise c (insH c l s) := by
  unfold insH
  split
  · exact h
  · rename_i hn
    have hp := posG_le (c := c) l s l.length
    have ha := posG_above (c := c) l s l.length
    have hb := posG_below (c := c) l s l.length
    generalize posG c l s l.length = p at *
    have hs : ∀ i j (hi : i < l.length) (hj : j < l.length), i < j → c l[i] l[j] < 0 := fun i j hi hj hij => List.pairwise_iff_getElem.1 h i j hi hj hij
    have tr : ∀ x y z, c x y ≤ 0 → c y z < 0 → c x z < 0 := fun x y z h1 h2 => by
      have h3 := hc.trans x y z h1 (by omega)
      rcases Int.lt_or_eq_of_le h3 with h4 | h4
      · exact h4
      · obtain rfl := (hc.zero _ _).1 h4
        have := hc.anti x y
        omega
    have h1 : ∀ x ∈ l.take p, c x s < 0 := by
      intro x hx
      obtain ⟨i, hi, rfl⟩ := List.getElem_of_mem hx
      have hip : i < p ∧ i < l.length := by simp at hi; omega
      have h2 : c l[p - 1] s < 0 := by
        have := hb (by omega)
        rw [List.getD, List.getElem?_eq_getElem (by omega)] at this
        simp only [Option.getD_some] at this
        rcases Int.lt_or_eq_of_le this with h4 | h4
        · exact h4
        · exact absurd ((hc.zero _ _).1 h4 ▸ List.getElem_mem _) hn
      rw [List.getElem_take]
      by_cases e : i = p - 1
      · subst e; exact h2
      · exact tr _ _ _ (by have := hs i (p - 1) hip.2 (by omega) (by omega); omega) h2
    have h2 : ∀ y ∈ l.drop p, c s y < 0 := by
      intro y hy
      obtain ⟨i, hi, rfl⟩ := List.getElem_of_mem hy
      have hil : p + i < l.length := by simp at hi; omega
      rw [List.getElem_drop]
      have := ha (p + i) (by omega) hil
      rw [List.getD, List.getElem?_eq_getElem hil] at this
      have an := hc.anti l[p + i] s
      simp only [Option.getD_some] at this
      omega
    unfold Rise
    rw [List.pairwise_append]
    refine ⟨h.sublist (List.take_sublist _ _), ?_, ?_⟩
    · rw [List.pairwise_cons]
      exact ⟨h2, h.sublist (List.drop_sublist _ _)⟩
    · intro x hx y hy
      rcases List.mem_cons.1 hy with rfl | hy
      · exact h1 x hx
      · exact tr _ _ _ (by have := h1 x hx; omega) (h2 y hy)
theorem foldH [DecidableEq α] (hc : IsCmp c) : ∀ (l a : List α), Rise c a → Rise c (l.foldl (insH c) a) ∧ (∀ x, x ∈ l.foldl (insH c) a ↔ x ∈ a ∨ x ∈ l) ∧ (l.foldl (insH c) a).length ≤ a.length + l.length
  | [], a, h => ⟨h, by simp, by simp⟩
  | s :: l, a, h => by
    obtain ⟨h1, h2, h3⟩ := foldH hc l (insH c a s) (insH_rise hc s h)
    refine ⟨h1, fun x => ?_, ?_⟩
    · rw [List.foldl_cons, h2, insH_mem, List.mem_cons, or_assoc]
    · rw [List.foldl_cons]
      have := insH_length (c := c) a s
      simp only [List.length_cons]
      omega
end

theorem cmpL_lt : ∀ a b : List UInt8, Go.Lib.compareBytes a b < 0 ↔ a < b
  | [], [] => by simp [Go.Lib.compareBytes]
  | [], _ :: _ => by simp [Go.Lib.compareBytes]
  | _ :: _, [] => by simp [Go.Lib.compareBytes]
  | x :: a, y :: b => by
    have ih := cmpL_lt a b
    rw [List.cons_lt_cons_iff, ← ih]
    simp only [Go.Lib.compareBytes, UInt8.lt_iff_toNat_lt, ← UInt8.toNat_inj]
    (repeat' split) <;> omega
theorem cmpL_le (a b : List UInt8) : Go.Lib.compareBytes a b ≤ 0 ↔ a ≤ b := by
  have h := cmpL_lt b a
  have h2 := cmpL_anti a b
  have h3 : a ≤ b ↔ ¬ b < a := Iff.rfl
  rw [h3, ← h]
  omega
theorem cmpL_is : IsCmp Go.Lib.compareBytes := ⟨cmpL_rng, cmpL_anti, cmpL_zero, cmpL_trans⟩
/-- Texts, each once, in order: as the library's sort and compaction leave them. -/
def hostsL (l : List (List UInt8)) : List (List UInt8) := Go.Lib.compact (l.mergeSort fun x y => decide (x ≤ y))
theorem hostsL_rise (l : List (List UInt8)) : Rise Go.Lib.compareBytes (hostsL l) ∧ ∀ x, x ∈ hostsL l ↔ x ∈ l := by
  have hs : (l.mergeSort fun x y => decide (x ≤ y)).Pairwise fun x y => Go.Lib.compareBytes x y ≤ 0 := by
    have h := List.pairwise_mergeSort (le := fun x y : List UInt8 => decide (x ≤ y)) (fun a b c h1 h2 => by
      simp only [decide_eq_true_eq, ← cmpL_le] at *
      exact cmpL_trans _ _ _ h1 h2) (fun a b => by
      simp only [Bool.or_eq_true, decide_eq_true_eq, ← cmpL_le]
      have := cmpL_anti a b
      omega) l
    exact h.imp (fun h => by simpa [cmpL_le] using h)
  obtain ⟨h1, h2⟩ := compact_rise cmpL_is _ hs
  exact ⟨h1, fun x => (h2 x).trans (List.mergeSort_perm l _).mem_iff⟩
theorem hostsL_length (l : List (List UInt8)) : (hostsL l).length ≤ l.length := by
  refine Nat.le_trans (Go.Lib.compact_length_le _) ?_
  rw [List.length_mergeSort]; exact Nat.le_refl _
end Go.Proofs.Ytmfdhcgdibefiaa.L

