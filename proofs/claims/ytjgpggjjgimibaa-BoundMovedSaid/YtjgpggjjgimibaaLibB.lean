/- Plain words for the pure statements; a map beside rows; a row beside the sort. -/
import Derived.Test.YtjgpggjjgimibaaWWords
import Derived.Test.YtjgpggjjgimibaaWMore
import Derived.Lib.Bytealg
import Derived.Maps.OwnSet
import Derived.Maps.OwnOps
import Derived.Shelf.GgSortFunc.InsertionK
namespace Go.Proofs.YtjgpggjjgimibaaW.Lib
open Go.RowKit Go.Proofs.YtjgpggjjgimibaaW.PrintWords
set_option linter.unusedVariables false

theorem Ev.ite {α : Type} {c : Prop} [Decidable c] {A B : Nat → Option α} {r : α} (h1 : c → Ev A r) (h2 : ¬ c → Ev B r) : Ev (fun k => if c then A k else B k) r := by
  by_cases h : c
  · simpa only [if_pos h] using h1 h
  · simpa only [if_neg h] using h2 h
theorem Ev.pos {α : Type} {c : Prop} [Decidable c] {A B : Nat → Option α} {r : α} (h : c) (h1 : Ev A r) : Ev (fun k => if c then A k else B k) r := Ev.ite (fun _ => h1) (fun h' => absurd h h')
theorem Ev.neg {α : Type} {c : Prop} [Decidable c] {A B : Nat → Option α} {r : α} (h : ¬ c) (h1 : Ev B r) : Ev (fun k => if c then A k else B k) r := Ev.ite (fun h' => absurd h' h) (fun _ => h1)
theorem Ev.const {α : Type} {g : Option α} {r : α} (h : g = some r) : Ev (fun _ => g) r := ⟨0, fun _ _ => h⟩
theorem Ev.cast {α : Type} {g : Nat → Option α} {r r' : α} (h : Ev g r) (e : r = r') : Ev g r' := e ▸ h
theorem Ev.succ {α : Type} {g : Nat → Option α} {r : α} (h : Ev (fun k => g (k + 1)) r) : Ev g r := Ev.step (fun _ => rfl) h
theorem Ev.uniq {α : Type} {g : Nat → Option α} {r r' : α} (h : Ev g r) (h' : Ev g r') : r = r' := by
  obtain ⟨K, h⟩ := h
  obtain ⟨K', h'⟩ := h'
  have := (h (max K K') (by omega)).symm.trans (h' (max K K') (by omega))
  exact Option.some.inj this

theorem bytesOf_size (s : ByteArray) : (bytesOf s).length = s.size := by simp [bytesOf]
theorem bytesOf_get (s : ByteArray) (i : Nat) (h : i < s.size) : (bytesOf s)[i]'(by rw [bytesOf_size]; exact h) = bt s i := by
  rw [← bt_at s i (by simpa using h)]
  simp [bytesOf, ByteArray.getElem_eq_getElem_data]
theorem bytesOf_drop (s : ByteArray) (i : Nat) (h : i < s.size) : (bytesOf s).drop i = bt s i :: (bytesOf s).drop (i + 1) := by
  rw [← bytesOf_get s i h, ← List.drop_eq_getElem_cons]
theorem bytesOf_range (s : ByteArray) : ∀ x ∈ bytesOf s, 0 ≤ x ∧ x ≤ 255 := by
  intro x hx
  obtain ⟨b, _, rfl⟩ := List.mem_map.1 hx
  have := b.toNat_lt
  omega
theorem bytesOf_inj {s t : ByteArray} (h : bytesOf s = bytesOf t) : s = t := by
  have : s.data.toList = t.data.toList := by
    unfold bytesOf at h
    exact (List.map_inj_right (fun a b hab => by
      apply UInt8.toNat_inj.1
      exact Int.ofNat.inj hab)).1 h
  cases s; cases t
  simp_all
theorem toList_data (s : ByteArray) : s.toList = s.data.toList := by
  exact ByteArray.toList_eq s
theorem toList_inj {s t : ByteArray} : (s.toList == t.toList) = decide (s = t) := by
  rw [Bool.eq_iff_iff]
  simp only [beq_iff_eq, decide_eq_true_eq]
  constructor
  · intro h
    rw [toList_data, toList_data] at h
    cases s; cases t
    simp_all
  · rintro rfl; rfl
theorem wrap_id {i : Int} (h0 : -9223372036854775808 ≤ i) (h1 : i < 9223372036854775808) : wrap64 i = i := by
  unfold wrap64; omega
theorem wf_i64 {x : Int} (h : (Lit.int .i64 x).wf = true) : -9223372036854775808 ≤ x ∧ x < 9223372036854775808 := by
  simp [Lit.wf, IntKind.min, IntKind.max, IntKind.signed, IntKind.bits] at h; omega
theorem wf_u64 {x : Int} (h : (Lit.int .u64 x).wf = true) : 0 ≤ x ∧ x < 18446744073709551616 := by
  simp [Lit.wf, IntKind.min, IntKind.max, IntKind.signed, IntKind.bits] at h; omega
theorem wf_u8 {x : Int} (h : (Lit.int .u8 x).wf = true) : 0 ≤ x ∧ x < 256 := by
  simp [Lit.wf, IntKind.min, IntKind.max, IntKind.signed, IntKind.bits] at h; omega
end Go.Proofs.YtjgpggjjgimibaaW.Lib
namespace Go.Proofs.YtjgpggjjgimibaaW.MapB
open Go.RowKit Go.Proofs.YtjgpggjjgimibaaW.PrintWords
set_option linter.unusedVariables false
section
variable {H : Type} {P : Program} {k e : TypeId} {R : Value → Option (DataW H × List MemPlace)} {w w1 : World} {b n B : Nat} {D : DataW H}
theorem map_below (h : w.ownsMap P k R b n D) (hb : Below w.heap.size w w1) : w1.ownsMap P k R b n D := by
  have hlt := h.lt
  obtain ⟨es, clock, hh, r⟩ := h
  exact ⟨es, clock, (hb.block b hlt).trans hh, r⟩
theorem map_drewN (h : w.ownsMap P k R b n D) (m : Nat) : (w.drewN m).ownsMap P k R b n D := h
theorem map_ne_row (h : w.ownsMap P k R b n D) {base : Nat} {t : TypeId} {size m : Nat} {v : Value} {xs : List Value} (ho : w.ownsRow base t size v m xs) : some b ≠ v.ownBlock := by
  intro he
  obtain ⟨es, clock, hh, _⟩ := h
  obtain ⟨cells, hc⟩ := own_typed ho b he.symm
  rw [hh] at hc
  cases hc
theorem map_kept {α : Type} {d : Kd α} {t : Nat} {base : Nat} {ok : Nat → Prop} {v : Value} {xs : List α} (h : w.ownsMap P k R b n D) (hr : d.R t w base ok v xs) (hg : w.grownBy w1 v.ownBlock) : w1.ownsMap P k R b n D := by
  obtain ⟨_, inner, ho, _⟩ := hr
  exact h.kept hg (map_ne_row h ho)
/-- A row stays while a map is written. -/
theorem row_kept {α : Type} {d : Kd α} {t : Nat} {base : Nat} {v : Value} {xs : List α} (hm : w.ownsMap P k R b n D) (hr : d.R t w base (fun _ => True) v xs) (hg : w.grownBy w1 (some b)) : d.R t w1 base (fun _ => True) v xs := by
  obtain ⟨es, clock, hh, _⟩ := hm
  refine Kd.R_mono (Kd.R_move (Kd.R_bound hr) (fun i hi => hg.block i hi.2.2.1 (fun e => ?_))) (fun _ _ => trivial)
  obtain ⟨_, _, _, q, _, cells, hc⟩ := hi
  obtain rfl : i = b := Option.some.inj e
  rw [hh] at hc
  cases hc
theorem below_map (hB : Below B w w1) {w2 : World} (hg : w1.grownBy w2 (some b)) (hb : B ≤ b) (hs : B ≤ w1.heap.size) : Below B w w2 :=
  hB.grown hg hs (fun j hj => by cases hj; exact hb)
theorem grown_below {row : Option Nat} (hg : w.grownBy w1 row) (hr : ∀ i, row = some i → B ≤ i) (hB : B ≤ w.heap.size) : Below B w w1 := (Below.refl B w).grown hg hB hr
end
section
open Go.Maps
variable {H : Type} {P : Program} (w : World) {ops : Array Oper} {rest : List Oper} {o : Oper} {a : Act} {Q : Exit → Act → World → Prop}
/-- 'm[k]' where it is known what stands there. -/
theorem lookup_known (hg : o.guard = none) (m x : Operand) (t : TypeId) (hop : o.op = Op.lookup t m x false) (k e : TypeId) (q : IntKind) (K : Keyed P k) (ht : P.underlying t = some (.map k e)) (he : P.underlying e = some (.int q)) (hz : (zeroValue e).run P w = .ok (.int q 0) w)
    (b n : Nat) (D : DataW H) (hm : a.eval m = .map (some b)) (hown : w.ownsMap P k (plainElem P e) b n D) (key : Value) (kl : Lit) (hx : a.eval x = key) (hkey : keyOf P k key = some kl) (c : Int) (hc : D.atKey kl (.lit (.int q 0)) = .lit (.int q c))
    (hK : wpList P ops Q rest (a.put o.dst (.int q c)) w) : wpList P ops Q (o :: rest) a w :=
  wpList_lookup_own_int w hg m x t hop k e q K ht he hz b n D hm hown key kl hx hkey (fun c' hat _ => by
    obtain rfl : c = c' := by
      have h := hc.symm.trans hat
      injection h with h; injection h
    exact hK)
/-- 'v, ok := m[k]' where it is known what stands there. -/
theorem lookup_ok_known (hg : o.guard = none) (m x : Operand) (t : TypeId) (hop : o.op = Op.lookup t m x true) (k e : TypeId) (q : IntKind) (K : Keyed P k) (ht : P.underlying t = some (.map k e)) (he : P.underlying e = some (.int q)) (hz : (zeroValue e).run P w = .ok (.int q 0) w)
    (b n : Nat) (D : DataW H) (hm : a.eval m = .map (some b)) (hown : w.ownsMap P k (plainElem P e) b n D) (key : Value) (kl : Lit) (hx : a.eval x = key) (hkey : keyOf P k key = some kl) (c : Int) (hc : D.atKey kl (.lit (.int q 0)) = .lit (.int q c)) (there : Bool) (hh : Maps.has D kl = there)
    (hK : wpList P ops Q rest (a.put o.dst (.tuple #[.int q c, .bool there])) w) : wpList P ops Q (o :: rest) a w :=
  wpList_lookup_own_ok_int w hg m x t hop k e q K ht he hz b n D hm hown key kl hx hkey (fun c' hat _ => by
    obtain rfl : c = c' := by
      have h := hc.symm.trans hat
      injection h with h; injection h
    rw [hh]
    exact hK)
end
/-! A map that is filled place by place: plain. -/
section
open Go.Maps
variable {α : Type} {key : α → Lit} {d : α}
/-- The map behind k rounds: at each element its place. -/
def mapN (key : α → Lit) (d : α) (l : List α) : Nat → DataW Unit
  | 0 => .map []
  | k + 1 => (mapN key d l k).put (key (l.getD k d)) (.lit (.int .i64 k))
theorem mapN_tidy (hk : ∀ x, WideAt.IsKeyLit (key x)) (l : List α) : ∀ k, Tidy (mapN key d l k)
  | 0 => tidy_empty
  | k + 1 => (mapN_tidy hk l k).put (hk _) _
theorem mapN_has (hk : ∀ x, WideAt.IsKeyLit (key x)) (hi : ∀ x y, key x = key y → x = y) (l : List α) (s : α) : ∀ k, k ≤ l.length → (has (mapN key d l k) (key s) = true ↔ s ∈ l.take k)
  | 0, _ => by simp [mapN, has]
  | k + 1, hk1 => by
    have hl : l.getD k d = l[k] := by simp [List.getD, show k < l.length by omega]
    rw [mapN, hl, List.take_succ_eq_append_getElem (show k < l.length by omega), List.mem_append, List.mem_singleton]
    by_cases e : s = l[k]
    · rw [← e, has_put_same (mapN_tidy hk l k).isMap (hk _)]
      simp
    · rw [has_put_other (fun h => e (hi _ _ h)), mapN_has hk hi l s k (by omega)]
      exact ⟨.inl, fun h => h.elim _root_.id (fun h => absurd h e)⟩
theorem mapN_size (hk : ∀ x, WideAt.IsKeyLit (key x)) (hi : ∀ x y, key x = key y → x = y) {l : List α} (nd : l.Nodup) : ∀ k, k ≤ l.length → size (mapN key d l k) = k
  | 0, _ => rfl
  | k + 1, hk1 => by
    have hl : l.getD k d = l[k] := by simp [List.getD, show k < l.length by omega]
    have hn : l[k] ∉ l.take k := by
      intro h
      obtain ⟨j, hj, e⟩ := List.getElem_of_mem h
      rw [List.getElem_take] at e
      have hjk : j < k := by simp at hj; omega
      exact List.pairwise_iff_getElem.1 nd j k (by omega) (by omega) hjk e
    rw [mapN, size_put (mapN_tidy hk l k), hl, if_neg (fun h => hn ((mapN_has hk hi l l[k] k (by omega)).1 h)), mapN_size hk hi nd k (by omega)]
theorem mapN_at (hk : ∀ x, WideAt.IsKeyLit (key x)) (hi : ∀ x y, key x = key y → x = y) {l : List α} (nd : l.Nodup) (z : DataW Unit) (j : Nat) (hj : j < l.length) : ∀ k, j < k → k ≤ l.length → (mapN key d l k).atKey (key l[j]) z = .lit (.int .i64 j)
  | 0, h, _ => by omega
  | k + 1, h, hk1 => by
    have hl : l.getD k d = l[k] := by simp [List.getD, show k < l.length by omega]
    rw [mapN, hl]
    by_cases e : j = k
    · subst e
      exact atKey_put_same (mapN_tidy hk l j).isMap (hk _) _ _
    · rw [atKey_put_other (fun h2 => ?_)]
      · exact mapN_at hk hi nd z j hj k (by omega) (by omega)
      · exact absurd (hi _ _ h2) (List.pairwise_iff_getElem.1 nd j k hj (by omega) (by omega))
theorem mapN_none (hk : ∀ x, WideAt.IsKeyLit (key x)) (hi : ∀ x y, key x = key y → x = y) {l : List α} {s : α} (h : s ∉ l) (z : DataW Unit) : (mapN key d l l.length).atKey (key s) z = z ∧ has (mapN key d l l.length) (key s) = false := by
  have h1 : has (mapN key d l l.length) (key s) = false := by
    rw [Bool.eq_false_iff]
    intro h2
    have := (mapN_has hk hi l s l.length (Nat.le_refl _)).1 h2
    rw [List.take_length] at this
    exact h this
  exact ⟨atKey_of_not_has h1 z, h1⟩
theorem mapN_stable (l r : List α) : ∀ k, k ≤ l.length → mapN key d (l ++ r) k = mapN key d l k
  | 0, _ => rfl
  | k + 1, hk => by
    rw [mapN, mapN, mapN_stable l r k (by omega)]
    congr 2
    simp [List.getD, List.getElem?_append_left (show k < l.length by omega)]
theorem mapN_snoc (l : List α) (x : α) : mapN key d (l ++ [x]) (l ++ [x]).length = (mapN key d l l.length).put (key x) (.lit (.int .i64 l.length)) := by
  rw [List.length_append, List.length_singleton, mapN, mapN_stable l [x] _ (Nat.le_refl _)]
  congr 2
  simp [List.getD]
end
end Go.Proofs.YtjgpggjjgimibaaW.MapB
namespace Go.Proofs.YtjgpggjjgimibaaW.RowB
open Go.RowKit Go.Proofs.YtjgpggjjgimibaaW.PrintWords Go.Sort
set_option linter.unusedVariables false
variable {α : Type} [Inhabited α]

theorem cell_block {w : World} {g : Nat} {cur : Array Value} {e : TypeId} {fr : Nat × Nat} (h : w.heap[g]? = some (.cells cur e fr)) (i : Nat) : w.cell? ⟨g, i, none⟩ = cur[i]? := by simp [World.cell?, h]
theorem frozen_block {w : World} {g : Nat} {cur : Array Value} {e : TypeId} (h : w.heap[g]? = some (.cells cur e (0, 0))) (i : Nat) : w.frozen? ⟨g, i, none⟩ = false := by simp [World.frozen?, h]

theorem holdsK_of {enc : α → List Value} {k : Nat} (hk : ∀ x, (enc x).length = k) {w : World} {g : Nat} {cur : Array Value} {e : TypeId} {l : List α} {xs : List Value}
    (hh : w.heap[g]? = some (.cells cur e (0, 0))) (hx : cur.toList.take (l.length * k) = xs) (hr : Reps (fun x c => c = enc x) k l xs) : HoldsK enc k w g 0 l.toArray := by
  intro j hj
  have hj' : j < l.length * k := by simpa using hj
  have hk0 : 0 < k := by rcases Nat.eq_zero_or_pos k with h | h; · subst h; simp at hj'
                         · exact h
  refine ⟨?_, by rw [Nat.zero_add]; exact frozen_block hh j⟩
  rw [Nat.zero_add, cell_block hh, get_flatK _ _ _ _ (by simpa using hj')]
  have hq : j / k < l.length := Nat.div_lt_of_lt_mul (by rw [Nat.mul_comm]; exact hj')
  have hm : j % k < k := Nat.mod_lt _ hk0
  have h1 := hr.2 (j / k) l[j / k] (List.getElem?_eq_getElem hq)
  have h2 : xs[j]? = (enc l[j / k])[j % k]? := by
    rw [← h1, List.getElem?_take, if_pos hm, List.getElem?_drop, Nat.mul_comm, Nat.div_add_mod]
  rw [← hx, List.getElem?_take, if_pos hj'] at h2
  have h3 : cur[j]? = (enc l[j / k])[j % k]? := by rw [← h2]; simp
  rw [h3]
  have h4 : l.toArray[j / k]! = l[j / k] := by rw [getElem!_pos l.toArray (j / k) (by simpa using hq)]; simp
  rw [h4, List.getElem?_eq_getElem (by rw [hk]; exact hm), getElem!_pos _ _ (by rw [hk]; exact hm)]
  rfl

theorem putCells_size (d : Array Value) (c : Array Value) : (putCells id 0 d c).size = c.size := by simp [putCells]
theorem putCells_get (d : Array Value) (c : Array Value) (j : Nat) (hj : j < c.size) (hd : j < d.size) : (putCells id 0 d c)[j]? = some d[j]! := by
  simp [putCells, hj, hd]

theorem heap_sortWorld {enc : α → List Value} {k n : Nat} {w : World} {g : Nat} {d : Array α} {os : Array Obj} (i : Nat) (hi : i < w.heap.size) :
    (sortWorldK enc k w g 0 n d os).heap[i]? = if i = g then (w.heap[g]?).map (onCells (putCells id 0 (flatK enc k d))) else w.heap[i]? := by
  have h0 : (sortWorldK enc k w g 0 n d os).heap = w.heap.modify g (onCells (putCells id 0 (flatK enc k d))) ++ os := rfl
  rw [h0, Array.getElem?_append_left (by simpa using hi), Array.getElem?_modify]
  by_cases h : g = i
  · subst h; simp
  · rw [if_neg h, if_neg (fun h' => h h'.symm)]

theorem own_sorted {enc : α → List Value} {k n cap base : Nat} (hk : ∀ x, (enc x).length = k) {w : World} {g : Nat} {cur : Array Value} {e : TypeId} {d : Array α} {os : Array Obj}
    (hg : base ≤ g) (hh : w.heap[g]? = some (.cells cur e (0, 0))) (hc : d.size ≤ cap) (hcm : cap ≤ maxLen) (hs : cur.size = cap * k) :
    ∃ inner, (sortWorldK enc k w g 0 n d os).ownsRow base e k (.slice (some ⟨g, 0, none⟩) d.size cap) d.size inner ∧ Reps (fun x c => c = enc x) k d.toList inner := by
  have hlt : g < w.heap.size := (Array.getElem?_eq_some_iff.1 hh).1
  have h1 : (sortWorldK enc k w g 0 n d os).heap[g]? = some (.cells (putCells id 0 (flatK enc k d) cur) e (0, 0)) := by
    rw [heap_sortWorld g hlt, if_pos rfl, hh]; rfl
  have hdk : d.size * k ≤ cap * k := Nat.mul_le_mul_right _ hc
  have hlen : ((putCells id 0 (flatK enc k d) cur).toList.take (d.size * k)).length = d.size * k := by
    rw [List.length_take, Array.length_toList, putCells_size, hs]; omega
  refine ⟨(putCells id 0 (flatK enc k d) cur).toList.take (d.size * k), ⟨hlen, .inr ⟨g, cap, _, rfl, hg, h1, hc, hcm, by rw [putCells_size, hs], rfl⟩⟩, by rw [hlen]; simp, fun j p hp => ?_⟩
  have hj : j < d.size := by simpa using (List.getElem?_eq_some_iff.1 hp).1
  have hpj : d[j]! = p := by
    rw [getElem!_pos d j hj]
    obtain ⟨h2, h3⟩ := List.getElem?_eq_some_iff.1 hp
    rw [← h3]; simp
  have hjk : j * k + k ≤ d.size * k := by rw [← Nat.succ_mul]; exact Nat.mul_le_mul_right _ hj
  apply List.ext_getElem?
  intro r
  by_cases hr : r < k
  · rw [List.getElem?_take, if_pos hr, List.getElem?_drop, List.getElem?_take, if_pos (by omega)]
    have h5 : (putCells id 0 (flatK enc k d) cur).toList[j * k + r]? = (putCells id 0 (flatK enc k d) cur)[j * k + r]? := by simp
    rw [h5, putCells_get _ _ _ (by omega) (by rw [size_flatK]; omega), get_flatK _ _ _ _ (by omega)]
    have e1 : (j * k + r) / k = j := by rw [Nat.mul_comm, Nat.mul_add_div (by omega), Nat.div_eq_of_lt hr, Nat.add_zero]
    have e2 : (j * k + r) % k = r := by rw [Nat.mul_comm, Nat.mul_add_mod, Nat.mod_eq_of_lt hr]
    rw [e1, e2, hpj, List.getElem?_eq_getElem (by rw [hk]; exact hr), getElem!_pos _ _ (by rw [hk]; exact hr)]
  · rw [List.getElem?_eq_none (by rw [List.length_take]; omega), List.getElem?_eq_none (by rw [hk]; omega)]

theorem below_sorted {enc : α → List Value} {k n B : Nat} {w : World} {g : Nat} {d : Array α} {os : Array Obj} (hg : B ≤ g) (hB : B ≤ w.heap.size) : Below B w (sortWorldK enc k w g 0 n d os) := by
  refine ⟨rfl, rfl, rfl, ?_, fun i hi => ?_⟩
  · have h0 : (sortWorldK enc k w g 0 n d os).heap = w.heap.modify g (onCells (putCells id 0 (flatK enc k d))) ++ os := rfl
    rw [h0]; simp
  · rw [heap_sortWorld i (by omega), if_neg (by omega)]
end Go.Proofs.YtjgpggjjgimibaaW.RowB
