/- hosts.Groups: the places of each host's spans. -/
import Derived.Test.YtkpmaenhkjfncaaGrpP
import Derived.Test.YtkpmaenhkjfncaaLibB
import Derived.WalkArith
import Derived.StringKeys
import Derived.Maps.AppendAt
import Derived.Maps.RangeWalk
import Derived.Sort.KeysCollected
namespace Go.Proofs.Ytkpmaenhkjfncaa.L
open Go.RowKit Go.Proofs.Ytkpmaenhkjfncaa.Q Go.Proofs.YtkpmaenhkjfncaaW.PrintWords Go.Proofs.YtkpmaenhkjfncaaW.PrintLast Go.Proofs.YtkpmaenhkjfncaaW.PrintMore Go.Proofs.YtkpmaenhkjfncaaW.MapB Go.Maps Go.WideMaps Go.ChangeMaps Go.MapKept
open Go.WideElems (Fit)
set_option linter.unusedSimpArgs false
set_option linter.unusedVariables false

theorem zeroRow (w : World) : (zeroValue 34).run Try.prog w = .ok (.slice none 0 0) w := by kernel_rfl
/-- A look-up hangs on the map's block alone. -/
theorem look_det {H : Type} {P : Program} {k e t : TypeId} {R : Value → Option (DataW H × List MemPlace)} {es : Array MapEntry} {clock : Nat} {w w' : World} {b : Nat} (K : Keyed P k) (ht : P.underlying t = some (.map k e)) {z : Value} (hz : ∀ w, (zeroValue e).run P w = .ok z w)
    (hb : w.heap[b]? = some (.map es clock)) (hb' : w'.heap[b]? = some (.map es clock)) (F : Fit P k R es clock) {key : Value} {kl : Lit} (hkey : keyOf P k key = some kl) {v : Value} (hrun : (Instr.lookup t (.map (some b)) key false).run P w = .ok v w) :
    (Instr.lookup t (.map (some b)) key false).run P w' = .ok v w' := by
  have same : ∀ (a : MapEntry), a ∈ es.toList → ∀ (c : MapEntry), c ∈ es.toList → a.key = key → c.key = key → a = c := by
    intro a ha c hc e1 e2
    obtain ⟨i, hi, rfl⟩ := List.getElem_of_mem ha
    obtain ⟨j, hj, rfl⟩ := List.getElem_of_mem hc
    have hp := List.pairwise_iff_getElem.1 ((stamped_iff es clock).1 F.stamped).2.2
    rcases Nat.lt_trichotomy i j with h | h | h
    · exact absurd (e1.trans e2.symm) (hp i j hi hj h)
    · subst h; rfl
    · exact absurd (e2.trans e1.symm) (hp j i hj hi h)
  rcases Maps.fit_look false K ht (hz w) hb F hkey with ⟨h1, h2, _⟩ | ⟨e0, y, hm, hke, h1, _⟩
  · rcases Maps.fit_look false K ht (hz w') hb' F hkey with ⟨h3, _, _⟩ | ⟨e1, y, hm, hke, _, _⟩
    · rw [h1] at hrun
      injection hrun with hrun
      rw [h3, hrun]
    · exact absurd hke (h2 e1 hm)
  · rcases Maps.fit_look false K ht (hz w') hb' F hkey with ⟨_, h2, _⟩ | ⟨e1, y', hm', hke', h3, _⟩
    · exact absurd hke (h2 e0 hm)
    · rw [h1] at hrun
      injection hrun with hrun
      rw [h3, ← hrun, same e0 hm e1 hm' hke hke']
theorem heap_alloc_old (w : World) (o : Obj) (b : Nat) (h : b < w.heap.size) : (w.alloc o).heap[b]? = w.heap[b]? := (MapKept.heap_alloc w o).2 b h
theorem step_append_at {P : Program} {ops : Array Oper} {o : Oper} {a : Act} {w : World} {Q : Exit → Act → World → Prop} {K : Act → World → Prop} (hw : Region.wanted o (yielded ops a.tmps) = true) (s x : Operand) (t : TypeId)
    (ho : o.op = .call { callee := .builtin .append, args := #[s, x], argTypes := #[t, t] })
    (base : Nat) (e : TypeId) (i : TypeInfo) (z : Value) (size bytes : Nat) (ht : P.underlying t = some (.slice e)) (hi : P.info? e = some i) (hz : i.zero = some z)
    (hsize : i.size = size) (hby : i.bytes = bytes) (hzs : z.cells.size = size) (hsz : 0 < size)
    (v : Value) (n : Nat) (xs : List Value) (hs : a.eval s = v) (hown : w.ownsRow base e size v n xs)
    (ad : Addr) (m c : Nat) (news : List Value) (hx : a.eval x = .slice (some ad) m c) (hl : news.length = m * size) (hnews : ∀ j u, news[j]? = some u → w.cell? (ad.add j) = some u) (h1 : ∀ u ∈ news, u.oneCell' = true)
    (h63 : n + m ≤ maxLen) (hbytes : (n + m) * bytes ≤ 140737488355328) (hbase : base ≤ w.heap.size)
    (h : ∀ v' w', w'.ownsRow base e size v' (n + m) (xs ++ news) → w.grownBy w' v.ownBlock → (v'.ownBlock = v.ownBlock ∨ v'.ownBlock = some w.heap.size) → K (a.put o.dst v') w') :
    if Region.wanted o (yielded ops a.tmps) = true then Oper.wp P o a w K Q else K (a.put o.dst undef) w := by
  rw [if_pos hw]
  obtain ⟨v', w', hr, q1, q2, _, q4⟩ := run_append_own_at (P := P) (w := w) base t o.type e i z size bytes ht hi hz hsize hby hzs hsz v n xs hown ad m c news hl hnews h1 h63 hbytes hbase
  unfold Oper.wp execOp
  simp only [ho, resolve, invoke, builtin, Sem.run_bind, Sem.run_pure, Result.andThen_ok, List.map_toArray, List.map_cons, List.map_nil, hs, hx, hr]
  exact h v' w' q1 q2 q4

theorem row_iter {H : Type} {α : Type} {d : Kd α} {t : Nat} {base : Nat} {P : Program} {k : TypeId} {R : Value → Option (DataW H × List MemPlace)} {w w1 : World} {b r n : Nat} {D : DataW H} {left : Lit → Bool} {cnt : Nat} {v : Value} {xs : List α}
    (hrg : w.ranges P k R b r n D left cnt) (hr : d.R t w base (fun _ => True) v xs) (hg : w.grownBy w1 (some r)) : d.R t w1 base (fun _ => True) v xs := by
  obtain ⟨_, _, _, _, _, _, _, _, _, hit, _⟩ := hrg
  refine Kd.R_mono (Kd.R_move (Kd.R_bound hr) (fun i hi => hg.block i hi.2.2.1 (fun e => ?_))) (fun _ _ => trivial)
  obtain ⟨_, _, _, q, _, cells, hc⟩ := hi
  obtain rfl : i = r := Option.some.inj e
  rw [hit] at hc
  cases hc
theorem map_iter {H H' : Type} {P : Program} {k : TypeId} {R : Value → Option (DataW H × List MemPlace)} {R' : Value → Option (DataW H' × List MemPlace)} {w w1 : World} {b r n b' n' : Nat} {D : DataW H} {D' : DataW H'} {left : Lit → Bool} {cnt : Nat}
    (hrg : w.ranges P k R b r n D left cnt) (hm : w.ownsMap P k R' b' n' D') (hg : w.grownBy w1 (some r)) : w1.ownsMap P k R' b' n' D' := by
  obtain ⟨_, _, _, _, _, _, _, _, _, hit, _⟩ := hrg
  refine hm.kept hg (fun e => ?_)
  obtain rfl : b' = r := Option.some.inj e
  obtain ⟨es, clock, hb, _⟩ := hm
  rw [hit] at hb
  cases hb
theorem range_row {H : Type} {α : Type} {d : Kd α} {t : Nat} {base : Nat} {ok : Nat → Prop} {P : Program} {k : TypeId} {R : Value → Option (DataW H × List MemPlace)} {w w1 : World} {b r n : Nat} {D : DataW H} {left : Lit → Bool} {cnt : Nat} {v : Value} {xs : List α}
    (hrg : w.ranges P k R b r n D left cnt) (hr : d.R t w base ok v xs) (hg : w.grownBy w1 v.ownBlock) : w1.ranges P k R b r n D left cnt := by
  have h1 := hrg
  obtain ⟨es, clock, _, _, _, hb, _, _, _, hit, _⟩ := h1
  obtain ⟨_, inner, ho, _⟩ := hr
  refine hrg.kept hg (map_ne_row hrg.owns ho) (fun e => ?_)
  obtain ⟨cells, hc⟩ := own_typed ho r e.symm
  rw [hit] at hc
  cases hc
abbrev kG (f : Nat → Nat) : Kd (List Int × Nat) := Kd.tag f (Kd.slice 3 (Kd.int .i64))
theorem store_row {ops : Array Oper} {rest : List Oper} {o : Oper} {a : Act} {Q : Exit → Act → World → Prop} {w0 W : World} {base g n cap o' : Nat} (f : Nat → Nat) (xi : Int) (m : List (List Int × Nat)) (A : Option Addr) (len c : Nat) (zs : List Int) (hN : o.dst = none) (hG : o.guard = none) (p x : Operand) (hP : o.op = .store 34 p x)
    (haddr : a.eval p = .pointer (some ⟨g, o', none⟩)) (hoff : o' = xi.toNat) (hx : a.eval x = .slice A len c) (HO : Kd.R (kG f) 34 W base (fun _ => True) (.slice (some ⟨g, 0, none⟩) n cap) m) (h0 : 0 ≤ xi) (h1 : xi < n) (HB : Below base w0 W)
    (hz : Kd.R (Kd.int .i64) 3 W base (fun k => k ≠ g ∧ f k = xi.toNat) (.slice A len c) zs)
    (h : ∀ w1, Kd.R (kG f) 34 w1 base (fun _ => True) (.slice (some ⟨g, 0, none⟩) n cap) (m.set xi.toNat (zs, xi.toNat)) → Below base w0 w1 → W.grownBy w1 (some g) → wpList Try.prog ops Q rest a w1) : wpList Try.prog ops Q (o :: rest) a W := by
  obtain ⟨ce, hcl, hM, hcc, _⟩ := Kd.R_elem HO (([] : List Int), 0) xi h0 h1
  refine Kd.R_store (kG f) (w0 := w0) (o' := o') base hN hG 34 p x hP 34 xi 0 m (zs, xi.toNat) (.slice A len c) [.slice A len c] _ (fun _ => True) (fun k => k ≠ g) haddr (by rw [hoff]; show _ = xi.toNat * 1 + 0; omega) hx rfl (by kernel_rfl) (fun q hq => by rw [List.mem_singleton.1 hq]; rfl) HO h0 h1 hcl hcc (show 0 + 1 ≤ 1 by decide) ?_ (fun k hk => ⟨trivial, hk⟩) HB h
  have hcl' : ce.length = 1 := hcl
  refine ⟨.slice A len c, ?_, hz⟩
  rw [List.take_zero, List.nil_append, List.drop_of_length_le (by rw [hcl']; simp), List.append_nil]
theorem bare_tag {α : Type} {d : Kd α} {e base : Nat} {ok : Nat → Prop} {w : World} {v : Value} {xs : List α} (f : Nat → Nat) (h : (Kd.bare d).R e w base ok v xs) : (Kd.tag f d).R e w base ok v xs.zipIdx := by
  obtain ⟨h0, inner, ho, hr⟩ := h
  refine ⟨h0, inner, by rw [List.length_zipIdx]; exact ho, by rw [List.length_zipIdx]; exact hr.1, fun j p hj => ?_⟩
  rw [List.getElem?_zipIdx, Nat.zero_add] at hj
  obtain ⟨q, hq, rfl⟩ := Option.map_eq_some_iff.1 hj
  exact d.M_mono (fun _ h => h.elim) (hr.2 j q hq)
theorem zipIdx_set {α : Type} (xs : List α) (j : Nat) (z : α) : (xs.set j z).zipIdx = xs.zipIdx.set j (z, j) := by
  apply List.ext_getElem?
  intro i
  rw [List.getElem?_zipIdx, List.getElem?_set, List.getElem?_set, List.getElem?_zipIdx, List.length_zipIdx]
  by_cases h : j = i
  · subst h
    by_cases h2 : j < xs.length
    · simp [h2]
    · simp [h2]
  · simp [h]
/-- To which host a row of places belongs: by its first place. -/
def ownG (l : List S27) (hs : List ByteArray) (w : World) (k : Nat) : Nat :=
  match w.heap[k]? with
  | some (Obj.cells cur _ _) => (match (cur[0]? : Option Value) with | some (Value.int _ z) => numB hs (l.getD z.toNat z27).f4 | _ => 0)
  | _ => 0
theorem ownG_is {l : List S27} {hs : List ByteArray} {w : World} {base : Nat} {e : TypeId} {v : Value} {x : ByteArray} (h : w.ownsInts base e .i64 v (gAt l l.length x)) (hne : gAt l l.length x ≠ []) (k : Nat) (hk : v.ownBlock = some k) : ownG l hs w k = numB hs x := by
  obtain ⟨⟨_, h2⟩, _⟩ := h
  rcases h2 with ⟨rfl, _⟩ | ⟨g, cap, cur, rfl, _, hh, _, _, _, ht⟩
  · cases hk
  · obtain rfl : g = k := by simpa [Value.ownBlock] using hk
    cases hg : gAt l l.length x with
    | nil => exact absurd hg hne
    | cons z zs =>
      rw [hg] at ht
      have hc : cur[0]? = some (.int .i64 z) := by
        have h3 := congrArg (·[0]?) ht
        simp only [List.length_cons, Nat.mul_one, List.getElem?_take, List.map_cons] at h3
        rw [if_pos (by omega), Array.getElem?_toList] at h3
        simpa using h3
      obtain ⟨i, _, he, hz⟩ := (gAt_mem l l.length x z).1 (by rw [hg]; simp)
      unfold ownG
      rw [hh]
      simp only [hc]
      rw [← hz, Int.toNat_natCast, he]
/-- What has been laid out while the keys of 'left' are still to come. -/
def outsG (l : List S27) (hs : List ByteArray) (left : Lit → Bool) : List (List Int) := hs.map fun h => if left (key h) = true then [] else gAt l l.length h
theorem sameKey_key (a b : ByteArray) : (key a).sameKey (key b) = decide (a = b) := by
  by_cases h : a = b
  · subst h
    rw [decide_eq_true rfl]; exact WideAt.sameKey_self (key_is a)
  · rw [decide_eq_false h]
    exact sameKey_ne (fun e => h (key_inj e))
theorem outsG_start (l : List S27) : outsG l (hostsB l) (has (mapG l l.length)) = List.replicate (hostsB l).length [] := by
  unfold outsG
  rw [List.eq_replicate_iff]
  refine ⟨by simp, fun b hb => ?_⟩
  obtain ⟨h, hh, rfl⟩ := List.mem_map.1 hb
  obtain ⟨x, hx, rfl⟩ := (hostsB_mem l h).1 hh
  rw [if_pos]
  refine (mapG_at l x.f4 l.length).2.2 (fun e => ?_)
  obtain ⟨i, hi, rfl⟩ := List.getElem_of_mem hx
  have := (gAt_mem l l.length l[i].f4 (i : Int)).2 ⟨i, hi, by simp [List.getD, hi], rfl⟩
  rw [e] at this
  cases this
theorem outsG_step (l : List S27) {hs : List ByteArray} (nd : hs.Nodup) (left : Lit → Bool) {h : ByteArray} (hh : h ∈ hs) : outsG l hs (fun z => left z && !z.sameKey (key h)) = (outsG l hs left).set (numB hs h) (gAt l l.length h) := by
  unfold outsG
  apply List.ext_getElem
  · simp
  · intro j h1 h2
    have hj : j < hs.length := by simpa using h1
    rw [List.getElem_map, List.getElem_set, List.getElem_map]
    simp only [sameKey_key]
    by_cases e : numB hs h = j
    · subst e
      rw [if_pos rfl, numB_get hh]
      simp
    · rw [if_neg e]
      have hne : hs[j] ≠ h := fun e2 => by
        have hlt := numB_lt hh
        have hg := numB_get hh
        have hp := List.pairwise_iff_getElem.1 nd
        rcases Nat.lt_trichotomy (numB hs h) j with h3 | h3 | h3
        · exact hp (numB hs h) j hlt hj h3 (by rw [hg, e2])
        · exact e h3
        · exact hp j (numB hs h) hj hlt h3 (by rw [hg, e2])
      rw [decide_eq_false hne]
      simp
theorem outsG_end (l : List S27) {left : Lit → Bool} (h0 : ∀ kl, left kl = false) : outsG l (hostsB l) left = groupsL l := by
  unfold outsG groupsL
  apply List.map_congr_left
  intro h _
  rw [if_neg (by rw [h0]; simp)]
theorem has_host (l : List S27) {h : ByteArray} (hh : has (mapG l l.length) (key h) = true) : h ∈ hostsB l := by
  have h1 := (mapG_at l h l.length).2.1 hh
  cases hg : gAt l l.length h with
  | nil => exact absurd hg h1
  | cons z zs =>
    obtain ⟨i, hi, he, _⟩ := (gAt_mem l l.length h z).1 (by rw [hg]; simp)
    refine (hostsB_mem l h).2 ⟨l[i], List.getElem_mem _, ?_⟩
    rw [← he]
    simp [List.getD, hi]
theorem new_block' (w : World) (cs : Array Value) (t : TypeId) : (w.alloc (.cells cs t)).heap[w.heap.size]? = some (.cells cs t (0, 0)) := (MapKept.heap_alloc w _).1
set_option maxHeartbeats 8000000 in
set_option maxRecDepth 100000 in
theorem groups_calls (l0 : List S27) (hl : l0.length ≤ 1759218604441) (hf : ∀ x ∈ l0, fitS x) (A0 : Option Addr) (c0 : Nat) (w : World) (hr0 : Kd.C k27 w A0 l0.length l0) (hc0 : l0.length ≤ c0) :
    Calls Try.prog 16 #[.slice A0 l0.length c0] w fun e w' => ∃ v : Value, e = .returned v ∧ Kd.S (Kd.slice 3 (Kd.int .i64)) 34 w' w.heap.size (fun _ => True) v (groupsL l0) ∧ Below w.heap.size w w' := by
  have hmm := @run_makeMap Try.prog
  have HR0 := Aside0.mk hr0
  have HL := Aside0.mk hl
  have HF := Aside0.mk hf
  have HC0 := Aside0.mk hc0
  obtain ⟨i0, hi, hz0, hz1, hz2⟩ := info_parts info3
  have HI := Aside0.mk (And.intro hi (And.intro hz0 (And.intro hz1 hz2)))
  clear hr0 hc0 hl hf hi hz0 hz1 hz2
  go_enter Try.func16, Try.ntmps16
  go_wp2_with fail
  go_loopg [13] l0.length (fun kq v13 w' => ∃ x13 : Int, v13 = .int .i64 x13 ∧ Aside0 (0 ≤ x13 ∧ x13 + kq = l0.length) ∧ Aside0 (w'.ownsGroups Try.prog 9 (w.heap.size + 1) 3 .i64 w.heap.size x13.toNat (mapG l0 x13.toNat)) ∧ Aside0 (Below w.heap.size w w') ∧ Aside0 (w.heap.size + 1 ≤ w'.heap.size))
  case atStart => exact ⟨0, rfl, ⟨by omega, by omega⟩, ⟨World.ownsGroups_made _ _ _ _ _⟩, ⟨(Below.refl _ _).alloc (Nat.le_refl _) _⟩, ⟨by simp⟩⟩
  case round =>
   obtain ⟨x13, rfl, HK, HG, HB, HS⟩ := hrel
   by_cases c1 : x13 < (l0.length : Int)
   · have c1b := decide_eq_true c1
     have p1 : 0 ≤ x13 := HK.out.1
     obtain ⟨ad1, e1, hx1_0, hx1_1, hx1_2, hx1_3, hx1_4, hx1_5, hx1_6, hx1_7⟩ := at_T27 HR0.out x13 p1 c1
     cases e1
     replace hx1_0 := (HB.out.cell (World.block_lt_of_cell? w _ hx1_0)).trans hx1_0
     replace hx1_1 := (HB.out.cell (World.block_lt_of_cell? w _ hx1_1)).trans hx1_1
     replace hx1_2 := (HB.out.cell (World.block_lt_of_cell? w _ hx1_2)).trans hx1_2
     replace hx1_3 := (HB.out.cell (World.block_lt_of_cell? w _ hx1_3)).trans hx1_3
     replace hx1_4 := (HB.out.cell (World.block_lt_of_cell? w _ hx1_4)).trans hx1_4
     replace hx1_5 := (HB.out.cell (World.block_lt_of_cell? w _ hx1_5)).trans hx1_5
     replace hx1_6 := (HB.out.cell (World.block_lt_of_cell? w _ hx1_6)).trans hx1_6
     replace hx1_7 := (HB.out.cell (World.block_lt_of_cell? w _ hx1_7)).trans hx1_7
     have P1 := Aside0.mk p1
     have Q1 := Aside0.mk c1
     have HFit := Aside0.mk (HF.out _ (rdS_mem p1 c1))
     have HSg := Aside0.mk (show l0.getD x13.toNat z27 = rd_T27 l0 x13 from rfl)
     generalize rd_T27 l0 x13 = s at *
     have hkey := keyOf_string_mk Try.underlying9 (s := s.f4) (Nat.le_trans HFit.out.2.1 (by decide))
     have hxl : x13.toNat < 1759218604441 := by have := HL.out; omega
     obtain ⟨v, zs, hrun, hat, hoi, hzl, hback⟩ := HG.out.at lawStr Try.underlying72 (zeroRow _) (show x13.toNat < 9223372036854775807 by omega) hkey
     have hzs : zs = gAt l0 x13.toNat s.f4 := gDat_row hoi ((mapG_at l0 s.f4 x13.toNat).1.symm.trans hat)
     obtain ⟨es, clock, hbE, FE, _⟩ := HG.out
     have HDet : Aside0 (∀ w', w'.heap[w.heap.size]? = some (.map es clock) → (Instr.lookup 72 (.map (some w.heap.size)) (.string s.f4) false).run Try.prog w' = .ok v w') := ⟨fun w' hb' => look_det lawStr Try.underlying72 zeroRow hbE hb' FE hkey hrun⟩
     have HZs := Aside0.mk hzs
     have HOi := Aside0.mk hoi
     have HZl := Aside0.mk hzl
     have HBack := Aside0.mk hback
     have HbE := Aside0.mk hbE
     have HXl := Aside0.mk hxl
     clear hzs hoi hzl hback hbE FE hrun hat hkey hxl
     replace p1 := eq_true p1
     replace c1 := eq_true c1
     have W1 := Aside0.mk (show wrap64 (x13 + 1) = x13 + 1 from by unfold wrap64; have := HL.out; have := P1.out; have := Q1.out; omega)
     obtain ⟨k1, rfl⟩ : ∃ k1, gk = k1 + 1 := ⟨gk - 1, by have := HK.out; have := Q1.out; omega⟩
     go_wp2_with fail
     obtain ⟨W1', hW1⟩ : ∃ W1', wr.alloc (.cells #[.int .u64 s.f0, .int .u64 s.f1, .int .u64 s.f2, .int .u8 s.f3, .string s.f4, .string s.f5, .int .i64 s.f6, .int .i64 s.f7] 27) = W1' := ⟨_, rfl⟩
     rw [hW1]
     have hcell : W1'.cell? ⟨wr.heap.size, 4, none⟩ = some (.string s.f4) := by rw [← hW1]; exact (blk_cell (new_block' wr _ _) 4).trans rfl
     have hmapb : W1'.heap[w.heap.size]? = some (.map es clock) := by rw [← hW1]; exact (heap_alloc_old _ _ _ (by have := HS.out; omega)).trans HbE.out
     have hlt1 : w.heap.size < W1'.heap.size := by rw [← hW1]; have := HS.out; simp; omega
     have HGr := Aside0.mk (show wr.grownBy W1'.drew none from hW1 ▸ ⟨rfl, rfl, rfl, by simp, fun k hk _ => heap_alloc_old wr _ k hk⟩)
     have HB1 := Aside0.mk (show Below w.heap.size w W1'.drew from below_drew (hW1 ▸ below_alloc HB.out _))
     clear hx1_0 hx1_1 hx1_2 hx1_3 hx1_4 hx1_5 hx1_6 hx1_7
     refine start_ (n := 11) (S := fun w' => w'.cell? ⟨wr.heap.size, 4, none⟩ = some (.string s.f4) ∧ w'.heap[w.heap.size]? = some (.map es clock)) (ds := [10]) #[false, false, false, false, false, false, false, false, false, false, false] (by kernel_rfl) rfl rfl ⟨hcell, hmapb⟩ (fun hHeld => ?_)
     have HLtB := Aside0.mk (show w.heap.size < W1'.drew.heap.size from hlt1)
     clear hcell hmapb hlt1 hW1
     generalize W1'.drew = W2 at *
     refine pure_ (i := 0) (N := some 18) (v := ?_) (a' := ?_) #[true, false, false, false, false, false, false, false, false, false, false] rfl rfl (by kernel_rfl) (fun _ _ _ h => h) (Or.inl ⟨by rfl, ?_⟩) ?_ ?_
     rotate_left
     · intro w'
       go_simp
       with_reducible rfl
     rotate_left
     · simp only [Act.put, List.setIfInBounds_toArray, List.set_cons_zero, List.set_cons_succ, i64_w, i32_w]
       rfl
     refine pure_ (i := 1) (N := some 19) (v := ?_) (a' := ?_) #[true, true, false, false, false, false, false, false, false, false, false] rfl rfl (by kernel_rfl) (fun _ _ _ h => h) (Or.inl ⟨by rfl, ?_⟩) ?_ ?_
     rotate_left
     · intro w'
       go_simp
       with_reducible rfl
     rotate_left
     · simp only [Act.put, List.setIfInBounds_toArray, List.set_cons_zero, List.set_cons_succ, i64_w, i32_w]
       rfl
     refine pure_ (i := 3) (N := some 21) (v := ?_) (a' := ?_) #[true, true, false, true, false, false, false, false, false, false, false] rfl rfl (by kernel_rfl) (fun _ _ _ h => h) (Or.inl ⟨by rfl, ?_⟩) ?_ ?_
     rotate_left
     · intro w'
       go_simp
       with_reducible rfl
     rotate_left
     · simp only [Act.put, List.setIfInBounds_toArray, List.set_cons_zero, List.set_cons_succ, i64_w, i32_w]
       rfl
     refine pure_ (i := 4) (N := some 22) (v := ?_) (a' := ?_) #[true, true, false, true, true, false, false, false, false, false, false] rfl rfl (by kernel_rfl) (fun _ _ _ h => h) (Or.inl ⟨by rfl, ?_⟩) ?_ ?_
     rotate_left
     · intro w'
       go_simp
       with_reducible rfl
     rotate_left
     · simp only [Act.put, List.setIfInBounds_toArray, List.set_cons_zero, List.set_cons_succ, i64_w, i32_w]
       rfl
     refine pure_ (i := 7) (N := some 25) (v := ?_) (a' := ?_) #[true, true, false, true, true, false, false, true, false, false, false] rfl rfl (by kernel_rfl) (fun _ _ _ h => h) (Or.inl ⟨by rfl, ?_⟩) ?_ ?_
     rotate_left
     · intro w'
       go_simp
       with_reducible rfl
     rotate_left
     · simp only [Act.put, List.setIfInBounds_toArray, List.set_cons_zero, List.set_cons_succ, i64_w, i32_w]
       rfl
     refine take_ (i := 2) (N := some 20) (v := ?_) (a' := ?_) #[true, true, true, true, true, false, false, true, false, false, false] rfl rfl (by kernel_rfl) (fun _ _ _ h => h) (Or.inl ⟨by rfl, ?_⟩) hHeld ?_ ?_
     rotate_left
     · rintro w' ⟨s0, s1⟩
       go_simp
       with_reducible rfl
     rotate_left
     · simp only [Act.put, List.setIfInBounds_toArray, List.set_cons_zero, List.set_cons_succ, i64_w, i32_w]
       rfl
     refine take_ (i := 5) (N := some 23) (v := ?_) (a' := ?_) #[true, true, true, true, true, true, false, true, false, false, false] rfl rfl (by kernel_rfl) (fun _ _ _ h => h) (Or.inl ⟨by rfl, ?_⟩) hHeld ?_ ?_
     rotate_left
     · rintro w' ⟨s0, s1⟩
       go_simp
       with_reducible rfl
     rotate_left
     · simp only [Act.put, List.setIfInBounds_toArray, List.set_cons_zero, List.set_cons_succ, i64_w, i32_w]
       rfl
     refine take_ (i := 6) (N := some 24) (v := ?_) (a' := ?_) #[true, true, true, true, true, true, true, true, false, false, false] rfl rfl (by kernel_rfl) (fun _ _ _ h => h) (Or.inl ⟨by rfl, ?_⟩) hHeld ?_ ?_
     rotate_left
     · rintro w' ⟨s0, s1⟩
       have hq := HDet.out w' s1
       go_simp
       with_reducible rfl
     rotate_left
     · simp only [Act.put, List.setIfInBounds_toArray, List.set_cons_zero, List.set_cons_succ, i64_w, i32_w]
       rfl
     refine one_ (i := 8) (N := some 26) #[true, true, true, true, true, true, true, true, true, false, false] rfl rfl (by kernel_rfl) (by decide) (fun K hK => ?_)
     refine value_ (w1 := ?_) (v := ?_) (by rfl) rfl ?_ ?_
     rotate_left 2
     · go_simp
       constructor
       · rfl
       · rfl
     refine hK.out _ _ ⟨(World.cell?_alloc_lt _ _ _ (World.block_lt_of_cell? _ _ hHeld.1)).trans hHeld.1, (heap_alloc_old _ _ _ (HLtB.out)).trans hHeld.2⟩ (fun hHeld2 => ?_)
     clear hK K
     refine norm_ (a' := ?_) ?_ ?_
     rotate_left
     · show Act.put _ (some 26) _ = _
       simp only [Act.put, List.setIfInBounds_toArray, List.set_cons_zero, List.set_cons_succ, i64_w, i32_w]
       rfl
     refine one_ (i := 9) (N := some 27) #[true, true, true, true, true, true, true, true, true, true, false] rfl rfl (by kernel_rfl) (by decide) (fun K hK => ?_)
     have hoi2 := (HOi.out.kept HGr.out (by cases v.ownBlock <;> simp)).alloc (.cells #[.int .i64 x13] 3)
     refine step_append_at (by rfl) (.tmp 24) (.tmp 26) 34 rfl (w.heap.size + 1) 3 i0 (.int .i64 0) 1 8 Try.underlying34 HI.out.1 HI.out.2.1 HI.out.2.2.1 HI.out.2.2.2 rfl (by decide) v zs.length (zs.map (Value.int .i64)) rfl hoi2.1 ⟨W2.heap.size, 0, none⟩ 1 1 [.int .i64 x13] (by rfl) rfl (cell_one_new _ _ _) (ints_oneCell .i64 [x13]) (by have h1 := HZl.out; have h2 := HXl.out; show zs.length + 1 ≤ 9223372036854775807; omega) (by have h1 := HZl.out; have h2 := HXl.out; omega) (by have := HLtB.out; simp; omega) ?_
     intro v' w3 hown' hgrow hloc
     have hne : ∀ b, v.ownBlock = some b → w.heap.size + 1 ≤ b ∧ b < wr.heap.size := fun b hb => HOi.out.1.lt b hb
     have hsz2 : wr.heap.size ≤ W2.heap.size := HGr.out.size
     have hbm : w3.heap[w.heap.size]? = some (.map es clock) := (hgrow.block w.heap.size (by simp; have := HLtB.out; omega) (fun h => by have := hne _ h.symm; omega)).trans hHeld2.2
     have hbc : w3.cell? ⟨wr.heap.size, 4, none⟩ = some (.string s.f4) := (World.cell?_of_block (a := ⟨wr.heap.size, 4, none⟩) (hgrow.block wr.heap.size (World.block_lt_of_cell? _ _ hHeld2.1) (fun h => by have := hne _ h.symm; omega))).trans hHeld2.1
     have hwf : (Lit.int .i64 x13).wf = true := WalkArith.wf_i64 (by have := HXl.out; have := P1.out; omega)
     have happ := hoi2.appended hown' hwf
     have hgall : wr.grownBy w3 v.ownBlock := ((HGr.out.but _).trans ((World.grownBy_alloc W2 _ none).but _)).trans hgrow
     obtain ⟨w4, hrun4, hown4, hgr4⟩ := HBack.out w3 v' (zs ++ [x13]) hgall happ (by have := HZl.out; simp; omega) (hloc.imp id (fun h => ⟨_, h, by simp; omega⟩))
     have hB4 : Below w.heap.size w w4 := HB.out.groups HOi.out hgall hgr4 HB.out.size (Nat.le_succ _) (Nat.le_refl _)
     have hS4 : w.heap.size + 1 ≤ w4.heap.size := Nat.le_trans HS.out (Nat.le_trans hgall.size hgr4.size)
     have hD4 : (mapG l0 x13.toNat).put (key s.f4) (rowDatum (H := Unit) .i64 v' (zs ++ [x13])) = mapG l0 (x13.toNat + 1) := by
       rw [happ.datum_pos (H := Unit) (by simp), HZs.out, mapG, HSg.out, gAt_succ, HSg.out, if_pos rfl, show ((x13.toNat : Nat) : Int) = x13 by have := P1.out; omega]
     rw [hD4] at hown4
     have HG4 := Aside0.mk hown4
     have HB4 := Aside0.mk hB4
     have HS4 := Aside0.mk hS4
     have HRun4 := Aside0.mk hrun4
     refine hK.out _ _ ⟨hbc, hbm⟩ (fun hHeld3 => ?_)
     clear hK K hbc hbm happ hgall hown4 hB4 hS4 hD4 hrun4 hown' hgrow hloc hne hoi2 hgr4 hwf hHeld hHeld2
     refine norm_ (a' := ?_) ?_ ?_
     rotate_left
     · show Act.put _ (some 27) _ = _
       simp only [Act.put, List.setIfInBounds_toArray, List.set_cons_zero, List.set_cons_succ, i64_w, i32_w]
       rfl
     refine last_ (i := 10) (N := none) #[true, true, true, true, true, true, true, true, true, true, true] rfl rfl (by kernel_rfl) (by decide) (fun K hK => ?_)
     refine skip_ (w1 := w4) (by rfl) rfl ?_ ?_
     · have h4 := HRun4.out
       go_simp
       try simp [h4, Result.andThen]
     refine hK.out _ _ ?_
     clear hK K
     refine done_ (by kernel_rfl) ?_
     try go_wp2
     go_roundg k1
     case measure => omega
     case rel => exact ⟨x13 + 1, by rw [W1.out], ⟨by have := P1.out; omega, by have := HK.out; omega⟩, ⟨by rw [show (x13 + 1).toNat = x13.toNat + 1 by have := P1.out; omega]; exact HG4.out⟩, HB4, HS4⟩
   · have c1b := decide_eq_false c1
     have hx : x13.toNat = l0.length := by have := HK.out; omega
     have hg := HG.out
     rw [hx] at hg
     have HRows : Aside0 (∀ v z, rowElem (H := Unit) wr (w.heap.size + 1) 3 .i64 v = some z → ∃ zs, wr.ownsInts (w.heap.size + 1) 3 .i64 v zs ∧ z.1 = rowDatum .i64 v zs) := ⟨fun v z hv => by
       obtain ⟨zs, h1, h2⟩ := rowElem_inv hv
       exact ⟨zs, h1, by rw [h2]⟩⟩
     obtain ⟨es, clock, hbE, FE, hsz, hD, _⟩ := hg
     have hown : wr.ownsMap Try.prog 9 (rowElem (H := Unit) wr (w.heap.size + 1) 3 .i64) w.heap.size l0.length (mapG l0 l0.length) := ⟨es, clock, hbE, FE, hsz, hD⟩
     clear hbE FE hsz hD hx HG HK c1
     generalize hR0 : rowElem (H := Unit) wr (w.heap.size + 1) 3 .i64 = R0 at *
     clear hR0
     have HOwn := Aside0.mk hown
     have HFit : Aside0 (∀ x ∈ l0, fitS x) := ⟨HF.out⟩
     have QN := Aside0.mk (numbers_calls l0 HL.out HFit.out A0 c0 wr (Kd.C_below HR0.out HB.out) HC0.out)
     have HSz := Aside0.mk (numD_size (hostsB_nodup l0) (hostsB l0).length (Nat.le_refl _))
     have HHl := Aside0.mk (show (hostsB l0).length ≤ 1759218604441 from Nat.le_trans (hostsB_length l0) HL.out)
     have HStart := Aside0.mk (outsG_start l0)
     clear hown
     go_wp2_with (first
       | (go_at_call 44; refine QN.out.mono ?_; rintro e w1 ⟨rfl, hm, hb⟩; have HM := Aside0.mk hm; have HBw := Aside0.mk hb; have HOw1 := Aside0.mk (map_below HOwn.out hb); clear hm hb)
       | (at_len; refine wpList_len_own _ rfl _ 70 rfl 9 3 Try.underlying70 _ wr.heap.size (hostsB l0).length _ rfl HM.out ?_; rw [HSz.out])
       | ((with_reducible refine gate_dst (N := 33) rfl ?_); refine Kd.R_make (Kd.bare (Kd.slice 3 (Kd.int .i64))) (w0 := wr) wr.heap.size 34 rfl rfl 31 (.tmp 32) (.tmp 32) rfl ((hostsB l0).length : Int) rfl rfl Try.underlying31 (.slice none 0 0) 24 info34 rfl (by decide) (by decide) ([] : List Int) (okp := fun _ => False) (ok := fun _ => True) ?mZ (fun _ h => h.elim) trivial (by omega) ?mL HBw.out HBw.out.size ?_; (case mZ => exact ⟨_, rfl, Kd.R_nil _ _ _ _ _⟩); (case mL => have := HHl.out; omega); intro v2 w2 ho hb hg2 hat2; have HO2 := Aside0.mk (bare_tag (ownG l0 (hostsB l0) wr) ho); have HB2 := Aside0.mk hb; have HM2 := Aside0.mk (HM.out.kept hg2 (by simp)); have HOw2 := Aside0.mk (HOw1.out.kept hg2 (by simp)); clear ho hb hg2 hat2)
       | (at_range; refine wpList_range_own _ rfl _ 72 rfl 9 34 lawStr Try.underlying72 _ w.heap.size l0.length _ rfl HOw2.out ?_; intro w3 hrg3 hg3 hs3; have HRg := Aside0.mk hrg3; have HO3 := Aside0.mk (Kd.R_grown HO2.out hg3 (fun _ _ => by simp)); have HM3 := Aside0.mk (HM2.out.kept hg3 (by simp)); have HB3 := Aside0.mk (HB2.out.grown hg3 HB2.out.size (fun _ h => by cases h)); have HRs := Aside0.mk (show wr.heap.size ≤ w2.heap.size from HB2.out.size); clear hrg3 hg3 hs3))
     go_frame
     generalize wr = WL at *
     obtain ⟨A2, n2, hv2⟩ := Kd.R_slice HO3.out
     rw [List.length_zipIdx, List.length_replicate] at hv2
     subst hv2
     have HBs2 := Aside0.mk (Kd.R_base HO3.out)
     have HO4 := Aside0.mk (show Kd.R (kG (ownG l0 (hostsB l0) WL)) 34 w3 w.heap.size (fun _ => True) (.slice A2 (hostsB l0).length n2) (outsG l0 (hostsB l0) (has (mapG l0 l0.length))).zipIdx from by rw [HStart.out]; exact Kd.R_lower HO3.out HB.out.size)
     have HLen2 := Aside0.mk (fun left : Lit → Bool => show (outsG l0 (hostsB l0) left).length = (hostsB l0).length from by unfold outsG; rw [List.length_map])
     have HStep := Aside0.mk (fun (left : Lit → Bool) (h : ByteArray) hh => outsG_step l0 (hostsB_nodup l0) left (h := h) hh)
     have HNd := Aside0.mk (hostsB_nodup l0)
     have HHas := Aside0.mk (fun h => has_host l0 (h := h))
     have HFt := Aside0.mk (hostsB_fit HF.out)
     have HEnd := Aside0.mk (fun (left : Lit → Bool) => outsG_end l0 (left := left))
     have HAt := Aside0.mk (fun h => mapG_at l0 h l0.length)
     clear HO2 HOw2 HM2 HB2 HO3 HM HBw HOw1 HOwn QN HSz HStart
     generalize hD : mapG l0 l0.length = D at *
     clear hD
     generalize hostsB l0 = hs at *
     obtain ⟨rg, hrgs⟩ : ∃ rg, w2.heap.size = rg := ⟨_, rfl⟩
     rw [hrgs] at HRg HRs ⊢
     clear hrgs
     go_loopg [8] (Maps.size D) (fun kq v8 w' => ∃ (left : Lit → Bool) (cnt : Nat), Aside0 (cnt ≤ kq) ∧ Aside0 (w'.ranges Try.prog 9 R0 w.heap.size rg l0.length D left cnt) ∧ Aside0 (∀ kl, left kl = true → has D kl = true) ∧ Aside0 (Kd.R (kG (ownG l0 hs WL)) 34 w' w.heap.size (fun _ => True) (.slice A2 hs.length n2) (outsG l0 hs left).zipIdx) ∧ Aside0 (w'.ownsMap Try.prog 9 (plainElem Try.prog 3) WL.heap.size hs.length (numD hs hs.length)) ∧ Aside0 (Below WL.heap.size WL w'))
     case atStart => exact ⟨has D, Maps.size D, ⟨Nat.le_refl _⟩, HRg, ⟨fun _ h => h⟩, HO4, HM3, HB3⟩
     case round =>
       clear HRg HO4 HM3 HB3
       obtain ⟨left, cnt, HC, HRg, HLf, HO, HM, HB3⟩ := hrel
       have invK : ∀ key kl, keyOf Try.prog 9 key = some kl → ∃ x : ByteArray, key = .string x := fun key kl hk => by
         obtain ⟨x, hx, _⟩ := Go.Maps.keyOf_str Try.underlying9 hk
         exact ⟨_, hx⟩
       have invV : ∀ v y, R0 v = some y → ∃ c : Option Addr × Nat × Nat, v = .slice c.1 c.2.1 c.2.2 := fun v y hv => by
         obtain ⟨zs, hz, _⟩ := HRows.out v y hv
         rcases hz.1.2 with ⟨h, _⟩ | ⟨g, cap, cur, h, _⟩
         · exact ⟨(none, 0, 0), h⟩
         · exact ⟨(some ⟨g, 0, none⟩, zs.length, cap), h⟩
       go_wp2_with (first
         | (at_next; refine wpList_next_ranges _ rfl _ rfl 9 lawStr R0 Value.string (fun c : Option Addr × Nat × Nat => .slice c.1 c.2.1 c.2.2) invK invV w.heap.size rg l0.length D left cnt rfl HRg.out ?_ ?_))
       · intro _ hl0
         have ho := HO.out
         rw [HEnd.out left hl0] at ho
         have HO5 := Aside0.mk ho
         clear ho HO hl0
         go_wp2
         go_ret
         exact ⟨_, rfl, ⟨_, HO5.out⟩, below_step HB.out HB3.out⟩
       · intro x a na ca kl d ps w4 cnt4 hkey hlk hv hat hrg4 hlt4 hg4 hs4 hen
         obtain ⟨y, hy, hkl, hyl⟩ := Go.Maps.keyOf_str Try.underlying9 hkey
         have hkl2 : kl = key x := by
           have h1 := keyOf_string_mk Try.underlying9 (s := x) (by
             injection hy with hy
             rw [hy]
             show (y.toArray).size ≤ _
             rw [List.size_toArray]; exact hyl)
           exact Option.some.inj (hkey.symm.trans h1)
         clear hy hkl hyl y
         subst hkl2
         have hh : x ∈ hs := HHas.out x (HLf.out _ hlk)
         obtain ⟨zs, hz, hzd⟩ := HRows.out _ _ hv
         have hzs : zs = gAt l0 l0.length x := gDat_row hz ((HAt.out x).1.symm.trans ((hat .nil).trans hzd))
         obtain ⟨xi, hxi⟩ : ∃ xi : Int, (numB hs x : Int) = xi := ⟨_, rfl⟩
         have hnl := numB_lt hh
         have hx0 : 0 ≤ xi := by omega
         have hx1 : xi < (hs.length : Int) := by omega
         have hxn : xi.toNat = numB hs x := by omega
         have hnum := numD_num HNd.out hh (.lit (.int .i64 0))
         rw [hxi] at hnum
         have HNum := Aside0.mk hnum
         have HKey := Aside0.mk hkey
         have HO4 := Aside0.mk (row_iter HRg.out HO.out hg4)
         have HM4 := Aside0.mk (map_iter HRg.out HM.out hg4)
         have HB4 := Aside0.mk (HB3.out.grown hg4 HB3.out.size (fun i hi => by cases hi; exact HRs.out))
         have HRg4 := Aside0.mk hrg4
         obtain ⟨g2, cap2, e2, hb2, _⟩ := Kd.R_form HO4.out (by rw [List.length_zipIdx, HLen2.out]; omega)
         injection e2 with ea eb ec
         subst ea
         subst ec
         have HBg := Aside0.mk (HBs2.out g2 (by simp [Value.ownBlock]))
         have hzr : Kd.R (Kd.int .i64) 3 w4 w.heap.size (fun k => k ≠ g2 ∧ ownG l0 hs WL k = xi.toNat) (.slice a na ca) zs := by
           refine Kd.R_of_own (enc := Value.int .i64) (own_weaken (own_move hz.1 (fun k hk => HB4.out.block k (hz.1.lt k hk).2)) (Nat.le_succ _)) (fun k hk => ?_)
           have h1 := (hz.1.lt k hk).2
           have h2 := HBg.out
           refine ⟨by omega, ?_⟩
           rw [hxn]
           exact ownG_is (hzs ▸ hz) ((HAt.out x).2.1 (HLf.out _ hlk)) k hk
         rw [hzs] at hzr
         have HZr := Aside0.mk hzr
         have HStp := Aside0.mk (HStep.out left x hh)
         have HLf4 := Aside0.mk (show ∀ kl, (left kl && !kl.sameKey (key x)) = true → has D kl = true from fun kl h => HLf.out kl (Bool.and_eq_true _ _ ▸ h : left kl = true ∧ _).1)
         have HXn := Aside0.mk hxn
         have X0 := Aside0.mk hx0
         have X1 := Aside0.mk hx1
         have HCt := Aside0.mk hlt4
         have x0 := eq_true hx0
         have x1 := eq_true hx1
         clear hx0 hx1 hlt4 hzr hzs hz hzd hnum hkey hnl hh hat hv hlk hrg4 hg4 hs4 hxn hxi eb hb2 HRg HO HM HB3 HLf
         obtain ⟨k1, rfl⟩ : ∃ k1, gk = k1 + 1 := ⟨gk - 1, by have := HC.out; have := HCt.out; omega⟩
         go_wp2_with (first
           | (at_lookup; refine lookup_known _ rfl _ _ 70 rfl 9 3 .i64 lawStr Try.underlying70 Try.underlying3 (zeroInt _) WL.heap.size hs.length (numD hs hs.length) rfl HM4.out _ _ rfl HKey.out xi HNum.out ?_)
           | ((with_reducible refine gate_store (t := 34) (p := 46) rfl ?_); refine store_row (w0 := w) (g := g2) (o' := xi.toNat) _ xi _ _ _ _ _ rfl rfl (.tmp 46) (.tmp 45) rfl rfl rfl rfl HO4.out X0.out X1.out (below_step HB.out HB4.out) HZr.out ?_; intro w5 ho hb hg5; have HO5 := Aside0.mk ho; have HM5 := Aside0.mk (map_kept HM4.out HO4.out (show w4.grownBy w5 (Value.slice (some ⟨g2, 0, none⟩) hs.length n2).ownBlock from hg5)); have HRg5 := Aside0.mk (range_row HRg4.out HO4.out (show w4.grownBy w5 (Value.slice (some ⟨g2, 0, none⟩) hs.length n2).ownBlock from hg5)); have HB5 := Aside0.mk (HB4.out.grown hg5 HB4.out.size (fun i hi => by cases hi; exact HBg.out)); clear ho hb hg5))
         go_roundg k1
         case measure => omega
         case rel => exact ⟨_, cnt4, ⟨by have := HC.out; have := HCt.out; omega⟩, HRg5, HLf4, ⟨by rw [HStp.out, ← HXn.out, zipIdx_set]; exact HO5.out⟩, HM5, HB5⟩
end Go.Proofs.Ytkpmaenhkjfncaa.L
