/-
  The program's Defend.
-/
import Derived.Test.YtnjdkkgkaafdbaaGreatDoorMChk24
namespace Go.Proofs.YtnjdkkgkaafdbaaGreatDoor
open Go Go.RowKit Go.Shelf
attribute [local go_sem] Oper.semAt_some

theorem kept_grownBy {W W' : World} {row : Option Nat} (h : W.grownBy W' row) : Kept (fun k => some k = row) W W' :=
  ⟨h.os, h.tape, h.output, h.size, fun k hk hn => h.block k hk hn⟩
/-- What a loop of Defend's reads, in blocks that it does not write. -/
structure DefB (w : World) (no : Nat → Prop) (S : St) (V : SV) (p q b : Nat) (s : Sl) (l : List Int) : Prop where
  rs : RS S V w
  ap : ∀ k, V.uses k → ¬ no k ∧ k < w.heap.size
  vars : ∀ k, (k = 0 ∨ k = 1 ∨ k = 2) → ¬ no k
  blk : w.blk q = stA V S.num
  free : w.free q = true
  lt : q < w.heap.size
  nq : ¬ no q
  ptr : w.cell? ⟨p, 0, none⟩ = some (.pointer (some ⟨b, 0, none⟩))
  np : ¬ no p
  ints : Ints w s l
  list : 0 < l.length → ¬ no s.b ∧ s.b < w.heap.size
theorem DefB.turn {w w' : World} {no : Nat → Prop} {S : St} {V : SV} {p q b : Nat} {s : Sl} {l : List Int} (h : DefB w no S V p q b s l) (k : Kept no w w') : DefB w' no S V p q b s l := by
  obtain ⟨s1, s2, s3⟩ := h.rs.glob.size
  have hs := k.size
  exact ⟨⟨h.rs.rep.kept k (fun j hj => (h.ap j hj).1), h.rs.right, h.rs.small, ⟨⟨by omega, by omega, by omega⟩, by rw [k.blk _ s1 (h.vars _ (.inl rfl)), h.rs.glob.resting], by rw [k.blk _ s2 (h.vars _ (.inr (.inl rfl))), h.rs.glob.flag], by rw [k.blk _ s3 (h.vars _ (.inr (.inr rfl))), h.rs.glob.any]⟩⟩,
    fun j hj => ⟨(h.ap j hj).1, Nat.lt_of_lt_of_le (h.ap j hj).2 hs⟩, h.vars, by rw [k.blk _ h.lt h.nq]; exact h.blk, by rw [k.free _ h.lt h.nq]; exact h.free, Nat.lt_of_lt_of_le h.lt hs, h.nq, (k.cell p 0 (cell_blk h.ptr).1 h.np).trans h.ptr, h.np, h.ints.kept k (fun hl => (h.list hl).1), fun hl => ⟨(h.list hl).1, Nat.lt_of_lt_of_le (h.list hl).2 hs⟩⟩
theorem DefB.more {w w' : World} {no no' : Nat → Prop} {S : St} {V : SV} {p q b : Nat} {s : Sl} {l : List Int} (h : DefB w no S V p q b s l) (g : Grow w w') (hn : ∀ k, no' k → no k ∨ w.heap.size ≤ k) : DefB w' no' S V p q b s l := by
  have h1 := h.turn (g.kept no)
  have key : ∀ k, ¬ no k → k < w.heap.size → ¬ no' k := fun k a c d => by
    rcases hn k d with e | e
    · exact a e
    · omega
  obtain ⟨s1, s2, s3⟩ := h.rs.glob.size
  exact ⟨h1.rs, fun k hk => ⟨key k (h.ap k hk).1 (h.ap k hk).2, (h1.ap k hk).2⟩, fun k hk => key k (h.vars k hk) (by rcases hk with rfl | rfl | rfl <;> omega), h1.blk, h1.free, h1.lt, key q h.nq h.lt, h1.ptr, key p h.np (cell_blk h.ptr).1, h1.ints, fun hl => ⟨key _ (h.list hl).1 (h.list hl).2, (h1.list hl).2⟩⟩
theorem keepsFrom_kept {C : Nat} {no : Nat → Prop} {W W' : World} (k : Kept no W W') (h : ∀ j, C ≤ j → no j → ∃ c t f, W.heap[j]? = some (.cells c t f)) : KeepsFrom C W W' :=
  ⟨k.size, fun j o hj ho hc => by
    rw [k.block j (Array.getElem?_eq_some_iff.1 ho).1 (fun hn => by
      obtain ⟨c, t, f, h2⟩ := h j hj hn
      rw [h2] at ho; cases ho; cases hc)]
    exact ho⟩
/-- What holds between two rounds of Defend's. -/
def InvD (w4 : World) (no : Nat → Prop) (b : Nat) (own : Nat → Prop) (E1 : Em) (S : St) (l : List Int) (B5 : Nat) {N : Nat} (pre : List (Two N)) (W : World) : Prop :=
  ∃ so : Sl, Boxed W B5 23 so.val ∧ Cells W so 1 ((defS S l (pre.map (·.1))).2.map I) ∧ Room W so 1 ∧ (∀ j, so.owns j → w4.heap.size ≤ j ∧ ∃ c t f, W.heap[j]? = some (.cells c t f)) ∧ so.n = pre.length ∧ Kept no w4 W ∧ Emt W b own (E1.fail (defS S l (pre.map (·.1))).1)
/-- Where a round of Defend's leaves at once. -/
def IxD (w4 : World) (no : Nat → Prop) (b : Nat) (own : Nat → Prop) (E1 : Em) (S : St) (l : List Int) {N : Nat} (c : Code) (xs : List (Two N)) (W : World) : Prop :=
  c = .ret ∧ ∃ pre x, xs = pre ++ [x] ∧ (E1.fail (defS S l (pre.map (·.1))).1).err ≠ 0 ∧ Kept no w4 W ∧ Emt W b own (E1.fail (defS S l (pre.map (·.1))).1)
theorem invD_own {w4 : World} {no : Nat → Prop} {b : Nat} {own : Nat → Prop} {E1 : Em} {S : St} {l : List Int} {B5 N : Nat} (ho : ∀ k, own k → k < w4.heap.size) (h5 : B5 < w4.heap.size) (hno : ∀ k, w4.heap.size ≤ k → no k) : OwnFrom w4.heap.size (InvD w4 no b own E1 S l B5 (N := N)) := by
  rintro pre W W' row ⟨so, hb, hc, hr, hw, hn, hk, hem⟩ hg hrow
  have hkg := kept_grownBy hg
  have hns : ∀ j, so.owns j → ¬ some j = row := fun j hj e => by
    obtain ⟨_, o, h2, h3⟩ := hrow j e.symm
    obtain ⟨_, c, t, f, h4⟩ := hw j hj
    rw [h4] at h2; cases h2; cases h3
  refine ⟨so, hb.kept hg (fun e => by have := (hrow _ e.symm).1; omega), hc.kept hkg hns, hr.kept hkg hns, fun j hj => ?_, hn, hk.trans hkg (fun k hk e => ?_), hem.kept hkg (fun k hk e => ?_)⟩
  · obtain ⟨h4, c, t, f, h5⟩ := hw j hj
    refine ⟨h4, c, t, f, ?_⟩
    rw [hkg.block j (Array.getElem?_eq_some_iff.1 h5).1 (hns j hj)]; exact h5
  · exact hno k (hrow k e.symm).1
  · have := ho k hk; have := (hrow k e.symm).1; omega
theorem ixD_own {w4 : World} {no : Nat → Prop} {b : Nat} {own : Nat → Prop} {E1 : Em} {S : St} {l : List Int} {N : Nat} (ho : ∀ k, own k → k < w4.heap.size) (hno : ∀ k, w4.heap.size ≤ k → no k) (c : Code) : OwnFrom w4.heap.size (IxD w4 no b own E1 S l c (N := N)) := by
  rintro xs W W' row ⟨hc, pre, x, hx, he, hk, hem⟩ hg hrow
  have hkg := kept_grownBy hg
  exact ⟨hc, pre, x, hx, he, hk.trans hkg (fun k hk e => hno k (hrow k e.symm).1), hem.kept hkg (fun k hk e => by have := ho k hk; have := (hrow k e.symm).1; omega)⟩
theorem Ints.mid {w : World} {s : Sl} {l : List Int} (h : Ints w s l) (a : Nat) (ha : a + 2 ≤ l.length) : Ints w (s.mid a (a + 2)) [gt l a, gt l (a + 1)] := by
  have hn := h.len
  cases s with
  | nil => simp [Sl.n] at hn; omega
  | mk b o n c =>
    have h1 := h.cell a (by omega)
    have h2 := h.cell (a + 1) (by omega)
    simp only [Sl.b, Sl.o] at h1 h2
    have e : (if a + 2 = a then o else o + a) = o + a := if_neg (by omega)
    refine ⟨by simp [Sl.mid, Sl.n], by simp [Sl.mid, Sl.n, Sl.c], fun i hi => ?_⟩
    simp only [Sl.mid, Sl.b, Sl.o, e]
    have : i = 0 ∨ i = 1 := by simp at hi; omega
    rcases this with rfl | rfl
    · exact h1
    · rw [Nat.add_assoc]; exact h2
theorem Boxed.keptK {W W' : World} {B : Nat} {t : TypeId} {v : Value} {o : Nat → Prop} (h : Boxed W B t v) (k : Kept o W W') (hn : ¬ o B) : Boxed W' B t v := by
  show W'.heap[B]? = _
  rw [k.block B h.lt hn]
  exact h
theorem odd_zero {E : Em} {l : List Int} {c : Int} (h : ((E.odd l).fail c).err = 0) : l.length % 2 = 0 ∧ E.err = 0 ∧ c = 0 := by
  have h1 : (E.odd l).err = 0 := by
    by_cases e : (E.odd l).err = 0
    · exact e
    · rw [fail_stays e] at h; exact h
  rw [fail_err h1] at h
  unfold Em.odd at h1
  by_cases e : l.length % 2 = 0
  · rw [if_pos e] at h1; exact ⟨e, h1, h⟩
  · rw [if_neg e] at h1
    by_cases e2 : E.err = 0
    · rw [fail_err e2] at h1; cases h1
    · rw [fail_stays e2] at h1; exact absurd h1 e2
theorem cell_cells24 {w : World} {b i : Nat} {v : Value} (h : w.cell? ⟨b, i, none⟩ = some v) : ∃ c t f, w.heap[b]? = some (.cells c t f) := by
  unfold World.cell? at h
  cases ho : w.heap[b]? with
  | none => rw [ho] at h; cases h
  | some o =>
    rw [ho] at h
    cases o <;> try (cases h; done)
    exact ⟨_, _, _, rfl⟩
/-- A round that came to its end. -/
theorem d_step {w4 W w11 W1 w' : World} {no : Nat → Prop} {b B5 : Nat} {own : Nat → Prop} {E1 E5 : Em} {S : St} {l : List Int} {N : Nat} {pre : List (Two N)} {x : Two N} {so s' : Sl} {xs : List Value} {id : Int}
    (hno : no = fun k => k = b ∨ k = B5 ∨ w4.heap.size ≤ k) (hbB : b < B5) (hB4 : B5 < w4.heap.size) (hown : ∀ k, own k → k < B5) (hO : ∀ j, so.owns j → w4.heap.size ≤ j ∧ ∃ c t f, W.heap[j]? = some (.cells c t f)) (hK : Kept no w4 W) (hB : Boxed W B5 23 so.val) (hn : so.n = pre.length)
    (hF : FailPost W b own E5 w11) (g : Grow w11 W1) (c1 : Cells w' s' 1 (xs ++ [I id])) (c2 : Room w' s' 1) (c3 : Kept so.owns W1 w') (c4 : ∀ j, s'.owns j → so.owns j ∨ (W1.heap.size ≤ j ∧ j < w'.heap.size)) (c5 : s'.n = so.n + 1)
    (hx : xs ++ [I id] = (defS S l (pre.map (·.1) ++ [x.1])).2.map I) (hE : E5 = E1.fail (defS S l (pre.map (·.1) ++ [x.1])).1) :
    KeepsFrom w4.heap.size W (w'.setCell ⟨B5, 0, none⟩ s'.val) ∧ Kept no W (w'.setCell ⟨B5, 0, none⟩ s'.val) ∧ InvD w4 no b own E1 S l B5 (pre ++ [x]) (w'.setCell ⟨B5, 0, none⟩ s'.val) := by
  have hB' : Boxed w' B5 23 so.val := Boxed.keptK (Boxed.keptK (Boxed.keptK hB hF.2 (by omega)) (g.kept (fun _ => False)) (fun h => h)) c3 (fun h => by have := (hO _ h).1; omega)
  have hk3 : Kept (fun k => k = b ∨ so.owns k) W w' := (((hF.2.trans (g.kept (fun _ => False)) (fun _ _ h => h.elim)).mono (fun k _ h => Or.inl h) : Kept (fun k => k = b ∨ so.owns k) W W1)).trans c3 (fun _ _ h => Or.inr h)
  have hset : Kept (fun k => k = B5) w' (w'.setCell ⟨B5, 0, none⟩ s'.val) := (Kept.refl (fun k => k = B5) w').setCell _ _ _ (fun _ => rfl)
  have hnoS : ∀ k, (k = b ∨ so.owns k) → no k := fun k h => by
    rw [hno]
    rcases h with h | h
    · exact .inl h
    · exact .inr (.inr (hO k h).1)
  have hkn : Kept no W (w'.setCell ⟨B5, 0, none⟩ s'.val) := (hk3.mono (fun k _ h => hnoS k h)).trans hset (fun k _ h => by rw [hno]; exact .inr (.inl h))
  have hs' : ∀ j, s'.owns j → w4.heap.size ≤ j := fun j hj => by
    rcases c4 j hj with h | h
    · exact (hO j h).1
    · have := hK.size; have := hF.2.size; have := g.size; omega
  have hcell : ∀ j, s'.owns j → ∃ c t f, (w'.setCell ⟨B5, 0, none⟩ s'.val).heap[j]? = some (.cells c t f) := fun j hj => by
    have hpos : (xs ++ [I id])[0]? = some ((xs ++ [I id])[0]'(by simp)) := List.getElem?_eq_getElem (by simp)
    have h1 := c1.cell 0 _ hpos
    have h3 : s'.b = j := by cases s' with
      | nil => exact hj.elim
      | mk b o n c => exact hj.symm
    rw [h3] at h1
    obtain ⟨c, t, f, h2⟩ := cell_cells24 h1
    refine ⟨c, t, f, ?_⟩
    rw [hset.block j (Array.getElem?_eq_some_iff.1 h2).1 (fun e => by have := hs' j hj; have e : j = B5 := e; omega)]
    exact h2
  have hk4 : Kept (fun k => (k = b ∨ so.owns k) ∨ k = B5) W (w'.setCell ⟨B5, 0, none⟩ s'.val) := (hk3.mono (fun k _ h => Or.inl h)).trans hset (fun k _ h => Or.inr h)
  refine ⟨keepsFrom_kept hk4 (fun j hj hn => ?_), hkn, s', hB'.set _, ?_, c2.kept hset (fun j hj e => by have := hs' j hj; have e : j = B5 := e; omega), fun j hj => ⟨hs' j hj, hcell j hj⟩, by rw [c5, hn, List.length_append]; rfl, hK.trans hkn (fun _ _ h => h), ?_⟩
  · rcases hn with (h | h) | h
    · omega
    · exact (hO j h).2
    · omega
  · rw [List.map_append, List.map_cons, List.map_nil, ← hx]
    exact c1.kept hset (fun j hj e => by have := hs' j hj; have e : j = B5 := e; omega)
  · rw [List.map_append, List.map_cons, List.map_nil, ← hE]
    exact (((hF.1.grow g).kept c3 (fun k hk h => by have := hown k hk; have := (hO k h).1; omega)).kept hset (fun k hk e => by have := hown k hk; have e : k = B5 := e; omega))
theorem upC_map (N : Nat) : ∀ k, 2 * k ≤ N + 1 → (upC N k).map (·.1) = List.range k
  | 0, _ => rfl
  | k + 1, h => by rw [upC_succ N k (by omega), List.map_append, upC_map N k (by omega), List.range_succ]; rfl
theorem gt_map_range (f : Nat → Int) (N k : Nat) (h : k < N) : gt ((List.range N).map f) k = f k := by
  unfold gt
  simp [List.getElem?_range h]
theorem post_put {w wr : World} {b D : Nat} {own own2 : Nat → Prop} {E2 : Em} (R : Emt wr b own2 E2) (K : Kept own w wr) (O : ∀ j, own2 j → own j ∨ (w.heap.size ≤ j ∧ j < wr.heap.size)) (hD : w.heap.size ≤ D) (hn : ¬ own2 D) : EPost w b own E2 (wr.putObj D (.deferred none)) := by
  have kp : Kept (fun k => some k = some D) wr (wr.putObj D (.deferred none)) := kept_grownBy (grownBy_putObj' wr D _)
  refine ⟨own2, R.kept kp (fun k hk e => ?_), K.trans kp (fun k hk e => ?_), fun j hj => (O j hj).imp id (fun h => ⟨h.1, Nat.lt_of_lt_of_le h.2 kp.size⟩)⟩
  · cases e; exact hn hk
  · cases e; omega
theorem stop_is {E : Em} {S : St} {l : List Int} {k : Nat} (hk : k ≤ (l.length + 1) / 2) (he : ((E.odd l).fail (defS S l (List.range k)).1).err ≠ 0) : E.defend S l = (E.odd l).fail (defS S l (List.range k)).1 := by
  have h1 : (E.odd l).fail (defS S l (List.range ((l.length + 1) / 2))).1 = (E.odd l).fail (defS S l (List.range k)).1 := by
    by_cases e : (E.odd l).err = 0
    · rw [fail_err e] at he
      rw [defS_stays S l k he _ hk]
    · rw [fail_stays e, fail_stays e]
  unfold Em.defend
  rw [h1, if_neg he]
theorem Fi.blocks {S : St} {E : Em} {m0 : Nat} (hm0 : m0 ≤ 60000) (hS : Right S) (h : Fi S m0 E) {l : List Int} (hl : l.length ≤ 1000) {n : Nat} (hn : 2 * n ≤ l.length + 1) (hz : (defS S l (List.range n)).1 = 0) : ∀ k, k ≤ n → Fi S (m0 + k) (E.blocks l k)
  | 0, _ => h
  | k + 1, hk => by
    obtain ⟨c1, c2⟩ := defend_facts (defS_zero S l n hz k (by omega))
    exact Fi.block hS (Fi.blocks hm0 hS h hl hn hz k (by omega)) (by omega) c1 c2
set_option maxRecDepth 100000 in
set_option maxHeartbeats 8000000 in
theorem defend_any (w : World) (b : Nat) (own : Nat → Prop) (E : Em) (R : Emt w b own E) (GL : Glob w) (hv : ∀ k, (k = 0 ∨ k = 1 ∨ k = 2) → ¬ own k) (hRt : Right E.state) (hSm : Small E.now) (m0 : Nat) (hm0 : m0 ≤ 60000) (hF : E.err = 0 → Fi E.now m0 E) (s : Sl) (l : List Int) (hI : Ints w s l) (hs : 0 < l.length → ¬ own s.b) (hl : l.length ≤ 1000) :
    Calls Tryz.prog 24 #[.pointer (some ⟨b, 0, none⟩), s.val] w fun r w' => r = .returned (.tuple #[]) ∧ EPost w b own (E.defend E.state l) w' := by
  have hown := R.lt
  have hbo : own b := by obtain ⟨V, sd, se, sp, hr, ho⟩ := R; exact (ho b).2 (Or.inl rfl)
  have hbl := hown b hbo
  have hsn := hI.len
  have hmx : Tryz.prog.follows .mixedOrders = true := by kernel_rfl
  have HSt := Lib.hid (fun W (g : Grow w W) => estate_any W b own E (R.grow g) hSm)
  have HM := Lib.hid (fun W (g : Grow w W) ok => cmust_fine W b own E (R.grow g) ok 2 (by decide))
  have HR := Lib.hid R
  have HG := Lib.hid GL
  have HV := Lib.hid hv
  have HOL := Lib.hid hown
  have HI := Lib.hid hI
  have HS := Lib.hid hs
  have HF := Lib.hid hF
  have HRt := Lib.hid hRt
  have HSm := Lib.hid hSm
  clear R GL hv hRt hSm hF hI hs hown
  refine (callsIn_wide (n := 5)).1 ?_
  refine callsIn_of_wp_marks Tryz.func24 rfl trivial ?_ rfl
  simp only [Tryz.ntmps24, List.size_toArray, List.length_cons, List.length_nil, Nat.reduceAdd, Nat.reduceSub, Array.replicate_succ, Array.replicate_zero, List.push_toArray, List.append_toArray, List.nil_append, List.cons_append]
  gi_wp2_with (refine ⟨trivial, ?_⟩; gi_at_call 30; refine (callsIn_wide.2 (HSt.out _ grI)).mono ?_; rintro e' w' ⟨V, rfl, hR2, hU2, nS, rfl⟩)
  have hgW : Grow w (((w.alloc (.cells #[.pointer (some ⟨b, 0, none⟩)] 42)).plus nS).alloc (.cells (stA V E.state.num) 29)) := grI
  have hp0 : (((w.alloc (.cells #[.pointer (some ⟨b, 0, none⟩)] 42)).plus nS).alloc (.cells (stA V E.state.num) 29)).cell? ⟨w.heap.size, 0, none⟩ = some (.pointer (some ⟨b, 0, none⟩)) := by go_simp
  have hq : w.heap.size + 1 + nS.objs.size = ((w.alloc (.cells #[.pointer (some ⟨b, 0, none⟩)] 42)).plus nS).heap.size := by rw [plus_size, alloc_size']
  have hqb : (((w.alloc (.cells #[.pointer (some ⟨b, 0, none⟩)] 42)).plus nS).alloc (.cells (stA V E.state.num) 29)).blk (w.heap.size + 1 + nS.objs.size) = stA V E.state.num := by rw [blk_alloc, if_pos hq]
  have hqf : (((w.alloc (.cells #[.pointer (some ⟨b, 0, none⟩)] 42)).plus nS).alloc (.cells (stA V E.state.num) 29)).free (w.heap.size + 1 + nS.objs.size) = true := by rw [free_alloc, if_pos hq]; rfl
  have hqw : w.heap.size < w.heap.size + 1 + nS.objs.size := by omega
  have hql : w.heap.size + 1 + nS.objs.size < (((w.alloc (.cells #[.pointer (some ⟨b, 0, none⟩)] 42)).plus nS).alloc (.cells (stA V E.state.num) 29)).heap.size := by rw [alloc_size', ← hq]; omega
  have hR3 : RepSt (((w.alloc (.cells #[.pointer (some ⟨b, 0, none⟩)] 42)).plus nS).alloc (.cells (stA V E.state.num) 29)) V E.state := hR2.grow grI
  have hU3 : ∀ k, V.uses k → w.heap.size ≤ k ∧ k < w.heap.size + 1 + nS.objs.size := fun k hk => by have := hU2 k hk; rw [← hq, alloc_size'] at this; omega
  clear hR2 hU2 hq
  generalize w.heap.size + 1 + nS.objs.size = q at *
  generalize ((w.alloc (.cells #[.pointer (some ⟨b, 0, none⟩)] 42)).plus nS).alloc (.cells (stA V E.state.num) 29) = W1 at *
  refine ⟨trivial, ?_⟩
  refine (callsIn_wide.2 (HM.out _ hgW _)).mono ?_
  rintro e' w3 ⟨rfl, hE3, hK3⟩
  have hodd : E.fail (if ((l.length : Int) % 2 == 0) = true then 0 else 2) = E.odd l := by
    unfold Em.odd
    by_cases h : l.length % 2 = 0
    · rw [if_pos h, if_pos (by simp; omega), fail_z]
    · rw [if_neg h, if_neg (by simp; omega)]
  rw [hodd] at hE3
  have hsz1 := hgW.size
  have hsz3 := hK3.size
  have hSmall : Small E.state := by
    unfold Em.state
    split
    · exact ⟨by simp [St0], fun _ _ => by simp [St0]⟩
    · exact HSm.out
  have hD1 : DefB W1 (fun k => k = b) E.state V w.heap.size q b s l := by
    refine ⟨⟨hR3, HRt.out, hSmall, HG.out.grow hgW⟩, fun k hk => ⟨fun e => by have := hU3 k hk; omega, by have := hU3 k hk; omega⟩, fun k hk e => HV.out k hk (by rw [e]; exact hbo), hqb, hqf, hql, fun e => by omega, hp0, fun e => by omega, HI.out.grow hgW, fun hl0 => ⟨fun e => HS.out hl0 (by rw [show s.b = b from e]; exact hbo), Nat.lt_of_lt_of_le (HI.out.at 0 hl0).1 hsz1⟩⟩
  have HD3 := Lib.hid (hD1.turn hK3)
  have HE3 := Lib.hid hE3
  have HK3 := Lib.hid (show Kept own w w3 from (hgW.kept own).trans hK3 (fun k _ e => by rw [show k = b from e]; exact hbo))
  have h3w : w.heap.size < w3.heap.size := by omega
  have hcap := HI.out.cap
  clear hE3 hK3 hD1 hR3 hqb hqf hU3 hp0 hgW hSmall HSt HM
  gi_wp2_with (refine ⟨trivial, ?_⟩; gi_at_call 61; refine (chunk_in _ s _).mono ?_; rintro e w' ⟨rfl, rfl⟩)
  obtain ⟨w4, hw4⟩ : ∃ w4, ((w3.alloc (.cells #[.slice none 0 0] 23)).alloc (.cells #[s.val] 23)).alloc (.cells #[.int .i64 2] 3) = w4 := ⟨_, rfl⟩
  have hsz4 : w4.heap.size = w3.heap.size + 3 := by rw [← hw4, alloc_size', alloc_size', alloc_size']
  have hg4 : Grow w3 w4 := by rw [← hw4]; exact grI
  have bO : Boxed w4 w3.heap.size 23 (.slice none 0 0) := by rw [← hw4]; exact ((Boxed.new w3 _ _).alloc _).alloc _
  have bS : w4.cell? ⟨w3.heap.size + 1, 0, none⟩ = some s.val := by
    have := (Boxed.new (w3.alloc (.cells #[.slice none 0 0] 23)) 23 s.val).alloc (.cells #[.int .i64 2] 3)
    rw [alloc_size', hw4] at this
    exact this.cell
  have bN : w4.cell? ⟨w3.heap.size + 1 + 1, 0, none⟩ = some (.int .i64 2) := by
    have := Boxed.new ((w3.alloc (.cells #[.slice none 0 0] 23)).alloc (.cells #[s.val] 23)) 3 (.int .i64 2)
    rw [alloc_size', alloc_size', hw4] at this
    exact this.cell
  rw [hw4]
  obtain ⟨no, hno⟩ : ∃ no : Nat → Prop, no = fun k => k = b ∨ k = w3.heap.size ∨ w4.heap.size ≤ k := ⟨_, rfl⟩
  have hnoC : ∀ k, w4.heap.size ≤ k → no k := fun k hk => by rw [hno]; exact .inr (.inr hk)
  have HD4 := Lib.hid (HD3.out.more hg4 (no' := no) (fun k hk => by
    rw [hno] at hk
    rcases hk with h | h | h
    · exact .inl h
    · exact .inr (by omega)
    · exact .inr (by omega)))
  have HN := Lib.hid hno
  have h41 : w3.heap.size + 3 ≤ w4.heap.size := by omega
  have h42 : w4.heap.size ≤ w3.heap.size + 3 := by omega
  clear hno hsz4
  have hownC : ∀ k, own k → k < w4.heap.size := fun k hk => by have := HOL.out k hk; omega
  have hE4 : Emt w4 b own (E.odd l) := HE3.out.grow hg4
  refine wpIn_rangeFunc_ownH rfl (by omega) (gf := 98) (lb := #[.pointer (some ⟨w3.heap.size + 1, 0, none⟩), .pointer (some ⟨w3.heap.size + 1 + 1, 0, none⟩)]) (by simp [go_sem]) trivial (enters_of Tryz.func98 (by kernel_rfl) rfl)
    (chunk_stops _ (by omega) (w3.heap.size + 1) (w3.heap.size + 1 + 1) no s (by omega) hcap w4 bS bN (by rw [HN.out]; rintro (h | h | h) <;> omega) (by rw [HN.out]; rintro (h | h | h) <;> omega))
    (fun {A B C} hA hB => hA.trans hB (fun _ _ h => h)) (fun W k o o' hk _ _ _ => (kept_grownBy (grownBy_putObj' W k o')).mono (fun j hj e => by have e : some j = some k := e; cases e; exact hnoC _ hk)) (Below.refl _ _) (fun _ => rfl)
    (InvD w4 no b own (E.odd l) E.state l w3.heap.size) (IxD w4 no b own (E.odd l) E.state l) (invD_own hownC (by omega) hnoC) (ixD_own hownC hnoC)
    ⟨.nil, bO, ⟨rfl, Nat.le_refl _, fun j u hu => by simp [defS] at hu⟩, Room.nil _ _, fun j h => h.elim, rfl, Kept.refl _ _, by rw [show (defS E.state l (([] : List (Two s.n)).map (·.1))).1 = 0 from rfl, fail_z]; exact hE4⟩
    (fun x a' _ => a' = { tmps := #[(.pointer (some ⟨b, 0, none⟩)), s.val, (.pointer (some ⟨w.heap.size, 0, none⟩)), undef, (.pointer (some ⟨q, 0, none⟩)), (.pointer (some ⟨w3.heap.size, 0, none⟩)), (s.mid (2 * x.1) (2 * x.1 + min 2 (l.length - 2 * x.1))).val, undef, undef, undef, undef, (.pointer (some ⟨b, 0, none⟩)), (.agg (stA V E.state.num)), (.pointer (some ⟨b, 0, none⟩)), s.val, (.int .i64 (l.length : Int)), (.int .i64 ((l.length : Int) % 2)), (.bool ((l.length : Int) % 2 == 0)), (.tuple #[]), s.val, (.func (.func 98) #[] #[.pointer (some ⟨w3.heap.size + 1, 0, none⟩), .pointer (some ⟨w3.heap.size + 1 + 1, 0, none⟩)]), (s.mid (2 * x.1) (2 * x.1 + min 2 (l.length - 2 * x.1))).val, undef, undef, undef, undef, undef, undef, undef, undef, undef, undef, undef, undef, undef, undef, undef, undef, undef, undef, undef, undef, undef, undef, undef, undef, undef, undef, undef, undef, undef, undef, undef, undef, undef, undef, undef, undef, undef, undef, undef, undef, undef, undef, undef, undef, undef, undef, undef, undef, undef, undef, undef, undef, undef, undef, undef, undef, undef, undef, undef], defers := [] }) (fun x a' => fun _ _ _ _ h _ _ => h) ?assign ?body ?done ?stop
  case assign =>
    rintro lp pre x W K hi hK
    dsimp only [encC]
    gi_wp2
    exact hK _ _ ((KeepsOthers.refl _).from _) (Kept.refl _ W) hi rfl
  case body =>
    rintro lp pre x a' W hlp ⟨r, hr⟩ ⟨so, hb, hc, hrm, ho, hn, hk, hem⟩ rfl hlt
    obtain ⟨m, hm⟩ := x
    generalize hcd : defS E.state l (pre.map (·.1)) = cd at *
    have hD := HD4.out.turn hk
    have hbc := hb.cell
    have hbf := hb.frozen
    have hbl5 := hb.lt
    have hptr := hD.ptr
    have hpl := (cell_blk hD.ptr).1
    have HCD := Lib.hid hcd
    have HC := Lib.hid hc
    have HRM := Lib.hid hrm
    have HO := Lib.hid ho
    have HK := Lib.hid hk
    have HB := Lib.hid hb
    have HD := Lib.hid hD
    have HEm := Lib.hid hem
    clear hcd hc hrm ho hk hb hD hem
    by_cases he : ((E.odd l).fail cd.1).err = 0
    · obtain ⟨hev, hee, hc0⟩ := odd_zero he
      have hE0 : (E.odd l).fail cd.1 = E := by rw [hc0, fail_z]; exact if_pos hev
      rw [hE0] at HEm
      have hmin : min 2 (l.length - 2 * m) = 2 := by omega
      have hpr := HD.out.ints.mid (2 * m) (by omega)
      have HEr := Lib.hid (fun W' (g : Grow W W') => by have := err_any W' b own E (HEm.out.grow g); rw [hee, errV_0] at this; exact this)
      have HCn : Hid (codeD E.state l cd.2 m = firstOf (firstOf (firstOf (codeW E.state (gt l (2 * m)) (1 - E.state.num 19)) (if (!decide (gt l (2 * m) ∈ cd.2)) = true then 0 else 8)) (if attacksB E.state (gt l (2 * m + 1)) = true then 0 else 11)) (if stopsB E.state (gt l (2 * m)) (gt l (2 * m + 1)) = true then 0 else 6)) := rfl
      have hact := HRt.out.active
      have HFo := Lib.hid (fun W => foe_any W (E.state.num 19) hact.1 hact.2)
      rw [hmin]
      clear hmin hact
      generalize hid : gt l (2 * m) = id at *
      have HId := Lib.hid hid
      clear hid
      generalize gt l (2 * m + 1) = aa at *
      generalize s.mid (2 * m) (2 * m + 2) = sp at *
      have hpn : sp.n = 2 := hpr.len
      have hp0 := hpr.cell 0 (by simp)
      have hp1 := hpr.cell 1 (by simp)
      rw [Nat.add_zero] at hp0
      rw [show gt [id, aa] 0 = id from rfl] at hp0
      rw [show gt [id, aa] 1 = aa from rfl] at hp1
      have hspb := (cell_blk hp0).1
      clear hpr
      gi_wp2_with (refine ⟨trivial, ?_⟩; gi_at_call 29; refine (CallsIn.inRound _ (callsIn_wide.2 (HEr.out _ grI))).mono ?_; rintro e' w' ⟨rfl, nE, rfl⟩)
      refine wpIn_region_order [0, 1, 2, 3, 4, 5, 6] 7 [] ?hq hmx (by kernel_rfl) (by kernel_rfl) ?_
      case hq => rintro ⟨a, w, h⟩; exact h
      simp only [pickO, List.getElem?_cons_zero, List.getElem?_cons_succ]
      (repeat (go_big_quiet_step (fail)))
      refine wpQuiet_nil ?_
      rintro _ ⟨n7, rfl⟩
      go_wp2_with fail
      gi_wp2
      refine wpIn_region_order [0, 1, 2, 3, 4, 5, 6] 7 [] ?hq hmx (by kernel_rfl) (by kernel_rfl) ?_
      case hq => rintro ⟨a, w, h⟩; exact h
      have hqb := HD.out.blk
      have hql := HD.out.lt
      have hqc := cell_of_blk HD.out.free HD.out.blk
      simp only [pickO, List.getElem?_cons_zero, List.getElem?_cons_succ]
      (repeat (go_big_quiet_step ((go_at_call 42; first | refine Calls.grow2 (HFo.out _) | refine Calls.grow (HFo.out _)))))
      refine wpQuiet_nil ?_
      rintro _ ⟨n8, rfl⟩
      have HWh := Lib.hid (fun W' (g : Grow W W') => whose_fine W' b own E (HEm.out.grow g) E.state V ⟨(HD.out.turn (g.kept no)).rs, fun k hk => ⟨fun e => (HD.out.ap k hk).1 (by rw [HN.out]; exact .inl e), Nat.lt_of_lt_of_le (HD.out.ap k hk).2 g.size⟩, fun k hk e => HD.out.vars k hk (by rw [HN.out]; exact .inl e)⟩ id (1 - E.state.num 19))
      go_wp2_with fail
      refine (HWh.out _ grI).mono ?_
      rintro e' w8 ⟨rfl, hE⟩
      have HF8 := Lib.hid (FailPost.low grI hE : FailPost W b own ((E.fail (codeW E.state id (1 - E.state.num 19)))) w8)
      have hno8 : Kept no W w8 := HF8.out.2.mono (fun k _ e => by rw [HN.out]; exact .inl e)
      have HD8 := Lib.hid (HD.out.turn hno8)
      have HB8 : Hid (Boxed w8 w3.heap.size 23 so.val) := (Boxed.keptK HB.out HF8.out.2 (by omega))
      have HC8 := Lib.hid (HC.out.kept HF8.out.2 (fun j hj e => by have := (HO.out j hj).1; have e : j = b := e; omega))
      clear hE hno8 hbc hbl5 hptr hpl hqb hql hqc
      have hbc := Boxed.cell HB8.out
      have hbf8 := Boxed.frozen HB8.out
      have hbl5 := Boxed.lt HB8.out
      have hptr := HD8.out.ptr
      have hpl := (cell_blk HD8.out.ptr).1
      have hqb := HD8.out.blk
      have hql := HD8.out.lt
      have hqc := cell_of_blk HD8.out.free HD8.out.blk
      go_wp2_with fail
      gi_wp2
      have hcl : cd.2.length ≤ 1048576 := by
        have := HC.out.ints.len
        omega
      have HCo := Lib.hid (fun W' (g : Grow w8 W') => contains_any W' so cd.2 id ((HC8.out.ints).grow g) hcl)
      have HM9 := Lib.hid (fun W' (g : Grow w8 W') ok => cmust_fine W' b own _ (HF8.out.1.grow g) ok 8 (by decide))
      refine wpIn_region_order [0, 1, 2, 3, 4] 5 [] ?hq hmx (by kernel_rfl) (by kernel_rfl) ?_
      case hq => rintro ⟨a, w, h⟩; exact h
      simp only [pickO, List.getElem?_cons_zero, List.getElem?_cons_succ]
      (repeat (go_big_quiet_step ((go_at_call 59; first | refine Calls.grow2 (HCo.out _ grI) | refine Calls.grow (HCo.out _ grI)))))
      refine wpQuiet_nil ?_
      rintro _ ⟨n9, rfl⟩
      go_wp2_with fail
      refine (HM9.out _ grI _).mono ?_
      rintro e' w9 ⟨rfl, hE⟩
      have HF9 := Lib.hid (HF8.out.trans (FailPost.low grI hE) : FailPost W b own (((E.fail (codeW E.state id (1 - E.state.num 19))).fail (if (!decide (id ∈ cd.2)) = true then 0 else 8))) w9)
      have hno9 : Kept no W w9 := HF9.out.2.mono (fun k _ e => by rw [HN.out]; exact .inl e)
      have HD9 := Lib.hid (HD.out.turn hno9)
      have HB9 : Hid (Boxed w9 w3.heap.size 23 so.val) := (Boxed.keptK HB.out HF9.out.2 (by omega))
      have HC9 := Lib.hid (HC.out.kept HF9.out.2 (fun j hj e => by have := (HO.out j hj).1; have e : j = b := e; omega))
      clear hE hno9 hbc hbl5 hptr hpl hqb hql hqc
      have hbc := Boxed.cell HB9.out
      have hbf9 := Boxed.frozen HB9.out
      have hbl5 := Boxed.lt HB9.out
      have hptr := HD9.out.ptr
      have hpl := (cell_blk HD9.out.ptr).1
      have hqb := HD9.out.blk
      have hql := HD9.out.lt
      have hqc := cell_of_blk HD9.out.free HD9.out.blk
      go_wp2_with fail
      gi_wp2
      have HAt := Lib.hid (fun W' (g : Grow w9 W') => attacks_any E.state V W' (HD9.out.rs.grow g) aa)
      have HM10 := Lib.hid (fun W' (g : Grow w9 W') ok => cmust_fine W' b own _ (HF9.out.1.grow g) ok 11 (by decide))
      refine wpIn_region_order [0, 1, 2, 3] 4 [] ?hq hmx (by kernel_rfl) (by kernel_rfl) ?_
      case hq => rintro ⟨a, w, h⟩; exact h
      simp only [pickO, List.getElem?_cons_zero, List.getElem?_cons_succ]
      (repeat (go_big_quiet_step ((go_at_call 39; first | refine Calls.grow2 (HAt.out _ grI) | refine Calls.grow (HAt.out _ grI)))))
      refine wpQuiet_nil ?_
      rintro _ ⟨n10, rfl⟩
      go_wp2_with fail
      refine (HM10.out _ grI _).mono ?_
      rintro e' w10 ⟨rfl, hE⟩
      have HF10 := Lib.hid (HF9.out.trans (FailPost.low grI hE) : FailPost W b own ((((E.fail (codeW E.state id (1 - E.state.num 19))).fail (if (!decide (id ∈ cd.2)) = true then 0 else 8)).fail (if attacksB E.state aa = true then 0 else 11))) w10)
      have hno10 : Kept no W w10 := HF10.out.2.mono (fun k _ e => by rw [HN.out]; exact .inl e)
      have HD10 := Lib.hid (HD.out.turn hno10)
      have HB10 : Hid (Boxed w10 w3.heap.size 23 so.val) := (Boxed.keptK HB.out HF10.out.2 (by omega))
      have HC10 := Lib.hid (HC.out.kept HF10.out.2 (fun j hj e => by have := (HO.out j hj).1; have e : j = b := e; omega))
      clear hE hno10 hbc hbl5 hptr hpl hqb hql hqc
      have hbc := Boxed.cell HB10.out
      have hbf10 := Boxed.frozen HB10.out
      have hbl5 := Boxed.lt HB10.out
      have hptr := HD10.out.ptr
      have hpl := (cell_blk HD10.out.ptr).1
      have hqb := HD10.out.blk
      have hql := HD10.out.lt
      have hqc := cell_of_blk HD10.out.free HD10.out.blk
      go_wp2_with fail
      gi_wp2
      have HSt := Lib.hid (fun W' (g : Grow w10 W') => stops_any E.state V W' (HD10.out.rs.grow g) id aa)
      have HM11 := Lib.hid (fun W' (g : Grow w10 W') ok => cmust_fine W' b own _ (HF10.out.1.grow g) ok 6 (by decide))
      refine wpIn_region_order [0, 1, 2, 3, 4] 5 [] ?hq hmx (by kernel_rfl) (by kernel_rfl) ?_
      case hq => rintro ⟨a, w, h⟩; exact h
      simp only [pickO, List.getElem?_cons_zero, List.getElem?_cons_succ]
      (repeat (go_big_quiet_step ((go_at_call 13; first | refine Calls.grow2 (HSt.out _ grI) | refine Calls.grow (HSt.out _ grI)))))
      refine wpQuiet_nil ?_
      rintro _ ⟨n11, rfl⟩
      go_wp2_with fail
      refine (HM11.out _ grI _).mono ?_
      rintro e' w11 ⟨rfl, hE⟩
      have HF11 := Lib.hid (HF10.out.trans (FailPost.low grI hE) : FailPost W b own (((((E.fail (codeW E.state id (1 - E.state.num 19))).fail (if (!decide (id ∈ cd.2)) = true then 0 else 8)).fail (if attacksB E.state aa = true then 0 else 11)).fail (if stopsB E.state id aa = true then 0 else 6))) w11)
      have hno11 : Kept no W w11 := HF11.out.2.mono (fun k _ e => by rw [HN.out]; exact .inl e)
      have HD11 := Lib.hid (HD.out.turn hno11)
      have HB11 : Hid (Boxed w11 w3.heap.size 23 so.val) := (Boxed.keptK HB.out HF11.out.2 (by omega))
      have HC11 := Lib.hid (HC.out.kept HF11.out.2 (fun j hj e => by have := (HO.out j hj).1; have e : j = b := e; omega))
      clear hE hno11 hbc hbl5 hptr hpl hqb hql hqc
      have hbc := Boxed.cell HB11.out
      have hbf11 := Boxed.frozen HB11.out
      have hbl5 := Boxed.lt HB11.out
      have hptr := HD11.out.ptr
      have hpl := (cell_blk HD11.out.ptr).1
      have hqb := HD11.out.blk
      have hql := HD11.out.lt
      have hqc := cell_of_blk HD11.out.free HD11.out.blk
      have HR11 := Lib.hid (HRM.out.kept HF11.out.2 (fun j hj e => by have := (HO.out j hj).1; have e : j = b := e; omega))
      go_wp2_with fail
      have hx : cd.2.map I ++ [I id] = (defS E.state l (pre.map (·.1) ++ [m])).2.map I := by
        rw [defS_snoc, HCD.out]
        show _ = (cd.2 ++ [gt l (2 * m)]).map I
        rw [HId.out, List.map_append]; rfl
      have hE5 : (((E.fail (codeW E.state id (1 - E.state.num 19))).fail (if (!decide (id ∈ cd.2)) = true then 0 else 8)).fail (if attacksB E.state aa = true then 0 else 11)).fail (if stopsB E.state id aa = true then 0 else 6) = (E.odd l).fail (defS E.state l (pre.map (·.1) ++ [m])).1 := by
        rw [defS_snoc, HCD.out]
        show _ = (E.odd l).fail (firstOf cd.1 (codeD E.state l cd.2 m))
        rw [hc0, show firstOf 0 (codeD E.state l cd.2 m) = codeD E.state l cd.2 m from if_pos rfl, show E.odd l = E from if_pos hev, fail_fail, fail_fail, fail_fail, HCn.out]
        simp only [firstOf_assoc]
      have HX := Lib.hid (And.intro hx hE5)
      clear hx hE5
      gi_wp2_with (gi_at_builtin; refine wpListIn_step fun K hK => ?_; rw [if_pos (by rfl)]; refine oper_inRound (by intro c; simp) ?_; refine wp_append_cells _ _ 23 rfl 3 Tryz.t3 (.int .i64 0) 1 8 Tryz.underlying23 (by kernel_rfl) (by kernel_rfl) (by kernel_rfl) (by kernel_rfl) (by omega) rfl so (.mk _ 0 1 1) _ [I id] rfl rfl (HC11.out.grow grI) (HR11.out.grow grI) (one_int _ _ _ (by go_simp)) (flat_one _) (flat_one [id]) (by rw [hn]; show pre.length + 1 ≤ 4194304; omega) ?_; intro s' w' c1 c2 c3 c4 c5 c6; refine hK _ _ ?_; clear hK K; have hB' : Boxed w' w3.heap.size 23 so.val := Boxed.keptK (Boxed.keptK HB11.out ((show Grow w11 (w11.alloc (.cells (cellsOf [id]) 3)) from grI).kept (fun _ => False)) (fun h => h)) c3 (fun h => by have := (HO.out _ h).1; omega); have hbc' := Boxed.cell hB'; have hbf' := Boxed.frozen hB'; have CC := Lib.hid (And.intro c1 (And.intro c2 (And.intro c3 (And.intro c4 c5)))); clear hB' c1 c2 c3 c4 c5 c6)
      exact d_step (x := ⟨m, hm⟩) (W1 := w11.alloc (.cells (cellsOf [id]) 3)) HN.out (by omega) (by omega) (fun k hk => by have := HOL.out k hk; omega) HO.out HK.out HB.out hn HF11.out grI CC.out.1 CC.out.2.1 CC.out.2.2.1 CC.out.2.2.2.1 CC.out.2.2.2.2 HX.out.1 HX.out.2
    · have HEr := Lib.hid (fun W' (g : Grow W W') => by have := err_any W' b own _ (HEm.out.grow g); rw [errV_is he] at this; exact this)
      gi_wp2_with (refine ⟨trivial, ?_⟩; gi_at_call 29; refine (CallsIn.inRound _ (callsIn_wide.2 (HEr.out _ grI))).mono ?_; rintro e' w' ⟨rfl, nE, rfl⟩)
      have hgE : Grow W (W.plus nE) := ⟨nE, rfl⟩
      exact ⟨keepsFrom_kept (hgE.kept (fun _ => False)) (fun _ _ h => h.elim), rfl, pre, _, rfl, by rw [HCD.out]; exact he, HK.out.trans (hgE.kept (fun _ => False)) (fun _ _ h => h.elim), by rw [HCD.out]; exact HEm.out.grow hgE⟩
  case done =>
    rintro D ys W hD rfl ⟨so, hb, hc, hrm, ho, hn, hk, hem⟩ hK
    have hN : (upC s.n ((s.n + 1) / 2)).map (·.1) = List.range ((l.length + 1) / 2) := by rw [upC_map s.n _ (by omega), hsn]
    have hNl : (upC s.n ((s.n + 1) / 2)).length = (l.length + 1) / 2 := by rw [upC_len s.n _ (by omega), hsn]
    rw [hN] at hc hem
    rw [hNl] at hn
    have hDf : E.defend E.state l = if ((E.odd l).fail (defS E.state l (List.range ((l.length + 1) / 2))).1).err = 0 then E.blocks l ((l.length + 1) / 2) else (E.odd l).fail (defS E.state l (List.range ((l.length + 1) / 2))).1 := rfl
    have hseen := defS_seen E.state l (List.range ((l.length + 1) / 2))
    have hkw : Kept own w W := (HK3.out.trans (hg4.kept (fun _ => False)) (fun _ _ h => h.elim)).trans hk (fun k hk h => by
      rw [HN.out] at h
      rcases h with h | h | h
      · rw [h]; exact hbo
      · omega
      · omega)
    have hbc := hb.cell
    have hbl5 := hb.lt
    have hD4 := HD4.out.turn hk
    have hptr := hD4.ptr
    have hpl := (cell_blk hD4.ptr).1
    have hIs := hc.ints
    have hDl : D < W.heap.size := (Array.getElem?_eq_some_iff.1 hK).1
    have hDn : ¬ own D := fun h => by have := HOL.out D h; omega
    have hso : ∀ j, so.owns j → ¬ own j := fun j hj h => by have := HOL.out j h; have := (ho j hj).1; omega
    have hdiv : 2 * ((l.length + 1) / 2) ≤ l.length + 1 := by omega
    generalize (l.length + 1) / 2 = N at *
    generalize hcd : defS E.state l (List.range N) = cd at *
    have HKw := Lib.hid hkw
    have HIs := Lib.hid hIs
    have HKD := Lib.hid hK
    have HD5 := Lib.hid hD4
    have HSo := Lib.hid hso
    have HSeen := Lib.hid hseen
    have HDf := Lib.hid hDf
    have HCd := Lib.hid hcd
    clear hcd hkw hIs hK hD4 hso hc hrm ho hk hb hN hNl hseen hDf
    by_cases he : ((E.odd l).fail cd.1).err = 0
    · obtain ⟨hev, hee, hc0⟩ := odd_zero he
      have hst : E.state = E.now := by unfold Em.state; rw [if_neg (by rw [hee]; simp)]
      have HFin : Hid (E.defend E.state l = E.blocks l N) := by rw [Hid, HDf.out, if_pos he]
      have hE0 : (E.odd l).fail cd.1 = E := by rw [hc0, fail_z]; exact if_pos hev
      rw [hE0] at hem
      have hz : (defS E.now l (List.range N)).1 = 0 := by rw [← hst, HCd.out]; exact hc0
      have hF0 := HF.out hee
      have HFb := Lib.hid (fun k (hk : k ≤ N) => Fi.blocks hm0 hF0.right hF0 hl hdiv hz k hk)
      have HAa := Lib.hid (show ∀ k, k < N → 0 ≤ gt l (2 * k + 1) ∧ gt l (2 * k + 1) ≤ 400 from fun k hk => by
        obtain ⟨_, ha⟩ := defend_facts (defS_zero E.now l N hz k hk)
        obtain ⟨a1, a2, _⟩ := creatureB_in (attacksB_creature ha)
        have := hF0.right.many
        omega)
      have HEm := Lib.hid hem
      have HLs := Lib.hid HD5.out.ints
      have hcl : so.n = N := hn
      have hcl2 : cd.2.length = N := by rw [← HIs.out.len]; exact hn
      have hN2 : 2 * N ≤ l.length := by omega
      have HP := Lib.hid hptr
      have HPn := Lib.hid (show ¬ own w.heap.size from fun h => by have := HOL.out _ h; omega)
      clear he hem hn hst hE0 hz hF0 hdiv
      gi_wp2
      clear hptr hbc
      gi_loopw [62] (fun i wr => ∃ (k : Nat) (own2 : Nat → Prop), k ≤ N ∧ i = .int .i64 k ∧ Turn W b own (E.blocks l k) wr own2) (fun i _ => N - (intOf i).toNat)
      case atStart => exact ⟨0, own, by omega, rfl, Turn.first HEm.out⟩
      case round =>
        obtain ⟨k, own2, hk, rfl, hT⟩ := hrel
        have HT := Lib.hid hT
        have hptr := (hT.kept.cell _ 0 hpl HPn.out).trans HP.out
        have hpl2 := Nat.lt_of_lt_of_le hpl hT.kept.size
        have HIw := Lib.hid (HIs.out.kept hT.kept (fun hl ho => HSo.out _ (owns_of HIs.out hl) ho))
        have HLw := Lib.hid (HLs.out.kept hT.kept (fun hl ho => HS.out hl ho))
        have hKx : wr.heap[D]? = some (.deferred (some [])) := (hT.kept.block D hDl hDn).trans HKD.out
        have HKx := Lib.hid hKx
        clear hT hKx
        by_cases hlt : k < N
        · obtain ⟨ib, ic⟩ := HIw.out.at k (by omega)
          obtain ⟨lb, lc⟩ := HLw.out.at (2 * k + 1) (by omega)
          have hgk : gt cd.2 k = gt l (2 * k) := by rw [HSeen.out]; exact gt_map_range _ _ _ hlt
          obtain ⟨hA0, hA1⟩ := HAa.out k hlt
          have hFk := HFb.out k hk
          have HEr := Lib.hid (fun W' (g : Grow wr W') => by have := err_any W' b own2 _ (HT.out.em.grow g); rw [hFk.err, errV_0] at this; exact this)
          have HBl : Hid (E.blocks l (k + 1) = (E.blocks l k).setObj (gt l (2 * k)) 12 (gt l (2 * k + 1) + 1)) := rfl
          have HSet := Lib.hid (fun W' (g : Grow wr W') => esetObj_any W' b own2 _ (HT.out.em.grow g) 65536 (hFk.ok (by omega)) (by omega) (gt l (2 * k)) 12 (gt l (2 * k + 1) + 1))
          rw [hgk] at ic
          clear hFk hgk
          generalize gt l (2 * k) = id at *
          generalize gt l (2 * k + 1) = aa at *
          obtain ⟨a1, ha1⟩ : ∃ a1 : Nat, a1 = 2 * k + 1 := ⟨_, rfl⟩
          rw [← ha1] at lc
          have hi0 : (0 : Int) ≤ 2 * (k : Int) + 1 := by omega
          have hi1 : 2 * (k : Int) + 1 < (l.length : Int) := by omega
          have hi2 : (2 * (k : Int) + 1).toNat = a1 := by omega
          have hi3 : wrap64 (2 * (k : Int)) = 2 * (k : Int) := wrap_small _ (by omega) (by omega)
          have hi4 : wrap64 (2 * (k : Int) + 1) = 2 * (k : Int) + 1 := wrap_small _ (by omega) (by omega)
          have hw2 : wrap64 (aa + 1) = aa + 1 := wrap_small _ (by omega) (by omega)
          clear ha1
          gi_wp2_with (refine ⟨trivial, ?_⟩; gi_at_call 29; refine (callsIn_wide.2 (HEr.out _ grI)).mono ?_; rintro e' w' ⟨rfl, nE, rfl⟩)
          refine wpIn_wide.2 ?_
          refine wp_region_order [0, 1, 2, 3, 4, 5, 6, 7, 8] 9 [] (by kernel_rfl) (by kernel_rfl) ?_; simp only [pickO, List.getElem?_cons_zero, List.getElem?_cons_succ]; (repeat (go_big_quiet_step ( fail ))); refine wpQuiet_nil ?_; rintro _ ⟨nx, rfl⟩
          go_wp2_with fail
          refine (HSet.out _ grI).mono ?_
          rintro e' w7 ⟨rfl, hE⟩
          obtain ⟨own3, T3⟩ := HT.out.step grI hE
          have HT3 := Lib.hid T3
          clear hE T3
          go_wp2_with fail
          gi_wp2
          go_roundw
          case rel => exact ⟨k + 1, own3, by omega, by go_num, by rw [HBl.out]; exact HT3.out⟩
          case measure => simp [intOf]; omega
        · have hkN : k = N := by omega
          subst hkN
          gi_wp2
          refine ⟨by simp, .inl ⟨_, _, rfl, run_takeDeferred HKx.out, ?_⟩⟩
          refine ⟨_, results_none rfl _ _ _, rfl, ?_⟩
          rw [HFin.out]
          have hsW := HKw.out.size
          refine post_put HT.out.em (HKw.out.trans HT.out.kept (fun _ _ h => h)) (fun j hj => (HT.out.own j hj).imp id (fun h => ⟨by omega, h.2⟩)) (by omega) (fun h => ?_)
          rcases HT.out.own D h with h3 | h3
          · exact hDn h3
          · omega
    · have HEm := Lib.hid hem
      have HFin : Hid (E.defend E.state l = (E.odd l).fail cd.1) := by rw [Hid, HDf.out, if_neg he]
      have HEr := Lib.hid (fun W' (g : Grow W W') => by have := err_any W' b own _ (HEm.out.grow g); rw [errV_is he] at this; exact this)
      have hcl : so.n = N := hn
      have hcl2 : cd.2.length = N := by rw [← HIs.out.len]; exact hn
      clear he hem hn
      gi_wp2
      gi_loopw [62] (fun i wr => ∃ k : Nat, k ≤ N ∧ i = .int .i64 k ∧ Grow W wr) (fun i _ => N - (intOf i).toNat)
      case atStart => exact ⟨0, by omega, rfl, Grow.refl _⟩
      case round =>
        obtain ⟨k, hk, rfl, x, rfl⟩ := hrel
        by_cases hlt : k < N
        · obtain ⟨hlb, hlc⟩ := HIs.out.at k (by omega)
          generalize gt cd.2 k = id at *
          gi_wp2_with (refine ⟨trivial, ?_⟩; gi_at_call 29; refine (callsIn_wide.2 (HEr.out _ grI)).mono ?_; rintro e' w' ⟨rfl, nE, rfl⟩)
          go_roundw
          case rel => exact ⟨k + 1, by omega, by go_num, grI⟩
          case measure => simp [intOf]; omega
        · have hgx : Grow W (W.plus x) := ⟨x, rfl⟩
          have hKx : (W.plus x).heap[D]? = some (.deferred (some [])) := ((hgx.kept (fun _ => False)).block D hDl (fun h => h)).trans HKD.out
          gi_wp2
          refine ⟨by simp, .inl ⟨_, _, rfl, run_takeDeferred hKx, ?_⟩⟩
          refine ⟨_, results_none rfl _ _ _, rfl, ?_⟩
          rw [HFin.out]
          exact post_put (HEm.out.grow hgx) (HKw.out.trans (hgx.kept (fun _ => False)) (fun _ _ h => h.elim)) (fun _ h => .inl h) (by omega) hDn
  case stop =>
    rintro D c pre W hD ⟨k, hk, rfl⟩ ⟨rfl, pre2, x, hx, he, hk2, hem⟩ hK
    have hk1 : k = pre2.length + 1 := by
      have := congrArg List.length hx
      rw [upC_len s.n k (by omega), List.length_append] at this
      simpa using this
    have hp2 : pre2.map (·.1) = List.range pre2.length := by
      have h1 := congrArg (List.map (·.1)) hx
      rw [upC_map s.n k (by omega), List.map_append, hk1, List.range_succ] at h1
      exact (List.append_inj_left' h1 rfl).symm
    rw [hp2] at he hem
    have HFin := Lib.hid (stop_is (k := pre2.length) (by omega) he)
    have hkw : Kept own w W := (HK3.out.trans (hg4.kept (fun _ => False)) (fun _ _ h => h.elim)).trans hk2 (fun k hk h => by
      rw [HN.out] at h
      rcases h with h | h | h
      · rw [h]; exact hbo
      · omega
      · omega)
    have hDn : ¬ own D := fun h => by have := HOL.out D h; omega
    have HEm := Lib.hid hem
    have HKw := Lib.hid hkw
    clear he hem hkw hx
    gi_wp2
    refine ⟨by simp, .inl ⟨_, _, rfl, run_takeDeferred hK, ?_⟩⟩
    refine ⟨_, results_none rfl _ _ _, rfl, ?_⟩
    rw [HFin.out]
    exact post_put HEm.out HKw.out (fun _ h => .inl h) (by omega) hDn
end Go.Proofs.YtnjdkkgkaafdbaaGreatDoor
