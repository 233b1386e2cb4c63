/-
  A game that can be taken back, as it stands in memory; the walks of its State, Span, Open.
-/
import Derived.Test.YtmmkmhpchoelkaaDoorJn4
import Derived.Test.YtmmkmhpchoelkaaDoorCheck
import Derived.Test.YtmmkmhpchoelkaaDoorKnow
namespace Go.Proofs.YtmmkmhpchoelkaaDoor
open Go Go.RowKit Go.Shelf

/-- A game: its state, its draws, its journal. -/
structure Gs where
  now : St
  draws : List Int
  jn : Jn
/-- What stands behind the state in a game's block. -/
def gmR (sd : Sl) (jb : Nat) : Array Value := #[sd.val, .pointer (some ⟨jb, 0, none⟩)]
@[go_sem] theorem gmR_size (sd : Sl) (jb : Nat) : (gmR sd jb).size = 2 := rfl
@[go_sem] theorem gmR_0 (sd : Sl) (jb : Nat) : (gmR sd jb)[0]? = some sd.val := rfl
@[go_sem] theorem gmR_1 (sd : Sl) (jb : Nat) : (gmR sd jb)[1]? = some (.pointer (some ⟨jb, 0, none⟩)) := rfl
/-- The blocks that are a game's own. -/
def gmOwn (b : Nat) (V : SV) (sd : Sl) (jb : Nat) (se sm : Sl) (k : Nat) : Prop := k = b ∨ V.uses k ∨ sd.owns k ∨ jnOwn jb se sm k
/-- A game stands so in memory. -/
structure RepG (w : World) (b : Nat) (V : SV) (sd : Sl) (jb : Nat) (se sm : Sl) (G : Gs) : Prop where
  host : Host w b V G.now (gmR sd jb)
  drs : Ints w sd G.draws
  inD : ∀ k, sd.owns k → k < w.heap.size
  jn : RepJ w jb se sm G.jn
  apD : ¬ sd.owns b
  apJ : ¬ jnOwn jb se sm b
  apVJ : ∀ k, V.uses k → ¬ jnOwn jb se sm k
  apDJ : ∀ k, sd.owns k → ¬ jnOwn jb se sm k
theorem RepG.own_lt {w : World} {b jb : Nat} {V : SV} {sd se sm : Sl} {G : Gs} (h : RepG w b V sd jb se sm G) : ∀ k, gmOwn b V sd jb se sm k → k < w.heap.size := fun k hk => by
  rcases hk with rfl | h1 | h1 | h1
  · exact h.host.lt
  · exact h.host.in' k h1
  · exact h.inD k h1
  · exact h.jn.own_lt k h1
theorem Host.kept {own : Nat → Prop} {w w' : World} {b : Nat} {V : SV} {S : St} {rest : Array Value} (h : Host w b V S rest) (g : Kept own w w') (nb : ¬ own b) (nv : ∀ k, V.uses k → ¬ own k) : Host w' b V S rest :=
  ⟨by rw [g.blk b h.lt nb, h.blk], by rw [g.free b h.lt nb]; exact h.free, h.rep.kept g nv, h.apart, fun k hk => Nat.lt_of_lt_of_le (h.in' k hk) g.size⟩
theorem RepG.kept {own : Nat → Prop} {w w' : World} {b jb : Nat} {V : SV} {sd se sm : Sl} {G : Gs} (h : RepG w b V sd jb se sm G) (g : Kept own w w') (hn : ∀ k, gmOwn b V sd jb se sm k → ¬ own k) : RepG w' b V sd jb se sm G :=
  ⟨h.host.kept g (hn b (Or.inl rfl)) (fun k hk => hn k (Or.inr (Or.inl hk))), h.drs.kept g (fun hl => hn _ (Or.inr (Or.inr (Or.inl (owns_of h.drs hl))))), fun k hk => Nat.lt_of_lt_of_le (h.inD k hk) g.size, h.jn.kept g (fun k hk => hn k (Or.inr (Or.inr (Or.inr hk)))), h.apD, h.apJ, h.apVJ, h.apDJ⟩
theorem RepG.grow {w w' : World} {b jb : Nat} {V : SV} {sd se sm : Sl} {G : Gs} (h : RepG w b V sd jb se sm G) (g : Grow w w') : RepG w' b V sd jb se sm G := h.kept (g.kept (fun _ => False)) (fun _ _ h => h)
/-- A game stands in these blocks, whatever its slices. -/
def Game (w : World) (b : Nat) (own : Nat → Prop) (G : Gs) : Prop := ∃ V sd jb se sm, RepG w b V sd jb se sm G ∧ ∀ k, own k ↔ gmOwn b V sd jb se sm k
theorem Game.lt {w : World} {b : Nat} {own : Nat → Prop} {G : Gs} (h : Game w b own G) : ∀ k, own k → k < w.heap.size := fun k hk => by
  obtain ⟨V, sd, jb, se, sm, hr, ho⟩ := h
  exact hr.own_lt k ((ho k).1 hk)
theorem Game.kept {own o2 : Nat → Prop} {w w' : World} {b : Nat} {G : Gs} (h : Game w b own G) (g : Kept o2 w w') (hn : ∀ k, own k → ¬ o2 k) : Game w' b own G := by
  obtain ⟨V, sd, jb, se, sm, hr, ho⟩ := h
  exact ⟨V, sd, jb, se, sm, hr.kept g (fun k hk => hn k ((ho k).2 hk)), ho⟩
theorem Game.grow {own : Nat → Prop} {w w' : World} {b : Nat} {G : Gs} (h : Game w b own G) (g : Grow w w') : Game w' b own G := h.kept (g.kept (fun _ => False)) (fun _ _ h => h)
/-- What holds of every game. -/
structure GmOk (G : Gs) : Prop where
  jn : JnOk G.jn
  small : SmallN G.now 100000
  draws : G.draws.length ≤ 4096

@[go_sem ↓] theorem load_Game (ρ : Operand → Value) (dst : Option Tmp) (x : Operand) (ty : TypeId) (pos : String) (after : Array Edge) (guard : Option (Nat × Bool)) :
    execOp ρ { dst, op := .load 71 x, type := ty, pos, after, guard } = ldRow 71 (ρ x) := rfl
@[go_sem ↓] theorem store_Game (ρ : Operand → Value) (dst : Option Tmp) (x y : Operand) (ty : TypeId) (pos : String) (after : Array Edge) (guard : Option (Nat × Bool)) :
    execOp ρ { dst, op := .store 71 x y, type := ty, pos, after, guard } = stRow 71 (ρ x) (ρ y) := rfl
@[go_sem] theorem run_load_Game (w : World) (b o : Nat) (h : o + 39 ≤ (w.blk b).size) : (ldRow 71 (.pointer (some ⟨b, o, none⟩))).run Tryd.prog w = .ok (.value (.agg (sub (w.blk b) o 39))) w :=
  run_ldSub w b o 71 39 (by kernel_rfl) (by kernel_rfl) h (by omega)
@[go_sem] theorem run_store_Game (w : World) (b : Nat) (cs : Array Value) (h : (w.blk b).size = 39) (hc : cs.size = 39) (h1 : oneCells cs = true) (hf : w.free b = true) : (stRow 71 (.pointer (some ⟨b, 0, none⟩)) (.agg cs)).run Tryd.prog w = .ok .skip (w.setRow b cs) :=
  run_stRow w b 71 39 _ (by kernel_rfl) h hc (by omega) hf h1
set_option maxRecDepth 100000 in
theorem gstate_any (w : World) (b : Nat) (own : Nat → Prop) (G : Gs) (R : Game w b own G) (K : GmOk G) :
    Calls Tryd.prog 11 #[.pointer (some ⟨b, 0, none⟩)] w fun e w' => ∃ V', e = .returned (.agg (stA V' G.now.num)) ∧ RepSt w' V' G.now ∧ (∀ b, V'.uses b → w.heap.size ≤ b ∧ b < w'.heap.size) ∧ Grow w w' := by
  obtain ⟨V, sd, jb, se, sm, hr, ho⟩ := R
  have hH := hr.host
  have hcell := cell_of_blk (hH).free (hH).blk; have hfz := frozen_of_free (hH).free; have hset := setCell_of_blk (hH).free (hH).blk; have hblk := (hH).blk; have hfree := (hH).free; have hlt := (hH).lt; have hne1 : ¬ b = (w).heap.size := (by omega); have hne2 : ¬ (w).heap.size = b := (by omega)
  have HR := Lib.hid hr.host.rep
  have HK := Lib.hid (K.small.small (by omega))
  clear hr ho hH K
  go_enter Tryd.func11, Tryd.ntmps11
  go_wp2_with (go_at_call 23; refine (copied_any G.now V _ (HR.out.grow (by repeat (first | exact Grow.refl _ | refine Grow.andr ?_ | refine Grow.plus ?_ _ | refine Grow.alloc ?_ _ | refine Grow.drew ?_ | refine Grow.drewN ?_ _))) HK.out).mono ?_; rintro e' w' ⟨V', rfl, hR', hu, nx, rfl⟩; have HR' := Lib.hid hR'; have HU := Lib.hid hu; clear hR' hu)
  refine bodyPost_ret (results_S rfl _ _ (w.heap.size) rfl ?_) rfl ?_
  · go_simp
  · have h1 := HR'.out
    refine ⟨V', by go_simp, ?_, fun k hk => ?_, (by repeat (first | exact Grow.refl _ | refine Grow.andr ?_ | refine Grow.plus ?_ _ | refine Grow.alloc ?_ _ | refine Grow.drew ?_ | refine Grow.drewN ?_ _))⟩
    · exact h1.off (b := w.heap.size) (by repeat (first | exact Off.base _ _ _ _ rfl | refine Off.plus ?_ _ | refine Off.alloc ?_ _)) (fun hb => by have := (HU.out _ hb).1; simp only [alloc_size'] at this; omega)
    · have h2 := HU.out k hk
      simp only [plus_size, alloc_size'] at h2 ⊢
      exact ⟨by omega, h2.2⟩
set_option maxRecDepth 100000 in
theorem gspan_live (w : World) (b : Nat) (own : Nat → Prop) (G : Gs) (R : Game w b own G) (K : GmOk G) (c : Int) (hl : G.jn.live c) :
    Calls Tryd.prog 30 #[.pointer (some ⟨b, 0, none⟩), .int .i64 c] w fun e w' => ∃ s' : Sl, e = .returned (.tuple #[s'.val, .nilIface]) ∧ Own w' s' 42 6 w.heap.size (flat (G.jn.span c)) ∧ Grow w w' := by
  obtain ⟨V, sd, jb, se, sm, hr, ho⟩ := R
  have hH := hr.host
  have hcell := cell_of_blk (hH).free (hH).blk; have hfz := frozen_of_free (hH).free; have hset := setCell_of_blk (hH).free (hH).blk; have hblk := (hH).blk; have hfree := (hH).free; have hlt := (hH).lt; have hne1 : ¬ b = (w).heap.size := (by omega); have hne2 : ¬ (w).heap.size = b := (by omega)
  have HJ := Lib.hid (jspan_live w jb se sm G.jn hr.jn K.jn c hl)
  clear hr ho hH K hl
  go_enter Tryd.func30, Tryd.ntmps30
  go_wp2_with (go_at_call 54; refine HJ.out.mono ?_; rintro e' w' ⟨s', rfl, hO, nx, rfl⟩; have HO := Lib.hid hO; clear hO)
  go_ret2
  exact ⟨s', rfl, HO.out, (by repeat (first | exact Grow.refl _ | refine Grow.andr ?_ | refine Grow.plus ?_ _ | refine Grow.alloc ?_ _ | refine Grow.drew ?_ | refine Grow.drewN ?_ _))⟩

/-! ### Storing a whole state at the head of a block -/
def setFrom (cs : Array Value) (o : Nat) : List Value → Array Value
  | [] => cs
  | v :: r => setFrom (cs.setIfInBounds o v) (o + 1) r
theorem setFrom_size : ∀ (vs : List Value) (cs : Array Value) (o : Nat), (setFrom cs o vs).size = cs.size
  | [], _, _ => rfl
  | v :: r, cs, o => by rw [setFrom, setFrom_size r, Array.size_setIfInBounds]
theorem setFrom_get : ∀ (vs : List Value) (cs : Array Value) (o i : Nat), o + vs.length ≤ cs.size → (setFrom cs o vs)[i]? = if o ≤ i ∧ i < o + vs.length then vs[i - o]? else cs[i]?
  | [], cs, o, i, _ => by rw [if_neg (by simp)]; rfl
  | v :: r, cs, o, i, h => by
    rw [setFrom, setFrom_get r _ _ _ (by rw [Array.size_setIfInBounds]; simp at h; omega), Array.getElem?_setIfInBounds]
    simp only [List.length_cons] at h ⊢
    by_cases h1 : o = i
    · subst h1
      rw [if_neg (by omega), if_pos rfl, if_pos (by omega), if_pos (by omega), Nat.sub_self]; rfl
    · by_cases h2 : o + 1 ≤ i ∧ i < o + 1 + r.length
      · rw [if_pos h2, if_pos (by omega), show i - o = (i - (o + 1)) + 1 by omega]; rfl
      · rw [if_neg h2, if_neg h1, if_neg (by omega)]
theorem setCells_row (b : Nat) : ∀ (vs : List Value) (o : Nat) (w : World), w.free b = true → w.setCells b o vs = w.setRow b (setFrom (w.blk b) o vs)
  | [], o, w, hf => by
    obtain ⟨t, e⟩ := free_blk hf
    have h : (w.setRow b (w.blk b)).heap = w.heap := by
      apply Array.ext_getElem?
      intro k
      simp only [World.setRow, Array.getElem?_modify]
      by_cases hk : b = k
      · subst hk; rw [if_pos rfl, e]; rfl
      · rw [if_neg hk]
    show w = w.setRow b (w.blk b)
    have h2 : w.setRow b (w.blk b) = { w with heap := (w.setRow b (w.blk b)).heap } := rfl
    rw [h2, h]
  | v :: r, o, w, hf => by
    show (w.setCell ⟨b, o, none⟩ v).setCells b (o + 1) r = _
    rw [setCell_row w b o v hf, setCells_row b r (o + 1) _ (by rw [free_setRow]; exact hf), blk_setRow _ _ _ _ hf, if_pos rfl, setRow_setRow_same _ _ _ _ hf, setFrom]
theorem run_store_host (w : World) (b : Nat) (V V' : SV) (num num' : Nat → Int) (rest : Array Value) (hb : w.blk b = hoA V num rest) (hf : w.free b = true) : (stRow 29 (.pointer (some ⟨b, 0, none⟩)) (.agg (stA V' num'))).run Tryd.prog w = .ok .skip (w.setRow b (hoA V' num' rest)) := by
  obtain ⟨t, e⟩ := free_blk hf
  have hsz : (stA V' num').size = 37 := stA_size _ _
  unfold stRow
  rw [Sem.run_bind]
  have hth : w.there b 0 (stA V' num').size := by
    intro j hj
    rw [hsz] at hj
    refine ⟨?_, ?_⟩
    · rw [cell_of_blk hf hb, Array.getElem?_eq_getElem (by rw [hoA_size]; omega)]; rfl
    · exact frozen_of_free hf _
  rw [run_storeAt_mid (P := Tryd.prog) w b 0 29 (stA V' num') hth (by rw [hsz]; kernel_rfl) (stA_oneCell _ _)]
  rw [setCells_row b _ 0 w hf, hb]
  have : setFrom (hoA V num rest) 0 (stA V' num').toList = hoA V' num' rest := by
    apply Array.ext_getElem?
    intro i
    rw [setFrom_get _ _ _ _ (by rw [hoA_size, Array.length_toList, hsz]; omega), Array.length_toList, hsz]
    by_cases h : i < 37
    · rw [if_pos (by omega), hoA_lt _ _ _ _ h, Nat.sub_zero, Array.getElem?_toList]
    · rw [if_neg (by omega), show i = 37 + (i - 37) by omega, hoA_rest, hoA_rest]
  rw [this]
  rfl
@[go_sem ↓] theorem build_game (ρ : Operand → Value) (dst : Option Tmp) (parts : Array (Nat × Operand)) (ty : TypeId) (pos : String) (after : Array Edge) (guard : Option (Nat × Bool)) :
    execOp ρ { dst, op := .build 71 parts, type := ty, pos, after, guard } = bdRow 71 (parts.map fun (i, x) => (i, ρ x)) := rfl
set_option maxRecDepth 100000 in
@[go_sem] theorem run_build_game (w : World) (V : SV) (num : Nat → Int) (s : Sl) (jb : Nat) : (bdRow 71 #[(0, .agg (stA V num)), (1, s.val), (2, .pointer (some ⟨jb, 0, none⟩))]).run Tryd.prog w = .ok (.value (.agg (hoA V num (gmR s jb)))) w := by
  cases s <;> kernel_rfl
/-- What a call that turns a game alone leaves. -/
def GPost (w : World) (b : Nat) (own : Nat → Prop) (G : Gs) (w' : World) : Prop := ∃ own', Game w' b own' G ∧ Kept own w w' ∧ ∀ k, own' k → own k ∨ (w.heap.size ≤ k ∧ k < w'.heap.size)
theorem gm_fresh {w : World} {x : Ext} {G : Gs} {V' : SV} {s2 se' sm' : Sl} {jb' : Nat} {t t2 : TypeId} (hR : RepSt (w.plus x) V' G.now) (hU : ∀ k, V'.uses k → w.heap.size ≤ k ∧ k < (w.plus x).heap.size) (hD : Own (w.plus x) s2 t2 1 w.heap.size (G.draws.map I)) (hJ : RepJ (w.plus x) jb' se' sm' G.jn)
    (hJO : ∀ k, jnOwn jb' se' sm' k → w.heap.size ≤ k ∧ k < (w.plus x).heap.size) (apVJ : ∀ k, V'.uses k → ¬ jnOwn jb' se' sm' k) (apDJ : ∀ k, s2.owns k → ¬ jnOwn jb' se' sm' k) :
    Game ((w.plus x).alloc (.cells (hoA V' G.now.num (gmR s2 jb')) t)) (w.heap.size + x.objs.size) (gmOwn (w.heap.size + x.objs.size) V' s2 jb' se' sm') G ∧ ∀ k, gmOwn (w.heap.size + x.objs.size) V' s2 jb' se' sm' k → w.heap.size ≤ k ∧ k < ((w.plus x).alloc (.cells (hoA V' G.now.num (gmR s2 jb')) t)).heap.size := by
  have hs : (w.plus x).heap.size = w.heap.size + x.objs.size := plus_size w x
  have hg : Grow (w.plus x) ((w.plus x).alloc (.cells (hoA V' G.now.num (gmR s2 jb')) t)) := (Grow.refl _).alloc _
  refine ⟨⟨V', s2, jb', se', sm', ⟨⟨by rw [blk_alloc, if_pos hs.symm], by rw [free_alloc, if_pos hs.symm]; rfl, hR.grow hg, fun h => ?_, fun k hk => ?_⟩, (hD.grow hg).cells.ints, fun k hk => ((hD.grow hg).lt k hk).2, hJ.grow hg, fun h => ?_, fun h => ?_, apVJ, apDJ⟩, fun k => Iff.rfl⟩, fun k hk => ?_⟩
  · have := (hU _ h).2; omega
  · have := (hU _ hk).2; rw [alloc_size']; omega
  · have := (hD.lt _ h).2; omega
  · have := (hJO _ h).2; omega
  · rw [alloc_size']
    rcases hk with rfl | h | h | h
    · omega
    · have := hU k h; omega
    · have := hD.lt k h; omega
    · have := hJO k h; omega
set_option maxRecDepth 100000 in
set_option maxHeartbeats 2000000 in
theorem gcopy_any (w : World) (b : Nat) (own : Nat → Prop) (G : Gs) (R : Game w b own G) (K : GmOk G) :
    Calls Tryd.prog 32 #[.pointer (some ⟨b, 0, none⟩)] w fun e w' => ∃ b' own', e = .returned (.pointer (some ⟨b', 0, none⟩)) ∧ Game w' b' own' G ∧ (∀ k, own' k → w.heap.size ≤ k ∧ k < w'.heap.size) ∧ Grow w w' := by
  obtain ⟨V, sd, jb, se, sm, hr, ho⟩ := R
  have hH := hr.host
  have hcell := cell_of_blk (hH).free (hH).blk; have hfz := frozen_of_free (hH).free; have hset := setCell_of_blk (hH).free (hH).blk; have hblk := (hH).blk; have hfree := (hH).free; have hlt := (hH).lt; have hne1 : ¬ b = (w).heap.size := (by omega); have hne2 : ¬ (w).heap.size = b := (by omega)
  have HR := Lib.hid hr
  have HK := Lib.hid K
  have HKS := Lib.hid (K.small.small (by omega))
  clear hr ho hH K
  go_enter Tryd.func32, Tryd.ntmps32
  go_wp2_with fail
  go_region_law (first | (refine step_wanted (by rfl) ?_; go_simp; go_at_call 23; refine (copied_any G.now V _ (HR.out.host.rep.grow (by repeat (first | exact Grow.refl _ | refine Grow.andr ?_ | refine Grow.plus ?_ _ | refine Grow.alloc ?_ _ | refine Grow.drew ?_ | refine Grow.drewN ?_ _))) HKS.out).mono ?_; rintro e' w' ⟨V', rfl, hR', hu, nx, rfl⟩; have HR' := Lib.hid hR'; have HU := Lib.hid hu; clear hR' hu) | (refine step_wanted (by rfl) ?_; go_simp; go_at_call 24; refine (cloned_ints _ sd G.draws (HR.out.drs.grow (by repeat (first | exact Grow.refl _ | refine Grow.andr ?_ | refine Grow.plus ?_ _ | refine Grow.alloc ?_ _ | refine Grow.drew ?_ | refine Grow.drewN ?_ _))) (by have := HK.out.draws; omega)).mono ?_; rintro e' w' ⟨s2, rfl, hO, _, ny, rfl⟩; have HO := Lib.hid hO; clear hO) | (refine step_wanted (by rfl) ?_; go_simp; go_at_call 56; refine (jcopy_any _ jb se sm G.jn (HR.out.jn.grow (by repeat (first | exact Grow.refl _ | refine Grow.andr ?_ | refine Grow.plus ?_ _ | refine Grow.alloc ?_ _ | refine Grow.drew ?_ | refine Grow.drewN ?_ _))) (by have := HK.out.jn.evsN; omega) (by have := HK.out.jn.many; omega)).mono ?_; rintro e' w' ⟨⟨jb', se', sm', rfl, hJ', hj⟩, nz, rfl⟩; have HJ := Lib.hid hJ'; have HJO := Lib.hid hj; clear hJ' hj))
  all_goals
    go_wp2_with fail
    go_ret
    have h1 := HR'.out
    have h2 := HU.out
    have h3 := HO.out
    have h4 := HJ.out
    have h5 := HJO.out
    (try simp only [drew_plus] at h1); (try simp only [plus_plus] at h1)
    (try simp only [drew_plus] at h2); (try simp only [plus_plus] at h2)
    (try simp only [drew_plus] at h3); (try simp only [plus_plus] at h3)
    (try simp only [drew_plus] at h4); (try simp only [plus_plus] at h4)
    (try simp only [drew_plus] at h5); (try simp only [plus_plus] at h5)
    simp only [plus_size, Ext.and, Array.size_append] at h2 h5
    have hs := plus_size w ((nx.late.and ny).and nz)
    simp only [Ext.and, Array.size_append] at hs
    have hu : ∀ k, V'.uses k → w.heap.size ≤ k ∧ k < w.heap.size + nx.late.objs.size := h2
    have g1 : Grow (w.plus nx.late) (w.plus ((nx.late.and ny).and nz)) := ⟨ny.and nz, by rw [plus_plus, Ext.and_assoc]⟩
    have g2 : Grow (w.plus (nx.late.and ny)) (w.plus ((nx.late.and ny).and nz)) := ⟨nz, (plus_plus _ _ _).symm⟩
    have hd := fun k hk => h3.lt k hk
    simp only [plus_size, Ext.and, Array.size_append] at hd
    obtain ⟨q1, q2⟩ := gm_fresh (w := w) (x := (nx.late.and ny).and nz) (t := 71) (G := G) (h1.grow g1) (fun k hk => by have := hu k hk; rw [plus_size]; simp only [Ext.and, Array.size_append]; omega) ((h3.grow g2).mono (base' := w.heap.size) (Grow.size (by repeat (first | exact Grow.refl _ | refine Grow.andr ?_ | refine Grow.plus ?_ _ | refine Grow.alloc ?_ _ | refine Grow.drew ?_ | refine Grow.drewN ?_ _)))) h4 (fun k hk => by have := h5 k hk; rw [plus_size]; simp only [Ext.and, Array.size_append]; omega)
      (fun k hk hk2 => by have := hu k hk; have := h5 k hk2; omega) (fun k hk hk2 => by have := hd k hk; have := h5 k hk2; omega)
    exact ⟨_, _, rfl, q1, q2, (by repeat (first | exact Grow.refl _ | refine Grow.andr ?_ | refine Grow.plus ?_ _ | refine Grow.alloc ?_ _ | refine Grow.drew ?_ | refine Grow.drewN ?_ _))⟩
end Go.Proofs.YtmmkmhpchoelkaaDoor
