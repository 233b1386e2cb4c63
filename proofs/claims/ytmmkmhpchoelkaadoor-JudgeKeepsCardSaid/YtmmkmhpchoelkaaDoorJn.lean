/-
  The walk of net's Undo.
  A journal as it stands in memory; the walks of its Len, Mark and Add.
-/
import Derived.Test.YtmmkmhpchoelkaaDoorInv2
import Derived.Deep.RegionWith
import Derived.Test.YtmmkmhpchoelkaaDoorLay
import Derived.Deep.RegionHeld3
namespace Go.Proofs.YtmmkmhpchoelkaaDoor
open Go Go.RowKit

theorem invL_len (l : List (List Int)) : (invL l).length = l.length := by simp [invL]
theorem RepSt.off {b : Nat} {W W' : World} {V : SV} {S : St} (h : RepSt W V S) (g : Off b W W') (hn : ¬ V.uses b) : RepSt W' V S :=
  ⟨h.objs.off g (fun hl e => hn (by rw [← e]; exact Or.inl (owns_ofR h.objs hl))), fun z hz => (h.list z hz).off g (fun hl e => hn (by rw [← e]; exact Or.inr ⟨z, hz, owns_of (h.list z hz) hl⟩))⟩
set_option maxRecDepth 100000 in
set_option maxHeartbeats 2000000 in
theorem undo_any (S : St) (V : SV) (w : World) (R : RepSt w V S) (n : Nat) (hS : SmallN S n) (sl : Sl) (l : List (List Int)) (RL : Rows' w sl 6 l) (hn : n + l.length ≤ 1048576) :
    Calls Tryd.prog 57 #[.agg (stA V S.num), sl.val] w (RunPost w (invL l) (runEv S 0 (invL l))) := by
  have HRun := Lib.hid (fun W (r : RepSt W V S) s' (rl : Rows' W s' 6 (invL l)) => run_any S V W r n hS s' (invL l) rl (by rw [invL_len]; omega))
  have HI := Lib.hid (fun W (r : Rows' W sl 6 l) => invert_list W sl l r (by omega))
  have HR := Lib.hid R
  have HRL := Lib.hid RL
  clear R RL hS
  generalize runEv S 0 (invL l) = T at *
  go_enter Tryd.func57, Tryd.ntmps57
  go_wp2_with fail
  rcases T with ⟨i, m⟩ | S'
  · go_region_law (first | (refine step_wanted (by rfl) ?_; go_simp; go_at_call 93; refine (HI.out _ (HRL.out.grow (by repeat (first | exact Grow.refl _ | refine Grow.andr ?_ | refine Grow.plus ?_ _ | refine Grow.alloc ?_ _ | refine Grow.drew ?_ | refine Grow.drewN ?_ _)))).mono ?_; rintro e' w' ⟨s', rfl, hR', _, _, nx, rfl⟩; have HR' := Lib.hid hR'; clear hR') | (refine step_wanted (by rfl) ?_; go_simp; go_at_call 26; refine (HRun.out _ (HR.out.grow (by repeat (first | exact Grow.refl _ | refine Grow.andr ?_ | refine Grow.plus ?_ _ | refine Grow.alloc ?_ _ | refine Grow.drew ?_ | refine Grow.drewN ?_ _))) _ (HR'.out.grow (by repeat (first | exact Grow.refl _ | refine Grow.andr ?_ | refine Grow.plus ?_ _ | refine Grow.alloc ?_ _ | refine Grow.drew ?_ | refine Grow.drewN ?_ _)))).mono ?_; rintro e' w' ⟨rfl, ny, rfl⟩))
    all_goals
      go_wp2_with fail
      refine bodyPost_ret (results_S3 rfl _ _ (w.heap.size + 1) rfl ?_) rfl ?_
      · go_simp
      · exact ⟨by go_simp, (by repeat (first | exact Grow.refl _ | refine Grow.andr ?_ | refine Grow.plus ?_ _ | refine Grow.alloc ?_ _ | refine Grow.drew ?_ | refine Grow.drewN ?_ _))⟩
  · go_region_law (first | (refine step_wanted (by rfl) ?_; go_simp; go_at_call 93; refine (HI.out _ (HRL.out.grow (by repeat (first | exact Grow.refl _ | refine Grow.andr ?_ | refine Grow.plus ?_ _ | refine Grow.alloc ?_ _ | refine Grow.drew ?_ | refine Grow.drewN ?_ _)))).mono ?_; rintro e' w' ⟨s', rfl, hR', _, _, nx, rfl⟩; have HR' := Lib.hid hR'; clear hR') | (refine step_wanted (by rfl) ?_; go_simp; go_at_call 26; refine (HRun.out _ (HR.out.grow (by repeat (first | exact Grow.refl _ | refine Grow.andr ?_ | refine Grow.plus ?_ _ | refine Grow.alloc ?_ _ | refine Grow.drew ?_ | refine Grow.drewN ?_ _))) _ (HR'.out.grow (by repeat (first | exact Grow.refl _ | refine Grow.andr ?_ | refine Grow.plus ?_ _ | refine Grow.alloc ?_ _ | refine Grow.drew ?_ | refine Grow.drewN ?_ _)))).mono ?_; rintro e' w' ⟨V', rfl, hR2, hu, ny, rfl⟩; have HR2 := Lib.hid hR2; have HU := Lib.hid hu; clear hR2 hu))
    all_goals
      go_wp2_with fail
      refine bodyPost_ret (results_S3 rfl _ _ (w.heap.size + 1) rfl ?_) rfl ?_
      · go_simp
      · refine ⟨V', by go_simp, ?_, fun b hb => ?_, (by repeat (first | exact Grow.refl _ | refine Grow.andr ?_ | refine Grow.plus ?_ _ | refine Grow.alloc ?_ _ | refine Grow.drew ?_ | refine Grow.drewN ?_ _))⟩
        · have h1 := HR2.out
          (try simp only [drew_plus] at h1); (try simp only [plus_plus] at h1)
          exact h1.off (b := w.heap.size + 1) (by repeat (first | exact Off.base _ _ _ _ (alloc_size' _ _).symm | refine Off.plus ?_ _ | refine Off.alloc ?_ _)) (fun hb => by have := (HU.out _ hb).1; simp only [plus_size, alloc_size'] at this; omega)
        · have h1 := HU.out b hb
          simp only [plus_size, alloc_size'] at h1 ⊢
          exact ⟨by omega, by simp only [Ext.and, Array.size_append] at h1 ⊢; omega⟩
end Go.Proofs.YtmmkmhpchoelkaaDoor
namespace Go.Proofs.YtmmkmhpchoelkaaDoor
open Go Go.RowKit Go.Shelf

theorem cloned_marks (w : World) (s : Sl) (l : List (List Int)) (R : Rows' w s 2 l) (hb : l.length ≤ 1048576) :
    Calls Tryd.prog 92 #[s.val] w fun e w' => ∃ s' : Sl, e = .returned s'.val ∧ Own w' s' 100 2 w.heap.size (flat l) ∧ s'.isNil = s.isNil ∧ Grow w w' := by
  cases s with
  | nil =>
    have hl : l = [] := List.eq_nil_of_length_eq_zero R.len.symm
    subst hl
    refine (AnyE.slices_Clone_nil Tryd.cloneMarks 0 0 w).mono ?_
    rintro e w' ⟨rfl, rfl⟩
    exact ⟨.nil, rfl, ⟨⟨by simp [Sl.n, flat], Nat.le_refl _, fun j u hu => by simp [flat] at hu⟩, Nat.zero_le _, rfl, fun b h => h.elim⟩, rfl, Grow.refl _⟩
  | mk b o n c =>
    have hn : n = l.length := R.len
    subst hn
    obtain ⟨f1, _⟩ := flat_at 2 l R.wid
    refine (AnyE.slices_Clone Tryd.cloneMarks Tryd.t100 (.agg (cellsOf (List.replicate 2 0))) 2 16 (by kernel_rfl) (by kernel_rfl) (by kernel_rfl) (by kernel_rfl) rfl (by omega) (fun w => by kernel_rfl) b o l.length c (flat l) w (by rw [flat, List.length_map, f1]) (by unfold maxLen; omega) (by omega) (fun j u hu => R.cells.cell j u hu) (flat_oneCell l)).mono ?_
    rintro e w' ⟨v', rfl, hown, hne, hb⟩
    obtain ⟨s', rfl, hI, _⟩ := own_of_row hown
    refine ⟨s', rfl, hI, ?_, Grow.of_below hb⟩
    cases s' with
    | nil => exact absurd rfl hne
    | mk => rfl

/-- A journal: its events, its checkpoints (the number, how many events stand ahead), the last number. -/
structure Jn where
  evs : List (List Int)
  marks : List (List Int)
  last : Int
/-- Its cells. -/
def jnA (se sm : Sl) (n : Int) : Array Value := #[se.val, sm.val, I n]
@[go_sem] theorem jnA_size (se sm : Sl) (n : Int) : (jnA se sm n).size = 3 := rfl
@[go_sem] theorem jnA_0 (se sm : Sl) (n : Int) : (jnA se sm n)[0]? = some se.val := rfl
@[go_sem] theorem jnA_1 (se sm : Sl) (n : Int) : (jnA se sm n)[1]? = some sm.val := rfl
@[go_sem] theorem jnA_2 (se sm : Sl) (n : Int) : (jnA se sm n)[2]? = some (I n) := rfl
@[go_sem] theorem jnA_s0 (se sm s : Sl) (n : Int) : (jnA se sm n).setIfInBounds 0 s.val = jnA s sm n := rfl
@[go_sem] theorem jnA_s1 (se sm s : Sl) (n : Int) : (jnA se sm n).setIfInBounds 1 s.val = jnA se s n := rfl
@[go_sem] theorem jnA_s2 (se sm : Sl) (n m : Int) : (jnA se sm n).setIfInBounds 2 (.int .i64 m) = jnA se sm m := rfl
/-- The blocks that are a journal's own. -/
def jnOwn (b : Nat) (se sm : Sl) (k : Nat) : Prop := k = b ∨ se.owns k ∨ sm.owns k
/-- A journal stands so in memory. -/
structure RepJ (w : World) (b : Nat) (se sm : Sl) (J : Jn) : Prop where
  blk : w.blk b = jnA se sm J.last
  free : w.free b = true
  evs : Rows' w se 6 J.evs
  evr : Room w se 6
  mks : Rows' w sm 2 J.marks
  mkr : Room w sm 2
  apE : ¬ se.owns b
  apM : ¬ sm.owns b
  apX : ∀ k, se.owns k → ¬ sm.owns k
  inE : ∀ k, se.owns k → k < w.heap.size
  inM : ∀ k, sm.owns k → k < w.heap.size
theorem RepJ.lt {w : World} {b : Nat} {se sm : Sl} {J : Jn} (h : RepJ w b se sm J) : b < w.heap.size := free_lt h.free
theorem RepJ.own_lt {w : World} {b : Nat} {se sm : Sl} {J : Jn} (h : RepJ w b se sm J) : ∀ k, jnOwn b se sm k → k < w.heap.size := fun k hk => by
  rcases hk with rfl | h1 | h1
  · exact h.lt
  · exact h.inE k h1
  · exact h.inM k h1
theorem RepJ.kept {own : Nat → Prop} {w w' : World} {b : Nat} {se sm : Sl} {J : Jn} (h : RepJ w b se sm J) (g : Kept own w w') (hn : ∀ k, jnOwn b se sm k → ¬ own k) : RepJ w' b se sm J := by
  have nb : ¬ own b := hn b (Or.inl rfl)
  have ne : ∀ k, se.owns k → ¬ own k := fun k hk => hn k (Or.inr (Or.inl hk))
  have nm : ∀ k, sm.owns k → ¬ own k := fun k hk => hn k (Or.inr (Or.inr hk))
  exact ⟨by rw [g.blk b h.lt nb, h.blk], by rw [g.free b h.lt nb]; exact h.free, h.evs.kept g (fun hl => ne _ (owns_ofR h.evs hl)), h.evr.kept g ne, h.mks.kept g (fun hl => nm _ (owns_ofR h.mks hl)), h.mkr.kept g nm, h.apE, h.apM, h.apX,
    fun k hk => Nat.lt_of_lt_of_le (h.inE k hk) g.size, fun k hk => Nat.lt_of_lt_of_le (h.inM k hk) g.size⟩
theorem RepJ.grow {w w' : World} {b : Nat} {se sm : Sl} {J : Jn} (h : RepJ w b se sm J) (g : Grow w w') : RepJ w' b se sm J := h.kept (g.kept (fun _ => False)) (fun _ _ h => h)

set_option maxRecDepth 100000 in
theorem jlen_any (w : World) (b : Nat) (se sm : Sl) (J : Jn) (R : RepJ w b se sm J) :
    Calls Tryd.prog 27 #[.pointer (some ⟨b, 0, none⟩)] w fun e w' => e = .returned (.int .i64 J.evs.length) ∧ w' = w := by
  have hc := cell_of_blk R.free R.blk
  have hl := R.evs.len
  clear R
  go_enter Tryd.func27, Tryd.ntmps27
  go_wp2_with fail
  go_ret
  exact ⟨rfl, rfl⟩
@[go_sem ↓] theorem storeS_marks (ρ : Operand → Value) (dst : Option Tmp) (x y : Operand) (ty : TypeId) (pos : String) (after : Array Edge) (guard : Option (Nat × Bool)) :
    execOp ρ { dst, op := .store 94 x y, type := ty, pos, after, guard } = stRow 94 (ρ x) (ρ y) := rfl
@[go_sem] theorem run_storeS_marks (w : World) (b o : Nat) (s : Sl) (h : (w.cell? ⟨b, o, none⟩).isSome = true) (hf : w.frozen? ⟨b, o, none⟩ = false) : (stRow 94 (.pointer (some ⟨b, o, none⟩)) s.val).run Tryd.prog w = .ok .skip (w.setCell ⟨b, o, none⟩ s.val) :=
  run_stSl w b o 94 s (by kernel_rfl) h hf
@[go_sem] theorem run_storeX_marks (w : World) (b o sb so n c : Nat) (h : (w.cell? ⟨b, o, none⟩).isSome = true) (hf : w.frozen? ⟨b, o, none⟩ = false) : (stRow 94 (.pointer (some ⟨b, o, none⟩)) (.slice (some ⟨sb, so, none⟩) n c)).run Tryd.prog w = .ok .skip (w.setCell ⟨b, o, none⟩ (.slice (some ⟨sb, so, none⟩) n c)) :=
  run_stSl w b o 94 (.mk sb so n c) (by kernel_rfl) h hf
@[go_sem ↓] theorem load_mark (ρ : Operand → Value) (dst : Option Tmp) (x : Operand) (ty : TypeId) (pos : String) (after : Array Edge) (guard : Option (Nat × Bool)) :
    execOp ρ { dst, op := .load 100 x, type := ty, pos, after, guard } = ldRow 100 (ρ x) := rfl
@[go_sem ↓] theorem store_mark (ρ : Operand → Value) (dst : Option Tmp) (x y : Operand) (ty : TypeId) (pos : String) (after : Array Edge) (guard : Option (Nat × Bool)) :
    execOp ρ { dst, op := .store 100 x y, type := ty, pos, after, guard } = stRow 100 (ρ x) (ρ y) := rfl
@[go_sem] theorem run_load_mark (w : World) (b o : Nat) (h : o + 2 ≤ (w.blk b).size) : (ldRow 100 (.pointer (some ⟨b, o, none⟩))).run Tryd.prog w = .ok (.value (.agg (sub (w.blk b) o 2))) w :=
  run_ldSub w b o 100 2 (by kernel_rfl) (by kernel_rfl) h (by omega)
@[go_sem] theorem run_store_mark (w : World) (b : Nat) (cs : Array Value) (h : (w.blk b).size = 2) (hc : cs.size = 2) (h1 : oneCells cs = true) (hf : w.free b = true) : (stRow 100 (.pointer (some ⟨b, 0, none⟩)) (.agg cs)).run Tryd.prog w = .ok .skip (w.setRow b cs) :=
  run_stRow w b 100 2 _ (by kernel_rfl) h hc (by omega) hf h1
@[go_sem ↓] theorem build_mark (ρ : Operand → Value) (dst : Option Tmp) (parts : Array (Nat × Operand)) (ty : TypeId) (pos : String) (after : Array Edge) (guard : Option (Nat × Bool)) :
    execOp ρ { dst, op := .build 100 parts, type := ty, pos, after, guard } = bdRow 100 (parts.map fun (i, x) => (i, ρ x)) := rfl
@[go_sem] theorem run_build_mark (w : World) (a b : Int) : (bdRow 100 #[(0, .int .i64 a), (1, .int .i64 b)]).run Tryd.prog w = .ok (.value (.agg (cellsOf [a, b]))) w := by kernel_rfl
/-- The journal behind a new checkpoint. -/
def Jn.mark (J : Jn) : Jn := { J with marks := J.marks ++ [[J.last + 1, (J.evs.length : Int)]], last := J.last + 1 }
/-- What a call that turns a journal alone leaves. -/
def JnPost (w : World) (b : Nat) (se sm : Sl) (J : Jn) (w' : World) : Prop := ∃ se' sm', RepJ w' b se' sm' J ∧ Kept (jnOwn b se sm) w w' ∧ ∀ k, jnOwn b se' sm' k → jnOwn b se sm k ∨ (w.heap.size ≤ k ∧ k < w'.heap.size)
/-- The world behind the append to the checkpoints. -/
structure JnStep (w : World) (b : Nat) (se sm : Sl) (J : Jn) (n : Int) (w' : World) (s' : Sl) : Prop where
  blk : w'.blk b = jnA se sm n
  free : w'.free b = true
  mks : Rows' w' s' 2 (J.marks ++ [[n, (J.evs.length : Int)]])
  mkr : Room w' s' 2
  kept : Kept (jnOwn b se sm) w w'
  evs : Rows' w' se 6 J.evs
  evr : Room w' se 6
  own : ∀ k, s'.owns k → sm.owns k ∨ (w.heap.size ≤ k ∧ k < w'.heap.size)
theorem jn_step {w W1 w' : World} {b : Nat} {se sm s' : Sl} {J : Jn} {n : Int} (R : RepJ w b se sm J) (g : Grow (w.setRow b (jnA se sm n)) W1) (c1 : Cells w' s' 2 (flat J.marks ++ flat [[n, (J.evs.length : Int)]])) (c2 : Room w' s' 2) (c3 : Kept sm.owns W1 w')
    (c4 : ∀ k, s'.owns k → sm.owns k ∨ (W1.heap.size ≤ k ∧ k < w'.heap.size)) : JnStep w b se sm J n w' s' := by
  have hl := R.lt
  have k0 : Kept (fun k => k = b) w (w.setRow b (jnA se sm n)) := (Kept.refl _ _).setRow b _ (fun _ => rfl)
  have k1 : Kept (fun k => k = b) w W1 := k0.trans (o2 := fun _ => False) (g.kept _) (fun _ _ h => h.elim)
  have hb1 : W1.blk b = jnA se sm n := by rw [blk_grow g (by rw [size_setRow]; exact hl), blk_setRow _ _ _ _ R.free, if_pos rfl]
  have hf1 : W1.free b = true := by rw [(g.kept (fun _ => False)).free b (by rw [size_setRow]; exact hl) (fun h => h), free_setRow]; exact R.free
  have hl1 : b < W1.heap.size := Nat.lt_of_lt_of_le hl k1.size
  have e1 := R.evs.kept k1 (fun h e => R.apE (by have e : se.b = b := e; rw [← e]; exact owns_ofR R.evs h))
  have e2 := R.evr.kept k1 (fun k hk e => R.apE (by have e : k = b := e; rw [← e]; exact hk))
  refine ⟨by rw [c3.blk b hl1 R.apM, hb1], by rw [c3.free b hl1 R.apM]; exact hf1, ?_, c2, (k1.mono (o2 := jnOwn b se sm) (fun k _ h => Or.inl h)).trans c3 (fun k _ h => Or.inr (Or.inr h)), ?_, ?_, fun k hk => ?_⟩
  · exact Cells.rows (by rw [flat_append]; exact c1) (by omega) (wid_append R.mks.wid (wid_of (fun r hr => by rw [List.mem_singleton] at hr; subst hr; rfl)))
  · exact e1.kept c3 (fun h => R.apX _ (owns_ofR R.evs h))
  · exact e2.kept c3 (fun k hk => R.apX k hk)
  · rcases c4 k hk with h | h
    · exact Or.inl h
    · exact Or.inr ⟨Nat.le_trans k1.size h.1, h.2⟩
theorem JnStep.post {w w' : World} {b : Nat} {se sm s' : Sl} {J : Jn} (h : JnStep w b se sm J (J.last + 1) w' s') (R : RepJ w b se sm J) : JnPost w b se sm J.mark (w'.setRow b (jnA se s' (J.last + 1))) := by
  have hl := R.lt
  have nb : ¬ s'.owns b := fun hb => by
    rcases h.own b hb with h1 | h1
    · exact R.apM h1
    · omega
  have k1 : Kept (fun k => k = b) w' (w'.setRow b (jnA se s' (J.last + 1))) := (Kept.refl _ _).setRow b _ (fun _ => rfl)
  have hlt : ∀ k, s'.owns k → k < w'.heap.size := fun k hk => by
    rcases h.own k hk with h1 | h1
    · have := R.inM k h1; have := h.kept.size; omega
    · exact h1.2
  refine ⟨se, s', ⟨by rw [blk_setRow _ _ _ _ h.free, if_pos rfl]; rfl, by rw [free_setRow]; exact h.free, ?_, ?_, ?_, ?_, R.apE, nb, fun k hk hk2 => ?_, fun k hk => ?_, fun k hk => ?_⟩, ?_, fun k hk => ?_⟩
  · exact h.evs.kept k1 (fun hl e => R.apE (by have e : se.b = b := e; rw [← e]; exact owns_ofR R.evs hl))
  · exact h.evr.kept k1 (fun k hk e => R.apE (by have e : k = b := e; rw [← e]; exact hk))
  · exact h.mks.kept k1 (fun hl e => nb (by have e : s'.b = b := e; rw [← e]; exact owns_ofR h.mks hl))
  · exact h.mkr.kept k1 (fun k hk e => nb (by have e : k = b := e; rw [← e]; exact hk))
  · rcases h.own k hk2 with h1 | h1
    · exact R.apX k hk h1
    · have := R.inE k hk; omega
  · rw [size_setRow]; have := R.inE k hk; have := h.kept.size; omega
  · rw [size_setRow]; exact hlt k hk
  · exact h.kept.trans k1 (fun k _ e => Or.inl e)
  · rcases hk with h1 | h1 | h1
    · exact Or.inl (Or.inl h1)
    · exact Or.inl (Or.inr (Or.inl h1))
    · rcases h.own k h1 with h2 | h2
      · exact Or.inl (Or.inr (Or.inr h2))
      · exact Or.inr ⟨h2.1, by rw [size_setRow]; exact h2.2⟩
set_option maxRecDepth 100000 in
set_option maxHeartbeats 2000000 in
theorem jmark_any (w : World) (b : Nat) (se sm : Sl) (J : Jn) (R : RepJ w b se sm J) (h0 : 0 ≤ J.last) (h1 : J.last ≤ 4611686018427387904) (hm : J.marks.length ≤ 1048576) :
    Calls Tryd.prog 28 #[.pointer (some ⟨b, 0, none⟩)] w fun e w' => e = .returned (.int .i64 (J.last + 1)) ∧ JnPost w b se sm J.mark w' := by
  have hc := cell_of_blk R.free R.blk
  have hf := frozen_of_free R.free
  have hfree := R.free
  have hset := setCell_of_blk R.free R.blk
  have hlt := R.lt
  have hl := R.evs.len
  have hne : ¬ b = w.heap.size := by omega
  have hw := IntWalk.i64_in (J.last + 1) (by omega)
  have HR := Lib.hid R
  clear R
  go_enter Tryd.func28, Tryd.ntmps28
  go_wp2_with fail
  have hk0 : Kept (fun k => k = b) w (w.setRow b (jnA se sm (J.last + 1))) := (Kept.refl _ _).setRow b _ (fun _ => rfl)
  have HMC := Lib.hid (HR.out.mks.cells.kept hk0 (fun k hk e => HR.out.apM (by have e : k = b := e; rw [← e]; exact hk)))
  have HMR := Lib.hid (HR.out.mkr.kept hk0 (fun k hk e => HR.out.apM (by have e : k = b := e; rw [← e]; exact hk)))
  have HMN : Hid (sm.n = J.marks.length) := HR.out.mks.len
  go_region_law (first | ((refine step_append_cells (by rfl) _ _ 94 (by rfl) 100 Tryd.t100 (.agg (cellsOf (List.replicate 2 0))) 2 16 Tryd.underlying94 (by kernel_rfl) (by kernel_rfl) (by kernel_rfl) (by kernel_rfl) (by omega) rfl sm (.mk _ 0 1 1) (flat J.marks) (flat [[J.last + 1, (J.evs.length : Int)]]) (by rfl) (by rfl) (HMC.out.grow (by repeat (first | exact Grow.refl _ | refine Grow.andr ?_ | refine Grow.plus ?_ _ | refine Grow.alloc ?_ _ | refine Grow.drew ?_ | refine Grow.drewN ?_ _))) (HMR.out.grow (by repeat (first | exact Grow.refl _ | refine Grow.andr ?_ | refine Grow.plus ?_ _ | refine Grow.alloc ?_ _ | refine Grow.drew ?_ | refine Grow.drewN ?_ _))) (one_row _ _ 2 [J.last + 1, (J.evs.length : Int)] rfl (by go_simp)) (flat_oneCell _) (flat_oneCell _) (by rw [HMN.out]; show J.marks.length + 1 ≤ 4194304; omega) ?_; intro s' w' c1 c2 c3 c4 c5 c6; have hS : JnStep w b se sm J (J.last + 1) w' s' := jn_step HR.out (by repeat (first | exact Grow.refl _ | refine Grow.andr ?_ | refine Grow.plus ?_ _ | refine Grow.alloc ?_ _ | refine Grow.drew ?_ | refine Grow.drewN ?_ _)) c1 c2 c3 c4; have hq := hS.blk; have hqf := hS.free; have hqc := cell_of_blk hqf hq; have hqz := frozen_of_free hqf; have hqs := setCell_of_blk hqf hq; have HS := Lib.hid hS; clear hS hq c1 c2 c3 c4 c5 c6)))
  all_goals
    go_wp2_with fail
    go_ret
    exact ⟨rfl, HS.out.post HR.out⟩
end Go.Proofs.YtmmkmhpchoelkaaDoor
