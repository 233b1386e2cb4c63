/-
  The walks of the journal's Back, Copy and Add.
-/
import Derived.Test.YtmmkmhpchoelkaaDoorJn3
namespace Go.Proofs.YtmmkmhpchoelkaaDoor
open Go Go.RowKit Go.Shelf

theorem Kept.of_grow_own {own : Nat → Prop} {a b c : World} (g : Grow a b) (h : Kept own b c) : Kept own a c := (g.kept own).trans h (fun _ _ h => h)
theorem JnPost.grow {w w1 w' : World} {b : Nat} {se sm : Sl} {J : Jn} (h : JnPost w b se sm J w1) (g : Grow w1 w') : JnPost w b se sm J w' := by
  obtain ⟨se', sm', h1, h2, h3⟩ := h
  exact ⟨se', sm', h1.grow g, h2.trans (g.kept (fun _ => False)) (fun _ _ h => h.elim), fun k hk => (h3 k hk).imp (fun h => h) (fun h => ⟨h.1, Nat.lt_of_lt_of_le h.2 g.size⟩)⟩
theorem JnPost.after {w w0 w' : World} {b : Nat} {se sm : Sl} {J : Jn} (h : JnPost w0 b se sm J w') (g : Grow w w0) : JnPost w b se sm J w' := by
  obtain ⟨se', sm', h1, h2, h3⟩ := h
  exact ⟨se', sm', h1, (g.kept _).trans h2 (fun _ _ h => h), fun k hk => (h3 k hk).imp (fun h => h) (fun h => ⟨Nat.le_trans g.size h.1, h.2⟩)⟩
set_option maxRecDepth 100000 in
set_option maxHeartbeats 2000000 in
theorem jback_live (w : World) (b : Nat) (se sm : Sl) (J : Jn) (R : RepJ w b se sm J) (K : JnOk J) (c : Int) (hl : J.live c) :
    Calls Tryd.prog 58 #[.pointer (some ⟨b, 0, none⟩), .int .i64 c] w fun e w' => (∃ s' : Sl, e = .returned (.tuple #[s'.val, .nilIface])) ∧ JnPost w b se sm (J.cut (ahead J.marks c)) w' := by
  have HR := Lib.hid R
  have HK := Lib.hid K
  have HL := Lib.hid hl
  have HSp := Lib.hid (jspan_live w b se sm J R K c hl)
  have HF := Lib.hid (fun W g => jfind_any W b se sm J (R.grow g) K.sorted (by have := K.many; omega) c)
  have HC := Lib.hid (fun W g => jcut_any W b se sm J (R.grow g) K (ahead J.marks c) hl.1)
  rw [find_live hl] at HF
  have hlen : (J.span c).length ≤ 1048576 := by unfold Jn.span; simp; have := K.evsN; omega
  have hwid : ∀ i, i < (J.span c).length → (rowAt (J.span c) i).length = 6 := by
    intro i hi
    unfold Jn.span at hi ⊢
    generalize (gt (rowAt J.marks (ahead J.marks c)) 1).toNat = k at *
    simp at hi
    have : rowAt (J.evs.drop k) i = rowAt J.evs (k + i) := by simp [rowAt, List.getD, List.getElem?_drop]
    rw [this]; exact R.evs.wid _ (by omega)
  have HW := Lib.hid hwid
  generalize J.span c = sp at *
  generalize ahead J.marks c = na at *
  clear R K hl hwid
  go_enter Tryd.func58, Tryd.ntmps58
  go_wp2_with (first | (go_at_call 54; refine HSp.out.mono ?_; rintro e' w' ⟨s', rfl, hO, nx, rfl⟩; have HO := Lib.hid hO; clear hO) | (go_at_call 90; refine (HF.out _ (by repeat (first | exact Grow.refl _ | refine Grow.andr ?_ | refine Grow.plus ?_ _ | refine Grow.alloc ?_ _ | refine Grow.drew ?_ | refine Grow.drewN ?_ _))).mono ?_; rintro e' w' ⟨rfl, ny, rfl⟩) | (go_at_call 94; refine (HC.out _ (by repeat (first | exact Grow.refl _ | refine Grow.andr ?_ | refine Grow.plus ?_ _ | refine Grow.alloc ?_ _ | refine Grow.drew ?_ | refine Grow.drewN ?_ _))).mono ?_; rintro e' w2 ⟨rfl, hP⟩; have HP := Lib.hid hP; clear hP) | fail)
  have hRs : Rows' w2 s' 6 sp := by
    obtain ⟨_, _, _, h2, _⟩ := HP.out
    refine ((HO.out.grow ⟨ny, (plus_plus _ _ _).symm⟩).kept h2 (fun k hk e => ?_)).rows (by omega) HW.out
    have h3 := (HO.out.lt k hk).1
    have h4 := HR.out.own_lt k e
    omega
  refine (invert_list w2 s' sp hRs hlen).mono ?_
  rintro e' w' ⟨s2, rfl, _, _, _, nz, rfl⟩
  go_wp2_with fail
  go_ret2
  exact ⟨⟨s2, rfl⟩, (HP.out.grow (by repeat (first | exact Grow.refl _ | refine Grow.andr ?_ | refine Grow.plus ?_ _ | refine Grow.alloc ?_ _ | refine Grow.drew ?_ | refine Grow.drewN ?_ _))).after (by repeat (first | exact Grow.refl _ | refine Grow.andr ?_ | refine Grow.plus ?_ _ | refine Grow.alloc ?_ _ | refine Grow.drew ?_ | refine Grow.drewN ?_ _))⟩
@[go_sem ↓] theorem build_Journal (ρ : Operand → Value) (dst : Option Tmp) (parts : Array (Nat × Operand)) (ty : TypeId) (pos : String) (after : Array Edge) (guard : Option (Nat × Bool)) :
    execOp ρ { dst, op := .build 96 parts, type := ty, pos, after, guard } = bdRow 96 (parts.map fun (i, x) => (i, ρ x)) := rfl
@[go_sem] theorem run_build_journal (w : World) (s1 s2 : Sl) (n : Int) : (bdRow 96 #[(0, s1.val), (1, s2.val), (2, .int .i64 n)]).run Tryd.prog w = .ok (.value (.agg (jnA s1 s2 n))) w := by
  cases s1 <;> cases s2 <;> kernel_rfl
@[go_sem] theorem run_build_journal0 (w : World) : (bdRow 96 #[]).run Tryd.prog w = .ok (.value (.agg (jnA .nil .nil 0))) w := by kernel_rfl
theorem jn_fresh {w : World} {x : Ext} {s1 s2 : Sl} {J : Jn} {t t1 t2 : TypeId} (h1 : Own (w.plus x) s1 t1 6 w.heap.size (flat J.evs)) (h2 : Own (w.plus x) s2 t2 2 w.heap.size (flat J.marks)) (hX : ∀ k, s1.owns k → ¬ s2.owns k)
    (w1 : ∀ i, i < J.evs.length → (rowAt J.evs i).length = 6) (w2 : ∀ i, i < J.marks.length → (rowAt J.marks i).length = 2) :
    RepJ ((w.plus x).alloc (.cells (jnA s1 s2 J.last) t)) (w.heap.size + x.objs.size) s1 s2 J ∧ ∀ k, jnOwn (w.heap.size + x.objs.size) s1 s2 k → w.heap.size ≤ k ∧ k < ((w.plus x).alloc (.cells (jnA s1 s2 J.last) t)).heap.size := by
  have hs : (w.plus x).heap.size = w.heap.size + x.objs.size := plus_size w x
  have hg : Grow (w.plus x) ((w.plus x).alloc (.cells (jnA s1 s2 J.last) t)) := (Grow.refl _).alloc _
  have g1 := h1.grow hg
  have g2 := h2.grow hg
  refine ⟨⟨by rw [blk_alloc, if_pos hs.symm], by rw [free_alloc, if_pos hs.symm]; rfl, g1.rows (by omega) w1, g1.room, g2.rows (by omega) w2, g2.room, fun h => ?_, fun h => ?_, hX, fun k hk => (g1.lt k hk).2, fun k hk => (g2.lt k hk).2⟩, fun k hk => ?_⟩
  · have := (h1.lt _ h).2; omega
  · have := (h2.lt _ h).2; omega
  · rcases hk with rfl | h | h
    · exact ⟨by omega, by rw [alloc_size', hs]; omega⟩
    · exact g1.lt k h
    · exact g2.lt k h
set_option maxRecDepth 100000 in
set_option maxHeartbeats 2000000 in
theorem jcopy_any (w : World) (b : Nat) (se sm : Sl) (J : Jn) (R : RepJ w b se sm J) (he : J.evs.length ≤ 1048576) (hm : J.marks.length ≤ 1048576) :
    Calls Tryd.prog 56 #[.pointer (some ⟨b, 0, none⟩)] w fun e w' => (∃ b' se' sm', e = .returned (.pointer (some ⟨b', 0, none⟩)) ∧ RepJ w' b' se' sm' J ∧ ∀ k, jnOwn b' se' sm' k → w.heap.size ≤ k ∧ k < w'.heap.size) ∧ Grow w w' := by
  have hc := cell_of_blk R.free R.blk
  have hlt := R.lt
  have HR := Lib.hid R
  clear R
  go_enter Tryd.func56, Tryd.ntmps56
  go_wp2_with fail
  go_region_law (first | (refine step_wanted (by rfl) ?_; go_simp; go_at_call 91; refine (cloned_events _ se J.evs (HR.out.evs.grow (by repeat (first | exact Grow.refl _ | refine Grow.andr ?_ | refine Grow.plus ?_ _ | refine Grow.alloc ?_ _ | refine Grow.drew ?_ | refine Grow.drewN ?_ _))) he).mono ?_; rintro e' w' ⟨s1, rfl, hO, _, nx, rfl⟩; have HO := Lib.hid hO; clear hO) | (refine step_wanted (by rfl) ?_; go_simp; go_at_call 92; refine (cloned_marks _ sm J.marks (HR.out.mks.grow (by repeat (first | exact Grow.refl _ | refine Grow.andr ?_ | refine Grow.plus ?_ _ | refine Grow.alloc ?_ _ | refine Grow.drew ?_ | refine Grow.drewN ?_ _))) hm).mono ?_; rintro e' w' ⟨s2, rfl, hO, _, ny, rfl⟩; have HO2 := Lib.hid hO; clear hO))
  all_goals
    go_wp2_with fail
    go_ret
    have h1 := HO.out
    have h2 := HO2.out
    (try simp only [drew_plus] at h1); (try simp only [plus_plus] at h1)
    (try simp only [drew_plus] at h2); (try simp only [plus_plus] at h2)
    have hf := jn_fresh (t := 96) (w := w) (x := nx.late.and ny) (J := J) (h1.grow ⟨ny, (plus_plus _ _ _).symm⟩) (h2.mono (base' := w.heap.size) (Grow.size (by repeat (first | exact Grow.refl _ | refine Grow.andr ?_ | refine Grow.plus ?_ _ | refine Grow.alloc ?_ _ | refine Grow.drew ?_ | refine Grow.drewN ?_ _)))) (fun k hk hk2 => by have := (h1.lt k hk).2; have := (h2.lt k hk2).1; omega) HR.out.evs.wid HR.out.mks.wid
    exact ⟨⟨_, _, _, rfl, hf.1, hf.2⟩, (by repeat (first | exact Grow.refl _ | refine Grow.andr ?_ | refine Grow.plus ?_ _ | refine Grow.alloc ?_ _ | refine Grow.drew ?_ | refine Grow.drewN ?_ _))⟩
/-- The first error of events; 0: none. -/
def firstBad : List (List Int) → Int
  | [] => 0
  | e :: l => if evCheck e ≠ 0 then evCheck e else firstBad l
theorem firstBad_drop {l : List (List Int)} {k : Nat} (hk : k < l.length) : firstBad (l.drop k) = if evCheck (rowAt l k) ≠ 0 then evCheck (rowAt l k) else firstBad (l.drop (k + 1)) := by
  rw [List.drop_eq_getElem_cons hk, firstBad]
  have : rowAt l k = l[k] := by simp [rowAt, hk]
  rw [this]
/-- The journal behind adding. -/
def Jn.add (J : Jn) (l : List (List Int)) : Jn := { J with evs := J.evs ++ l }
set_option maxRecDepth 100000 in
set_option maxHeartbeats 2000000 in
theorem jadd_bad (w : World) (b : Nat) (sl : Sl) (l : List (List Int)) (RL : Rows' w sl 6 l) (hn : l.length ≤ 1048576) (hb : firstBad l ≠ 0) :
    Calls Tryd.prog 29 #[.pointer (some ⟨b, 0, none⟩), sl.val] w fun e w' => e = .returned (errV (firstBad l)) ∧ Grow w w' := by
  have hsn := RL.len
  have HRL := Lib.hid RL
  have HB := Lib.hid hb
  generalize hfb : firstBad l = fb at *
  have HFB : Hid (firstBad (l.drop 0) = fb) := hfb
  clear RL hb hfb
  go_enter Tryd.func29, Tryd.ntmps29
  go_wp2_with fail
  go_loopw [13] (fun i wr => ∃ (k : Nat) (x : Ext), k ≤ l.length ∧ i = .int .i64 k ∧ wr = w.plus x ∧ Hid (firstBad (l.drop k) = fb)) (fun i _ => l.length - (intOf i).toNat)
  case atStart => exact ⟨0, Ext.none, Nat.zero_le _, rfl, (plus_none _).symm, HFB⟩
  case round =>
    obtain ⟨k, x, hk, rfl, rfl, hf⟩ := hrel
    by_cases hlt : k < l.length
    · obtain ⟨qb, qw, qsz, qsub, _⟩ := HRL.out.at (by omega) k hlt
      have hff := hf.out
      rw [firstBad_drop hlt] at hff
      have HC := Lib.hid (evCheck_any (rowAt l k) qw)
      generalize rowAt l k = row at *
      by_cases hc : evCheck row = 0
      · rw [if_neg (fun h => h hc)] at hff
        have HFF := Lib.hid hff
        rw [hc] at HC
        clear hff hc hf
        go_wp2_with (go_at_call 53; refine (HC.out _).mono ?_; rintro e' w' ⟨rfl, nx, rfl⟩)
        go_roundw
        case rel => exact ⟨k + 1, _, by omega, by go_num, by first | rfl | exact plus_alloc _ _ _ | (rw [plus_alloc]; exact plus_plus _ _ _), HFF⟩
        case measure => simp [intOf]; omega
      · rw [if_pos hc] at hff
        have HFF := Lib.hid hff
        have hv : errV (evCheck row) = .iface 72 (.int .i64 (evCheck row)) := by unfold errV; rw [if_neg hc]
        rw [hv] at HC
        clear hff hf
        go_wp2_with (go_at_call 53; refine (HC.out _).mono ?_; rintro e' w' ⟨rfl, nx, rfl⟩)
        go_ret
        exact ⟨by rw [← HFF.out, hv]; rfl, (by repeat (first | exact Grow.refl _ | refine Grow.andr ?_ | refine Grow.plus ?_ _ | refine Grow.alloc ?_ _ | refine Grow.drew ?_ | refine Grow.drewN ?_ _))⟩
    · exact absurd (by have := hf.out; rw [List.drop_eq_nil_of_le (by omega)] at this; exact this.symm) HB.out
theorem jadd_post {w W1 w' : World} {b : Nat} {se sm s' : Sl} {J : Jn} {l : List (List Int)} (R : RepJ w b se sm J) (hw : ∀ i, i < l.length → (rowAt l i).length = 6) (g : Grow w W1) (c1 : Cells w' s' 6 (flat J.evs ++ flat l)) (c2 : Room w' s' 6) (c3 : Kept se.owns W1 w')
    (c4 : ∀ k, s'.owns k → se.owns k ∨ (W1.heap.size ≤ k ∧ k < w'.heap.size)) : w'.free b = true ∧ w'.blk b = jnA se sm J.last ∧ JnPost w b se sm (J.add l) (w'.setRow b (jnA s' sm J.last)) := by
  have hl := R.lt
  have R1 := R.grow g
  have hl1 : b < W1.heap.size := R1.lt
  have hb := c3.blk b hl1 R.apE
  have hf := c3.free b hl1 R.apE
  rw [R1.blk] at hb
  rw [R1.free] at hf
  have k0 : Kept (jnOwn b se sm) w w' := (g.kept _).trans c3 (fun k _ h => Or.inr (Or.inl h))
  have nb : ¬ s'.owns b := fun h => by
    rcases c4 b h with h1 | h1
    · exact R.apE h1
    · omega
  have k1 : Kept (fun k => k = b) w' (w'.setRow b (jnA s' sm J.last)) := (Kept.refl _ _).setRow b _ (fun _ => rfl)
  have m1 := (R1.mks.kept c3 (fun hl h => R.apX _ h (owns_ofR R1.mks hl))).kept k1 (fun hl e => R.apM (by have e : sm.b = b := e; rw [← e]; exact owns_ofR R1.mks hl))
  have m2 := (R1.mkr.kept c3 (fun k hk h => R.apX _ h hk)).kept k1 (fun k hk e => R.apM (by have e : k = b := e; rw [← e]; exact hk))
  refine ⟨hf, hb, s', sm, ⟨by rw [blk_setRow _ _ _ _ hf, if_pos rfl]; rfl, by rw [free_setRow]; exact hf, ?_, ?_, m1, m2, nb, R.apM, fun k hk hk2 => ?_, fun k hk => ?_, fun k hk => ?_⟩, ?_, fun k hk => ?_⟩
  · refine (Cells.rows (l := J.evs ++ l) (by rw [flat_append]; exact c1) (by omega) (wid_append R.evs.wid hw)).kept k1 (fun hl e => nb ?_)
    have e : s'.b = b := e
    rw [← e]
    exact owns_ofR (Cells.rows (l := J.evs ++ l) (by rw [flat_append]; exact c1) (by omega) (wid_append R.evs.wid hw)) hl
  · exact c2.kept k1 (fun k hk e => nb (by have e : k = b := e; rw [← e]; exact hk))
  · rcases c4 k hk with h | h
    · exact R.apX k h hk2
    · have := R.inM k hk2; have := g.size; omega
  · rw [size_setRow]
    rcases c4 k hk with h | h
    · have := R.inE k h; have := k0.size; omega
    · exact h.2
  · rw [size_setRow]; have := R.inM k hk; have := k0.size; omega
  · exact k0.trans k1 (fun k _ e => Or.inl e)
  · rcases hk with h | h | h
    · exact Or.inl (Or.inl h)
    · rcases c4 k h with h2 | h2
      · exact Or.inl (Or.inr (Or.inl h2))
      · exact Or.inr ⟨Nat.le_trans g.size h2.1, by rw [size_setRow]; exact h2.2⟩
    · exact Or.inl (Or.inr (Or.inr h))
set_option maxRecDepth 100000 in
set_option maxHeartbeats 2000000 in
theorem jadd_ok (w : World) (b : Nat) (se sm : Sl) (J : Jn) (R : RepJ w b se sm J) (sl : Sl) (l : List (List Int)) (RL : Rows' w sl 6 l) (hn : (l.length : Int) ≤ 65536 - J.evs.length) (hb : firstBad l = 0) :
    Calls Tryd.prog 29 #[.pointer (some ⟨b, 0, none⟩), sl.val] w fun e w' => e = .returned .nilIface ∧ JnPost w b se sm (J.add l) w' := by
  have hsn := RL.len
  have hc := cell_of_blk R.free R.blk
  have hlt0 := R.lt
  have hen := R.evs.len
  have hn2 : ¬ (65536 - (J.evs.length : Int)) < (l.length : Int) := by omega
  have he1 : J.evs.length ≤ 65536 := by omega
  have hl1 : l.length ≤ 65536 := by omega
  have HRL := Lib.hid RL
  have HR := Lib.hid R
  have HFB : Hid (firstBad (l.drop 0) = 0) := hb
  clear R RL hb
  go_enter Tryd.func29, Tryd.ntmps29
  go_wp2_with fail
  go_loopw [13] (fun i wr => ∃ (k : Nat) (x : Ext), k ≤ l.length ∧ i = .int .i64 k ∧ wr = w.plus x ∧ Hid (firstBad (l.drop k) = 0)) (fun i _ => l.length - (intOf i).toNat)
  case atStart => exact ⟨0, Ext.none, Nat.zero_le _, rfl, (plus_none _).symm, HFB⟩
  case round =>
    obtain ⟨k, x, hk, rfl, rfl, hf⟩ := hrel
    by_cases hlt : k < l.length
    · obtain ⟨qb, qw, qsz, qsub, _⟩ := HRL.out.at (by omega) k hlt
      have hff := hf.out
      rw [firstBad_drop hlt] at hff
      have HC := Lib.hid (evCheck_any (rowAt l k) qw)
      generalize rowAt l k = row at *
      have hc0 : evCheck row = 0 := by
        by_cases hc : evCheck row = 0
        · exact hc
        · rw [if_pos hc] at hff; exact absurd hff hc
      rw [if_neg (fun h => h hc0)] at hff
      have HFF := Lib.hid hff
      rw [hc0] at HC
      clear hff hc0 hf
      go_wp2_with (go_at_call 53; refine (HC.out _).mono ?_; rintro e' w' ⟨rfl, nx, rfl⟩)
      go_roundw
      case rel => exact ⟨k + 1, _, by omega, by go_num, by first | rfl | exact plus_alloc _ _ _ | (rw [plus_alloc]; exact plus_plus _ _ _), HFF⟩
      case measure => simp [intOf]; omega
    · go_wp2_with (at_builtin; refine wpList_append_cells rfl _ _ 43 rfl 42 Tryd.t42 (.agg (cellsOf (List.replicate 6 0))) 6 48 Tryd.underlying43 (by kernel_rfl) (by kernel_rfl) (by kernel_rfl) (by kernel_rfl) (by omega) rfl se sl (flat J.evs) (flat l) rfl rfl (HR.out.evs.cells.grow (by repeat (first | exact Grow.refl _ | refine Grow.andr ?_ | refine Grow.plus ?_ _ | refine Grow.alloc ?_ _ | refine Grow.drew ?_ | refine Grow.drewN ?_ _))) (HR.out.evr.grow (by repeat (first | exact Grow.refl _ | refine Grow.andr ?_ | refine Grow.plus ?_ _ | refine Grow.alloc ?_ _ | refine Grow.drew ?_ | refine Grow.drewN ?_ _))) (HRL.out.cells.grow (by repeat (first | exact Grow.refl _ | refine Grow.andr ?_ | refine Grow.plus ?_ _ | refine Grow.alloc ?_ _ | refine Grow.drew ?_ | refine Grow.drewN ?_ _))) (flat_oneCell _) (flat_oneCell _) (by omega) ?_; intro s' w' c1 c2 c3 c4 c5 c6; obtain ⟨hqf, hqb, hqp⟩ := jadd_post HR.out HRL.out.wid (W1 := w.plus x) (by repeat (first | exact Grow.refl _ | refine Grow.andr ?_ | refine Grow.plus ?_ _ | refine Grow.alloc ?_ _ | refine Grow.drew ?_ | refine Grow.drewN ?_ _)) c1 c2 c3 c4; have hqc := cell_of_blk hqf hqb; have hqz := frozen_of_free hqf; have hqs := setCell_of_blk hqf hqb; have HQ := Lib.hid hqp; clear hqp hqb c1 c2 c3 c4 c5 c6)
      go_ret
      exact ⟨rfl, HQ.out⟩
end Go.Proofs.YtmmkmhpchoelkaaDoor
